/- The pixels of steps. -/
import Derived.Test.YtnpmnfhmlnhepaaMtok3
namespace Go.Proofs.Ytnpmnfhmlnhepaa.P
open Go Go.RowKit Go.Proofs.YtnpmnfhmlnhepaaW.PrintWords Go.Proofs.YtnpmnfhmlnhepaaW.PrintLast Go.Proofs.YtnpmnfhmlnhepaaW.PrintMore
set_option linter.unusedVariables false
set_option linter.unusedSimpArgs false
attribute [local go_sem] max2_int min2_int max_two min_two max_three min_three max_four min_four
theorem St.toR {w w1 : World} {R : Asrt} {e : TypeId} {k : IntKind} {v : Value} {n : Nat} {xs : List Int} (h : St w w1 (Asrt.row e 1 v n (nums k xs) * R)) : Kd.R (Kd.int k) e w1 w.heap.size (fun _ => True) v xs := by
  have hr := h.row
  have hn : xs.length = n := by have := hr.1; simpa [nums] using this
  subst hn
  exact Kd.R_of_own (h1 := fun _ => rfl) hr (fun _ _ => trivial)
def tokU (l : List Tk) : Prop := ∀ t ∈ l, U32 t.f4
instance (l : List Tk) : Decidable (tokU l) := by unfold tokU; infer_instance
def outV (n : Int) : Option PS → List Int × Int
  | none => ([], 3)
  | some s => if n ≤ s.pix.length then (s.pix, 0) else ([], 3)
/-- What a list of steps tells, or an error. -/
def expandV (l : List Tk) (n bits : Int) : List Int × Int :=
  if n < 0 ∨ n > 268435456 ∨ ¬ bitsOk bits then ([], 1) else
  outV n (PS.steps bits n (PS.start bits) l)
def expandT (l : List Tk) (n bits : Int) : Option (List Int × Int) := if tokU l then some (expandV l n bits) else none
theorem may_calls (bits : Int) (w : World) : Calls Try.prog 17 #[.int .i64 bits] w fun e w' => e = .returned (.bool (decide (bitsOk bits))) ∧ Drawn0 w w' := by
  refine token_may.calls bits _ w ?_
  unfold token_may.f
  by_cases c1 : bits ≥ 0
  · rw [if_pos c1]
    congr 1
    by_cases c2 : bits ≤ 11
    · rw [decide_eq_true c2, decide_eq_true (show bitsOk bits from ⟨c1, c2⟩)]
    · rw [decide_eq_false c2, decide_eq_false (fun h : bitsOk bits => c2 h.2)]
  · rw [if_neg c1, decide_eq_false (fun h : bitsOk bits => c1 h.1)]
theorem rd_drop37 {l : List Tk} {k : Nat} (h : k < l.length) : l.drop k = rd_T37 l k :: l.drop (k + 1) := by
  rw [List.drop_eq_getElem_cons h]
  congr 1
  simp [rd_T37, List.getD_eq_getElem?_getD, h]
set_option maxHeartbeats 4000000 in
set_option maxRecDepth 100000 in
theorem expand_no (A : Option Addr) (c : Nat) (l : List Tk) (n bits : Int) (w : World) (h : n < 0 ∨ n > 268435456 ∨ ¬ bitsOk bits) :
    Calls Try.prog 9 #[.slice A l.length c, .int .i64 n, .int .i64 bits] w fun e w' => e = .returned (.tuple #[.slice none 0 0, .int .i64 1]) ∧ Below w.heap.size w w' := by
  have hB := Below.refl w.heap.size w
  by_cases c1 : n < 0
  · have t1 : decide (n < 0) = true := decide_eq_true c1
    clear h c1
    go_enter Try.func9, Try.ntmps9
    go_wp2_with fail
    go_ret2
    exact ⟨rfl, hB⟩
  have t1 : decide (n < 0) = false := decide_eq_false c1
  by_cases c2 : n > 268435456
  · have t2 : decide (268435456 < n) = true := decide_eq_true c2
    clear h c1 c2
    go_enter Try.func9, Try.ntmps9
    go_wp2_with fail
    go_ret2
    exact ⟨rfl, hB⟩
  have t2 : decide (268435456 < n) = false := decide_eq_false c2
  have hb : ¬ bitsOk bits := by rcases h with h | h | h; exact absurd h c1; exact absurd h c2; exact h
  have HM := Aside0.mk (fun W => may_calls bits W)
  rw [decide_eq_false hb] at HM
  clear h c1 c2 hb
  go_enter Try.func9, Try.ntmps9
  go_wp2_with fail
  refine (HM.out _).mono ?_; rintro e w1 ⟨rfl, ⟨nd, rfl⟩⟩
  have hB2 := pw_below_drewN hB nd
  go_wp2_with fail
  go_ret2
  exact ⟨rfl, hB2⟩
set_option maxHeartbeats 4000000 in
set_option maxRecDepth 100000 in
theorem expand_yes (A : Option Addr) (c : Nat) (l : List Tk) (n bits : Int) (w : World) (h0 : 0 ≤ n) (h1 : n ≤ 268435456) (hb : bitsOk bits) (hr : Kd.C k37 w A l.length l) (hc : l.length ≤ c) (hu : tokU l) (res : Option PS) (hres : PS.steps bits n (PS.start bits) l = res) :
    Calls Try.prog 9 #[.slice A l.length c, .int .i64 n, .int .i64 bits] w fun e w' => (∃ v, e = .returned (.tuple #[v, .int .i64 (outV n res).2]) ∧ Kd.R (Kd.int .u32) 35 w' w.heap.size (fun _ => True) v (outV n res).1) ∧ Below w.heap.size w w' := by
  have hmax := hr.2.1
  have t1 : decide (n < 0) = false := decide_eq_false (by omega)
  have t2 : decide (268435456 < n) = false := decide_eq_false (by omega)
  have HM := Aside0.mk (fun W => may_calls bits W)
  rw [decide_eq_true hb] at HM
  have HS := Aside0.mk (St.refl w)
  have HR := Aside0.mk hr
  have HU := Aside0.mk hu
  have HBO := Aside0.mk hb
  have HRES := Aside0.mk hres
  have H1 := Aside0.mk h1
  clear hr hu hb hres h0 h1
  go_enter Try.func9, Try.ntmps9
  go_wp2_with fail
  refine (HM.out _).mono ?_; rintro e w1 ⟨rfl, ⟨nd, rfl⟩⟩
  have HS1 := Aside0.mk (HS.out.drewN nd)
  clear HS HM
  go_wp2_with fail
  refine (paint_New n bits _ w _ HBO.out HS1.out).mono ?_; rintro e w2 ⟨g, rfl, hs⟩
  have HS2 := Aside0.mk hs; clear hs HS1
  go_wp2_with fail
  go_loopw [6, 7, 27] (fun v e i wr => ∃ (k : Nat) (s : PS), k ≤ l.length ∧ v = .slice none 0 0 ∧ e = .int .i64 0 ∧ i = .int .i64 k ∧ s.ok bits ∧ PS.steps bits n s (l.drop k) = res ∧ St w wr (paintA g bits n s * Asrt.emp)) (fun _ _ i _ => l.length - (intOf i).toNat)
  case atStart => exact ⟨0, PS.start bits, by omega, rfl, rfl, rfl, PS.start_ok HBO.out, HRES.out, HS2.out⟩
  case round =>
    obtain ⟨k, s, hk, rfl, rfl, rfl, hok, hst, hs⟩ := hrel
    clear HS2
    by_cases hlt : k < l.length
    · have y1 : decide ((k : Int) < l.length) = true := decide_eq_true (by omega)
      have y2 : decide (k < l.length) = true := decide_eq_true hlt
      have y3 : (k < l.length) = True := eq_true hlt
      have k16 : k ≤ 9223372036854775806 := by omega
      have y4 : ((k : Int) < l.length) = True := eq_true (by omega)
      obtain ⟨ad, hA, d0, d1, d2, d3, d4⟩ := at_T37 (Kd.C_below HR.out hs.below) (k : Int) (by omega) (by omega)
      subst hA
      simp only [Int.toNat_natCast] at d0 d1 d2 d3 d4
      have hut : U32 (rd_T37 l k).f4 := HU.out _ (by simp [rd_T37, List.getD_eq_getElem?_getD, hlt])
      rw [rd_drop37 hlt] at hst
      generalize ht : rd_T37 l k = t at *
      have hs2 := (hs.alloc #[.int .i64 t.f0, .int .i64 t.f1, .int .i64 t.f2, .int .i64 t.f3, .int .u32 t.f4] 37)
      have b0 := (hs2.cell 0).trans rfl
      have b1 := (hs2.cell 1).trans rfl
      have b2 := (hs2.cell 2).trans rfl
      have b3 := (hs2.cell 3).trans rfl
      have b4 := (hs2.cell 4).trans rfl
      have HSS := Aside0.mk hs2.drop
      have HOK := Aside0.mk hok
      have HUT := Aside0.mk hut
      have HLT := Aside0.mk hlt
      have HTT := Aside0.mk ht
      have HSTEP := Aside0.mk (fun W (h : St w W (paintA g bits n s * Asrt.emp)) => paint_Step g bits n s t _ w W HOK.out HUT.out H1.out h)
      cases hstep : s.step bits n t with
      | none =>
        rw [hstep] at HSTEP
        have hnone : res = none := by rw [← hst]; show (s.step bits n t).bind _ = none; rw [hstep]; rfl
        subst hnone
        clear hs hs2 hok hut hlt ht hst hstep
        go_wp2_with fail
        refine (HSTEP.out _ HSS.out).mono ?_; rintro e w3 ⟨rfl, hs⟩
        have HB := Aside0.mk hs.below; clear hs
        go_wp2_with fail
        go_ret2
        exact ⟨⟨_, rfl, Kd.R_nil _ _ _ _ _⟩, HB.out⟩
      | some s' =>
        rw [hstep] at HSTEP
        have hst' : PS.steps bits n s' (l.drop (k + 1)) = res := by
          rw [← hst]
          show _ = (s.step bits n t).bind _
          rw [hstep]
          rfl
        have HOK2 := Aside0.mk (PS.step_ok hok hut hstep).1
        have HST := Aside0.mk hst'
        clear hs hs2 hok hut hlt ht hst hstep hst'
        go_wp2_with fail
        refine (HSTEP.out _ HSS.out).mono ?_; rintro e w3 ⟨rfl, hs⟩
        have HS3 := Aside0.mk hs; clear hs
        go_wp2_with fail
        go_roundw
        case rel => exact ⟨k + 1, s', HLT.out, rfl, rfl, by go_num, HOK2.out, HST.out, HS3.out⟩
        case measure => have := HLT.out; simp [intOf]; omega
    · have y1 : decide ((k : Int) < l.length) = false := decide_eq_false (by omega)
      have y2 : decide (k < l.length) = false := decide_eq_false hlt
      obtain rfl : k = l.length := by omega
      rw [List.drop_length] at hst
      obtain rfl : res = some s := hst.symm
      have HSS := Aside0.mk hs
      clear hs hst hlt hok
      have HF := Aside0.mk (fun W (h : St w W (paintA g bits n s * Asrt.emp)) => paint_Full g bits n s _ w W h)
      by_cases c3 : n ≤ s.pix.length
      · rw [decide_eq_true c3] at HF
        have E3 : Aside0 (outV n (some s) = (s.pix, 0)) := ⟨if_pos c3⟩
        clear c3
        go_wp2_with fail
        refine (HF.out _ HSS.out).mono ?_; rintro e w3 ⟨rfl, ⟨nf, rfl⟩⟩
        obtain ⟨B, cB, v, h2⟩ := paintA_open (HSS.out.drewN nf)
        have m0 := (h2.cell 0).trans rfl
        have H2 := Aside0.mk h2.swap
        clear h2
        go_wp2_with fail
        go_ret2
        rw [E3.out]
        exact ⟨⟨_, rfl, H2.out.toR⟩, H2.out.below⟩
      · rw [decide_eq_false c3] at HF
        have E3 : Aside0 (outV n (some s) = ([], 3)) := ⟨if_neg c3⟩
        clear c3
        go_wp2_with fail
        refine (HF.out _ HSS.out).mono ?_; rintro e w3 ⟨rfl, ⟨nf, rfl⟩⟩
        have HB := Aside0.mk (HSS.out.drewN nf).below
        go_wp2_with fail
        go_ret2
        rw [E3.out]
        exact ⟨⟨_, rfl, Kd.R_nil _ _ _ _ _⟩, HB.out⟩
theorem expandT_calls (A0 : Option Addr) (c0 : Nat) (l0 : List (S37)) (a1 : Int) (a2 : Int) (r1 : List Int) (r2 : Int) (w : World) (hr0 : Kd.C k37 w A0 l0.length l0) (hc0 : l0.length ≤ c0) (h : expandT l0 a1 a2 = some (r1, r2)) :
    Calls Try.prog 9 #[.slice A0 l0.length c0, .int .i64 a1, .int .i64 a2] w fun e w' => ∃ v0_ : Value, e = .returned (.tuple #[v0_, .int .i64 r2]) ∧ Kd.R (Kd.int .u32) 35 w' w.heap.size (fun _ => True) v0_ r1 ∧ Below w.heap.size w w' := by
  unfold expandT at h
  by_cases hu : tokU l0
  case neg => rw [if_neg hu] at h; cases h
  rw [if_pos hu] at h
  have h := Option.some.inj h
  unfold expandV at h
  by_cases c : a1 < 0 ∨ a1 > 268435456 ∨ ¬ bitsOk a2
  · rw [if_pos c] at h
    obtain ⟨rfl, rfl⟩ := Prod.mk.inj h
    refine (expand_no A0 c0 l0 a1 a2 w c).mono ?_
    rintro e w' ⟨rfl, hb⟩
    exact ⟨_, rfl, Kd.R_nil _ _ _ _ _, hb⟩
  · rw [if_neg c] at h
    have hb : bitsOk a2 := Classical.byContradiction fun hh => c (.inr (.inr hh))
    have := expand_yes A0 c0 l0 a1 a2 w (by omega) (by omega) hb hr0 hc0 hu _ rfl
    rw [h] at this
    refine this.mono ?_
    rintro e w' ⟨⟨v, rfl, hv⟩, hb⟩
    exact ⟨v, rfl, hv, hb⟩
end Go.Proofs.Ytnpmnfhmlnhepaa.P
