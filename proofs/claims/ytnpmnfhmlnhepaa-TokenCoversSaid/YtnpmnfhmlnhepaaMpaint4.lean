/- The pixels of steps, by the document. -/
import Derived.Test.YtnpmnfhmlnhepaaMpaint2
namespace Go.Proofs.Ytnpmnfhmlnhepaa.P
open Go Go.RowKit Go.Proofs.YtnpmnfhmlnhepaaW.PrintWords Go.Proofs.YtnpmnfhmlnhepaaW.PrintLast Go.Proofs.YtnpmnfhmlnhepaaW.PrintMore Go.Proofs.Ytnpmnfhmlnhepaa.U
set_option linter.unusedVariables false
set_option linter.unusedSimpArgs false
attribute [local go_sem] max2_int min2_int max_two min_two max_three min_three max_four min_four
def expandR (l : List Tk) (n bits : Int) : Option (List Int × Int) := if tokU l ∧ (0 ≤ n ∧ n ≤ 268435456) ∧ bitsOk bits then some (outV n (PS.steps bits n (PS.start bits) l)) else none
set_option maxHeartbeats 4000000 in
set_option maxRecDepth 100000 in
theorem ref_Expand_yes (A : Option Addr) (c : Nat) (l : List Tk) (n bits : Int) (w : World) (h0 : 0 ≤ n) (h1 : n ≤ 268435456) (hb : bitsOk bits) (hr : Kd.C k37 w A l.length l) (hc : l.length ≤ c) (hu : tokU l) (res : Option PS) (hres : PS.steps bits n (PS.start bits) l = res) :
    Calls Try.prog 10 #[.slice A l.length c, .int .i64 n, .int .i64 bits] w fun e w' => (∃ v, e = .returned (.tuple #[v, .int .i64 (outV n res).2]) ∧ Kd.R (Kd.int .u32) 35 w' w.heap.size (fun _ => True) v (outV n res).1) ∧ Below w.heap.size w w' := by
  have hmax := hr.2.1
  have HS := Aside0.mk (St.refl w)
  have HR := Aside0.mk hr
  have HU := Aside0.mk hu
  have HBO := Aside0.mk hb
  have HRES := Aside0.mk hres
  have H0 := Aside0.mk h0
  have H1 := Aside0.mk h1
  clear hr hu hb hres h0 h1
  go_enter Try.func10, Try.ntmps10
  go_wp2_with fail
  refine (ref_New bits _ w _ HBO.out HS.out).mono ?_; rintro e w2 ⟨g, rfl, hs⟩
  have HS2 := Aside0.mk hs; clear hs HS
  go_wp2_with fail
  go_loopw [6, 7, 9] (fun v e i wr => ∃ (k : Nat) (s : PS), k ≤ l.length ∧ v = .slice none 0 0 ∧ e = .int .i64 0 ∧ i = .int .i64 k ∧ s.ok bits ∧ (s.pix.length : Int) ≤ n ∧ PS.steps bits n s (l.drop k) = res ∧ St w wr (refA g bits s * Asrt.emp)) (fun _ _ i _ => l.length - (intOf i).toNat)
  case atStart => exact ⟨0, PS.start bits, by omega, rfl, rfl, rfl, PS.start_ok HBO.out, by have := H0.out; simpa [PS.start] using this, HRES.out, HS2.out⟩
  case round =>
    obtain ⟨k, s, hk, rfl, rfl, rfl, hok, hln, hst, hs⟩ := hrel
    clear HS2
    by_cases hlt : k < l.length
    · have y1 : decide ((k : Int) < l.length) = true := decide_eq_true (by omega)
      have y2 : decide (k < l.length) = true := decide_eq_true hlt
      have y3 : (k < l.length) = True := eq_true hlt
      have k16 : k ≤ 9223372036854775806 := by omega
      have y4 : ((k : Int) < l.length) = True := eq_true (by omega)
      obtain ⟨ad, hA, d0, d1, d2, d3, d4⟩ := at_T37 (Kd.C_below HR.out hs.below) (k : Int) (by omega) (by omega)
      subst hA
      simp only [Int.toNat_natCast] at d0 d1 d2 d3 d4
      have hut : U32 (rd_T37 l k).f4 := HU.out _ (by simp [rd_T37, List.getD_eq_getElem?_getD, hlt])
      rw [rd_drop37 hlt] at hst
      generalize ht : rd_T37 l k = t at *
      have HSS := Aside0.mk hs
      have HLT := Aside0.mk hlt
      have HTT := Aside0.mk ht
      have HSTEP := Aside0.mk (ref_Step g bits n s t _ w wr hok hut (by have := H1.out; omega) H1.out H0.out hs)
      cases hstep : s.step bits n t with
      | none =>
        rw [hstep] at HSTEP
        have hnone : res = none := by rw [← hst]; show (s.step bits n t).bind _ = none; rw [hstep]; rfl
        subst hnone
        clear hs hok hut hlt ht hst hstep hln
        go_wp2_with fail
        refine HSTEP.out.mono ?_; rintro e w3 ⟨rfl, hs⟩
        have HB := Aside0.mk hs.below; clear hs
        go_wp2_with fail
        go_ret2
        exact ⟨⟨_, rfl, Kd.R_nil _ _ _ _ _⟩, HB.out⟩
      | some s' =>
        rw [hstep] at HSTEP
        have hst' : PS.steps bits n s' (l.drop (k + 1)) = res := by
          rw [← hst]
          show _ = (s.step bits n t).bind _
          rw [hstep]
          rfl
        have HOK2 := Aside0.mk (PS.step_ok hok hut hstep)
        have HST := Aside0.mk hst'
        clear hs hok hut hlt ht hst hstep hst' hln
        go_wp2_with fail
        refine HSTEP.out.mono ?_; rintro e w3 ⟨rfl, hs⟩
        have HS3 := Aside0.mk hs; clear hs
        go_wp2_with fail
        go_roundw
        case rel => exact ⟨k + 1, s', HLT.out, rfl, rfl, by go_num, HOK2.out.1, HOK2.out.2, HST.out, HS3.out⟩
        case measure => have := HLT.out; simp [intOf]; omega
    · have y1 : decide ((k : Int) < l.length) = false := decide_eq_false (by omega)
      have y2 : decide (k < l.length) = false := decide_eq_false hlt
      obtain rfl : k = l.length := by omega
      rw [List.drop_length] at hst
      obtain rfl : res = some s := hst.symm
      obtain ⟨B, cB, K, h2⟩ := refA_open hs
      have m0 := (h2.cell 0).trans rfl
      have HSS := Aside0.mk h2.swap
      clear hs hst hlt hok h2
      by_cases c3 : (s.pix.length : Int) < n
      · have y5 : decide ((s.pix.length : Int) < n) = true := decide_eq_true c3
        have E3 : Aside0 (outV n (some s) = ([], 3)) := ⟨if_neg (by omega)⟩
        clear c3
        go_wp2_with fail
        go_ret2
        rw [E3.out]
        exact ⟨⟨_, rfl, Kd.R_nil _ _ _ _ _⟩, HSS.out.below⟩
      · have y5 : decide ((s.pix.length : Int) < n) = false := decide_eq_false c3
        have E3 : Aside0 (outV n (some s) = (s.pix, 0)) := ⟨if_pos (by omega)⟩
        clear c3
        go_wp2_with fail
        go_ret2
        rw [E3.out]
        exact ⟨⟨_, rfl, HSS.out.toR⟩, HSS.out.below⟩
theorem expandR_calls (A0 : Option Addr) (c0 : Nat) (l0 : List (S37)) (a1 : Int) (a2 : Int) (r1 : List Int) (r2 : Int) (w : World) (hr0 : Kd.C k37 w A0 l0.length l0) (hc0 : l0.length ≤ c0) (h : expandR l0 a1 a2 = some (r1, r2)) :
    Calls Try.prog 10 #[.slice A0 l0.length c0, .int .i64 a1, .int .i64 a2] w fun e w' => ∃ v0_ : Value, e = .returned (.tuple #[v0_, .int .i64 r2]) ∧ Kd.R (Kd.int .u32) 35 w' w.heap.size (fun _ => True) v0_ r1 ∧ Below w.heap.size w w' := by
  unfold expandR at h
  by_cases c : tokU l0 ∧ (0 ≤ a1 ∧ a1 ≤ 268435456) ∧ bitsOk a2
  case neg => rw [if_neg c] at h; cases h
  rw [if_pos c] at h
  have h := Option.some.inj h
  have := ref_Expand_yes A0 c0 l0 a1 a2 w c.2.1.1 c.2.1.2 c.2.2 hr0 hc0 c.1 _ rfl
  rw [h] at this
  refine this.mono ?_
  rintro e w' ⟨⟨v, rfl, hv⟩, hb⟩
  exact ⟨v, rfl, hv, hb⟩
end Go.Proofs.Ytnpmnfhmlnhepaa.P
