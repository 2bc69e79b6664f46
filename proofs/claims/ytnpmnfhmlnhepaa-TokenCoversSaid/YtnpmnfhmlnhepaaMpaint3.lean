/- Steps that tell pixels, by the document. -/
import Derived.Test.YtnpmnfhmlnhepaaMpaint4
import Derived.Test.YtnpmnfhmlnhepaaMcov1
namespace Go.Proofs.Ytnpmnfhmlnhepaa.P
open Go Go.RowKit Go.Proofs.YtnpmnfhmlnhepaaW.PrintWords Go.Proofs.YtnpmnfhmlnhepaaW.PrintLast Go.Proofs.YtnpmnfhmlnhepaaW.PrintMore Go.Proofs.Ytnpmnfhmlnhepaa.U
set_option linter.unusedVariables false
set_option linter.unusedSimpArgs false
attribute [local go_sem] max2_int min2_int max_two min_two max_three min_three max_four min_four
theorem cutL_one {pix : List Int} {a : Nat} (h : a < pix.length) : cutL pix a 1 = [rd pix (a : Int)] := by
  unfold cutL
  rw [List.drop_eq_getElem_cons h, rd_nat' h]
  rfl
theorem take_cut {pix : List Int} {a n : Nat} : pix.take a ++ cutL pix a n = pix.take (a + n) := by
  unfold cutL
  rw [List.take_add]
theorem adds_one {bits : Int} {cl : List Int} {x : Int} : addsC bits cl [x] = addC bits cl x := rfl
/-- The pixels of a copy, of a span that fits. -/
theorem copy_fits {bits : Int} {pix cl : List Int} {a n d : Nat} (ha : a + n ≤ pix.length) (hd : 1 ≤ d) (hda : d ≤ a) (he : cutL pix a n = cutL pix (a - d) n) : ∀ j : Nat, j ≤ n → PS.copy bits ⟨pix.take a, cl⟩ d j = ⟨pix.take (a + j), addsC bits cl (cutL pix a j)⟩
  | 0, _ => rfl
  | j + 1, hj => by
    have ih := copy_fits (bits := bits) (cl := cl) ha hd hda he j (by omega)
    show (PS.copy bits ⟨pix.take a, cl⟩ d j).add bits _ = _
    rw [ih]
    have hl : (pix.take (a + j)).length = a + j := by rw [List.length_take]; omega
    have e : rd (pix.take (a + j)) (((pix.take (a + j)).length : Int) - (d : Int)) = rd pix ((a + j : Nat) : Int) := by
      rw [hl, show ((a + j : Nat) : Int) - (d : Int) = ((a + j - d : Nat) : Int) by omega, rd_nat' (by omega), List.getElem_take, ← rd_nat' (by omega)]
      have h1 := rd_cutL (l := pix) (o := a) (n := n) (i := j) (by omega) (by omega)
      have h2 := rd_cutL (l := pix) (o := a - d) (n := n) (i := j) (by omega) (by omega)
      rw [← he, h1] at h2
      rw [h2]
      congr 2
      omega
    show (⟨pix.take (a + j) ++ [_], addC bits _ _⟩ : PS) = _
    rw [e, cutL_snoc (by omega), adds_snoc, show a + (j + 1) = a + j + 1 by omega, List.take_succ_eq_append_getElem (show a + j < pix.length by omega), rd_nat' (by omega)]
theorem findC_some {bits x i : Int} {cl : List Int} (h : findC bits x cl = some i) : bits ≠ 0 ∧ i = slotN x bits ∧ rd cl i = x := by
  unfold findC at h
  by_cases c : bits = 0
  · rw [if_pos c] at h; exact absurd h (by simp)
  · rw [if_neg c] at h
    by_cases c2 : rd cl (slotN x bits) = x
    · rw [if_pos c2] at h
      injection h with h
      exact ⟨c, h.symm, by rw [← h]; exact c2⟩
    · rw [if_neg c2] at h; exact absurd h (by simp)
theorem slot_in {bits p : Int} {cl : List Int} (hb : bits ≠ 0) (h : clOk bits cl) : 0 ≤ slotN p bits ∧ slotN p bits < cl.length := by
  rcases h.1 with h | h
  · exact absurd h.1 hb
  · have hs := slotN_bd (argb := p) h.1 h.2.1
    refine ⟨hs.1, ?_⟩
    rw [h.2.2]
    push_cast
    exact hs.2
/-- A step tells its pixels. -/
theorem step_next {bits : Int} {pix cl : List Int} {sp rest : List Sp} {a m : Nat} {t : Tk} (h : a < pix.length) (hk : clOk bits cl) (hs : ∀ s ∈ sp, fitsP pix s.f0 s.f1 s.f2) (hn : nextT bits pix a cl sp = (t, m, rest)) :
    PS.step bits pix.length ⟨pix.take a, cl⟩ t = some ⟨pix.take (a + m), addsC bits cl (cutL pix a m)⟩ := by
  have hl : ((⟨pix.take a, cl⟩ : PS).pix.length : Int) = a := by show ((pix.take a).length : Int) = a; rw [List.length_take]; omega
  have one : ∀ sp : List Sp, (match findC bits (rd pix a) cl with | some i => (knownT i, 1, sp) | none => (litT (rd pix a), 1, sp)) = (t, m, rest) → PS.step bits pix.length ⟨pix.take a, cl⟩ t = some ⟨pix.take (a + m), addsC bits cl (cutL pix a m)⟩ := by
    intro sp hn
    have hx : (⟨pix.take a, cl⟩ : PS).add bits (rd pix a) = ⟨pix.take (a + 1), addsC bits cl (cutL pix a 1)⟩ := by
      rw [cutL_one h, List.take_succ_eq_append_getElem h, ← rd_nat' h]
      rfl
    cases hf : findC bits (rd pix a) cl with
    | some i =>
      rw [hf] at hn
      obtain ⟨rfl, rfl, rfl⟩ : knownT i = t ∧ 1 = m ∧ sp = rest := by injection hn with h1 h2; injection h2 with h2 h3; exact ⟨h1, h2, h3⟩
      obtain ⟨hb, hi, hr⟩ := findC_some hf
      have hin := slot_in (p := rd pix a) hb hk
      rw [← hi] at hin
      unfold PS.step
      rw [if_neg (by rw [hl]; omega), if_neg (show ¬ (knownT i).f0 = 1 by show ¬ (3 : Int) = 1; decide), if_neg (show ¬ (knownT i).f0 = 2 by show ¬ (3 : Int) = 2; decide), if_pos (show (knownT i).f0 = 3 from rfl), if_pos (show 0 ≤ (knownT i).f3 ∧ (knownT i).f3 < cl.length from hin)]
      show some ((⟨pix.take a, cl⟩ : PS).add bits (rd cl i)) = _
      rw [hr, hx]
    | none =>
      rw [hf] at hn
      obtain ⟨rfl, rfl, rfl⟩ : litT (rd pix a) = t ∧ 1 = m ∧ sp = rest := by injection hn with h1 h2; injection h2 with h2 h3; exact ⟨h1, h2, h3⟩
      unfold PS.step
      rw [if_neg (by rw [hl]; omega), if_pos (show (litT (rd pix a)).f0 = 1 from rfl)]
      show some ((⟨pix.take a, cl⟩ : PS).add bits (rd pix a)) = _
      rw [hx]
  cases sp with
  | nil => exact one [] hn
  | cons s sp =>
    unfold nextT at hn
    by_cases c : s.f0 = a
    · simp only [if_pos c] at hn
      obtain ⟨rfl, rfl, rfl⟩ : copyT s.f1 s.f2 = t ∧ s.f1.toNat = m ∧ sp = rest := by injection hn with h1 h2; injection h2 with h2 h3; exact ⟨h1, h2, h3⟩
      obtain ⟨hf, he⟩ := hs s List.mem_cons_self
      obtain ⟨d, hd⟩ : ∃ d : Nat, s.f2 = d := ⟨s.f2.toNat, by omega⟩
      rw [c, hd] at he hf
      rw [Int.toNat_natCast, show ((a : Int) - (d : Int)).toNat = a - d by omega] at he
      unfold PS.step
      rw [if_neg (by rw [hl]; omega), if_neg (show ¬ (copyT s.f1 s.f2).f0 = 1 by show ¬ (2 : Int) = 1; decide), if_pos (show (copyT s.f1 s.f2).f0 = 2 from rfl), if_pos (show mayCopy pix.length ⟨pix.take a, cl⟩ (copyT s.f1 s.f2) by
        unfold mayCopy
        rw [hl]
        show 1 ≤ s.f1 ∧ s.f1 ≤ 4096 ∧ 1 ≤ s.f2 ∧ s.f2 ≤ (a : Int) ∧ s.f1 ≤ (pix.length : Int) - a
        omega)]
      show some (PS.copy bits ⟨pix.take a, cl⟩ s.f2 s.f1.toNat) = _
      rw [hd, copy_fits (by omega) (by omega) (by omega) he _ (Nat.le_refl _)]
    · simp only [if_neg c] at hn
      exact one _ hn
/-- The steps of a cover tell all that is left. -/
theorem cover_steps {bits : Int} {pix : List Int} (hp : pixU pix) : ∀ (d a : Nat) (cl : List Int) (sp : List Sp), pix.length ≤ a + d → a ≤ pix.length → clOk bits cl → (∀ s ∈ sp, fitsP pix s.f0 s.f1 s.f2) →
    ∃ cl', PS.steps bits pix.length ⟨pix.take a, cl⟩ (coverL bits pix d a cl sp) = some ⟨pix, cl'⟩
  | 0, a, cl, sp, hd, ha, _, _ => by
    obtain rfl : a = pix.length := by omega
    refine ⟨cl, ?_⟩
    show some (⟨pix.take pix.length, cl⟩ : PS) = _
    rw [List.take_length]
  | d + 1, a, cl, sp, hd, ha, hk, hs => by
    by_cases h : a < pix.length
    · obtain ⟨t, m, rest, hn⟩ : ∃ t m rest, nextT bits pix a cl sp = (t, m, rest) := ⟨_, _, _, rfl⟩
      have hb := next_bd (cl := cl) (bits := bits) h hs
      rw [hn] at hb
      rw [cover_next h hn]
      show ∃ cl', (PS.step bits pix.length ⟨pix.take a, cl⟩ t).bind _ = _
      rw [step_next h hk hs hn]
      exact cover_steps hp d (a + m) _ rest (by have := hb.1; simp only at this; omega) hb.2.1 (clOk_adds hk fun x hx => hp x (List.mem_of_mem_drop (List.mem_of_mem_take hx))) (fun s h => hs s (hb.2.2 s h))
    · obtain rfl : a = pix.length := by omega
      rw [cover_end (Nat.le_refl _)]
      refine ⟨cl, ?_⟩
      show some (⟨pix.take pix.length, cl⟩ : PS) = _
      rw [List.take_length]
/-! ### spans in their order -/
def pickT (a : Nat) (t : Tk) (sp : List Sp) : Tk := sp.foldl (fun t s => if s.f0 = (a : Int) then copyT s.f1 s.f2 else t) t
def lone (bits : Int) (pix : List Int) (a : Nat) (cl : List Int) : Tk := match findC bits (rd pix a) cl with | some i => knownT i | none => litT (rd pix a)
theorem pick_none {a : Nat} {t : Tk} : ∀ {sp : List Sp}, (∀ s ∈ sp, s.f0 ≠ a) → pickT a t sp = t
  | [], _ => rfl
  | s :: sp, h => by
    show pickT a (if s.f0 = (a : Int) then _ else t) sp = t
    rw [if_neg (h s List.mem_cons_self)]
    exact pick_none fun s hs => h s (List.mem_cons_of_mem _ hs)
theorem pick_app {a : Nat} {t : Tk} {l l' : List Sp} : pickT a t (l ++ l') = pickT a (pickT a t l) l' := List.foldl_append
theorem fits_ge {pix : List Int} : ∀ {sp : List Sp} {next : Int}, fitsAll pix next sp → ∀ s ∈ sp, next ≤ s.f0
  | [], _, _, s, hs => by cases hs
  | t :: sp, next, h, s, hs => by
    rcases List.mem_cons.1 hs with rfl | hs
    · exact h.1.1
    · have := fits_ge h.2 s hs
      have h2 := h.1.1
      have h3 := h.1.2.1
      omega
section
variable {bits : Int} {pix cl : List Int} {a : Nat}
theorem next_nil : nextT bits pix a cl [] = (lone bits pix a cl, 1, []) := by
  unfold nextT lone
  cases findC bits (rd pix a) cl <;> rfl
theorem next_skip {s : Sp} {sp : List Sp} (c : ¬ s.f0 = a) : nextT bits pix a cl (s :: sp) = (lone bits pix a cl, 1, s :: sp) := by
  unfold nextT lone
  simp only [if_neg c]
  cases findC bits (rd pix a) cl <;> rfl
theorem next_take {s : Sp} {sp : List Sp} (c : s.f0 = a) : nextT bits pix a cl (s :: sp) = (copyT s.f1 s.f2, s.f1.toNat, sp) := by
  unfold nextT
  simp only [if_pos c]
end
theorem next_u {bits : Int} {pix cl : List Int} {a : Nat} {sp : List Sp} (h : U32 (rd pix (a : Int))) : U32 (nextT bits pix a cl sp).1.f4 := by
  have z : U32 0 := ⟨Int.le_refl 0, by decide⟩
  have hl : U32 (lone bits pix a cl).f4 := by
    unfold lone
    cases findC bits (rd pix a) cl with
    | some i => exact z
    | none => exact h
  cases sp with
  | nil => rw [next_nil]; exact hl
  | cons s sp =>
    by_cases c : s.f0 = a
    · rw [next_take c]; exact z
    · rw [next_skip c]; exact hl
/-- The span that begins here, of all spans. -/
theorem pick_next {bits : Int} {pix cl : List Int} {pre sp : List Sp} {a : Nat} (hpre : ∀ s ∈ pre, s.f0 < a) (hf : fitsAll pix a sp) : pickT a (lone bits pix a cl) (pre ++ sp) = (nextT bits pix a cl sp).1 := by
  have e : pickT a (lone bits pix a cl) pre = lone bits pix a cl := pick_none fun s hs => by have := hpre s hs; omega
  rw [pick_app, e]
  cases sp with
  | nil => rw [next_nil]; rfl
  | cons s sp =>
    show pickT a (if s.f0 = (a : Int) then copyT s.f1 s.f2 else lone bits pix a cl) sp = _
    have h3 := hf.1.2.1
    have h4 := hf.1.1
    rw [pick_none fun u hu => by have := fits_ge hf.2 u hu; omega]
    by_cases c : s.f0 = a
    · rw [if_pos c, next_take c]
    · rw [if_neg c, next_skip c]
/-- What is behind the next step. -/
theorem next_fits {bits : Int} {pix cl : List Int} {sp rest : List Sp} {a m : Nat} {t : Tk} (hf : fitsAll pix a sp) (hn : nextT bits pix a cl sp = (t, m, rest)) : ∃ used, sp = used ++ rest ∧ (∀ s ∈ used, s.f0 < ((a + m : Nat) : Int)) ∧ fitsAll pix ((a + m : Nat) : Int) rest := by
  cases sp with
  | nil =>
    rw [next_nil] at hn
    have h3 : ([] : List Sp) = rest := congrArg (fun x => x.2.2) hn
    subst h3
    exact ⟨[], rfl, fun s hs => (by cases hs), trivial⟩
  | cons s sp =>
    have h3 := hf.1.2.1
    have h4 := hf.1.1
    by_cases c : s.f0 = a
    · rw [next_take c] at hn
      have h2 : s.f1.toNat = m := congrArg (fun x => x.2.1) hn
      have h3' : sp = rest := congrArg (fun x => x.2.2) hn
      subst h2 h3'
      refine ⟨[s], rfl, fun u hu => by rw [List.mem_singleton.1 hu]; omega, ?_⟩
      have := hf.2
      rwa [show s.f0 + s.f1 = ((a + s.f1.toNat : Nat) : Int) by omega] at this
    · rw [next_skip c] at hn
      have h2 : 1 = m := congrArg (fun x => x.2.1) hn
      have h3' : s :: sp = rest := congrArg (fun x => x.2.2) hn
      subst h2 h3'
      exact ⟨[], rfl, fun s hs => (by cases hs), ⟨by omega, hf.1.2⟩, hf.2⟩
def coverR (pix : List Int) (bits : Int) (sp : List Sp) : Option (List Tk) := if (pixU pix ∧ pix.length ≤ 268435456) ∧ bitsOk bits ∧ fitsAll pix 0 sp then some (coverL bits pix pix.length 0 (startC bits) sp) else none
def lenOf (n : Nat) : Value → Nat
  | .slice _ k _ => n - k
  | _ => 0
/-- A step written over a step: what the five stores need, and what they leave. -/
theorem St.put5 {w0 w : World} {r : Asrt} {tb : Nat} {T : TypeId} {a0 a1 a2 a3 a4 : Value} (h : St w0 w (Asrt.blk tb T #[a0, a1, a2, a3, a4] * r)) (v0 v1 v2 v3 v4 : Value) :
    (w.cell? ⟨tb, 0, none⟩ = some a0 ∧ w.frozen? ⟨tb, 0, none⟩ = false) ∧ ((w.setCell ⟨tb, 0, none⟩ v0).cell? ⟨tb, 1, none⟩ = some a1 ∧ (w.setCell ⟨tb, 0, none⟩ v0).frozen? ⟨tb, 1, none⟩ = false) ∧
    (((w.setCell ⟨tb, 0, none⟩ v0).setCell ⟨tb, 1, none⟩ v1).cell? ⟨tb, 2, none⟩ = some a2 ∧ ((w.setCell ⟨tb, 0, none⟩ v0).setCell ⟨tb, 1, none⟩ v1).frozen? ⟨tb, 2, none⟩ = false) ∧
    ((((w.setCell ⟨tb, 0, none⟩ v0).setCell ⟨tb, 1, none⟩ v1).setCell ⟨tb, 2, none⟩ v2).cell? ⟨tb, 3, none⟩ = some a3 ∧ (((w.setCell ⟨tb, 0, none⟩ v0).setCell ⟨tb, 1, none⟩ v1).setCell ⟨tb, 2, none⟩ v2).frozen? ⟨tb, 3, none⟩ = false) ∧
    (((((w.setCell ⟨tb, 0, none⟩ v0).setCell ⟨tb, 1, none⟩ v1).setCell ⟨tb, 2, none⟩ v2).setCell ⟨tb, 3, none⟩ v3).cell? ⟨tb, 4, none⟩ = some a4 ∧ ((((w.setCell ⟨tb, 0, none⟩ v0).setCell ⟨tb, 1, none⟩ v1).setCell ⟨tb, 2, none⟩ v2).setCell ⟨tb, 3, none⟩ v3).frozen? ⟨tb, 4, none⟩ = false) ∧
    St w0 (((((w.setCell ⟨tb, 0, none⟩ v0).setCell ⟨tb, 1, none⟩ v1).setCell ⟨tb, 2, none⟩ v2).setCell ⟨tb, 3, none⟩ v3).setCell ⟨tb, 4, none⟩ v4) (Asrt.blk tb T #[v0, v1, v2, v3, v4] * r) := by
  have h1 := h.set 0 v0
  have h2 := h1.set 1 v1
  have h3 := h2.set 2 v2
  have h4 := h3.set 3 v3
  exact ⟨⟨(h.cell 0).trans rfl, h.frozen 0⟩, ⟨(h1.cell 1).trans rfl, h1.frozen 1⟩, ⟨(h2.cell 2).trans rfl, h2.frozen 2⟩, ⟨(h3.cell 3).trans rfl, h3.frozen 3⟩, ⟨(h4.cell 4).trans rfl, h4.frozen 4⟩, h4.set 4 v4⟩
set_option maxHeartbeats 4000000 in
set_option maxRecDepth 100000 in
theorem ref_Cover_yes (A : Option Addr) (c : Nat) (pix : List Int) (bits : Int) (A2 : Option Addr) (c2 : Nat) (sp : List Sp) (w : World) (hr : Kd.C (Kd.int .u32) w A pix.length pix) (hc : pix.length ≤ c) (hr2 : Kd.C k45 w A2 sp.length sp) (hc2 : sp.length ≤ c2)
    (hb : bitsOk bits) (hf : fitsAll pix 0 sp) (hu : pixU pix) (hlen : pix.length ≤ 268435456) :
    Calls Try.prog 15 #[.slice A pix.length c, .int .i64 bits, .slice A2 sp.length c2] w fun e w' => ∃ v, e = .returned v ∧ Kd.R k37 37 w' w.heap.size (fun _ => True) v (coverL bits pix pix.length 0 (startC bits) sp) ∧ Below w.heap.size w w' := by
  obtain ⟨TOT, hTOT⟩ : ∃ TOT, TOT = coverL bits pix pix.length 0 (startC bits) sp := ⟨_, rfl⟩
  rw [← hTOT]
  have hsp := hr2.2.1
  have HEACH := Aside0.mk (fitsAll_each hf)
  have HFA := Aside0.mk hf
  have HR := Aside0.mk hr
  have HR2 := Aside0.mk hr2
  have HB := Aside0.mk hb
  have HU := Aside0.mk hu
  have HTOT := Aside0.mk hTOT
  have HS0 := Aside0.mk ((St.refl w).rowNil 37 5)
  clear hr hr2 hb hf hu hTOT
  go_enter Try.func15, Try.ntmps15
  go_wp2_with fail
  refine (ref_New bits _ w _ HB.out HS0.out).mono ?_; rintro e w2 ⟨g, rfl, hs⟩
  have HS2 := Aside0.mk hs; clear hs HS0
  go_wp2_with fail
  go_loopw [7] (fun ov wr => ∃ (a d : Nat) (cl : List Int) (pre sq : List Sp) (out : List Tk) (B : Option Addr) (cB : Nat),
    a ≤ pix.length ∧ out.length ≤ a ∧ ov = .slice B out.length cB ∧ clOk bits cl ∧ sp = pre ++ sq ∧ (∀ s ∈ pre, s.f0 < a) ∧ fitsAll pix a sq ∧
    pix.length ≤ a + d ∧ out ++ coverL bits pix d a cl sq = TOT ∧ St w wr (refA g bits ⟨pix.take a, cl⟩ * (Asrt.row 37 5 (.slice B out.length cB) out.length (outC out) * Asrt.emp))) (fun ov _ => lenOf pix.length ov)
  case atStart => exact ⟨0, pix.length, startC bits, [], sp, [], none, 0, by omega, by simp, rfl, clOk_start HB.out, rfl, fun s h => (by cases h), HFA.out, by omega, by rw [HTOT.out]; rfl, HS2.out⟩
  case round =>
    obtain ⟨a, d, cl, pre, sq, out, B, cB, ha, hoa, rfl, hcl, hpre, hlow, hfit, had, htot, hs⟩ := hrel
    clear HS2
    have hpl : (pix.take a).length = a := by rw [List.length_take]; omega
    by_cases hlt : a < pix.length
    case neg =>
      have y1 : decide ((a : Int) < pix.length) = false := decide_eq_false (by omega)
      have y2 : decide (a < pix.length) = false := decide_eq_false hlt
      rw [cover_end (by omega), List.append_nil] at htot
      obtain ⟨B', c', K, h2⟩ := refA_open hs
      have m0 := (h2.cell 0).trans rfl
      simp only [hpl] at m0
      have HO := Aside0.mk (outC_R hs.swap rfl)
      have HBB := Aside0.mk hs.below
      have HT := Aside0.mk htot
      clear hs hlt had htot hcl hfit hlow hpre h2 hpl
      go_wp2_with fail
      go_ret
      exact ⟨_, rfl, HT.out ▸ HO.out, HBB.out⟩
    obtain ⟨ad, hA⟩ : ∃ ad, A = some ad := by
      obtain ⟨ad, h, _⟩ := HR.out.2.2 (by omega)
      exact ⟨ad, h⟩
    subst hA
    have y1 : decide ((a : Int) < pix.length) = true := decide_eq_true (by omega)
    have y2 : decide (a < pix.length) = true := decide_eq_true hlt
    have y3 : (a < pix.length) = True := eq_true hlt
    have y4 : ((a : Int) < pix.length) = True := eq_true (by omega)
    obtain ⟨D, rfl⟩ : ∃ D, d = D + 1 := ⟨d - 1, by omega⟩
    have hcell : ∀ j : Nat, j < pix.length → w.cell? (ad.add j) = some (.int .u32 (rd pix j)) := by
      obtain ⟨ad', he, hc⟩ := C_int_at HR.out (by omega)
      injection he with he
      subst he
      exact hc
    have hua : U32 (rd pix (a : Int)) := HU.out _ (rd_mem (by omega) (by omega))
    have hbytes : (out.length + 1) * 40 ≤ 140737488355328 := by omega
    have hca := (hs.below.cell (World.block_lt_of_cell? _ _ (hcell a hlt))).trans (hcell a hlt)
    obtain ⟨B', c', K, h2⟩ := refA_open hs
    have m0 := (h2.cell 0).trans rfl
    simp only [hpl] at m0
    have HS := Aside0.mk hs
    have HCELL := Aside0.mk (hcell a hlt)
    have HCL := Aside0.mk hcl
    have HPRE := Aside0.mk hpre
    have HLOW := Aside0.mk hlow
    have HFIT := Aside0.mk hfit
    have HOA := Aside0.mk hoa
    have HAD := Aside0.mk had
    have HLT := Aside0.mk hlt
    have HTT := Aside0.mk htot
    have HPL := Aside0.mk hpl
    clear hs hcl hpre hlow hfit hoa had htot h2 hpl hcell hua
    go_upto_region 6 with (fail)
    have HS6 := Aside0.mk (HS.out.alloc #[.int .i64 1, .int .i64 0, .int .i64 0, .int .i64 0, .int .u32 (rd pix a)] 37)
    obtain ⟨tb, htb⟩ : ∃ tb, tb = wr.heap.size := ⟨_, rfl⟩
    rw [← htb] at HS6
    obtain ⟨W6, hW6⟩ : ∃ W6, W6 = wr.alloc (.cells #[.int .i64 1, .int .i64 0, .int .i64 0, .int .i64 0, .int .u32 (rd pix a)] 37) := ⟨_, rfl⟩
    rw [← hW6] at HS6
    rw [← htb]
    rw [← hW6]
    have HCA6 : Aside0 (W6.cell? (ad.add a) = some (.int .u32 (rd pix (a : Int)))) := ⟨(HS6.out.below.cell (World.block_lt_of_cell? _ _ HCELL.out)).trans HCELL.out⟩
    have HCA := HCA6.out
    clear hW6 htb m0
    by_cases hb0 : bits = 0
    · have g0 : decide (0 < bits) = false := decide_eq_false (by omega)
      have HT6 : Aside0 (St w W6 (Asrt.blk tb 37 (tkC (lone bits pix a cl)).toArray * (refA g bits ⟨pix.take a, cl⟩ * (Asrt.row 37 5 (.slice B out.length cB) out.length (outC out) * Asrt.emp)))) := ⟨by
        have e : lone bits pix a cl = litT (rd pix a) := by unfold lone findC; rw [if_pos hb0]
        rw [e]
        exact HS6.out⟩
      clear HS6 hb0
      go_quiet (fail)
      go_upto_region 8 with (fail)
      have HT := Aside0.mk (HT6.out.drewN nq)
      clear HT6 HCA HCA6
      generalize W6.drewN nq = W7 at *
      go_wp2_with fail
      go_loopw [11] (fun i wr => ∃ k : Nat, k ≤ sp.length ∧ i = .int .i64 k ∧ St w wr (Asrt.blk tb 37 (tkC (pickT a (lone bits pix a cl) (sp.take k))).toArray * (refA g bits ⟨pix.take a, cl⟩ * (Asrt.row 37 5 (.slice B out.length cB) out.length (outC out) * Asrt.emp)))) (fun i _ => sp.length - (intOf i).toNat)
      case atStart => exact ⟨0, by omega, rfl, HT.out⟩
      case round =>
        obtain ⟨k, hk, rfl, hs⟩ := hrel
        clear HT
        by_cases hk2 : k < sp.length
        · have x1 : decide ((k : Int) < sp.length) = true := decide_eq_true (by omega)
          have x2 : decide (k < sp.length) = true := decide_eq_true hk2
          have x3 : (k < sp.length) = True := eq_true hk2
          have x4 : ((k : Int) < sp.length) = True := eq_true (by omega)
          have k16 : k ≤ 9223372036854775806 := by omega
          obtain ⟨ad2, hA2, d0, d1, d2⟩ := at_T45 (Kd.C_below HR2.out hs.below) (k : Int) (by omega) (by omega)
          subst hA2
          simp only [Int.toNat_natCast] at d0 d1 d2
          have hnx : pickT a (lone bits pix a cl) (sp.take (k + 1)) = if (rd_T45 sp k).f0 = (a : Int) then copyT (rd_T45 sp k).f1 (rd_T45 sp k).f2 else pickT a (lone bits pix a cl) (sp.take k) := by
            rw [show sp.take (k + 1) = sp.take k ++ [rd_T45 sp k] from by rw [List.take_succ_eq_append_getElem hk2]; simp [rd_T45, List.getD_eq_getElem?_getD, hk2], pick_app]
            rfl
          have HNX := Aside0.mk hnx
          have HSI := Aside0.mk hs
          have HK2 := Aside0.mk hk2
          clear hs hk2 hnx hk
          by_cases hat : (rd_T45 sp k).f0 = (a : Int)
          · have z2 : ((rd_T45 sp k).f0 == (a : Int)) = true := by simp [hat]
            have HNX2 := Aside0.mk (HNX.out.trans (if_pos hat))
            clear HNX
            rw [hat] at d0
            clear hat
            go_upto_region 12 with (fail)
            obtain ⟨⟨n0, p0⟩, ⟨n1, p1⟩, ⟨n2, p2⟩, ⟨n3, p3⟩, ⟨n4, p4⟩, hs8⟩ := HSI.out.drew.put5 (.int .i64 2) (.int .i64 (rd_T45 sp k).f1) (.int .i64 (rd_T45 sp k).f2) (.int .i64 0) (.int .u32 0)
            have HS8 : Aside0 (St w _ (Asrt.blk tb 37 (tkC (pickT a (lone bits pix a cl) (sp.take (k + 1)))).toArray * (refA g bits ⟨pix.take a, cl⟩ * (Asrt.row 37 5 (.slice B out.length cB) out.length (outC out) * Asrt.emp)))) := ⟨by rw [HNX2.out]; exact hs8⟩
            clear hs8
            go_still_tail 11, (by kernel_rfl)
            repeat still_step
            (try refine wpStill_nil ?_)
            rw [show ({ heap := wr.heap, tape := wr.tape, drawn := wr.drawn + 1, os := wr.os, output := wr.output } : World) = wr.drew from rfl]
            generalize wr.drew = W9 at *
            go_wp2_with fail
            go_roundw
            case rel => exact ⟨k + 1, HK2.out, by go_num, HS8.out⟩
            case measure => have := HK2.out; simp [intOf]; omega
          · have z2 : ((rd_T45 sp k).f0 == (a : Int)) = false := by simp [hat]
            have HNX2 := Aside0.mk (HNX.out.trans (if_neg hat))
            clear HNX hat
            go_wp2_with fail
            go_roundw
            case rel => exact ⟨k + 1, HK2.out, by go_num, HNX2.out ▸ HSI.out⟩
            case measure => have := HK2.out; simp [intOf]; omega
        · have x1 : decide ((k : Int) < sp.length) = false := decide_eq_false (by omega)
          have x2 : decide (k < sp.length) = false := decide_eq_false hk2
          obtain rfl : k = sp.length := by omega
          rw [List.take_length] at hs
          obtain ⟨t, m, rest, hn⟩ : ∃ t m rest, nextT bits pix a cl sq = (t, m, rest) := ⟨_, _, _, rfl⟩
          have hpk : pickT a (lone bits pix a cl) sp = t := by
            rw [HPRE.out, pick_next HLOW.out HFIT.out, hn]
          rw [hpk] at hs
          have hall := fitsAll_each HFIT.out
          have hst := step_next HLT.out HCL.out hall hn
          have hbd := next_bd (bits := bits) (cl := cl) HLT.out hall
          rw [hn] at hbd
          obtain ⟨used, hus, hul, hfr⟩ := next_fits HFIT.out hn
          have htu : U32 t.f4 := by have := next_u (pix := pix) (a := a) (sp := sq) (cl := cl) (bits := bits) (HU.out _ (rd_mem (by omega) (by have := HLT.out; omega))); rw [hn] at this; exact this
          have htot2 := HTT.out
          rw [cover_next HLT.out hn] at htot2
          have HSTEP := Aside0.mk (ref_Step g bits pix.length ⟨pix.take a, cl⟩ t _ w _ ⟨HCL.out, fun x hx => HU.out x (List.mem_of_mem_take hx)⟩ htu (by rw [HPL.out]; have := HLT.out; omega) (by omega) (by omega) hs.swap)
          rw [hst] at HSTEP
          have t0 : wr.cell? ⟨tb, 0, none⟩ = some (.int .i64 t.f0) := hs.cell 0
          have t1 : wr.cell? ⟨tb, 1, none⟩ = some (.int .i64 t.f1) := hs.cell 1
          have t2 : wr.cell? ⟨tb, 2, none⟩ = some (.int .i64 t.f2) := hs.cell 2
          have t3 : wr.cell? ⟨tb, 3, none⟩ = some (.int .i64 t.f3) := hs.cell 3
          have t4 : wr.cell? ⟨tb, 4, none⟩ = some (.int .u32 t.f4) := hs.cell 4
          have HBD := Aside0.mk hbd
          have HUS := Aside0.mk hus
          have HUL := Aside0.mk hul
          have HFR := Aside0.mk hfr
          have HTOT2 := Aside0.mk htot2
          clear HTT hs hpk hall hst hbd hus hul hfr htu htot2 hk hk2 hn
          go_wp2_with fail
          refine HSTEP.out.mono ?_; rintro e w3 ⟨rfl, hs⟩
          have HS3 := Aside0.mk (show St w w3 (Asrt.blk tb 37 (tkC t).toArray * (Asrt.row 37 5 (.slice B out.length cB) out.length (outC out) * (refA g bits ⟨pix.take (a + m), addsC bits cl (cutL pix a m)⟩ * Asrt.emp))) from hs.swap.swap2); clear hs
          have u0 : w3.cell? ⟨tb, 0, none⟩ = some (.int .i64 t.f0) := HS3.out.cell 0
          have u1 : w3.cell? ⟨tb, 1, none⟩ = some (.int .i64 t.f1) := HS3.out.cell 1
          have u2 : w3.cell? ⟨tb, 2, none⟩ = some (.int .i64 t.f2) := HS3.out.cell 2
          have u3 : w3.cell? ⟨tb, 3, none⟩ = some (.int .i64 t.f3) := HS3.out.cell 3
          have u4 : w3.cell? ⟨tb, 4, none⟩ = some (.int .u32 t.f4) := HS3.out.cell 4
          have HSL := Aside0.mk ((HS3.out.swap.allocCells 37 5 1 (tkC t) rfl (by decide)).swap)
          go_wp2_with (at_builtin; refine St.append_cells (w0 := w) rfl (.tmp 89) (.tmp 91) 22 37 (.agg #[.int .i64 0, .int .i64 0, .int .i64 0, .int .i64 0, .int .u32 0]) 5 40 rfl Try.underlying22 (by kernel_rfl) rfl (by decide) (by decide) _ out.length (outC out) (tkC t) (some ⟨_, 0, none⟩) 1 1 rfl rfl HSL.out (rowReadsC HSL.out.swap (by simp [tkC, Value.oneCell'])) hbytes ?_; intro B1 cB1 w5 hs; rw [← outC_snoc] at hs; have HSP := Aside0.mk hs; clear hs)
          all_goals
            go_roundw
            case rel =>
              have hl1 : (out ++ [t]).length = out.length + 1 := by simp
              refine ⟨a + m, D, addsC bits cl (cutL pix a m), pre ++ used, rest, out ++ [t], B1, cB1, ?_, ?_, ?_, ?_, ?_, ?_, ?_, ?_, ?_, ?_⟩
              · exact HBD.out.2.1
              · rw [hl1]; have := HBD.out.1; have := HOA.out; omega
              · rw [hl1]
              · exact clOk_adds HCL.out fun x hx => HU.out x (List.mem_of_mem_drop (List.mem_of_mem_take hx))
              · rw [HPRE.out, HUS.out, List.append_assoc]
              · intro s hs
                rcases List.mem_append.1 hs with hs | hs
                · have h1 := HLOW.out s hs; have h2 := HBD.out.1; omega
                · exact HUL.out s hs
              · exact HFR.out
              · have h1 := HAD.out; have h2 := HBD.out.1; omega
              · rw [List.append_assoc]; exact HTOT2.out
              · rw [hl1]; exact HSP.out.swap.drop.swap.drop.swap
            case measure => have h1 := HOA.out; have h2 := HLT.out; simp [lenOf]; omega
    · have g0 : decide (0 < bits) = true := decide_eq_true (by have := HB.out.1; omega)
      have b1 : 1 ≤ bits := by have := HB.out.1; omega
      obtain ⟨j, hj, hjl⟩ : ∃ j : Nat, slotN (rd pix (a : Int)) bits = j ∧ j < cl.length := by
        have hs := slot_in (p := rd pix (a : Int)) hb0 HCL.out
        exact ⟨(slotN (rd pix (a : Int)) bits).toNat, by omega, by omega⟩
      obtain ⟨B6, c6, K6, _, k1, _, k2⟩ := refA_cells HS6.out
      obtain ⟨kb, rfl, k3⟩ := k2 b1
      have k1' : W6.cell? ⟨g, 1, none⟩ = some (.slice (some ⟨kb, 0, none⟩) cl.length cl.length) := k1
      have k3' : W6.cell? ⟨kb, j, none⟩ = some (.int .u32 (rd cl j)) := k3 j hjl
      have HSL := Aside0.mk (fun W => ref_slot_in (rd pix (a : Int)) bits W (HU.out _ (rd_mem (by have := HLT.out; omega) (by have := HLT.out; omega))) b1 HB.out.2)
      rw [hj] at HSL
      have j2 : ((j : Int) < cl.length) = True := eq_true (by omega)
      have j3 : (j < cl.length) = True := eq_true hjl
      have HJ := Aside0.mk hj
      clear k1 k2 k3 hj hjl
      by_cases hc6 : rd cl (j : Int) = rd pix (a : Int)
      · have z1 : (rd cl (j : Int) == rd pix (a : Int)) = true := by simp [hc6]
        have HC6 := Aside0.mk hc6
        have HB0 := Aside0.mk hb0
        clear hc6 hb0
        go_quiet ((go_at_call 27; with_reducible exact Calls.quiet_of_same (still_of (HSL.out _))))
        go_upto_region 7 with (fail)
        have HS7 := Aside0.mk (HS6.out.drewN nq)
        have HCA7 := (HS7.out.below.cell (World.block_lt_of_cell? _ _ HCELL.out)).trans HCELL.out
        clear HS6 k1' k3' HCA HCA6
        generalize W6.drewN nq = W7 at *
        obtain ⟨⟨n0, p0⟩, ⟨n1, p1⟩, ⟨n2, p2⟩, ⟨n3, p3⟩, ⟨n4, p4⟩, hs8⟩ := HS7.out.put5 (.int .i64 3) (.int .i64 0) (.int .i64 0) (.int .i64 j) (.int .u32 0)
        have HS8 := Aside0.mk hs8; clear hs8
        go_wp2_with fail
        refine (HSL.out _).mono ?_; rintro e w7 ⟨rfl, rfl⟩
        go_upto_region 8 with (fail)
        have HT : Aside0 (St w _ (Asrt.blk tb 37 (tkC (lone bits pix a cl)).toArray * (refA g bits ⟨pix.take a, cl⟩ * (Asrt.row 37 5 (.slice B out.length cB) out.length (outC out) * Asrt.emp)))) := ⟨by
          have e : lone bits pix a cl = knownT j := by unfold lone findC; rw [if_neg HB0.out, HJ.out, if_pos HC6.out]
          rw [e]
          exact HS8.out⟩
        clear HS8 HS7 n0 p0 n1 p1 n2 p2 n3 p3 n4 p4
        generalize ((((W7.setCell ⟨tb, 0, none⟩ (.int .i64 3)).setCell ⟨tb, 1, none⟩ (.int .i64 0)).setCell ⟨tb, 2, none⟩ (.int .i64 0)).setCell ⟨tb, 3, none⟩ (.int .i64 j)).setCell ⟨tb, 4, none⟩ (.int .u32 0) = W8 at *
        go_wp2_with fail
        go_loopw [11] (fun i wr => ∃ k : Nat, k ≤ sp.length ∧ i = .int .i64 k ∧ St w wr (Asrt.blk tb 37 (tkC (pickT a (lone bits pix a cl) (sp.take k))).toArray * (refA g bits ⟨pix.take a, cl⟩ * (Asrt.row 37 5 (.slice B out.length cB) out.length (outC out) * Asrt.emp)))) (fun i _ => sp.length - (intOf i).toNat)
        case atStart => exact ⟨0, by omega, rfl, HT.out⟩
        case round =>
          obtain ⟨k, hk, rfl, hs⟩ := hrel
          clear HT
          by_cases hk2 : k < sp.length
          · have x1 : decide ((k : Int) < sp.length) = true := decide_eq_true (by omega)
            have x2 : decide (k < sp.length) = true := decide_eq_true hk2
            have x3 : (k < sp.length) = True := eq_true hk2
            have x4 : ((k : Int) < sp.length) = True := eq_true (by omega)
            have k16 : k ≤ 9223372036854775806 := by omega
            obtain ⟨ad2, hA2, d0, d1, d2⟩ := at_T45 (Kd.C_below HR2.out hs.below) (k : Int) (by omega) (by omega)
            subst hA2
            simp only [Int.toNat_natCast] at d0 d1 d2
            have hnx : pickT a (lone bits pix a cl) (sp.take (k + 1)) = if (rd_T45 sp k).f0 = (a : Int) then copyT (rd_T45 sp k).f1 (rd_T45 sp k).f2 else pickT a (lone bits pix a cl) (sp.take k) := by
              rw [show sp.take (k + 1) = sp.take k ++ [rd_T45 sp k] from by rw [List.take_succ_eq_append_getElem hk2]; simp [rd_T45, List.getD_eq_getElem?_getD, hk2], pick_app]
              rfl
            have HNX := Aside0.mk hnx
            have HSI := Aside0.mk hs
            have HK2 := Aside0.mk hk2
            clear hs hk2 hnx hk
            by_cases hat : (rd_T45 sp k).f0 = (a : Int)
            · have z2 : ((rd_T45 sp k).f0 == (a : Int)) = true := by simp [hat]
              have HNX2 := Aside0.mk (HNX.out.trans (if_pos hat))
              clear HNX
              rw [hat] at d0
              clear hat
              go_upto_region 12 with (fail)
              obtain ⟨⟨n0, p0⟩, ⟨n1, p1⟩, ⟨n2, p2⟩, ⟨n3, p3⟩, ⟨n4, p4⟩, hs8⟩ := HSI.out.drew.put5 (.int .i64 2) (.int .i64 (rd_T45 sp k).f1) (.int .i64 (rd_T45 sp k).f2) (.int .i64 0) (.int .u32 0)
              have HS8 : Aside0 (St w _ (Asrt.blk tb 37 (tkC (pickT a (lone bits pix a cl) (sp.take (k + 1)))).toArray * (refA g bits ⟨pix.take a, cl⟩ * (Asrt.row 37 5 (.slice B out.length cB) out.length (outC out) * Asrt.emp)))) := ⟨by rw [HNX2.out]; exact hs8⟩
              clear hs8
              go_still_tail 11, (by kernel_rfl)
              repeat still_step
              (try refine wpStill_nil ?_)
              rw [show ({ heap := wr.heap, tape := wr.tape, drawn := wr.drawn + 1, os := wr.os, output := wr.output } : World) = wr.drew from rfl]
              generalize wr.drew = W9 at *
              go_wp2_with fail
              go_roundw
              case rel => exact ⟨k + 1, HK2.out, by go_num, HS8.out⟩
              case measure => have := HK2.out; simp [intOf]; omega
            · have z2 : ((rd_T45 sp k).f0 == (a : Int)) = false := by simp [hat]
              have HNX2 := Aside0.mk (HNX.out.trans (if_neg hat))
              clear HNX hat
              go_wp2_with fail
              go_roundw
              case rel => exact ⟨k + 1, HK2.out, by go_num, HNX2.out ▸ HSI.out⟩
              case measure => have := HK2.out; simp [intOf]; omega
          · have x1 : decide ((k : Int) < sp.length) = false := decide_eq_false (by omega)
            have x2 : decide (k < sp.length) = false := decide_eq_false hk2
            obtain rfl : k = sp.length := by omega
            rw [List.take_length] at hs
            obtain ⟨t, m, rest, hn⟩ : ∃ t m rest, nextT bits pix a cl sq = (t, m, rest) := ⟨_, _, _, rfl⟩
            have hpk : pickT a (lone bits pix a cl) sp = t := by
              rw [HPRE.out, pick_next HLOW.out HFIT.out, hn]
            rw [hpk] at hs
            have hall := fitsAll_each HFIT.out
            have hst := step_next HLT.out HCL.out hall hn
            have hbd := next_bd (bits := bits) (cl := cl) HLT.out hall
            rw [hn] at hbd
            obtain ⟨used, hus, hul, hfr⟩ := next_fits HFIT.out hn
            have htu : U32 t.f4 := by have := next_u (pix := pix) (a := a) (sp := sq) (cl := cl) (bits := bits) (HU.out _ (rd_mem (by omega) (by have := HLT.out; omega))); rw [hn] at this; exact this
            have htot2 := HTT.out
            rw [cover_next HLT.out hn] at htot2
            have HSTEP := Aside0.mk (ref_Step g bits pix.length ⟨pix.take a, cl⟩ t _ w _ ⟨HCL.out, fun x hx => HU.out x (List.mem_of_mem_take hx)⟩ htu (by rw [HPL.out]; have := HLT.out; omega) (by omega) (by omega) hs.swap)
            rw [hst] at HSTEP
            have t0 : wr.cell? ⟨tb, 0, none⟩ = some (.int .i64 t.f0) := hs.cell 0
            have t1 : wr.cell? ⟨tb, 1, none⟩ = some (.int .i64 t.f1) := hs.cell 1
            have t2 : wr.cell? ⟨tb, 2, none⟩ = some (.int .i64 t.f2) := hs.cell 2
            have t3 : wr.cell? ⟨tb, 3, none⟩ = some (.int .i64 t.f3) := hs.cell 3
            have t4 : wr.cell? ⟨tb, 4, none⟩ = some (.int .u32 t.f4) := hs.cell 4
            have HBD := Aside0.mk hbd
            have HUS := Aside0.mk hus
            have HUL := Aside0.mk hul
            have HFR := Aside0.mk hfr
            have HTOT2 := Aside0.mk htot2
            clear HTT hs hpk hall hst hbd hus hul hfr htu htot2 hk hk2 hn
            go_wp2_with fail
            refine HSTEP.out.mono ?_; rintro e w3 ⟨rfl, hs⟩
            have HS3 := Aside0.mk (show St w w3 (Asrt.blk tb 37 (tkC t).toArray * (Asrt.row 37 5 (.slice B out.length cB) out.length (outC out) * (refA g bits ⟨pix.take (a + m), addsC bits cl (cutL pix a m)⟩ * Asrt.emp))) from hs.swap.swap2); clear hs
            have u0 : w3.cell? ⟨tb, 0, none⟩ = some (.int .i64 t.f0) := HS3.out.cell 0
            have u1 : w3.cell? ⟨tb, 1, none⟩ = some (.int .i64 t.f1) := HS3.out.cell 1
            have u2 : w3.cell? ⟨tb, 2, none⟩ = some (.int .i64 t.f2) := HS3.out.cell 2
            have u3 : w3.cell? ⟨tb, 3, none⟩ = some (.int .i64 t.f3) := HS3.out.cell 3
            have u4 : w3.cell? ⟨tb, 4, none⟩ = some (.int .u32 t.f4) := HS3.out.cell 4
            have HSL := Aside0.mk ((HS3.out.swap.allocCells 37 5 1 (tkC t) rfl (by decide)).swap)
            go_wp2_with (at_builtin; refine St.append_cells (w0 := w) rfl (.tmp 89) (.tmp 91) 22 37 (.agg #[.int .i64 0, .int .i64 0, .int .i64 0, .int .i64 0, .int .u32 0]) 5 40 rfl Try.underlying22 (by kernel_rfl) rfl (by decide) (by decide) _ out.length (outC out) (tkC t) (some ⟨_, 0, none⟩) 1 1 rfl rfl HSL.out (rowReadsC HSL.out.swap (by simp [tkC, Value.oneCell'])) hbytes ?_; intro B1 cB1 w5 hs; rw [← outC_snoc] at hs; have HSP := Aside0.mk hs; clear hs)
            all_goals
              go_roundw
              case rel =>
                have hl1 : (out ++ [t]).length = out.length + 1 := by simp
                refine ⟨a + m, D, addsC bits cl (cutL pix a m), pre ++ used, rest, out ++ [t], B1, cB1, ?_, ?_, ?_, ?_, ?_, ?_, ?_, ?_, ?_, ?_⟩
                · exact HBD.out.2.1
                · rw [hl1]; have := HBD.out.1; have := HOA.out; omega
                · rw [hl1]
                · exact clOk_adds HCL.out fun x hx => HU.out x (List.mem_of_mem_drop (List.mem_of_mem_take hx))
                · rw [HPRE.out, HUS.out, List.append_assoc]
                · intro s hs
                  rcases List.mem_append.1 hs with hs | hs
                  · have h1 := HLOW.out s hs; have h2 := HBD.out.1; omega
                  · exact HUL.out s hs
                · exact HFR.out
                · have h1 := HAD.out; have h2 := HBD.out.1; omega
                · rw [List.append_assoc]; exact HTOT2.out
                · rw [hl1]; exact HSP.out.swap.drop.swap.drop.swap
              case measure => have h1 := HOA.out; have h2 := HLT.out; simp [lenOf]; omega
      · have z1 : (rd cl (j : Int) == rd pix (a : Int)) = false := by simp [hc6]
        have HC6 := Aside0.mk hc6
        have HB0 := Aside0.mk hb0
        clear hc6 hb0
        go_quiet ((go_at_call 27; with_reducible exact Calls.quiet_of_same (still_of (HSL.out _))))
        go_upto_region 8 with (fail)
        have HT : Aside0 (St w (W6.drewN nq) (Asrt.blk tb 37 (tkC (lone bits pix a cl)).toArray * (refA g bits ⟨pix.take a, cl⟩ * (Asrt.row 37 5 (.slice B out.length cB) out.length (outC out) * Asrt.emp)))) := ⟨by
          have e : lone bits pix a cl = litT (rd pix a) := by unfold lone findC; rw [if_neg HB0.out, HJ.out, if_neg HC6.out]
          rw [e]
          exact HS6.out.drewN nq⟩
        clear HS6 k1' k3' HCA HCA6
        generalize W6.drewN nq = W7 at *
        go_wp2_with fail
        go_loopw [11] (fun i wr => ∃ k : Nat, k ≤ sp.length ∧ i = .int .i64 k ∧ St w wr (Asrt.blk tb 37 (tkC (pickT a (lone bits pix a cl) (sp.take k))).toArray * (refA g bits ⟨pix.take a, cl⟩ * (Asrt.row 37 5 (.slice B out.length cB) out.length (outC out) * Asrt.emp)))) (fun i _ => sp.length - (intOf i).toNat)
        case atStart => exact ⟨0, by omega, rfl, HT.out⟩
        case round =>
          obtain ⟨k, hk, rfl, hs⟩ := hrel
          clear HT
          by_cases hk2 : k < sp.length
          · have x1 : decide ((k : Int) < sp.length) = true := decide_eq_true (by omega)
            have x2 : decide (k < sp.length) = true := decide_eq_true hk2
            have x3 : (k < sp.length) = True := eq_true hk2
            have x4 : ((k : Int) < sp.length) = True := eq_true (by omega)
            have k16 : k ≤ 9223372036854775806 := by omega
            obtain ⟨ad2, hA2, d0, d1, d2⟩ := at_T45 (Kd.C_below HR2.out hs.below) (k : Int) (by omega) (by omega)
            subst hA2
            simp only [Int.toNat_natCast] at d0 d1 d2
            have hnx : pickT a (lone bits pix a cl) (sp.take (k + 1)) = if (rd_T45 sp k).f0 = (a : Int) then copyT (rd_T45 sp k).f1 (rd_T45 sp k).f2 else pickT a (lone bits pix a cl) (sp.take k) := by
              rw [show sp.take (k + 1) = sp.take k ++ [rd_T45 sp k] from by rw [List.take_succ_eq_append_getElem hk2]; simp [rd_T45, List.getD_eq_getElem?_getD, hk2], pick_app]
              rfl
            have HNX := Aside0.mk hnx
            have HSI := Aside0.mk hs
            have HK2 := Aside0.mk hk2
            clear hs hk2 hnx hk
            by_cases hat : (rd_T45 sp k).f0 = (a : Int)
            · have z2 : ((rd_T45 sp k).f0 == (a : Int)) = true := by simp [hat]
              have HNX2 := Aside0.mk (HNX.out.trans (if_pos hat))
              clear HNX
              rw [hat] at d0
              clear hat
              go_upto_region 12 with (fail)
              obtain ⟨⟨n0, p0⟩, ⟨n1, p1⟩, ⟨n2, p2⟩, ⟨n3, p3⟩, ⟨n4, p4⟩, hs8⟩ := HSI.out.drew.put5 (.int .i64 2) (.int .i64 (rd_T45 sp k).f1) (.int .i64 (rd_T45 sp k).f2) (.int .i64 0) (.int .u32 0)
              have HS8 : Aside0 (St w _ (Asrt.blk tb 37 (tkC (pickT a (lone bits pix a cl) (sp.take (k + 1)))).toArray * (refA g bits ⟨pix.take a, cl⟩ * (Asrt.row 37 5 (.slice B out.length cB) out.length (outC out) * Asrt.emp)))) := ⟨by rw [HNX2.out]; exact hs8⟩
              clear hs8
              go_still_tail 11, (by kernel_rfl)
              repeat still_step
              (try refine wpStill_nil ?_)
              rw [show ({ heap := wr.heap, tape := wr.tape, drawn := wr.drawn + 1, os := wr.os, output := wr.output } : World) = wr.drew from rfl]
              generalize wr.drew = W9 at *
              go_wp2_with fail
              go_roundw
              case rel => exact ⟨k + 1, HK2.out, by go_num, HS8.out⟩
              case measure => have := HK2.out; simp [intOf]; omega
            · have z2 : ((rd_T45 sp k).f0 == (a : Int)) = false := by simp [hat]
              have HNX2 := Aside0.mk (HNX.out.trans (if_neg hat))
              clear HNX hat
              go_wp2_with fail
              go_roundw
              case rel => exact ⟨k + 1, HK2.out, by go_num, HNX2.out ▸ HSI.out⟩
              case measure => have := HK2.out; simp [intOf]; omega
          · have x1 : decide ((k : Int) < sp.length) = false := decide_eq_false (by omega)
            have x2 : decide (k < sp.length) = false := decide_eq_false hk2
            obtain rfl : k = sp.length := by omega
            rw [List.take_length] at hs
            obtain ⟨t, m, rest, hn⟩ : ∃ t m rest, nextT bits pix a cl sq = (t, m, rest) := ⟨_, _, _, rfl⟩
            have hpk : pickT a (lone bits pix a cl) sp = t := by
              rw [HPRE.out, pick_next HLOW.out HFIT.out, hn]
            rw [hpk] at hs
            have hall := fitsAll_each HFIT.out
            have hst := step_next HLT.out HCL.out hall hn
            have hbd := next_bd (bits := bits) (cl := cl) HLT.out hall
            rw [hn] at hbd
            obtain ⟨used, hus, hul, hfr⟩ := next_fits HFIT.out hn
            have htu : U32 t.f4 := by have := next_u (pix := pix) (a := a) (sp := sq) (cl := cl) (bits := bits) (HU.out _ (rd_mem (by omega) (by have := HLT.out; omega))); rw [hn] at this; exact this
            have htot2 := HTT.out
            rw [cover_next HLT.out hn] at htot2
            have HSTEP := Aside0.mk (ref_Step g bits pix.length ⟨pix.take a, cl⟩ t _ w _ ⟨HCL.out, fun x hx => HU.out x (List.mem_of_mem_take hx)⟩ htu (by rw [HPL.out]; have := HLT.out; omega) (by omega) (by omega) hs.swap)
            rw [hst] at HSTEP
            have t0 : wr.cell? ⟨tb, 0, none⟩ = some (.int .i64 t.f0) := hs.cell 0
            have t1 : wr.cell? ⟨tb, 1, none⟩ = some (.int .i64 t.f1) := hs.cell 1
            have t2 : wr.cell? ⟨tb, 2, none⟩ = some (.int .i64 t.f2) := hs.cell 2
            have t3 : wr.cell? ⟨tb, 3, none⟩ = some (.int .i64 t.f3) := hs.cell 3
            have t4 : wr.cell? ⟨tb, 4, none⟩ = some (.int .u32 t.f4) := hs.cell 4
            have HBD := Aside0.mk hbd
            have HUS := Aside0.mk hus
            have HUL := Aside0.mk hul
            have HFR := Aside0.mk hfr
            have HTOT2 := Aside0.mk htot2
            clear HTT hs hpk hall hst hbd hus hul hfr htu htot2 hk hk2 hn
            go_wp2_with fail
            refine HSTEP.out.mono ?_; rintro e w3 ⟨rfl, hs⟩
            have HS3 := Aside0.mk (show St w w3 (Asrt.blk tb 37 (tkC t).toArray * (Asrt.row 37 5 (.slice B out.length cB) out.length (outC out) * (refA g bits ⟨pix.take (a + m), addsC bits cl (cutL pix a m)⟩ * Asrt.emp))) from hs.swap.swap2); clear hs
            have u0 : w3.cell? ⟨tb, 0, none⟩ = some (.int .i64 t.f0) := HS3.out.cell 0
            have u1 : w3.cell? ⟨tb, 1, none⟩ = some (.int .i64 t.f1) := HS3.out.cell 1
            have u2 : w3.cell? ⟨tb, 2, none⟩ = some (.int .i64 t.f2) := HS3.out.cell 2
            have u3 : w3.cell? ⟨tb, 3, none⟩ = some (.int .i64 t.f3) := HS3.out.cell 3
            have u4 : w3.cell? ⟨tb, 4, none⟩ = some (.int .u32 t.f4) := HS3.out.cell 4
            have HSL := Aside0.mk ((HS3.out.swap.allocCells 37 5 1 (tkC t) rfl (by decide)).swap)
            go_wp2_with (at_builtin; refine St.append_cells (w0 := w) rfl (.tmp 89) (.tmp 91) 22 37 (.agg #[.int .i64 0, .int .i64 0, .int .i64 0, .int .i64 0, .int .u32 0]) 5 40 rfl Try.underlying22 (by kernel_rfl) rfl (by decide) (by decide) _ out.length (outC out) (tkC t) (some ⟨_, 0, none⟩) 1 1 rfl rfl HSL.out (rowReadsC HSL.out.swap (by simp [tkC, Value.oneCell'])) hbytes ?_; intro B1 cB1 w5 hs; rw [← outC_snoc] at hs; have HSP := Aside0.mk hs; clear hs)
            all_goals
              go_roundw
              case rel =>
                have hl1 : (out ++ [t]).length = out.length + 1 := by simp
                refine ⟨a + m, D, addsC bits cl (cutL pix a m), pre ++ used, rest, out ++ [t], B1, cB1, ?_, ?_, ?_, ?_, ?_, ?_, ?_, ?_, ?_, ?_⟩
                · exact HBD.out.2.1
                · rw [hl1]; have := HBD.out.1; have := HOA.out; omega
                · rw [hl1]
                · exact clOk_adds HCL.out fun x hx => HU.out x (List.mem_of_mem_drop (List.mem_of_mem_take hx))
                · rw [HPRE.out, HUS.out, List.append_assoc]
                · intro s hs
                  rcases List.mem_append.1 hs with hs | hs
                  · have h1 := HLOW.out s hs; have h2 := HBD.out.1; omega
                  · exact HUL.out s hs
                · exact HFR.out
                · have h1 := HAD.out; have h2 := HBD.out.1; omega
                · rw [List.append_assoc]; exact HTOT2.out
                · rw [hl1]; exact HSP.out.swap.drop.swap.drop.swap
              case measure => have h1 := HOA.out; have h2 := HLT.out; simp [lenOf]; omega
theorem coverR_calls (A0 : Option Addr) (c0 : Nat) (l0 : List Int) (a1 : Int) (A2 : Option Addr) (c2 : Nat) (l2 : List Sp) (r1 : List Tk) (w : World) (hr0 : Kd.C (Kd.int .u32) w A0 l0.length l0) (hc0 : l0.length ≤ c0) (hr2 : Kd.C k45 w A2 l2.length l2) (hc2 : l2.length ≤ c2) (h : coverR l0 a1 l2 = some r1) :
    Calls Try.prog 15 #[.slice A0 l0.length c0, .int .i64 a1, .slice A2 l2.length c2] w fun e w' => ∃ v0_ : Value, e = .returned v0_ ∧ Kd.R k37 37 w' w.heap.size (fun _ => True) v0_ r1 ∧ Below w.heap.size w w' := by
  unfold coverR at h
  by_cases c : (pixU l0 ∧ l0.length ≤ 268435456) ∧ bitsOk a1 ∧ fitsAll l0 0 l2
  case neg => rw [if_neg c] at h; cases h
  rw [if_pos c] at h
  have h := Option.some.inj h
  subst h
  exact ref_Cover_yes A0 c0 l0 a1 A2 c2 l2 w hr0 hc0 hr2 hc2 c.2.1 c.2.2 c.1.1 c.1.2
end Go.Proofs.Ytnpmnfhmlnhepaa.P
