/- Steps that tell pixels: as plain lists. -/
import Derived.Test.YtnpmnfhmlnhepaaPxB
import Derived.Test.YtnpmnfhmlnhepaaMtok4
import Derived.Test.YtnpmnfhmlnhepaaApp
namespace Go.Proofs.Ytnpmnfhmlnhepaa.P
open Go Go.RowKit Go.Proofs.YtnpmnfhmlnhepaaW.PrintWords Go.Proofs.YtnpmnfhmlnhepaaW.PrintLast Go.Proofs.YtnpmnfhmlnhepaaW.PrintMore Go.Proofs.Ytnpmnfhmlnhepaa.U
set_option linter.unusedVariables false
set_option linter.unusedSimpArgs false
abbrev Sp := S45
/-- Do spans fit, one behind the other? -/
def fitsAll (pix : List Int) : Int → List Sp → Prop
  | _, [] => True
  | next, s :: l => (next ≤ s.f0 ∧ fitsP pix s.f0 s.f1 s.f2) ∧ fitsAll pix (s.f0 + s.f1) l
instance fitsAllDec (pix : List Int) : (next : Int) → (l : List Sp) → Decidable (fitsAll pix next l)
  | _, [] => isTrue trivial
  | next, s :: l => by
    unfold fitsAll
    have := fitsAllDec pix (s.f0 + s.f1) l
    infer_instance
theorem drop45 {l : List Sp} {k : Nat} (h : k < l.length) : l.drop k = rd_T45 l k :: l.drop (k + 1) := by
  rw [List.drop_eq_getElem_cons h]
  congr 1
  simp [rd_T45, List.getD_eq_getElem?_getD, h]
theorem Fits_loop {pix : List Int} {l : List Sp} (hp : pix.length ≤ 9223372036854775807) (hl : l.length ≤ 9223372036854775807) (d : Nat) : ∀ (i : Nat) (next : Int), i + d = l.length → Ev (fun k => token_Fits.l0 k pix next l l.length i) (decide (fitsAll pix next (l.drop i))) := by
  induction d with
  | zero =>
    intro i next hd
    refine Ev.succ ?_
    simp only [token_Fits.l0]
    refine Ev.ite_neg (by omega) (Ev.fin ?_)
    rw [List.drop_of_length_le (by omega)]
    rfl
  | succ d ih =>
    intro i next hd
    refine Ev.succ ?_
    simp only [token_Fits.l0]
    refine Ev.ite_pos (by omega) (Ev.ite_pos (by omega) (Ev.ite_pos (by omega) ?_))
    rw [drop45 (show i < l.length by omega)]
    generalize rd_T45 l i = s
    by_cases c1 : s.f0 < next
    · exact Ev.ite_pos c1 (Ev.fin (decide_eq_false (fun h : fitsAll pix next (s :: _) => by have := h.1.1; omega)).symm)
    refine Ev.ite_neg c1 (Ev.bindo (b := decide (fitsP pix s.f0 s.f1 s.f2)) rfl ?_)
    by_cases c2 : fitsP pix s.f0 s.f1 s.f2
    · refine Ev.ite_pos (decide_eq_true c2) ?_
      have h := c2.1
      rw [w64 (n := s.f0 + s.f1) (by omega) (by omega), w64 (n := (i : Int) + 1) (by omega) (by omega)]
      have := ih (i + 1) (s.f0 + s.f1) (by omega)
      have e : decide (fitsAll pix next (s :: l.drop (i + 1))) = decide (fitsAll pix (s.f0 + s.f1) (l.drop (i + 1))) := decide_eq_decide.2 ⟨fun h => h.2, fun h => ⟨⟨by omega, c2⟩, h⟩⟩
      rw [e]
      exact this
    · exact Ev.ite_neg (by simp [c2]) (Ev.fin (decide_eq_false (fun h : fitsAll pix next (s :: _) => c2 h.1.2)).symm)
theorem Fits_ev {pix : List Int} {l : List Sp} (hp : pix.length ≤ 9223372036854775807) (hl : l.length ≤ 9223372036854775807) : Ev (fun k => token_Fits.f k pix l) (decide (fitsAll pix 0 l)) := by
  unfold token_Fits.f
  exact Fits_loop hp hl l.length 0 0 (Nat.zero_add _)
theorem Fits_calls (A : Option Addr) (c : Nat) (pix : List Int) (A2 : Option Addr) (c2 : Nat) (l : List Sp) (w : World) (hr : Kd.C (Kd.int .u32) w A pix.length pix) (hc : pix.length ≤ c) (hr2 : Kd.C k45 w A2 l.length l) (hc2 : l.length ≤ c2) :
    Calls Try.prog 14 #[.slice A pix.length c, .slice A2 l.length c2] w fun e w' => e = .returned (.bool (decide (fitsAll pix 0 l))) ∧ Below w.heap.size w w' := by
  obtain ⟨k, hk⟩ := (Fits_ev hr.2.1 hr2.2.1).rounds
  exact token_Fits.calls k A c pix A2 c2 l _ w hr hc hr2 hc2 hk
theorem fitsAll_each {pix : List Int} : ∀ {next : Int} {l : List Sp}, fitsAll pix next l → ∀ s ∈ l, fitsP pix s.f0 s.f1 s.f2
  | _, [], _, s, hs => by cases hs
  | _, t :: l, h, s, hs => by
    rcases List.mem_cons.1 hs with rfl | hs
    · exact h.1.2
    · exact fitsAll_each h.2 s hs
/-! ### the steps -/
def copyT (n dist : Int) : Tk := ⟨2, n, dist, 0, 0⟩
def knownT (i : Int) : Tk := ⟨3, 0, 0, i, 0⟩
def litT (x : Int) : Tk := ⟨1, 0, 0, 0, x⟩
/-- The next step: it, how many pixels it tells, and the spans that are left. -/
def nextT (bits : Int) (pix : List Int) (at_ : Nat) (cl : List Int) (sp : List Sp) : Tk × Nat × List Sp :=
  match sp with
  | s :: rest => if s.f0 = at_ then (copyT s.f1 s.f2, s.f1.toNat, rest) else
      (match findC bits (rd pix at_) cl with | some i => (knownT i, 1, sp) | none => (litT (rd pix at_), 1, sp))
  | [] => (match findC bits (rd pix at_) cl with | some i => (knownT i, 1, sp) | none => (litT (rd pix at_), 1, sp))
def addsC (bits : Int) (cl : List Int) (l : List Int) : List Int := l.foldl (addC bits) cl
def coverL (bits : Int) (pix : List Int) : Nat → Nat → List Int → List Sp → List Tk
  | 0, _, _, _ => []
  | d + 1, at_, cl, sp => if at_ < pix.length then (nextT bits pix at_ cl sp).1 :: coverL bits pix d (at_ + (nextT bits pix at_ cl sp).2.1) (addsC bits cl (cutL pix at_ (nextT bits pix at_ cl sp).2.1)) (nextT bits pix at_ cl sp).2.2 else []
def coverV (pix : List Int) (bits : Int) (sp : List Sp) : List Tk × Int :=
  if bitsOk bits ∧ fitsAll pix 0 sp then (coverL bits pix pix.length 0 (startC bits) sp, 0) else ([], 1)
def pixU (pix : List Int) : Prop := ∀ x ∈ pix, U32 x
instance (pix : List Int) : Decidable (pixU pix) := by unfold pixU; infer_instance
def coverT (pix : List Int) (bits : Int) (sp : List Sp) : Option (List Tk × Int) := if pixU pix ∧ pix.length ≤ 268435456 then some (coverV pix bits sp) else none
theorem clOk_adds {bits : Int} : ∀ {l cl : List Int}, clOk bits cl → (∀ x ∈ l, U32 x) → clOk bits (addsC bits cl l)
  | [], cl, h, _ => h
  | x :: l, cl, h, hu => clOk_adds (l := l) (clOk_add h (hu x List.mem_cons_self)) fun y hy => hu y (List.mem_cons_of_mem _ hy)
theorem adds_snoc {bits : Int} {l cl : List Int} {x : Int} : addsC bits cl (l ++ [x]) = addC bits (addsC bits cl l) x := by simp [addsC]
theorem next_bd {bits : Int} {pix : List Int} {at_ : Nat} {cl : List Int} {sp : List Sp} (h : at_ < pix.length) (hs : ∀ s ∈ sp, fitsP pix s.f0 s.f1 s.f2) :
    1 ≤ (nextT bits pix at_ cl sp).2.1 ∧ at_ + (nextT bits pix at_ cl sp).2.1 ≤ pix.length ∧ (∀ s ∈ (nextT bits pix at_ cl sp).2.2, s ∈ sp) := by
  have one : ∀ sp : List Sp, 1 ≤ (match findC bits (rd pix at_) cl with | some i => (knownT i, 1, sp) | none => (litT (rd pix at_), 1, sp)).2.1 ∧ at_ + (match findC bits (rd pix at_) cl with | some i => (knownT i, 1, sp) | none => (litT (rd pix at_), 1, sp)).2.1 ≤ pix.length ∧ (∀ s ∈ (match findC bits (rd pix at_) cl with | some i => (knownT i, 1, sp) | none => (litT (rd pix at_), 1, sp)).2.2, s ∈ sp) := by
    intro sp
    cases findC bits (rd pix at_) cl with
    | some i => exact ⟨Nat.le_refl 1, h, fun s hs => hs⟩
    | none => exact ⟨Nat.le_refl 1, h, fun s hs => hs⟩
  cases sp with
  | nil => exact one []
  | cons s rest =>
    unfold nextT
    by_cases c : s.f0 = at_
    · simp only [if_pos c]
      have hf := (hs s List.mem_cons_self).1
      exact ⟨by omega, by omega, fun t ht => List.mem_cons_of_mem _ ht⟩
    · simp only [if_neg c]
      exact one _
/-- The cells of a step. -/
def tkC (t : Tk) : List Value := [.int .i64 t.f0, .int .i64 t.f1, .int .i64 t.f2, .int .i64 t.f3, .int .u32 t.f4]
def outC (l : List Tk) : List Value := l.flatMap tkC
theorem outC_snoc (l : List Tk) (t : Tk) : outC (l ++ [t]) = outC l ++ tkC t := by simp [outC]
theorem outC_len : ∀ l : List Tk, (outC l).length = l.length * 5
  | [] => rfl
  | t :: l => by show (tkC t ++ outC l).length = _; rw [List.length_append, outC_len l, List.length_cons, Nat.add_mul]; show 5 + _ = _; omega
theorem outC_reps (w : World) (base : Nat) (ok : Nat → Prop) : ∀ l : List Tk, Reps (k37.M w base ok) 5 l (outC l) := by
  intro l
  induction h : l.length generalizing l with
  | zero => obtain rfl := List.eq_nil_of_length_eq_zero h; exact Reps.none _ _
  | succ n ih =>
    have hne : l ≠ [] := by intro he; rw [he] at h; simp at h
    have e := List.dropLast_concat_getLast hne
    rw [← e, outC_snoc]
    exact Reps.snoc (ih l.dropLast (by rw [List.length_dropLast]; omega)) (k37_mkM w base ok _) rfl
theorem outC_R {w w1 : World} {R : Asrt} {B : Option Addr} {n c : Nat} {l : List Tk} (h : St w w1 (Asrt.row 37 5 (.slice B n c) n (outC l) * R)) (hn : l.length = n) : Kd.R k37 37 w1 w.heap.size (fun _ => True) (.slice B n c) l := by
  subst hn
  exact ⟨fun _ _ => trivial, outC l, h.row, outC_reps _ _ _ l⟩
end Go.Proofs.Ytnpmnfhmlnhepaa.P
