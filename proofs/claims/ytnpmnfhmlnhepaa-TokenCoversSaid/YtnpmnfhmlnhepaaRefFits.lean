/- Which spans fit, by the document: as the program says. -/
import Derived.Test.YtnpmnfhmlnhepaaPx9
import Derived.Test.YtnpmnfhmlnhepaaMcov0
namespace Go.Proofs.Ytnpmnfhmlnhepaa.P
open Go Go.RowKit Go.Proofs.YtnpmnfhmlnhepaaW.PrintWords Go.Proofs.YtnpmnfhmlnhepaaW.PrintLast Go.Proofs.YtnpmnfhmlnhepaaW.PrintMore Go.Proofs.Ytnpmnfhmlnhepaa.U
set_option linter.unusedVariables false
theorem cutL_eq {l : List Int} {a b n : Nat} (ha : a + n ≤ l.length) (hb : b + n ≤ l.length) : cutL l a n = cutL l b n ↔ ∀ j : Nat, j < n → rd l ((a + j : Nat) : Int) = rd l ((b + j : Nat) : Int) := by
  constructor
  · intro h j hj
    rw [← rd_cutL ha hj, ← rd_cutL hb hj, h]
  · intro h
    refine List.ext_getElem (by rw [cutL_len ha, cutL_len hb]) fun j h1 h2 => ?_
    have hj : j < n := by rw [cutL_len ha] at h1; exact h1
    have := h j hj
    rw [← rd_cutL ha hj, ← rd_cutL hb hj, rd_nat' h1, rd_nat' h2] at this
    exact this
open Classical in
theorem ref_run {pix : List Int} {l : List Sp} {r : Bool} {at_ n dist : Int} {q : Int} (hp : pix.length ≤ 9223372036854775806) (h0 : 0 ≤ at_ - dist) (hd : 0 ≤ dist) (hn : 0 ≤ n) (ha : at_ + n ≤ pix.length) (hr : Ev (fun k => marquetryref17_Fits.l0 k pix l (at_ + n) (wrap64 (q + 1))) r) (d : Nat) :
    ∀ i : Nat, (i : Int) + d = n → Ev (fun k => marquetryref17_Fits.l1 k pix l q (at_ + i) at_ n dist) (if (∀ j : Nat, i ≤ j → (j : Int) < n → rd pix (at_ + j) = rd pix (at_ - dist + j)) then r else false) := by
  induction d with
  | zero =>
    intro i hi
    refine Ev.succ ?_
    simp only [marquetryref17_Fits.l1]
    rw [w64 (n := at_ + n) (by omega) (by omega), if_pos (fun j h1 h2 => by omega)]
    exact Ev.ite_neg (by omega) hr
  | succ d ih =>
    intro i hi
    refine Ev.succ ?_
    simp only [marquetryref17_Fits.l1]
    rw [w64 (n := at_ + n) (by omega) (by omega), w64 (n := at_ + i - dist) (by omega) (by omega), w64 (n := at_ + i + 1) (by omega) (by omega)]
    refine Ev.ite_pos (by omega) (Ev.ite_pos (by omega) (Ev.ite_pos (by omega) (Ev.ite_pos (by omega) (Ev.ite_pos (by omega) ?_))))
    by_cases c : rd pix (at_ + i) = rd pix (at_ + i - dist)
    · refine Ev.ite_pos c ?_
      have := ih (i + 1) (by omega)
      rw [show at_ + ((i + 1 : Nat) : Int) = at_ + i + 1 by omega] at this
      have e : (∀ j : Nat, i ≤ j → (j : Int) < n → rd pix (at_ + j) = rd pix (at_ - dist + j)) ↔ (∀ j : Nat, i + 1 ≤ j → (j : Int) < n → rd pix (at_ + j) = rd pix (at_ - dist + j)) := by
        refine ⟨fun h j h1 h2 => h j (by omega) h2, fun h j h1 h2 => ?_⟩
        rcases Nat.lt_or_ge i j with h3 | h3
        · exact h j h3 h2
        · obtain rfl : j = i := by omega
          rw [c]; congr 1; omega
      simpa only [e] using this
    · refine Ev.ite_neg c (Ev.fin ?_)
      rw [if_neg]
      intro h
      apply c
      rw [h i (Nat.le_refl _) (by omega)]
      congr 1; omega
open Classical in
theorem RefFits_loop {pix : List Int} {l : List Sp} (hp : pix.length ≤ 9223372036854775806) (hl : l.length ≤ 9223372036854775806) (hw : ∀ s ∈ l, q45 s) (d : Nat) : ∀ (i : Nat) (next : Int), i + d = l.length → Ev (fun k => marquetryref17_Fits.l0 k pix l next i) (decide (fitsAll pix next (l.drop i))) := by
  induction d with
  | zero =>
    intro i next hd
    refine Ev.succ ?_
    simp only [marquetryref17_Fits.l0]
    refine Ev.ite_neg (by omega) (Ev.fin ?_)
    rw [List.drop_of_length_le (by omega)]
    rfl
  | succ d ih =>
    intro i next hd
    refine Ev.succ ?_
    simp only [marquetryref17_Fits.l0]
    refine Ev.ite_pos (by omega) (Ev.ite_pos (by omega) ?_)
    rw [drop45 (show i < l.length by omega)]
    generalize hs : rd_T45 l i = s
    have bad : ∀ b, b = true → ¬ fitsAll pix next (s :: l.drop (i + 1)) → Ev (fun k => marquetryref17_Fits.j1 k pix l i b s.f0 s.f1 s.f2) (decide (fitsAll pix next (s :: l.drop (i + 1)))) := by
      intro b hb hf
      refine Ev.succ ?_
      simp only [marquetryref17_Fits.j1]
      exact Ev.ite_pos hb (Ev.fin (decide_eq_false hf).symm)
    by_cases c1 : s.f0 < next
    · exact Ev.ite_pos c1 (bad _ rfl fun h => by have := h.1.1; omega)
    refine Ev.ite_neg c1 ?_
    by_cases c2 : s.f1 < 1
    · exact Ev.ite_pos c2 (bad _ rfl fun h => by have := h.1.2.1; omega)
    refine Ev.ite_neg c2 ?_
    by_cases c3 : s.f1 > 4096
    · exact Ev.ite_pos c3 (bad _ rfl fun h => by have := h.1.2.1; omega)
    refine Ev.ite_neg c3 ?_
    by_cases c4 : s.f2 < 1
    · exact Ev.ite_pos c4 (bad _ rfl fun h => by have := h.1.2.1; omega)
    refine Ev.ite_neg c4 ?_
    by_cases c5 : s.f2 > s.f0
    · exact Ev.ite_pos c5 (bad _ rfl fun h => by have := h.1.2.1; omega)
    refine Ev.ite_neg c5 ?_
    by_cases c6 : s.f2 > 1048456
    · exact Ev.ite_pos c6 (bad _ rfl fun h => by have := h.1.2.1; omega)
    refine Ev.ite_neg c6 ?_
    by_cases c7 : s.f1 > (pix.length : Int)
    · exact Ev.ite_pos c7 (bad _ rfl fun h => by have := h.1.2.1; omega)
    refine Ev.ite_neg c7 ?_
    rw [w64 (n := (pix.length : Int) - s.f1) (by omega) (by omega)]
    by_cases c8 : s.f0 > (pix.length : Int) - s.f1
    · exact bad _ (decide_eq_true c8) fun h => by have := h.1.2.1; omega
    refine Ev.succ ?_
    simp only [marquetryref17_Fits.j1]
    refine Ev.ite_neg (by simpa using c8) ?_
    have hnext := ih (i + 1) (s.f0 + s.f1) (by omega)
    have hrun := ref_run (pix := pix) (l := l) (at_ := s.f0) (n := s.f1) (dist := s.f2) (q := (i : Int)) hp (by omega) (by omega) (by omega) (by omega) (by rw [w64 (n := (i : Int) + 1) (by omega) (by omega)]; exact hnext) s.f1.toNat 0 (by omega)
    rw [show s.f0 + ((0 : Nat) : Int) = s.f0 by omega] at hrun
    have e : decide (fitsAll pix next (s :: l.drop (i + 1))) = (if (∀ j : Nat, 0 ≤ j → (j : Int) < s.f1 → rd pix (s.f0 + j) = rd pix (s.f0 - s.f2 + j)) then decide (fitsAll pix (s.f0 + s.f1) (l.drop (i + 1))) else false) := by
      have hc := cutL_eq (l := pix) (a := s.f0.toNat) (b := (s.f0 - s.f2).toNat) (n := s.f1.toNat) (by omega) (by omega)
      have hq : (∀ j : Nat, 0 ≤ j → (j : Int) < s.f1 → rd pix (s.f0 + j) = rd pix (s.f0 - s.f2 + j)) ↔ cutL pix s.f0.toNat s.f1.toNat = cutL pix (s.f0 - s.f2).toNat s.f1.toNat := by
        rw [hc]
        refine ⟨fun h j hj => ?_, fun h j _ hj => ?_⟩
        · have := h j (Nat.zero_le _) (by omega)
          rwa [show s.f0 + (j : Int) = ((s.f0.toNat + j : Nat) : Int) by omega, show s.f0 - s.f2 + (j : Int) = (((s.f0 - s.f2).toNat + j : Nat) : Int) by omega] at this
        · have := h j (by omega)
          rwa [show s.f0 + (j : Int) = ((s.f0.toNat + j : Nat) : Int) by omega, show s.f0 - s.f2 + (j : Int) = (((s.f0 - s.f2).toNat + j : Nat) : Int) by omega]
      by_cases c : (∀ j : Nat, 0 ≤ j → (j : Int) < s.f1 → rd pix (s.f0 + j) = rd pix (s.f0 - s.f2 + j))
      · rw [if_pos c]
        exact decide_eq_decide.2 ⟨fun h => h.2, fun h => ⟨⟨by omega, by omega, hq.1 c⟩, h⟩⟩
      · rw [if_neg c]
        exact decide_eq_false fun h => c (hq.2 h.1.2.2)
    rw [e]
    exact hrun
theorem RefFits_ev {pix : List Int} {l : List Sp} (hp : pix.length ≤ 9223372036854775806) (hl : l.length ≤ 9223372036854775806) (hw : ∀ s ∈ l, q45 s) : Ev (fun k => marquetryref17_Fits.f k pix l) (decide (fitsAll pix 0 l)) := by
  unfold marquetryref17_Fits.f
  exact RefFits_loop hp hl hw l.length 0 0 (Nat.zero_add _)
end Go.Proofs.Ytnpmnfhmlnhepaa.P
