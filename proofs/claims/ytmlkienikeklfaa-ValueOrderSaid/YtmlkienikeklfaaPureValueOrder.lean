/- Greater numbers have no lesser symbols, nor lesser bits of one symbol; the same numbers have the same. -/
import Derived.Test.YtmlkienikeklfaaValue
namespace Go.Proofs.Ytmlkienikeklfaa.Pure
open Go Go.RowKit Go.Proofs.Ytmlkienikeklfaa.P Go.Proofs.YtmlkienikeklfaaW.PrintWords Go.Proofs.YtmlkienikeklfaaW.PrintLast Go.Proofs.YtmlkienikeklfaaW.PrintMore Go.Proofs.Ytmlkienikeklfaa.U

theorem ValueOrder : marquetrylaw08_ValueOrder.Pure := by
  intro a b wa wb
  have ha := wf_u32 wa
  have hb := wf_u32 wb
  refine Ev.rounds (g := fun k => marquetrylaw08_ValueOrder.f k a b) ?_
  unfold marquetrylaw08_ValueOrder.f
  rw [Int.tmod_eq_emod_of_nonneg ha.1, Int.tmod_eq_emod_of_nonneg hb.1]
  have h1 : 0 ≤ a % 1048576 ∧ a % 1048576 ≤ 1048575 := by omega
  have h2 : 0 ≤ b % 1048576 ∧ b % 1048576 ≤ 1048575 := by omega
  generalize a % 1048576 = p at *
  generalize b % 1048576 = q at *
  rw [w64 (n := p) (by omega) (by omega), w64 (n := q) (by omega) (by omega), w64 (n := p + 1) (by omega) (by omega), w64 (n := q + 1) (by omega) (by omega)]
  obtain ⟨s, x, he, hs, hx, e⟩ := value_Split_ev (p + 1) (by omega) (by omega)
  obtain ⟨t, y, hf, ht, hy, f⟩ := value_Split_ev (q + 1) (by omega) (by omega)
  refine Ev.bind he (Ev.bind hf (Ev.bind answers_ev ?_))
  simp only [if_true]
  by_cases c : p + 1 ≥ q + 1
  · refine Ev.ite_pos c ?_
    by_cases c2 : p + 1 = q + 1
    · have u1 := uniq hs ht hx hy (by omega)
      have u2 := uniq ht hs hy hx (by omega)
      obtain rfl : s = t := by omega
      obtain rfl : x = y := by omega
      exact Ev.ite_pos c2 (Ev.ite_pos rfl (Ev.fin (by simp)))
    · exact Ev.ite_neg c2 (Ev.now _)
  · refine Ev.ite_neg c ?_
    have u1 := uniq hs ht hx hy (by omega)
    by_cases c3 : s < t
    · exact Ev.ite_pos c3 (Ev.ite_neg (by omega) (Ev.now _))
    · obtain rfl : s = t := by omega
      refine Ev.ite_neg c3 (Ev.ite_pos rfl ?_)
      have : x < y := by omega
      exact Ev.ite_pos this (Ev.ite_neg (by omega) (Ev.now _))

end Go.Proofs.Ytmlkienikeklfaa.Pure
