/- For any four numbers: a product that fits once is the same whichever number comes first, and fits with more room. -/
import Derived.Test.YtoiaonbfhcnikaaProduct
namespace Go.Proofs.Ytoiaonbfhcnikaa.Pure
open Go Go.RowKit Go.Proofs.Ytoiaonbfhcnikaa.P Go.Proofs.YtoiaonbfhcnikaaW.PrintWords Go.Proofs.YtoiaonbfhcnikaaW.PrintLast Go.Proofs.YtoiaonbfhcnikaaW.PrintMore Go.Proofs.Ytoiaonbfhcnikaa.U

theorem LeTurns : marquetrylaw01_LeTurns.Pure := by
  intro a b m c wa wb wm wc
  have ha := wf_u32 wa
  have hb := wf_u32 wb
  have hm := wf_u32 wm
  have hc := wf_u8 wc
  refine Ev.rounds (g := fun k => marquetrylaw01_LeTurns.f k a b m c) ?_
  unfold marquetrylaw01_LeTurns.f
  rw [w64 (n := a) (by omega) (by omega), w64 (n := b) (by omega) (by omega), w64 (n := m) (by omega) (by omega), w64 (n := c) (by omega) (by omega), w64 (n := m + c) (by omega) (by omega)]
  refine Ev.bind (le_Product_ev (by unfold I64; omega) (by unfold I64; omega) (by unfold I64; omega)) ?_
  refine Ev.bind (le_Product_ev (by unfold I64; omega) (by unfold I64; omega) (by unfold I64; omega)) ?_
  refine Ev.bind (le_Product_ev (by unfold I64; omega) (by unfold I64; omega) (by unfold I64; omega)) ?_
  refine Ev.bind answers_ev ?_
  have e : product b a m = product a b m := by
    unfold product
    rw [Int.mul_comm b a]
    simp only [and_left_comm]
  rw [e]
  by_cases h : 0 ≤ a ∧ 0 ≤ b ∧ a * b ≤ m
  · rw [product_good h, product_good (m := m + c) (by omega)]
    simp only [if_true, beq_self_eq_true]
    exact Ev.now _
  · rw [product_bad h]
    simp only [if_true, beq_self_eq_true]
    exact Ev.ite_neg (by decide) (Ev.now _)

end Go.Proofs.Ytoiaonbfhcnikaa.Pure
