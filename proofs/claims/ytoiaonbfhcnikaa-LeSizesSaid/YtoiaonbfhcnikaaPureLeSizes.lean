/- For any numbers: products that are cut off at a bound, and how many blocks cover a size, are the reference's. -/
import Derived.Test.YtoiaonbfhcnikaaProduct
namespace Go.Proofs.Ytoiaonbfhcnikaa.Pure
open Go Go.RowKit Go.Proofs.Ytoiaonbfhcnikaa.P Go.Proofs.YtoiaonbfhcnikaaW.PrintWords Go.Proofs.YtoiaonbfhcnikaaW.PrintLast Go.Proofs.YtoiaonbfhcnikaaW.PrintMore Go.Proofs.Ytoiaonbfhcnikaa.U

theorem LeSizes : marquetrylaw01_LeSizes.Pure := by
  intro a b m c wa wb wm wc
  have ha := wf_i64 wa
  have hb := wf_i64 wb
  have hm := wf_i64 wm
  have hc := wf_i64 wc
  refine Ev.rounds (g := fun k => marquetrylaw01_LeSizes.f k a b m c) ?_
  unfold marquetrylaw01_LeSizes.f
  refine Ev.bind (le_Product_ev ha hb hm) ?_
  refine Ev.bind (ref_Product_ev ha hb hm) ?_
  refine Ev.bind answers_ev ?_
  simp only [if_true, beq_self_eq_true, le_Blocks_eq, Option.bind_some]
  refine Ev.bind (ref_Blocks_ev a c) ?_
  exact Ev.fin (by simp)

end Go.Proofs.Ytoiaonbfhcnikaa.Pure
