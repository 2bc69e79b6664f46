-- Printed by mp.py (our own program over the kit's printer) out of the translation.
import Derived.Test.YtbbbngjjefnmhaaPx0
namespace Go.Proofs.Ytbbbngjjefnmhaa.P
open Go.RowKit Go.Proofs.YtbbbngjjefnmhaaW.PrintWords Go.Proofs.YtbbbngjjefnmhaaW.PrintLast Go.Proofs.YtbbbngjjefnmhaaW.PrintMore
attribute [local go_sem] max2_int min2_int max_two min_two max_three min_three max_four min_four   -- for this text's walks alone
set_option linter.unusedVariables false
set_option linter.unusedSimpArgs false

theorem eqA24 (d : Nat) (w : World) (x0 y0 : Int) (x1 y1 : Int) (x2 y2 : Int) :
    (Op.equalIn (d + 2) 24 (.agg #[.int .i8 x0, .int .i8 x1, .int .i8 x2]) (.agg #[.int .i8 y0, .int .i8 y1, .int .i8 y2])).run Try.prog w = .ok (x0 == y0 && (x1 == y1 && (x2 == y2))) w := by
  refine eqA_of Try.underlying24 (by kernel_rfl) ?_
  refine eqf_cons (by rfl) (by go_simp; rfl) (by go_simp; rfl) (by go_simp) ?_
  refine eqf_cons (by rfl) (by go_simp; rfl) (by go_simp; rfl) (by go_simp) ?_
  exact eqf_last (by rfl) (by go_simp; rfl) (by go_simp; rfl) (by go_simp)
end Go.Proofs.Ytbbbngjjefnmhaa.P
