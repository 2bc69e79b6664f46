-- Printed by mp.py (our own program over the kit's printer) out of the translation.
import Derived.Test.YtioppjmpkdffkaaPx0
namespace Go.Proofs.Ytioppjmpkdffkaa.P
open Go.RowKit Go.Proofs.YtioppjmpkdffkaaW.PrintWords Go.Proofs.YtioppjmpkdffkaaW.PrintLast Go.Proofs.YtioppjmpkdffkaaW.PrintMore
attribute [local go_sem] max2_int min2_int max_two min_two max_three min_three max_four min_four   -- for this text's walks alone
set_option linter.unusedVariables false
set_option linter.unusedSimpArgs false

theorem eqA36 (d : Nat) (w : World) (x0 y0 : Int) (x1 y1 : Int) (x2 y2 : Int) (x3 y3 : Int) :
    (Op.equalIn (d + 2) 36 (.agg #[.int .u32 x0, .int .u32 x1, .int .u32 x2, .int .u32 x3]) (.agg #[.int .u32 y0, .int .u32 y1, .int .u32 y2, .int .u32 y3])).run Try.prog w = .ok (x0 == y0 && (x1 == y1 && (x2 == y2 && (x3 == y3)))) w := by
  refine eqR_of (c := 1) (l := [0, 1, 2, 3]) Try.underlying36 (by rfl) (by rfl) (by rfl) ?_
  refine eqi_cons (q := 0) (by rfl) (by go_simp; rfl) (by go_simp; rfl) (by go_simp) ?_
  refine eqi_cons (q := 1) (by rfl) (by go_simp; rfl) (by go_simp; rfl) (by go_simp) ?_
  refine eqi_cons (q := 2) (by rfl) (by go_simp; rfl) (by go_simp; rfl) (by go_simp) ?_
  exact eqi_last (q := 3) (by rfl) (by go_simp; rfl) (by go_simp; rfl) (by go_simp)
end Go.Proofs.Ytioppjmpkdffkaa.P
