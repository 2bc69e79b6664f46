-- Printed by mp.py (our own program over the kit's printer) out of the translation.
import Derived.Test.YtnpmnfhmlnhepaaPx0
import Derived.Test.YtnpmnfhmlnhepaaMcov
namespace Go.Proofs.Ytnpmnfhmlnhepaa.P
open Go.RowKit Go.Proofs.YtnpmnfhmlnhepaaW.PrintWords Go.Proofs.YtnpmnfhmlnhepaaW.PrintLast Go.Proofs.YtnpmnfhmlnhepaaW.PrintMore
attribute [local go_sem] max2_int min2_int max_two min_two max_three min_three max_four min_four   -- for this text's walks alone
set_option linter.unusedVariables false
set_option linter.unusedSimpArgs false

-- @import Mcov
/-! ### token_Cover: function 13 -/
def token_Cover.f (l0 : List Int) (a1 : Int) (l2 : List (S45)) : Option (List (S37) × Int) := coverT l0 a1 l2
theorem token_Cover.calls (A0 : Option Addr) (c0 : Nat) (l0 : List Int) (a1 : Int) (A2 : Option Addr) (c2 : Nat) (l2 : List (S45)) (r1 : List (S37)) (r2 : Int) (w : World) (hr0 : Kd.C (Kd.int .u32) w A0 l0.length l0) (hc0 : l0.length ≤ c0) (hr2 : Kd.C k45 w A2 l2.length l2) (hc2 : l2.length ≤ c2) (h : token_Cover.f l0 a1 l2 = some (r1, r2)) :
    Calls Try.prog 13 #[.slice A0 l0.length c0, .int .i64 a1, .slice A2 l2.length c2] w fun e w' => ∃ v0_ : Value, e = .returned (.tuple #[v0_, .int .i64 r2]) ∧ Kd.R k37 37 w' w.heap.size (fun _ => True) v0_ r1 ∧ Below w.heap.size w w' :=
  coverT_calls A0 c0 l0 a1 A2 c2 l2 r1 r2 w hr0 hc0 hr2 hc2 h

-- NOT PRINTED: function 18 (token_New)

-- NOT PRINTED: function 30 (token_Painter_add)

-- NOT PRINTED: function 31 (token_Painter_copy)

-- NOT PRINTED: function 19 (token_Painter_Step)

-- NOT PRINTED: function 20 (token_Painter_Full)

end Go.Proofs.Ytnpmnfhmlnhepaa.P
