-- Printed by mp.py (our own program over the kit's printer) out of the translation.
import Derived.Test.YtegifkffhnhccaaPx0
import Derived.Test.YtegifkffhnhccaaMcv9
namespace Go.Proofs.Ytegifkffhnhccaa.P
open Go.RowKit Go.Proofs.YtegifkffhnhccaaW.PrintWords Go.Proofs.YtegifkffhnhccaaW.PrintLast Go.Proofs.YtegifkffhnhccaaW.PrintMore
attribute [local go_sem] max2_int min2_int max_two min_two max_three min_three max_four min_four   -- for this text's walks alone
set_option linter.unusedVariables false
set_option linter.unusedSimpArgs false

-- @import Mcv9
/-! ### canvas_Render: function 14 -/
def canvas_Render.f (a0 : Int) (a1 : Int) (l2 : List (S47)) (a3 : Int) : Option (Int × Int × List Int × Int) := renderF a0 a1 l2 a3
theorem canvas_Render.calls (a0 : Int) (a1 : Int) (A2 : Option Addr) (c2 : Nat) (l2 : List (S47)) (a3 : Int) (r1 : Int) (r2 : Int) (r3 : List Int) (r4 : Int) (w : World) (hr2 : Kd.C k47 w A2 l2.length l2) (hc2 : l2.length ≤ c2) (h : canvas_Render.f a0 a1 l2 a3 = some (r1, r2, r3, r4)) :
    Calls Try.prog 14 #[.int .i64 a0, .int .i64 a1, .slice A2 l2.length c2, .int .i64 a3] w fun e w' => ∃ v2_ : Value, e = .returned (.tuple #[.agg #[.int .i64 r1, .int .i64 r2, v2_], .int .i64 r4]) ∧ Kd.R (Kd.int .u32) 22 w' w.heap.size (fun _ => True) v2_ r3 ∧ Below w.heap.size w w' :=
  renderF_calls a0 a1 A2 c2 l2 a3 r1 r2 r3 r4 w hr2 hc2 h

end Go.Proofs.Ytegifkffhnhccaa.P
