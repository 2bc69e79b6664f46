/- A cache that is none: nothing is added, found or got. -/
import Derived.Test.YtimkemfiiodafaaCacheLaw
namespace Go.Proofs.Ytimkemfiiodafaa.Pure
open Go Go.RowKit Go.Proofs.Ytimkemfiiodafaa.P Go.Proofs.YtimkemfiiodafaaW.PrintWords Go.Proofs.YtimkemfiiodafaaW.PrintLast Go.Proofs.YtimkemfiiodafaaW.PrintMore Go.Proofs.Ytimkemfiiodafaa.U
set_option linter.unusedVariables false
set_option linter.unusedSimpArgs false
set_option maxHeartbeats 1000000 in
set_option maxRecDepth 100000 in
theorem CacheNone (a n : Int) (w : World) (wa : (Lit.int .u32 a).wf = true) (wn : (Lit.int .i64 n).wf = true) :
    Calls Try.prog 5 #[.int .u32 a, .int .i64 n] w fun e w' => e = .returned (.bool true) ∧ Below w.heap.size w w' := by
  go_enter Try.func5, Try.ntmps5
  go_wp2_with fail
  refine (cache_Add_none _ _).mono ?_; rintro e w1 ⟨rfl, rfl⟩
  go_wp2_with fail
  refine (cache_Get_none _ _).mono ?_; rintro e w1 ⟨rfl, rfl⟩
  go_wp2_with fail
  refine (cache_Find_none _ _).mono ?_; rintro e w1 ⟨rfl, ⟨nd, rfl⟩⟩
  go_wp2_with fail
  refine (answers_calls _).mono ?_; rintro e w1 ⟨rfl, hb⟩
  go_wp2
  go_ret
  exact ⟨rfl, below_step (pw_below_drewN (Below.refl _ _) nd) hb⟩
end Go.Proofs.Ytimkemfiiodafaa.Pure
