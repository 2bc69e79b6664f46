/- A reader that is none. -/
import Derived.Test.YtflkinhbecjahaaBitinLaw
namespace Go.Proofs.Ytflkinhbecjahaa.Pure
open Go Go.RowKit Go.Proofs.Ytflkinhbecjahaa.P Go.Proofs.YtflkinhbecjahaaW.PrintWords Go.Proofs.YtflkinhbecjahaaW.PrintLast Go.Proofs.YtflkinhbecjahaaW.PrintMore Go.Proofs.Ytflkinhbecjahaa.U
set_option linter.unusedVariables false
set_option linter.unusedSimpArgs false
set_option maxHeartbeats 1000000 in
set_option maxRecDepth 100000 in
theorem BitinNone (n : Int) (w : World) (wn : (Lit.int .i64 n).wf = true) :
    Calls Try.prog 5 #[.int .i64 n] w fun e w' => e = .returned (.bool true) ∧ Below w.heap.size w w' := by
  go_enter Try.func5, Try.ntmps5
  go_wp2_with fail
  refine (bitin_Bits_none _ _).mono ?_; rintro e w1 ⟨rfl, rfl⟩
  go_wp2_with fail
  refine (answers_calls _).mono ?_; rintro e w1 ⟨rfl, hb⟩
  go_wp2_with fail
  refine (bitin_Left_none _).mono ?_; rintro e w2 ⟨rfl, rfl⟩
  go_wp2_with fail
  refine (bitin_Over_none _).mono ?_; rintro e w2 ⟨rfl, rfl⟩
  go_wp2_with fail
  go_ret
  exact ⟨rfl, hb⟩
end Go.Proofs.Ytflkinhbecjahaa.Pure
