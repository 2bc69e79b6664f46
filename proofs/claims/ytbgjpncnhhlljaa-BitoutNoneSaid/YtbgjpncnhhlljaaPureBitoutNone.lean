/- A writer that is none. -/
import Derived.Test.YtbgjpncnhhlljaaBitoutLaw
namespace Go.Proofs.Ytbgjpncnhhlljaa.Pure
open Go Go.RowKit Go.Proofs.Ytbgjpncnhhlljaa.P Go.Proofs.YtbgjpncnhhlljaaW.PrintWords Go.Proofs.YtbgjpncnhhlljaaW.PrintLast Go.Proofs.YtbgjpncnhhlljaaW.PrintMore Go.Proofs.Ytbgjpncnhhlljaa.U
set_option linter.unusedVariables false
set_option linter.unusedSimpArgs false
set_option maxHeartbeats 1000000 in
set_option maxRecDepth 100000 in
theorem BitoutNone (v n : Int) (w : World) (wv : (Lit.int .u32 v).wf = true) (wn : (Lit.int .i64 n).wf = true) :
    Calls Try.prog 6 #[.int .u32 v, .int .i64 n] w fun e w' => e = .returned (.bool true) ∧ Below w.heap.size w w' := by
  go_enter Try.func6, Try.ntmps6
  go_wp2_with fail
  refine (bitout_New _ _ _ (St.refl w)).mono ?_; rintro e w1 ⟨g, rfl, hs⟩
  have HS := Aside0.mk hs; clear hs
  go_wp2_with fail
  refine (bitout_Join_no g _).mono ?_; rintro e w2 ⟨rfl, rfl⟩
  go_wp2_with fail
  refine (bitout_Join_none _ _).mono ?_; rintro e w2 ⟨rfl, rfl⟩
  go_wp2_with fail
  refine (answers_calls _).mono ?_; rintro e w2 ⟨rfl, hb⟩
  have HS2 := Aside0.mk (HS.out.belowR hb); clear hb HS
  go_wp2_with fail
  refine (bitout_Bits_none _ _ _).mono ?_; rintro e w3 ⟨rfl, rfl⟩
  go_wp2_with fail
  refine (bitout_Len_none _).mono ?_; rintro e w3 ⟨rfl, rfl⟩
  go_wp2_with fail
  refine (bitout_Bytes_none _).mono ?_; rintro e w3 ⟨rfl, rfl⟩
  go_wp2_with fail
  refine (bitout_Len g [] _ _ _ HS2.out).mono ?_; rintro e w3 ⟨rfl, rfl⟩
  go_wp2_with fail
  go_ret
  exact ⟨rfl, HS2.out.below⟩
end Go.Proofs.Ytbgjpncnhhlljaa.Pure
