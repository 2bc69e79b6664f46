/- What the laws of the reader have in common. -/
import Derived.Test.YtflkinhbecjahaaMbitin
namespace Go.Proofs.Ytflkinhbecjahaa.Pure
open Go Go.RowKit Go.Proofs.Ytflkinhbecjahaa.P Go.Proofs.YtflkinhbecjahaaW.PrintWords Go.Proofs.YtflkinhbecjahaaW.PrintLast Go.Proofs.YtflkinhbecjahaaW.PrintMore Go.Proofs.Ytflkinhbecjahaa.U
set_option linter.unusedVariables false
set_option linter.unusedSimpArgs false
attribute [local go_sem] max2_int min2_int max_two min_two max_three min_three max_four min_four
theorem bytes_wf {l : List Int} (h : ∀ y ∈ l, (Lit.int .u8 y).wf = true) : ∀ y ∈ l, 0 ≤ y ∧ y ≤ 255 := fun y hy => wf_u8 (h y hy)
theorem five_bits : numAt [5] 0 1 = 1 ∧ numAt [5] 1 2 = 2 := by decide +kernel
set_option maxHeartbeats 1000000 in
set_option maxRecDepth 100000 in
theorem answers_calls (w : World) : Calls Try.prog 7 #[] w fun e w' => e = .returned (.bool true) ∧ Below w.heap.size w w' := by
  go_enter Try.func7, Try.ntmps7
  go_wp2_with fail
  refine (bitin_New _ 1 1 [5] _ _ _ (own_reads' (own_lit w 0 5 .u8 [5] (Nat.zero_le _) (by decide))) (by decide) ((St.refl w).alloc #[.int .u8 5] 5)).mono ?_; rintro e w1 ⟨g, rfl, hs⟩
  have HS := Aside0.mk hs; clear hs
  go_wp2_with fail
  refine (bitin_Bits_read g [5] 0 1 _ _ _ (by decide) (by decide) (by decide) HS.out (by decide) (by decide)).mono ?_; rintro e w2 ⟨rfl, hs2⟩
  clear HS
  have HS := Aside0.mk hs2; clear hs2
  rw [five_bits.1]
  go_wp2_with fail
  refine (bitin_Bits_read g [5] 1 2 _ _ _ (by decide) (by decide) (by decide) HS.out (by decide) (by decide)).mono ?_; rintro e w2 ⟨rfl, hs2⟩
  clear HS
  have HS := Aside0.mk hs2; clear hs2
  rw [five_bits.2]
  go_wp2_with fail
  refine (bitin_Left g [5] 3 false _ _ _ (by decide) (by decide) HS.out).mono ?_; rintro e w3 ⟨rfl, ⟨nd, rfl⟩⟩
  rw [show leftN [5] 3 false = 5 by decide]
  go_wp2_with fail
  go_ret
  exact ⟨rfl, pw_below_drewN HS.out.below _⟩
end Go.Proofs.Ytflkinhbecjahaa.Pure
