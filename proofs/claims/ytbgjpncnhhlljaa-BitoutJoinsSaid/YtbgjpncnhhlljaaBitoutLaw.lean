/- What the laws of the writer have in common. -/
import Derived.Test.YtbgjpncnhhlljaaMbitout
namespace Go.Proofs.Ytbgjpncnhhlljaa.Pure
open Go Go.RowKit Go.Proofs.Ytbgjpncnhhlljaa.P Go.Proofs.YtbgjpncnhhlljaaW.PrintWords Go.Proofs.YtbgjpncnhhlljaaW.PrintLast Go.Proofs.YtbgjpncnhhlljaaW.PrintMore Go.Proofs.Ytbgjpncnhhlljaa.U
set_option linter.unusedVariables false
set_option linter.unusedSimpArgs false
attribute [local go_sem] max2_int min2_int max_two min_two max_three min_three max_four min_four
theorem three_bits : bitsV 1 1 = [1] ∧ bitsV 2 2 = [0, 1] ∧ pack [1, 0, 1] = [5] := by decide +kernel
theorem Bin.nil : Bin [] := fun y hy => by cases hy
set_option maxHeartbeats 1000000 in
set_option maxRecDepth 100000 in
theorem answers_calls (w : World) : Calls Try.prog 7 #[] w fun e w' => e = .returned (.bool true) ∧ Below w.heap.size w w' := by
  go_enter Try.func7, Try.ntmps7
  go_wp2_with fail
  refine (bitout_New _ _ _ (St.refl w)).mono ?_; rintro e w1 ⟨g, rfl, hs⟩
  have HS := Aside0.mk hs; clear hs
  go_wp2_with fail
  refine (bitout_Bits_ok g [] 1 1 _ _ _ (by decide) (by decide) (by decide) (by decide) Bin.nil (by decide) HS.out).mono ?_; rintro e w2 ⟨rfl, hs⟩
  rw [show bitsV 1 (1 : Int).toNat = [1] from three_bits.1] at hs
  have HS2 := Aside0.mk hs; clear hs HS
  go_wp2_with fail
  refine (bitout_Bits_ok g ([] ++ [1]) 2 2 _ _ _ (by decide) (by decide) (by decide) (by decide) (Bin.snoc Bin.nil (.inr rfl)) (by decide) HS2.out).mono ?_; rintro e w3 ⟨rfl, hs⟩
  rw [show ([] ++ [1]) ++ bitsV 2 (2 : Int).toNat = [1, 0, 1] from by rw [show bitsV 2 (2 : Int).toNat = [0, 1] from three_bits.2.1]; rfl] at hs
  have HS3 := Aside0.mk hs; clear hs HS2
  go_wp2_with fail
  refine (bitout_Bytes g [1, 0, 1] _ _ _ (by decide) HS3.out).mono ?_; rintro e w4 ⟨B, c', rfl, hs⟩
  rw [three_bits.2.2] at hs ⊢
  rw [show ([5] : List Int).length = 1 from rfl] at hs ⊢
  obtain ⟨h, hB⟩ := hs.rowForm (by decide)
  subst hB
  have hcell : w4.cell? ⟨h, 0, none⟩ = some (.int .u8 5) := (hs.rowAt 0 (by decide) (by decide)).1
  have HS4 := Aside0.mk hs; clear hs HS3
  go_wp2_with fail
  refine (bitout_Len g [1, 0, 1] _ _ _ HS4.out.swap).mono ?_; rintro e w5 ⟨rfl, rfl⟩
  go_wp2_with fail
  go_ret
  exact ⟨rfl, HS4.out.below⟩
end Go.Proofs.Ytbgjpncnhhlljaa.Pure
