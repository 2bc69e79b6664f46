/- For any two pixels: what they come to by each way is the reference's, and a pixel's four make it again. -/
import Derived.Test.YtmehcbjkhooolaaPixLaw
namespace Go.Proofs.Ytmehcbjkhooolaa.Pure
open Go Go.RowKit Go.Proofs.Ytmehcbjkhooolaa.P Go.Proofs.YtmehcbjkhooolaaW.PrintWords Go.Proofs.YtmehcbjkhooolaaW.PrintLast Go.Proofs.YtmehcbjkhooolaaW.PrintMore Go.Proofs.Ytmehcbjkhooolaa.U

theorem make_parts {p : Int} (h : U32 p) : pixel_Make.f (p / 16777216 % 256) (p / 65536 % 256) (p / 256 % 256) (p % 256) = some p := by
  unfold U32 at h
  unfold pixel_Make.f
  have or24 : ∀ x y : Int, 0 ≤ x → x < 4294967296 → x % 16777216 = 0 → 0 ≤ y → y < 16777216 → Go.bits .or .u32 x y = x + y := fun x y a b c d e =>
    bits_join .u32 32 (by decide) (fun n h0 h1 => by rw [IntKind.wrap_u32]; omega) 24 x y a (by simpa using c) (by omega) d (by omega) (by omega)
  have or16 : ∀ x y : Int, 0 ≤ x → x < 4294967296 → x % 65536 = 0 → 0 ≤ y → y < 65536 → Go.bits .or .u32 x y = x + y := fun x y a b c d e =>
    bits_join .u32 32 (by decide) (fun n h0 h1 => by rw [IntKind.wrap_u32]; omega) 16 x y a (by simpa using c) (by omega) d (by omega) (by omega)
  rw [or24 (p / 16777216 % 256 % 4294967296 * 16777216 % 4294967296) (p / 65536 % 256 % 4294967296 * 65536 % 4294967296) (by omega) (by omega) (by omega) (by omega) (by omega), or16 _ (p / 256 % 256 % 4294967296 * 256 % 4294967296) (by omega) (by omega) (by omega) (by omega) (by omega), px_or8 (by omega) (by omega) (by omega) (by omega) (by omega)]
  congr 1
  omega
theorem PixelPairs : marquetrylaw11_PixelPairs.Pure := by
  intro p q wp wq
  have hp := u32_wf wp
  have hq := u32_wf wq
  unfold marquetrylaw11_PixelPairs.f pixel_Parts.f
  have p0 := pA_bd hp
  have e0 : wrap64 (p / 16777216 % 256) = pA p := by unfold pA at *; rw [w64 (by omega) (by omega)]; omega
  have e1 : wrap64 (p / 65536 % 256) = pR p := by unfold pR; rw [w64 (by omega) (by omega)]
  have e2 : wrap64 (p / 256 % 256) = pG p := by unfold pG; rw [w64 (by omega) (by omega)]
  have e3 : wrap64 (p % 256) = pB p := by unfold pB; rw [w64 (by omega) (by omega)]
  have r1 : marquetryref11_Add.f p q = some (each4 fAdd p q 0) := if_pos ⟨hp, hq⟩
  have r2 : marquetryref11_Sub.f p q = some (each4 fSub p q 0) := if_pos ⟨hp, hq⟩
  have r3 : marquetryref11_Avg.f p q = some (each4 fAvg p q 0) := if_pos ⟨hp, hq⟩
  have r4 : marquetryref11_Half.f p q = some (each4 fHalf p q 0) := if_pos ⟨hp, hq⟩
  simp only [Option.bind_some, answers_eq, if_true, part0 hp, part1 hp, part2 hp, part3 hp, e0, e1, e2, e3, make_parts hp, Add_eq hp hq, Sub_eq hp hq, Avg_eq hp hq, Half_eq hp hq, r1, r2, r3, r4]
  simp

end Go.Proofs.Ytmehcbjkhooolaa.Pure
