/- What the reference's Part comes to. -/
import Derived.Test.YtjkhgbmhgkaamaaPx
import Derived.Test.YtjkhgbmhgkaamaaPix
namespace Go.Proofs.Ytjkhgbmhgkaamaa.Pure
open Go Go.RowKit Go.Proofs.Ytjkhgbmhgkaamaa.P Go.Proofs.YtjkhgbmhgkaamaaW.PrintWords Go.Proofs.YtjkhgbmhgkaamaaW.PrintLast Go.Proofs.YtjkhgbmhgkaamaaW.PrintMore Go.Proofs.Ytjkhgbmhgkaamaa.U

theorem part0 {p : Int} (h : U32 p) : marquetryref11_Part.f p 0 = some (pA p) := by
  have h1 := pA_bd h
  unfold marquetryref11_Part.f
  rw [w64 (n := 8 * 0) (by omega) (by omega), w64 (by omega) (by omega), wu64 (by omega) (by omega), shr_any (by decide)]
  unfold U32 at h
  unfold pA at *
  rw [if_pos (by decide), show (24 - 8 * 0 : Int).toNat = 24 by decide, Int.tmod_eq_emod_of_nonneg (by omega)]
  rw [show (2 : Int) ^ 24 = 16777216 by decide, w64 (by omega) (by omega)]
  congr 1; omega
theorem part1 {p : Int} (h : U32 p) : marquetryref11_Part.f p 1 = some (pR p) := by
  unfold marquetryref11_Part.f
  rw [w64 (n := 8 * 1) (by omega) (by omega), w64 (by omega) (by omega), wu64 (by omega) (by omega), shr_any (by decide)]
  unfold U32 at h
  unfold pR
  rw [if_pos (by decide), show (24 - 8 * 1 : Int).toNat = 16 by decide, Int.tmod_eq_emod_of_nonneg (by omega)]
  rw [show (2 : Int) ^ 16 = 65536 by decide, w64 (by omega) (by omega)]
theorem part2 {p : Int} (h : U32 p) : marquetryref11_Part.f p 2 = some (pG p) := by
  unfold marquetryref11_Part.f
  rw [w64 (n := 8 * 2) (by omega) (by omega), w64 (by omega) (by omega), wu64 (by omega) (by omega), shr_any (by decide)]
  unfold U32 at h
  unfold pG
  rw [if_pos (by decide), show (24 - 8 * 2 : Int).toNat = 8 by decide, Int.tmod_eq_emod_of_nonneg (by omega)]
  rw [show (2 : Int) ^ 8 = 256 by decide, w64 (by omega) (by omega)]
theorem part3 {p : Int} (h : U32 p) : marquetryref11_Part.f p 3 = some (pB p) := by
  unfold marquetryref11_Part.f
  rw [w64 (n := 8 * 3) (by omega) (by omega), w64 (by omega) (by omega), wu64 (by omega) (by omega), shr_any (by decide)]
  unfold U32 at h
  unfold pB
  rw [if_pos (by decide), show (24 - 8 * 3 : Int).toNat = 0 by decide, Int.tmod_eq_emod_of_nonneg (by omega)]
  rw [show (2 : Int) ^ 0 = 1 by decide, Int.ediv_one, w64 (by omega) (by omega)]
end Go.Proofs.Ytjkhgbmhgkaamaa.Pure
