/- For any size and any bits: the blocks cover the size, and one less does not. -/
import Derived.Test.YtoiaonbfhcnikaaLe
namespace Go.Proofs.Ytoiaonbfhcnikaa.Pure
open Go Go.RowKit Go.Proofs.Ytoiaonbfhcnikaa.P Go.Proofs.YtoiaonbfhcnikaaW.PrintWords Go.Proofs.YtoiaonbfhcnikaaW.PrintLast Go.Proofs.YtoiaonbfhcnikaaW.PrintMore Go.Proofs.Ytoiaonbfhcnikaa.U

theorem LeBlocks : marquetrylaw01_LeBlocks.Pure := by
  intro n b wn wb
  have hn := wf_u32 wn
  have hb := wf_u8 wb
  refine Ev.rounds (g := fun k => marquetrylaw01_LeBlocks.f k n b) ?_
  unfold marquetrylaw01_LeBlocks.f
  rw [Int.tmod_eq_emod_of_nonneg hn.1, Int.tmod_eq_emod_of_nonneg hb.1]
  have h1 : 0 ≤ n % 16777216 ∧ n % 16777216 ≤ 16777215 := by omega
  have h2 : 0 ≤ b % 31 ∧ b % 31 ≤ 30 := by omega
  generalize n % 16777216 = x at *
  generalize b % 31 = y at *
  rw [w64 (n := x) (by omega) (by omega), w64 (n := x + 1) (by omega) (by omega), w64 (n := y) (by omega) (by omega), wu64 (by omega) (by omega), le_Blocks_eq]
  simp only [Option.bind_some]
  refine Ev.ite_pos h2.1 ?_
  refine Ev.bind answers_ev ?_
  simp only [if_true]
  have hp := pow_pos y.toNat
  have hq := pow30 (b := y) (by omega)
  rw [shl_i64 (by omega), Int.one_mul, w64 (n := 2 ^ y.toNat) (by omega) (by omega)]
  have e0 : blocks (x + 1) y = (x + 1 + 2 ^ y.toNat - 1) / 2 ^ y.toNat := if_pos (by omega)
  rw [e0]
  generalize (2 : Int) ^ y.toNat = s at *
  have e := Int.mul_ediv_add_emod (x + 1 + s - 1) s
  have m0 := Int.emod_nonneg (x + 1 + s - 1) (b := s) (by omega)
  have m1 := Int.emod_lt_of_pos (x + 1 + s - 1) hp
  have hd : 0 ≤ (x + 1 + s - 1) / s := Int.ediv_nonneg (by omega) (by omega)
  have hd1 : (x + 1 + s - 1) / s ≤ x + 1 + s - 1 := Int.ediv_le_self _ (by omega)
  generalize (x + 1 + s - 1) / s = q at *
  have e2 : q * s = s * q := Int.mul_comm _ _
  have e3 : (q - 1) * s = s * q - s := by rw [Int.sub_mul, e2]; omega
  rw [w64 (n := q - 1) (by omega) (by omega), e2, e3, w64 (n := s * q) (by omega) (by omega), w64 (n := s * q - s) (by omega) (by omega)]
  exact Ev.ite_pos (by omega) (Ev.fin (by simp; omega))

end Go.Proofs.Ytoiaonbfhcnikaa.Pure
