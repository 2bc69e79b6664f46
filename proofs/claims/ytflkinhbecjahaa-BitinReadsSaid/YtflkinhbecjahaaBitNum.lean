/- Bits of bytes as numbers: plain arithmetic. -/
import Derived.Test.YtflkinhbecjahaaU
namespace Go.Proofs.Ytflkinhbecjahaa.Pure
open Go Go.RowKit Go.Proofs.YtflkinhbecjahaaW.PrintWords Go.Proofs.YtflkinhbecjahaaW.PrintLast Go.Proofs.Ytflkinhbecjahaa.U

/-- The i-th bit of some bytes. -/
def bitAt (b : List Int) (i : Nat) : Int := rd b ((i / 8 : Nat) : Int) / 2 ^ (i % 8) % 2
/-- The number of n bits from place p on. -/
def numAt (b : List Int) (p : Nat) : Nat → Int
  | 0 => 0
  | n + 1 => numAt b p n + bitAt b (p + n) * 2 ^ n
theorem bitAt_bd (b : List Int) (i : Nat) : 0 ≤ bitAt b i ∧ bitAt b i ≤ 1 := by unfold bitAt; omega
theorem numAt_bd (b : List Int) (p n : Nat) : 0 ≤ numAt b p n ∧ numAt b p n < 2 ^ n := by
  induction n with
  | zero => simp [numAt]
  | succ n ih =>
    have h := bitAt_bd b (p + n)
    have hp := pow_pos n
    rw [numAt, Int.pow_succ]
    rcases (by omega : bitAt b (p + n) = 0 ∨ bitAt b (p + n) = 1) with e | e <;> rw [e] <;> omega
theorem numAt_add (b : List Int) (p n m : Nat) : numAt b p (n + m) = numAt b p n + 2 ^ n * numAt b (p + n) m := by
  induction m with
  | zero => simp [numAt]
  | succ m ih =>
    rw [← Nat.add_assoc, numAt, ih, numAt, Int.mul_add, pow_add, Nat.add_assoc p n m]
    have : bitAt b (p + (n + m)) * (2 ^ n * 2 ^ m) = 2 ^ n * (bitAt b (p + (n + m)) * 2 ^ m) := by
      rw [← Int.mul_assoc, ← Int.mul_assoc, Int.mul_comm (bitAt b (p + (n + m))) (2 ^ n)]
    omega
theorem numAt_mod (b : List Int) (p n e : Nat) (h : n ≤ e) : numAt b p e % 2 ^ n = numAt b p n := by
  obtain ⟨m, rfl⟩ := Nat.exists_eq_add_of_le h
  have hb := numAt_bd b p n
  rw [numAt_add, Int.add_mul_emod_self_left]
  exact Int.emod_eq_of_lt hb.1 hb.2
/-- The bits of a byte from one on. -/
theorem numAt_byte (b : List Int) (p j : Nat) (hj : p % 8 + j ≤ 8) : numAt b p j = rd b ((p / 8 : Nat) : Int) / 2 ^ (p % 8) % 2 ^ j := by
  induction j with
  | zero => simp [numAt, Int.emod_one]
  | succ j ih =>
    rw [numAt, ih (by omega)]
    have e1 : (p + j) / 8 = p / 8 := by omega
    have e2 : (p + j) % 8 = p % 8 + j := by omega
    unfold bitAt
    rw [e1, e2]
    generalize rd b ((p / 8 : Nat) : Int) = x
    have hp := pow_pos (p % 8)
    rw [pow_add, ← Int.ediv_ediv_of_nonneg (by omega)]
    generalize x / 2 ^ (p % 8) = y
    have hq := pow_pos j
    rw [Int.pow_succ]
    generalize (2 : Int) ^ j = m at *
    have e1 := Int.mul_ediv_add_emod y m
    have e2 := Int.mul_ediv_add_emod (y / m) 2
    have r0 := Int.emod_nonneg y (b := m) (by omega)
    have r1 := Int.emod_lt_of_pos y hq
    have q0 : y / m % 2 = 0 ∨ y / m % 2 = 1 := by omega
    have e3 : y = (y % m + y / m % 2 * m) + m * 2 * (y / m / 2) := by
      have e4 : m * (y / m) = m * 2 * (y / m / 2) + y / m % 2 * m := by
        conv => lhs; rw [← e2]
        rw [Int.mul_add, Int.mul_assoc, Int.mul_comm m (y / m % 2)]
      omega
    have e5 : y % (m * 2) = ((y % m + y / m % 2 * m) + m * 2 * (y / m / 2)) % (m * 2) := congrArg (· % (m * 2)) e3
    have e6 : (y % m + y / m % 2 * m) % (m * 2) = y % m + y / m % 2 * m := by
      refine Int.emod_eq_of_lt ?_ ?_
      · rcases q0 with e | e <;> rw [e] <;> omega
      · rcases q0 with e | e <;> rw [e] <;> omega
    rw [e5, Int.add_mul_emod_self_left, e6]
theorem numAt_rest (b : List Int) (p : Nat) (hb : ∀ y ∈ b, 0 ≤ y ∧ y ≤ 255) (hl : p < 8 * b.length) : numAt b p (8 - p % 8) = rd b ((p / 8 : Nat) : Int) / 2 ^ (p % 8) := by
  rw [numAt_byte b p _ (by omega)]
  have hm : rd b ((p / 8 : Nat) : Int) ∈ b := by
    have : p / 8 < b.length := by omega
    show b.getD (((p / 8 : Nat) : Int)).toNat 0 ∈ b
    rw [Int.toNat_natCast, List.getD_eq_getElem?_getD, List.getElem?_eq_getElem this]
    exact List.getElem_mem _
  have h := hb _ hm
  generalize rd b ((p / 8 : Nat) : Int) = x at *
  have hp := pow_pos (p % 8)
  have hq := pow_pos (8 - p % 8)
  have h8 : (2 : Int) ^ (p % 8) * 2 ^ (8 - p % 8) = 256 := by
    rw [← pow_add, show p % 8 + (8 - p % 8) = 8 by omega]
    rfl
  refine Int.emod_eq_of_lt (Int.ediv_nonneg (by omega) (by omega)) ?_
  rw [Int.ediv_lt_iff_lt_mul hp, Int.mul_comm, h8]
  omega
/-- One byte more, laid above what there is. -/
theorem or_byte (b : List Int) (p k : Nat) (hb : ∀ y ∈ b, 0 ≤ y ∧ y ≤ 255) (hl : p + k < 8 * b.length) (hk : k ≤ 32) :
    Go.bits .or .u64 (numAt b p k) (IntKind.u64.wrap (rd b (((p + k) / 8 : Nat) : Int) / 2 ^ ((p + k) % 8) * 2 ^ k)) = numAt b p (k + (8 - (p + k) % 8)) := by
  have h := numAt_bd b p k
  have hr := numAt_bd b (p + k) (8 - (p + k) % 8)
  rw [← numAt_rest b (p + k) hb hl, numAt_add]
  have h256 : (2 : Int) ^ (8 - (p + k) % 8) ≤ 2 ^ 8 := pow_le (by omega)
  have h32 : (2 : Int) ^ k ≤ 2 ^ 32 := pow_le hk
  have hp := pow_pos k
  generalize numAt b (p + k) (8 - (p + k) % 8) = x at *
  have hx : x ≤ 255 := by omega
  have hmul : x * 2 ^ k ≤ 255 * 2 ^ k := Int.mul_le_mul_of_nonneg_right hx (by omega)
  have hmul0 : 0 ≤ x * 2 ^ k := Int.mul_nonneg hr.1 (by omega)
  rw [wu64 hmul0 (by omega), or_u64 (i := k) (by omega) h.1 h.2 hmul0 (by simp) (by omega), Int.mul_comm]
end Go.Proofs.Ytflkinhbecjahaa.Pure
