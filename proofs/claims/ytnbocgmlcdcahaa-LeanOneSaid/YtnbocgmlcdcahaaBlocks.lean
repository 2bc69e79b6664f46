/- How many blocks cover a size. -/
import Derived.Test.YtnbocgmlcdcahaaPx
import Derived.Test.YtnbocgmlcdcahaaU
namespace Go.Proofs.Ytnbocgmlcdcahaa.Pure
open Go Go.RowKit Go.Proofs.Ytnbocgmlcdcahaa.P Go.Proofs.YtnbocgmlcdcahaaW.PrintWords Go.Proofs.YtnbocgmlcdcahaaW.PrintLast Go.Proofs.YtnbocgmlcdcahaaW.PrintMore Go.Proofs.Ytnbocgmlcdcahaa.U

/-! ### Blocks -/
def blocks (n b : Int) : Int := if 0 ≤ n ∧ n ≤ 16777216 ∧ 0 ≤ b ∧ b ≤ 30 then (n + 2 ^ b.toNat - 1) / 2 ^ b.toNat else 0

theorem pow30 {b : Int} (h : b ≤ 30) : (2 : Int) ^ b.toNat ≤ 1073741824 := by
  have := pow_le (a := b.toNat) (b := 30) (by omega)
  simpa using this

theorem le_Blocks_eq (n b : Int) : le_Blocks.f n b = some (blocks n b) := by
  unfold le_Blocks.f blocks
  by_cases h1 : n < 0
  · rw [if_pos h1, if_neg (by omega)]
  rw [if_neg h1]
  by_cases h2 : n > 16777216
  · rw [if_pos h2, if_neg (by omega)]
  rw [if_neg h2]
  by_cases h3 : b < 0
  · rw [if_pos h3, if_neg (by omega)]
  rw [if_neg h3]
  by_cases h4 : b > 30
  · rw [if_pos h4, if_neg (by omega)]
  rw [if_neg h4, if_pos (by omega), if_pos (by omega)]
  have hp := pow_pos b.toNat
  have hq := pow30 (b := b) (by omega)
  rw [shl_i64 (by omega), shr_any (by simp [IntKind.bits]; omega), Int.one_mul, w64 (n := 2 ^ b.toNat) (by omega) (by omega), w64 (n := n + _) (by omega) (by omega), w64 (by omega) (by omega)]

theorem ref_Blocks_loop (n b : Int) (hn : 0 ≤ n) (hn' : n ≤ 16777216) (hb : b ≤ 30) (d : Nat) : ∀ i : Int, 0 ≤ i → i ≤ b → b - i = d →
    Ev (fun k => marquetryref01_Blocks.l0 k n b (2 ^ i.toNat) i) ((n + 2 ^ b.toNat - 1) / 2 ^ b.toNat) := by
  induction d with
  | zero =>
    intro i h0 h1 hd
    obtain rfl : i = b := by omega
    refine Ev.succ ?_
    simp only [marquetryref01_Blocks.l0]
    have hp := pow_pos i.toNat
    have hq := pow30 hb
    refine Ev.ite_neg (by omega) (Ev.ite_neg (by omega) ?_)
    rw [Int.tmod_eq_emod_of_nonneg hn, Int.tdiv_eq_ediv_of_nonneg hn]
    generalize (2 : Int) ^ i.toNat = s at *
    have hd1 : 0 ≤ n / s := Int.ediv_nonneg hn (by omega)
    have hd2 : n / s ≤ n := Int.ediv_le_self _ hn
    have e := Int.mul_ediv_add_emod n s
    have m0 := Int.emod_nonneg n (b := s) (by omega)
    have m1 := Int.emod_lt_of_pos n hp
    by_cases hz : n % s = 0
    · refine Ev.ite_pos hz (Ev.fin ?_)
      rw [w64 (by omega) (by omega)]
      symm
      rw [show n + s - 1 = (s - 1) + s * (n / s) by omega, Int.add_mul_ediv_left _ _ (by omega), Int.ediv_eq_zero_of_lt (by omega) (by omega)]
      omega
    · refine Ev.ite_neg hz (Ev.fin ?_)
      rw [w64 (n := n / s) (by omega) (by omega), w64 (by omega) (by omega)]
      symm
      rw [show n + s - 1 = (n % s - 1) + s * (n / s + 1) by rw [Int.mul_add]; omega, Int.add_mul_ediv_left _ _ (by omega), Int.ediv_eq_zero_of_lt (by omega) (by omega)]
      omega
  | succ d ih =>
    intro i h0 h1 hd
    refine Ev.succ ?_
    simp only [marquetryref01_Blocks.l0]
    refine Ev.ite_pos (by omega) ?_
    have hq := pow30 (b := i + 1) (by omega)
    have hp := pow_pos i.toNat
    have e : (2 : Int) ^ (i + 1).toNat = 2 ^ i.toNat * 2 := by
      rw [show (i + 1).toNat = i.toNat + 1 by omega, Int.pow_succ]
    rw [w64 (n := 2 ^ i.toNat * 2) (by omega) (by omega), ← e, w64 (by omega) (by omega)]
    exact ih (i + 1) (by omega) (by omega) (by omega)

theorem ref_Blocks_ev (n b : Int) : Ev (fun k => marquetryref01_Blocks.f k n b) (blocks n b) := by
  unfold marquetryref01_Blocks.f blocks
  have bad : Ev (fun k => marquetryref01_Blocks.j0 k n b true) 0 := by
    refine Ev.succ ?_
    simp only [marquetryref01_Blocks.j0]
    simp only [if_true]
    exact Ev.now _
  by_cases h1 : n < 0
  · rw [if_neg (by omega)]; exact Ev.ite_pos h1 bad
  refine Ev.ite_neg h1 ?_
  by_cases h2 : n > 16777216
  · rw [if_neg (by omega)]; exact Ev.ite_pos h2 bad
  refine Ev.ite_neg h2 ?_
  by_cases h3 : b < 0
  · rw [if_neg (by omega)]; exact Ev.ite_pos h3 bad
  refine Ev.ite_neg h3 ?_
  by_cases h4 : b > 30
  · rw [if_neg (by omega)]; simp only [h4, decide_true]; exact bad
  rw [if_pos (by omega)]
  simp only [h4, decide_false]
  refine Ev.succ ?_
  simp only [marquetryref01_Blocks.j0]
  refine Ev.ite_neg (by decide) ?_
  exact ref_Blocks_loop n b (by omega) (by omega) (by omega) b.toNat 0 (by omega) (by omega) (by omega)


/-- Within an image's sizes. -/
theorem blocks_in {n b : Int} (h0 : 1 ≤ n) (h1 : n ≤ 16384) (b0 : 2 ≤ b) (b1 : b ≤ 9) : 1 ≤ blocks n b ∧ blocks n b ≤ 16384 ∧ ∀ x, 0 ≤ x → x < n → 0 ≤ x / 2 ^ b.toNat ∧ x / 2 ^ b.toNat < blocks n b := by
  unfold blocks
  rw [if_pos (by omega)]
  have hb : b = 2 ∨ b = 3 ∨ b = 4 ∨ b = 5 ∨ b = 6 ∨ b = 7 ∨ b = 8 ∨ b = 9 := by omega
  rcases hb with rfl | rfl | rfl | rfl | rfl | rfl | rfl | rfl <;> simp <;> (refine ⟨?_, ?_, ?_⟩) <;> (try intro x hx hn) <;> omega
/-- A pixel's block is one of them. -/
theorem block_in {w h b x y : Int} (w0 : 1 ≤ w) (w1 : w ≤ 16384) (h0 : 1 ≤ h) (h1 : h ≤ 16384) (b0 : 2 ≤ b) (b1 : b ≤ 9) (hx : 0 ≤ x ∧ x < w) (hy : 0 ≤ y ∧ y < h) :
    0 ≤ y / 2 ^ b.toNat * blocks w b + x / 2 ^ b.toNat ∧ y / 2 ^ b.toNat * blocks w b + x / 2 ^ b.toNat < blocks w b * blocks h b ∧ blocks w b * blocks h b ≤ 268435456 ∧ 0 ≤ y / 2 ^ b.toNat * blocks w b ∧ y / 2 ^ b.toNat * blocks w b ≤ 268435456 := by
  obtain ⟨p0, p1, p2⟩ := blocks_in w0 w1 b0 b1
  obtain ⟨q0, q1, q2⟩ := blocks_in h0 h1 b0 b1
  obtain ⟨x0, x1⟩ := p2 x hx.1 hx.2
  obtain ⟨y0, y1⟩ := q2 y hy.1 hy.2
  generalize blocks w b = B at *
  generalize blocks h b = H at *
  generalize x / 2 ^ b.toNat = X at *
  generalize y / 2 ^ b.toNat = Y at *
  have a0 : 0 ≤ Y * B := Int.mul_nonneg y0 (by omega)
  have a1 : (Y + 1) * B ≤ H * B := Int.mul_le_mul_of_nonneg_right (by omega) (by omega)
  have a2 : B * H ≤ 16384 * 16384 := Int.mul_le_mul p1 q1 (by omega) (by omega)
  rw [Int.add_mul, Int.one_mul, Int.mul_comm H B] at a1
  omega
end Go.Proofs.Ytnbocgmlcdcahaa.Pure
