/- What products of two sizes come to. -/
import Derived.Test.YtoiaonbfhcnikaaLe
namespace Go.Proofs.Ytoiaonbfhcnikaa.Pure
open Go Go.RowKit Go.Proofs.Ytoiaonbfhcnikaa.P Go.Proofs.YtoiaonbfhcnikaaW.PrintWords Go.Proofs.YtoiaonbfhcnikaaW.PrintLast Go.Proofs.YtoiaonbfhcnikaaW.PrintMore Go.Proofs.Ytoiaonbfhcnikaa.U

theorem and32 {x : Int} (h0 : 0 ≤ x) (h1 : x ≤ 18446744073709551615) : Go.bits .and .u64 x 4294967295 = x % 4294967296 := by
  simpa using and_u64 (i := 32) (by omega) h0 h1
theorem mul_bd {a b m n : Int} (ha : 0 ≤ a) (ha' : a ≤ m) (hb : 0 ≤ b) (hb' : b ≤ n) : 0 ≤ a * b ∧ a * b ≤ m * n :=
  ⟨Int.mul_nonneg ha hb, Int.mul_le_mul ha' hb' hb (by omega)⟩
theorem mul64_eq (a b : Int) (ha : 0 ≤ a) (ha' : a ≤ 18446744073709551615) (hb : 0 ≤ b) (hb' : b ≤ 18446744073709551615) :
    bits_Mul64.f a b = some (a * b / 18446744073709551616, a * b % 18446744073709551616) := by
  unfold bits_Mul64.f
  rw [and32 ha ha', and32 hb hb']
  have ea : a = 4294967296 * (a / 4294967296) + a % 4294967296 := by omega
  have eb : b = 4294967296 * (b / 4294967296) + b % 4294967296 := by omega
  have a1 : 0 ≤ a / 4294967296 ∧ a / 4294967296 ≤ 4294967295 := by omega
  have b1 : 0 ≤ b / 4294967296 ∧ b / 4294967296 ≤ 4294967295 := by omega
  have a0 : 0 ≤ a % 4294967296 ∧ a % 4294967296 ≤ 4294967295 := by omega
  have b0 : 0 ≤ b % 4294967296 ∧ b % 4294967296 ≤ 4294967295 := by omega
  generalize a / 4294967296 = x1 at *
  generalize a % 4294967296 = x0 at *
  generalize b / 4294967296 = y1 at *
  generalize b % 4294967296 = y0 at *
  have h11 := mul_bd a1.1 a1.2 b1.1 b1.2
  have h10 := mul_bd a1.1 a1.2 b0.1 b0.2
  have h01 := mul_bd a0.1 a0.2 b1.1 b1.2
  have h00 := mul_bd a0.1 a0.2 b0.1 b0.2
  have e : a * b = 18446744073709551616 * (x1 * y1) + 4294967296 * (x1 * y0) + 4294967296 * (x0 * y1) + x0 * y0 := by
    rw [ea, eb]
    simp only [Int.add_mul, Int.mul_add]
    rw [Int.mul_assoc, Int.mul_left_comm x1, Int.mul_assoc, Int.mul_left_comm x0, ← Int.mul_assoc 4294967296 4294967296]
    omega
  rw [wu64_def (a * b), e]
  generalize x1 * y1 = p at *
  generalize x1 * y0 = q at *
  generalize x0 * y1 = r at *
  generalize x0 * y0 = s at *
  clear e ea eb
  rw [wu64 (n := s) (by omega) (by omega), wu64 (n := q) (by omega) (by omega), wu64 (n := r) (by omega) (by omega), wu64 (n := p) (by omega) (by omega), wu64 (n := q + _) (by omega) (by omega)]
  rw [and32 (by omega) (by omega), wu64 (n := (_ % _) + _) (by omega) (by omega), wu64 (n := p + _) (by omega) (by omega), wu64 (by omega) (by omega)]
  congr 2
  omega

def product (a b m : Int) : Int × Bool := if 0 ≤ a ∧ 0 ≤ b ∧ a * b ≤ m then (a * b, true) else (0, false)
theorem product_bad {a b m : Int} (h : ¬ (0 ≤ a ∧ 0 ≤ b ∧ a * b ≤ m)) : product a b m = (0, false) := if_neg h
theorem product_good {a b m : Int} (h : 0 ≤ a ∧ 0 ≤ b ∧ a * b ≤ m) : product a b m = (a * b, true) := if_pos h
def I64 (a : Int) : Prop := -9223372036854775808 ≤ a ∧ a ≤ 9223372036854775807

theorem le_Product_ev {a b m : Int} (ha : I64 a) (hb : I64 b) (hm : I64 m) : Ev (fun k => le_Product.f k a b m) (product a b m) := by
  unfold I64 at *
  unfold le_Product.f
  have bad : Ev (fun k => le_Product.j0 k a b m true) (0, false) := by
    refine Ev.succ ?_
    simp only [le_Product.j0, if_true]
    exact Ev.now _
  by_cases c1 : a < 0
  · rw [product_bad (by omega)]; exact Ev.ite_pos c1 bad
  refine Ev.ite_neg c1 ?_
  by_cases c2 : b < 0
  · rw [product_bad (by omega)]; simp only [c2, decide_true]; exact bad
  simp only [c2, decide_false]
  refine Ev.succ ?_
  simp only [le_Product.j0]
  refine Ev.ite_neg (by decide) ?_
  rw [wu64 (n := a) (by omega) (by omega), wu64 (n := b) (by omega) (by omega), mul64_eq a b (by omega) (by omega) (by omega) (by omega)]
  simp only [Option.bind_some]
  have hp := Int.mul_nonneg (show 0 ≤ a by omega) (show 0 ≤ b by omega)
  by_cases c3 : 0 ≤ a ∧ 0 ≤ b ∧ a * b ≤ m
  · rw [product_good c3]
    generalize a * b = p at *
    refine Ev.ite_neg (by omega) (Ev.ite_neg (by omega) ?_)
    rw [w64 (by omega) (by omega)]
    exact Ev.ite_neg (by omega) (Ev.fin (by congr 1; omega))
  · rw [product_bad c3]
    generalize a * b = p at *
    by_cases c4 : p / 18446744073709551616 > 0
    · exact Ev.ite_pos c4 (Ev.now _)
    refine Ev.ite_neg c4 ?_
    by_cases c5 : p % 18446744073709551616 > 9223372036854775807
    · exact Ev.ite_pos c5 (Ev.now _)
    refine Ev.ite_neg c5 ?_
    rw [w64 (by omega) (by omega)]
    exact Ev.ite_pos (by omega) (Ev.now _)

theorem ref_Product_ev {a b m : Int} (ha : I64 a) (hb : I64 b) (hm : I64 m) : Ev (fun k => marquetryref01_Product.f k a b m) (product a b m) := by
  unfold I64 at *
  unfold marquetryref01_Product.f
  have bad : Ev (fun k => marquetryref01_Product.j0 k a b m true) (0, false) := by
    refine Ev.succ ?_
    simp only [marquetryref01_Product.j0, if_true]
    exact Ev.now _
  by_cases c1 : a < 0
  · rw [product_bad (by omega)]; exact Ev.ite_pos c1 bad
  refine Ev.ite_neg c1 ?_
  by_cases c2 : b < 0
  · rw [product_bad (by omega)]; exact Ev.ite_pos c2 bad
  refine Ev.ite_neg c2 ?_
  have hp := Int.mul_nonneg (show 0 ≤ a by omega) (show 0 ≤ b by omega)
  by_cases c3 : m < 0
  · rw [product_bad (by omega)]; simp only [c3, decide_true]; exact bad
  simp only [c3, decide_false]
  refine Ev.succ ?_
  simp only [marquetryref01_Product.j0]
  refine Ev.ite_neg (by decide) ?_
  by_cases c4 : a > 0
  · refine Ev.ite_pos c4 (Ev.ite_neg (by omega) ?_)
    have hq : 0 ≤ m / a := Int.ediv_nonneg (by omega) (by omega)
    have hq1 : m / a ≤ m := Int.ediv_le_self _ (by omega)
    rw [Int.tdiv_eq_ediv_of_nonneg (by omega), w64 (n := m / a) (by omega) (by omega)]
    have h := Int.le_ediv_iff_mul_le (a := b) (b := m) c4
    rw [Int.mul_comm] at h
    by_cases c5 : b > m / a
    · rw [product_bad (by omega)]; exact Ev.ite_pos c5 (Ev.now _)
    · have h6 : a * b ≤ m := by omega
      rw [product_good (by omega)]
      exact Ev.ite_neg c5 (Ev.fin (by rw [w64 (by omega) (by omega)]))
  · refine Ev.ite_neg c4 ?_
    obtain rfl : a = 0 := by omega
    rw [product_good (by simp; omega)]
    exact Ev.fin (by rw [w64 (by omega) (by omega)])
theorem product_i64 {a b m : Int} (hm : I64 m) : I64 (product a b m).1 := by
  unfold I64 at *
  by_cases c : 0 ≤ a ∧ 0 ≤ b ∧ a * b ≤ m
  · rw [product_good c]
    have := Int.mul_nonneg c.1 c.2.1
    exact ⟨by simp only; omega, by simp only; omega⟩
  · rw [product_bad c]; decide
end Go.Proofs.Ytoiaonbfhcnikaa.Pure
