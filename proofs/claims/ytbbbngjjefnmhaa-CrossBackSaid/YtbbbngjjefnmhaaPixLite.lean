/- A pixel's four parts, joined and parted, and what is kept of them. -/
import Derived.Test.YtbbbngjjefnmhaaPx
import Derived.Test.YtbbbngjjefnmhaaU
namespace Go.Proofs.Ytbbbngjjefnmhaa.Pure
open Go Go.RowKit Go.Proofs.Ytbbbngjjefnmhaa.P Go.Proofs.YtbbbngjjefnmhaaW.PrintWords Go.Proofs.YtbbbngjjefnmhaaW.PrintLast Go.Proofs.YtbbbngjjefnmhaaW.PrintMore Go.Proofs.Ytbbbngjjefnmhaa.U

def join4 (a b c d : Int) : Int := ((a % 256 * 256 + b % 256) * 256 + c % 256) * 256 + d % 256
def pA (p : Int) : Int := p / 16777216
def pR (p : Int) : Int := p / 65536 % 256
def pG (p : Int) : Int := p / 256 % 256
def pB (p : Int) : Int := p % 256
def U32 (p : Int) : Prop := 0 ≤ p ∧ p ≤ 4294967295
theorem pA_bd {p : Int} (h : U32 p) : 0 ≤ pA p ∧ pA p ≤ 255 := by unfold U32 at h; unfold pA; omega
theorem pR_bd (p : Int) : 0 ≤ pR p ∧ pR p ≤ 255 := by unfold pR; omega
theorem pG_bd (p : Int) : 0 ≤ pG p ∧ pG p ≤ 255 := by unfold pG; omega
theorem pB_bd (p : Int) : 0 ≤ pB p ∧ pB p ≤ 255 := by unfold pB; omega
theorem u32_join (a b c d : Int) : U32 (join4 a b c d) := by unfold U32 join4; omega
theorem pA_join (a b c d : Int) : pA (join4 a b c d) = a % 256 := by unfold pA join4; omega
theorem pR_join (a b c d : Int) : pR (join4 a b c d) = b % 256 := by unfold pR join4; omega
theorem pG_join (a b c d : Int) : pG (join4 a b c d) = c % 256 := by unfold pG join4; omega
theorem pB_join (a b c d : Int) : pB (join4 a b c d) = d % 256 := by unfold pB join4; omega
theorem join_parts {p : Int} (h : U32 p) : join4 (pA p) (pR p) (pG p) (pB p) = p := by unfold U32 at h; unfold join4 pA pR pG pB; omega
theorem join_eq {a b c d a' b' c' d' : Int} (h0 : a % 256 = a' % 256) (h1 : b % 256 = b' % 256) (h2 : c % 256 = c' % 256) (h3 : d % 256 = d' % 256) : join4 a b c d = join4 a' b' c' d' := by unfold join4; omega
theorem parts_ext {p q : Int} (hp : U32 p) (hq : U32 q) (h0 : pA p = pA q) (h1 : pR p = pR q) (h2 : pG p = pG q) (h3 : pB p = pB q) : p = q := by
  rw [← join_parts hp, ← join_parts hq, h0, h1, h2, h3]
def U32s (l : List Int) : Prop := ∀ x ∈ l, U32 x
theorem u32s_of {l : List Int} (h : ∀ y ∈ l, (Lit.int .u32 y).wf = true) : U32s l := fun x hx => wf_u32 (h x hx)
theorem rd_u32 {l : List Int} (hl : U32s l) (i : Int) : U32 (rd l i) := by
  unfold rd
  rw [List.getD_eq_getElem?_getD]
  by_cases h : i.toNat < l.length
  · rw [List.getElem?_eq_getElem h]; exact hl _ (List.getElem_mem _)
  · rw [List.getElem?_eq_none (by omega)]; show U32 0; unfold U32; omega
theorem and_nat (p j : Nat) : p &&& (255 * 2 ^ (8 * j)) = p / 2 ^ (8 * j) % 256 * 2 ^ (8 * j) := by
  rw [show 255 * 2 ^ (8 * j) = (2 ^ 8 - 1) <<< (8 * j) by rw [Nat.shiftLeft_eq], ← Nat.shiftRight_eq_div_pow, show 256 = 2 ^ 8 by decide, ← Nat.and_two_pow_sub_one_eq_mod, ← Nat.shiftLeft_eq]
  apply Nat.eq_of_testBit_eq
  intro i
  simp only [Nat.testBit_and, Nat.testBit_shiftLeft, Nat.testBit_shiftRight]
  by_cases h : 8 * j ≤ i
  · rw [show 8 * j + (i - 8 * j) = i by omega]
    cases p.testBit i <;> simp [h]
  · simp [h]
theorem xor_nat (a b : Nat) (ha : a < 4294967296) (hb : b < 4294967296) : Go.bits .xor .u32 (a : Int) (b : Int) = ((a ^^^ b : Nat) : Int) := by
  have ha' : a % 2 ^ IntKind.u32.bits = a := Nat.mod_eq_of_lt ha
  have hb' : b % 2 ^ IntKind.u32.bits = b := Nat.mod_eq_of_lt hb
  have lt : a ^^^ b < 2 ^ 32 := Nat.xor_lt_two_pow (by omega) (by omega)
  simp only [Go.bits, BitVec.ofInt_natCast, BitVec.toNat_xor, BitVec.toNat_ofNat, ha', hb']
  rw [IntKind.wrap_u32]; omega
theorem and32_nat (a b : Nat) (ha : a < 4294967296) (hb : b < 4294967296) : Go.bits .and .u32 (a : Int) (b : Int) = ((a &&& b : Nat) : Int) :=
  (bits_nat .u32 32 (by decide) (fun n h0 h1 => by rw [IntKind.wrap_u32]; omega) a b (by omega) (by omega)).1
/-- Alpha and green as they were. -/
theorem stays {x y : Int} (hx : U32 x) (hy : U32 y) (ha : pA x = pA y) (hg : pG x = pG y) : Go.bits .and .u32 (Go.bits .xor .u32 x y) 4278255360 = 0 := by
  obtain ⟨n, rfl⟩ := Int.eq_ofNat_of_zero_le hx.1
  obtain ⟨m, rfl⟩ := Int.eq_ofNat_of_zero_le hy.1
  have h1 := hx.2
  have h2 := hy.2
  have lt : n ^^^ m < 2 ^ 32 := Nat.xor_lt_two_pow (by omega) (by omega)
  rw [xor_nat n m (by omega) (by omega), show (4278255360 : Int) = ((4278255360 : Nat) : Int) by rfl, and32_nat _ _ (by omega) (by decide)]
  have e3n := and_nat n 3
  have e3m := and_nat m 3
  have e1n := and_nat n 1
  have e1m := and_nat m 1
  rw [Nat.and_xor_distrib_right, show (4278255360 : Nat) = (255 * 2 ^ (8 * 3)) ||| (255 * 2 ^ (8 * 1)) by decide, Nat.and_or_distrib_left, Nat.and_or_distrib_left, e3n, e3m, e1n, e1m]
  have q3 : n / 2 ^ (8 * 3) % 256 = m / 2 ^ (8 * 3) % 256 := by unfold pA at ha; simp; omega
  have q1 : n / 2 ^ (8 * 1) % 256 = m / 2 ^ (8 * 1) % 256 := by unfold pG at hg; simp; omega
  rw [q3, q1, Nat.xor_self]; rfl
/-- Alpha and blue alone. -/
theorem and_ends {x : Int} (hx : U32 x) : Go.bits .and .u32 x 4278190335 = join4 (pA x) 0 0 (pB x) := by
  obtain ⟨n, rfl⟩ := Int.eq_ofNat_of_zero_le hx.1
  have h1 := hx.2
  have e3n := and_nat n 3
  have e0n := and_nat n 0
  rw [show (4278190335 : Int) = ((4278190335 : Nat) : Int) by rfl, and32_nat _ _ (by omega) (by decide)]
  rw [show (4278190335 : Nat) = (255 * 2 ^ (8 * 3)) ||| (255 * 2 ^ (8 * 0)) by decide, Nat.and_or_distrib_left, e3n, e0n]
  rw [show n / 2 ^ (8 * 3) % 256 * 2 ^ (8 * 3) = 2 ^ 24 * (n / 16777216 % 256) by simp; omega, show n / 2 ^ (8 * 0) % 256 * 2 ^ (8 * 0) = n % 256 by simp]
  rw [← Nat.two_pow_add_eq_or_of_lt (by omega : n % 256 < 2 ^ 24)]
  unfold join4 pA pB
  simp
  omega
end Go.Proofs.Ytbbbngjjefnmhaa.Pure
