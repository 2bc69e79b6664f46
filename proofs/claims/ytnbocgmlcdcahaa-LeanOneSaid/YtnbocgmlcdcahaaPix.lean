/- Pixels as four numbers: what the ways of pixels come to. -/
import Derived.Test.YtnbocgmlcdcahaaMpixel
import Derived.Test.YtnbocgmlcdcahaaU
namespace Go.Proofs.Ytnbocgmlcdcahaa.Pure
open Go Go.RowKit Go.Proofs.Ytnbocgmlcdcahaa.P Go.Proofs.YtnbocgmlcdcahaaW.PrintWords Go.Proofs.YtnbocgmlcdcahaaW.PrintLast Go.Proofs.YtnbocgmlcdcahaaW.PrintMore Go.Proofs.Ytnbocgmlcdcahaa.U

theorem u32_wf {p : Int} (h : (Lit.int .u32 p).wf = true) : U32 p := wf_u32 h
theorem u32_join (a b c d : Int) : U32 (join4 a b c d) := by unfold U32 join4; omega
theorem u32_each (F : Int → Int → Int → Int) (p q r : Int) : U32 (each4 F p q r) := u32_join _ _ _ _
theorem pA_join (a b c d : Int) : pA (join4 a b c d) = a % 256 := by unfold pA join4; omega
theorem pR_join (a b c d : Int) : pR (join4 a b c d) = b % 256 := by unfold pR join4; omega
theorem pG_join (a b c d : Int) : pG (join4 a b c d) = c % 256 := by unfold pG join4; omega
theorem pB_join (a b c d : Int) : pB (join4 a b c d) = d % 256 := by unfold pB join4; omega
theorem join_parts {p : Int} (h : U32 p) : join4 (pA p) (pR p) (pG p) (pB p) = p := by unfold U32 at h; unfold join4 pA pR pG pB; omega
theorem join_eq {a b c d a' b' c' d' : Int} (h0 : a % 256 = a' % 256) (h1 : b % 256 = b' % 256) (h2 : c % 256 = c' % 256) (h3 : d % 256 = d' % 256) : join4 a b c d = join4 a' b' c' d' := by unfold join4; omega
theorem parts_ext {p q : Int} (hp : U32 p) (hq : U32 q) (h0 : pA p = pA q) (h1 : pR p = pR q) (h2 : pG p = pG q) (h3 : pB p = pB q) : p = q := by
  rw [← join_parts hp, ← join_parts hq, h0, h1, h2, h3]
section
variable (F : Int → Int → Int → Int) (p q r : Int)
theorem pA_each : pA (each4 F p q r) = F (pA p) (pA q) (pA r) % 256 := pA_join _ _ _ _
theorem pR_each : pR (each4 F p q r) = F (pR p) (pR q) (pR r) % 256 := pR_join _ _ _ _
theorem pG_each : pG (each4 F p q r) = F (pG p) (pG q) (pG r) % 256 := pG_join _ _ _ _
theorem pB_each : pB (each4 F p q r) = F (pB p) (pB q) (pB r) % 256 := pB_join _ _ _ _
end
theorem Add_eq {p q : Int} (hp : U32 p) (hq : U32 q) : pixel_Add.f p q = some (each4 fAdd p q 0) := if_pos ⟨hp, hq⟩
theorem Sub_eq {p q : Int} (hp : U32 p) (hq : U32 q) : pixel_Sub.f p q = some (each4 fSub p q 0) := if_pos ⟨hp, hq⟩
theorem Avg_eq {p q : Int} (hp : U32 p) (hq : U32 q) : pixel_Avg.f p q = some (each4 fAvg p q 0) := if_pos ⟨hp, hq⟩
theorem Half_eq {p q : Int} (hp : U32 p) (hq : U32 q) : pixel_Half.f p q = some (each4 fHalf p q 0) := if_pos ⟨hp, hq⟩
theorem Full_eq {p q r : Int} (hp : U32 p) (hq : U32 q) (hr : U32 r) : pixel_Full.f p q r = some (each4 fFull p q r) := if_pos ⟨hp, hq, hr⟩
theorem add_sub {p q : Int} (hp : U32 p) : each4 fSub (each4 fAdd p q 0) q 0 = p := by
  have h0 := pA_bd hp
  have h1 := pR_bd p
  have h2 := pG_bd p
  have h3 := pB_bd p
  refine parts_ext (u32_each _ _ _ _) hp ?_ ?_ ?_ ?_
  · rw [pA_each, pA_each]; unfold fSub fAdd; omega
  · rw [pR_each, pR_each]; unfold fSub fAdd; omega
  · rw [pG_each, pG_each]; unfold fSub fAdd; omega
  · rw [pB_each, pB_each]; unfold fSub fAdd; omega
theorem sub_add {p q : Int} (hp : U32 p) : each4 fAdd (each4 fSub p q 0) q 0 = p := by
  have h0 := pA_bd hp
  have h1 := pR_bd p
  have h2 := pG_bd p
  have h3 := pB_bd p
  refine parts_ext (u32_each _ _ _ _) hp ?_ ?_ ?_ ?_
  · rw [pA_each, pA_each]; unfold fSub fAdd; omega
  · rw [pR_each, pR_each]; unfold fSub fAdd; omega
  · rw [pG_each, pG_each]; unfold fSub fAdd; omega
  · rw [pB_each, pB_each]; unfold fSub fAdd; omega
theorem add_comm4 (p q : Int) : each4 fAdd p q 0 = each4 fAdd q p 0 := by
  unfold each4 fAdd
  rw [Int.add_comm (pA p), Int.add_comm (pR p), Int.add_comm (pG p), Int.add_comm (pB p)]
theorem avg_self {p : Int} (hp : U32 p) : each4 fAvg p p 0 = p := by
  have h0 := pA_bd hp
  have h1 := pR_bd p
  have h2 := pG_bd p
  have h3 := pB_bd p
  refine parts_ext (u32_each _ _ _ _) hp ?_ ?_ ?_ ?_
  · rw [pA_each]; unfold fAvg; omega
  · rw [pR_each]; unfold fAvg; omega
  · rw [pG_each]; unfold fAvg; omega
  · rw [pB_each]; unfold fAvg; omega

/-- One of the four, kept alone. -/
theorem and_mask (p : Nat) (hp : p < 4294967296) (j : Nat) (hj : j ≤ 3) : Go.bits .and .u32 (p : Int) ((255 * 2 ^ (8 * j) : Nat) : Int) = ((p / 2 ^ (8 * j) % 256 * 2 ^ (8 * j) : Nat) : Int) := by
  have hm : 255 * 2 ^ (8 * j) < 2 ^ 32 := by
    have : 2 ^ (8 * j) ≤ 2 ^ 24 := Nat.pow_le_pow_right (by decide) (by omega)
    omega
  rw [(bits_nat .u32 32 (by decide) (fun n h0 h1 => by rw [IntKind.wrap_u32]; omega) p _ (by omega) hm).1]
  congr 1
  rw [show 255 * 2 ^ (8 * j) = (2 ^ 8 - 1) <<< (8 * j) by rw [Nat.shiftLeft_eq], ← Nat.shiftRight_eq_div_pow, show 256 = 2 ^ 8 by decide, ← Nat.and_two_pow_sub_one_eq_mod, ← Nat.shiftLeft_eq]
  apply Nat.eq_of_testBit_eq
  intro i
  simp only [Nat.testBit_and, Nat.testBit_shiftLeft, Nat.testBit_shiftRight]
  by_cases h : 8 * j ≤ i
  · rw [show 8 * j + (i - 8 * j) = i by omega]
    cases p.testBit i <;> simp [h]
  · simp [h]
theorem and_pB {p : Int} (h : U32 p) : Go.bits .and .u32 p 255 = pB p := px_and255 h.1 h.2
theorem and_any {p : Int} (h : U32 p) (j : Nat) (hj : j ≤ 3) : Go.bits .and .u32 p (255 * 2 ^ (8 * j)) = p / 2 ^ (8 * j) % 256 * 2 ^ (8 * j) := by
  obtain ⟨n, rfl⟩ := Int.eq_ofNat_of_zero_le h.1
  have := and_mask n (by have := h.2; omega) j hj
  simpa using this
theorem and_pG {p : Int} (h : U32 p) : Go.bits .and .u32 p 65280 = pG p * 256 := by have := and_any h 1 (by omega); unfold pG; simpa using this
theorem and_pR {p : Int} (h : U32 p) : Go.bits .and .u32 p 16711680 = pR p * 65536 := by have := and_any h 2 (by omega); unfold pR; simpa using this
theorem and_pA {p : Int} (h : U32 p) : Go.bits .and .u32 p 4278190080 = pA p * 16777216 := by
  have := and_any h 3 (by omega)
  have h2 := pA_bd h
  unfold pA at h2
  have h3 : p / 16777216 % 256 = p / 16777216 := by omega
  simp only [Nat.reduceMul, Int.reducePow, Int.reduceMul] at this
  rw [h3] at this
  exact this
end Go.Proofs.Ytnbocgmlcdcahaa.Pure
