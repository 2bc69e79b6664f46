/- A picture of one colour. -/
import Derived.Test.YtnbocgmlcdcahaaLeanInv
namespace Go.Proofs.Ytnbocgmlcdcahaa.Pure
open Go Go.RowKit Go.Proofs.Ytnbocgmlcdcahaa.P Go.Proofs.YtnbocgmlcdcahaaW.PrintWords Go.Proofs.YtnbocgmlcdcahaaW.PrintLast Go.Proofs.YtnbocgmlcdcahaaW.PrintMore Go.Proofs.Ytnbocgmlcdcahaa.U

theorem cut_in {x : Int} (h : 0 ≤ x ∧ x ≤ 255) : cut255 x = x := by
  unfold cut255 mn mx
  repeat' split
  all_goals omega
theorem half1 {x : Int} (h : 0 ≤ x ∧ x ≤ 255) : fHalf x x (0 : Int) % 256 = x := by
  unfold fHalf
  rw [Int.sub_self, Int.zero_tdiv, Int.add_zero, cut_in h]
  omega
theorem full1 {x : Int} (h : 0 ≤ x ∧ x ≤ 255) : fFull x x x % 256 = x := by
  unfold fFull
  rw [show x + x - x = x by omega, cut_in h]
  omega
theorem half_self {p : Int} (hp : U32 p) : each4 fHalf p p 0 = p := by
  have h0 := pA_bd hp
  have h1 := pR_bd p
  have h2 := pG_bd p
  have h3 := pB_bd p
  refine parts_ext (u32_each _ _ _ _) hp ?_ ?_ ?_ ?_
  · rw [pA_each]; exact half1 h0
  · rw [pR_each]; exact half1 h1
  · rw [pG_each]; exact half1 h2
  · rw [pB_each]; exact half1 h3
theorem full_self {p : Int} (hp : U32 p) : each4 fFull p p p = p := by
  have h0 := pA_bd hp
  have h1 := pR_bd p
  have h2 := pG_bd p
  have h3 := pB_bd p
  refine parts_ext (u32_each _ _ _ _) hp ?_ ?_ ?_ ?_
  · rw [pA_each]; exact full1 h0
  · rw [pR_each]; exact full1 h1
  · rw [pG_each]; exact full1 h2
  · rw [pB_each]; exact full1 h3
theorem sub_self4 (p : Int) : each4 fSub p p 0 = 0 := by
  unfold each4 fSub join4
  simp
theorem pick_self (p : Int) : pick4 p p p = p := by unfold pick4; split <;> rfl
theorem guess_self {p m : Int} (hp : U32 p) (h0 : 1 ≤ m) (h1 : m ≤ 13) : guess m p p p p = p := by
  have hm : m = 1 ∨ m = 2 ∨ m = 3 ∨ m = 4 ∨ m = 5 ∨ m = 6 ∨ m = 7 ∨ m = 8 ∨ m = 9 ∨ m = 10 ∨ m = 11 ∨ m = 12 ∨ m = 13 := by omega
  unfold guess
  rcases hm with rfl | rfl | rfl | rfl | rfl | rfl | rfl | rfl | rfl | rfl | rfl | rfl | rfl <;> simp [avg_self hp, half_self hp, full_self hp, pick_self]
theorem rd_rep {n : Nat} {p i : Int} (h0 : 0 ≤ i) (h1 : i < n) : rd (List.replicate n p) i = p := by
  unfold rd
  rw [List.getD_eq_getElem?_getD, List.getElem?_replicate, if_pos (by omega)]
  rfl
theorem at12_flat {w m x y p : Int} {n : Nat} (hp : U32 p) (h0 : 1 ≤ m) (h1 : m ≤ 13) (hw : 1 ≤ w) (hx : 0 ≤ x ∧ x < w) (hy : 0 ≤ y) (hn : y * w + x < n) (hxy : ¬ (x = 0 ∧ y = 0)) : at12 w (List.replicate n p) m x y = p := by
  have y0 : 0 ≤ y * w := Int.mul_nonneg hy (by omega)
  unfold at12
  rw [if_neg hxy]
  by_cases c1 : y = 0
  · subst c1
    rw [if_pos rfl]
    exact rd_rep (by omega) (by omega)
  have y1 : 1 * w ≤ y * w := Int.mul_le_mul_of_nonneg_right (by omega) (by omega)
  rw [if_neg c1]
  by_cases c2 : x = 0
  · rw [if_pos c2]
    exact rd_rep (by omega) (by omega)
  rw [if_neg c2, rd_rep (i := y * w + x - 1) (by omega) (by omega), rd_rep (i := y * w - w + x) (by omega) (by omega), rd_rep (i := y * w - w + x - 1) (by omega) (by omega)]
  have : tr12 w (List.replicate n p) x y = p := by
    unfold tr12
    split <;> exact rd_rep (by omega) (by omega)
  rw [this]
  exact guess_self hp h0 h1
/-- What Forth makes of it. -/
theorem flat_rd {w h b p mm : Int} {n n2 : Nat} (hs : sound w h (List.replicate n p) b (List.replicate n2 mm)) (hp : U32 p) (h0 : 1 ≤ mm) (h1 : mm ≤ 13) (j : Nat) (hj : j < n) :
    rd (lean13 false w b (List.replicate n2 mm) (List.replicate n p) n) (j : Int) = if j = 0 then each4 fSub p 4278190080 0 else 0 := by
  have hg := hs.1
  have hl : (List.replicate n p).length = n := List.length_replicate
  obtain ⟨hx, hy⟩ := place hg (k := j) (by omega)
  have := lean_rd false w b (List.replicate n2 mm) (List.replicate n p) n (by omega) j
  rw [this, if_pos hj]
  unfold step13
  rw [if_neg (by decide), rd_rep (by omega) (by omega)]
  by_cases c : j = 0
  · subst c
    rw [if_pos rfl]
    congr 1
    unfold at12
    rw [if_pos ⟨by simp, by simp⟩]
  · rw [if_neg c]
    have pe := place_eq hg.1 j
    have hm : mo w b (List.replicate n2 mm) ((j : Int) % w) ((j : Int) / w) = mm := by
      obtain ⟨⟨w0, w1, k0, k1, e⟩, b0, b1, hn, _⟩ := hs
      obtain ⟨c0, c1, c2, c3, c4⟩ := block_in w0 w1 k0 k1 b0 b1 hx hy
      rw [List.length_replicate] at hn
      exact rd_rep c0 (by omega)
    rw [hm, at12_flat hp h0 h1 hg.1 hx hy.1 (by omega) (fun hz => by rw [hz.1, hz.2, Int.zero_mul] at pe; omega)]
    exact sub_self4 p
theorem flat_sound {w h b p mm : Int} {n n2 : Nat} (w0 : 1 ≤ w ∧ w ≤ 16384) (k0 : 1 ≤ h ∧ h ≤ 16384) (hn : (n : Int) = w * h) (b0 : 2 ≤ b) (b1 : b ≤ 9) (hn2 : (n2 : Int) = blocks w b * blocks h b) (h0 : 0 ≤ mm) (h1 : mm ≤ 15) : sound w h (List.replicate n p) b (List.replicate n2 mm) :=
  ⟨⟨w0.1, w0.2, k0.1, k0.2, by rw [List.length_replicate]; exact hn⟩, b0, b1, by rw [List.length_replicate]; exact hn2, fun m hm => by rw [(List.mem_replicate.1 hm).2]; exact ⟨h0, h1⟩⟩
theorem u32s_rep {n : Nat} {p : Int} (hp : U32 p) : U32s (List.replicate n p) := fun x hx => by rw [(List.mem_replicate.1 hx).2]; exact hp
end Go.Proofs.Ytnbocgmlcdcahaa.Pure
