/- Forth and back is nothing, and back and forth. -/
import Derived.Test.YtnbocgmlcdcahaaLeanSeq
import Derived.Test.YtnbocgmlcdcahaaPix
namespace Go.Proofs.Ytnbocgmlcdcahaa.Pure
open Go Go.RowKit Go.Proofs.Ytnbocgmlcdcahaa.P Go.Proofs.YtnbocgmlcdcahaaW.PrintWords Go.Proofs.YtnbocgmlcdcahaaW.PrintLast Go.Proofs.YtnbocgmlcdcahaaW.PrintMore Go.Proofs.Ytnbocgmlcdcahaa.U

theorem rd_ext13 {l m : List Int} (hl : l.length = m.length) (h : ∀ j : Nat, j < l.length → rd l (j : Int) = rd m (j : Int)) : l = m := by
  refine List.ext_getElem hl fun j h1 h2 => ?_
  have := h j h1
  unfold rd at this
  rw [Int.toNat_natCast, List.getD_eq_getElem?_getD, List.getD_eq_getElem?_getD, List.getElem?_eq_getElem h1, List.getElem?_eq_getElem h2] at this
  exact this
theorem set_rd13 {m : List Int} {i : Nat} {v : Int} (h : i < m.length) (j : Nat) : rd (m.set i v) (j : Int) = if j = i then v else rd m (j : Int) := by
  unfold rd
  rw [Int.toNat_natCast, List.getD_eq_getElem?_getD, List.getD_eq_getElem?_getD]
  by_cases c : j = i
  · subst c; rw [if_pos rfl, List.getElem?_set_self h]; rfl
  · rw [if_neg c, List.getElem?_set_ne (by omega)]
theorem lean_rd (bk : Bool) (w b : Int) (l p : List Int) (K : Nat) (hK : K ≤ p.length) (j : Nat) : rd (lean13 bk w b l p K) (j : Int) = if j < K then step13 bk w b l p (lean13 bk w b l p j) j else 0 := by
  induction K with
  | zero =>
    rw [if_neg (by omega)]
    unfold rd lean13
    rw [List.getD_eq_getElem?_getD, List.getElem?_replicate]
    split <;> rfl
  | succ K ih =>
    have ih := ih (by omega)
    rw [show lean13 bk w b l p (K + 1) = (lean13 bk w b l p K).set K (step13 bk w b l p (lean13 bk w b l p K) K) from rfl, set_rd13 (by rw [lean13_len]; omega), ih]
    by_cases c : j = K
    · subst c; rw [if_pos rfl, if_pos (by omega)]
    · rw [if_neg c]
      by_cases c2 : j < K
      · rw [if_pos c2, if_pos (by omega)]
      · rw [if_neg c2, if_neg (by omega)]
theorem at12_congr {w m x y : Int} {L p : List Int} (hw : 1 ≤ w) (hx : 0 ≤ x ∧ x < w) (hy : 0 ≤ y) (h : ∀ j : Nat, (j : Int) < y * w + x → rd L (j : Int) = rd p (j : Int)) : at12 w L m x y = at12 w p m x y := by
  have h' : ∀ j : Int, 0 ≤ j → j < y * w + x → rd L j = rd p j := fun j h0 h1 => by
    have := h j.toNat (by omega)
    rwa [Int.toNat_of_nonneg h0] at this
  have y0 : 0 ≤ y * w := Int.mul_nonneg hy (by omega)
  unfold at12
  by_cases c : x = 0 ∧ y = 0
  · rw [if_pos c, if_pos c]
  rw [if_neg c, if_neg c]
  by_cases c1 : y = 0
  · subst c1
    rw [if_pos rfl, if_pos rfl]
    exact h' _ (by omega) (by omega)
  have y1 : 1 * w ≤ y * w := Int.mul_le_mul_of_nonneg_right (by omega) (by omega)
  rw [if_neg c1, if_neg c1]
  by_cases c2 : x = 0
  · rw [if_pos c2, if_pos c2]
    exact h' _ (by omega) (by omega)
  rw [if_neg c2, if_neg c2, h' (y * w + x - 1) (by omega) (by omega), h' (y * w - w + x) (by omega) (by omega), h' (y * w - w + x - 1) (by omega) (by omega)]
  congr 1
  unfold tr12
  by_cases c3 : x = w - 1
  · rw [if_pos c3, if_pos c3]
    exact h' _ (by omega) (by omega)
  · rw [if_neg c3, if_neg c3]
    exact h' _ (by omega) (by omega)
theorem place_eq {w : Int} (_ : 1 ≤ w) (k : Nat) : (k : Int) / w * w + (k : Int) % w = k := by
  have := Int.mul_ediv_add_emod (k : Int) w
  rw [Int.mul_comm] at this
  exact this
theorem back_forth {w h b : Int} {p l : List Int} (hs : sound w h p b l) (hp : U32s p) : lean13 true w b l (lean13 false w b l p p.length) p.length = p := by
  have hg := hs.1
  have key : ∀ K : Nat, K ≤ p.length → ∀ j : Nat, rd (lean13 true w b l (lean13 false w b l p p.length) K) (j : Int) = if j < K then rd p j else 0 := by
    intro K
    induction K with
    | zero =>
      intro hK j
      have := lean_rd true w b l (lean13 false w b l p p.length) 0 (by omega) j
      rw [if_neg (by omega)] at this ⊢
      exact this
    | succ K ih =>
      intro hK j
      have ih := ih (by omega)
      obtain ⟨hx, hy⟩ := place hg (k := K) (by omega)
      rw [show lean13 true w b l (lean13 false w b l p p.length) (K + 1) = (lean13 true w b l (lean13 false w b l p p.length) K).set K (step13 true w b l (lean13 false w b l p p.length) (lean13 true w b l (lean13 false w b l p p.length) K) K) from rfl, set_rd13 (by rw [lean13_len, lean13_len]; omega), ih]
      by_cases c : j = K
      · subst c
        rw [if_pos rfl, if_pos (by omega)]
        unfold step13
        rw [if_pos rfl, lean_rd false w b l p p.length (Nat.le_refl _) j, if_pos (by omega)]
        unfold step13
        rw [if_neg (by decide), at12_congr (L := lean13 true w b l (lean13 false w b l p p.length) j) (p := p) hg.1 hx hy.1 (fun i hi => ?_)]
        · exact sub_add (rd_u32 hp _)
        · rw [place_eq hg.1] at hi
          rw [ih, if_pos (by omega)]
      · rw [if_neg c]
        by_cases c2 : j < K
        · rw [if_pos c2, if_pos (by omega)]
        · rw [if_neg c2, if_neg (by omega)]
  refine rd_ext13 (by rw [lean13_len, lean13_len]) fun j hj => ?_
  rw [lean13_len, lean13_len] at hj
  rw [key p.length (Nat.le_refl _), if_pos hj]
theorem forth_back {w h b : Int} {p l : List Int} (hs : sound w h p b l) (hp : U32s p) : lean13 false w b l (lean13 true w b l p p.length) p.length = p := by
  have hg := hs.1
  refine rd_ext13 (by rw [lean13_len, lean13_len]) fun j hj => ?_
  rw [lean13_len, lean13_len] at hj
  obtain ⟨hx, hy⟩ := place hg (k := j) hj
  rw [lean_rd false w b l _ p.length (by rw [lean13_len]; omega), if_pos hj]
  unfold step13
  rw [if_neg (by decide), lean_rd true w b l p p.length (Nat.le_refl _) j, if_pos hj]
  unfold step13
  rw [if_pos rfl, at12_congr (L := lean13 true w b l p p.length) (p := lean13 true w b l p j) hg.1 hx hy.1 (fun i hi => ?_)]
  · exact add_sub (rd_u32 hp _)
  · rw [place_eq hg.1] at hi
    rw [lean_rd true w b l p p.length (Nat.le_refl _), lean_rd true w b l p j (by omega), if_pos (by omega), if_pos (by omega)]
end Go.Proofs.Ytnbocgmlcdcahaa.Pure
