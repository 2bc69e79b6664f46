/- A part that goes leaves nothing when the next one has come: pixel by pixel. -/
import Derived.Test.YtegifkffhnhccaaCanvasLaw
namespace Go.Proofs.Ytegifkffhnhccaa.P
open Go Go.RowKit Go.Proofs.YtegifkffhnhccaaW.PrintWords Go.Proofs.YtegifkffhnhccaaW.PrintLast Go.Proofs.YtegifkffhnhccaaW.PrintMore
set_option linter.unusedVariables false
set_option linter.unusedSimpArgs false
theorem rd_eq_replicate {l : List Int} {n : Nat} {p : Int} (h1 : l.length = n) (h2 : ∀ i : Nat, i < n → rd l i = p) : l = List.replicate n p := by
  apply List.ext_getElem
  · simp [h1]
  · intro i a b
    have := h2 i (by omega)
    rw [rd_nat' a] at this
    rw [this, List.getElem_replicate]
def fullP (x y p : Int) : S47 := ⟨0, 0, true, true, ⟨x, y, List.replicate (x * y).toNat p⟩⟩
def dotP (q : Int) : S47 := ⟨0, 0, true, false, ⟨1, 1, [q]⟩⟩
def allP (l : List S47) (x y p q : Int) : List S47 := l ++ [fullP x y p, dotP q]
section
variable {l : List S47} {x y p q : Int}
theorem allP_len : (allP l x y p q).length = l.length + 2 := by simp [allP]
theorem rd_all (i : Nat) (h : i < l.length) : rd_T47 (allP l x y p q) i = rd_T47 l i := by
  simp [rd_T47, allP, List.getD_eq_getElem?_getD, List.getElem?_append, h]
theorem rd_full : rd_T47 (allP l x y p q) (l.length : Nat) = fullP x y p := by
  simp [rd_T47, allP, List.getD_eq_getElem?_getD, List.getElem?_append]
theorem rd_dot : rd_T47 (allP l x y p q) ((l.length + 1 : Nat) : Int) = dotP q := by
  simp only [rd_T47, allP, List.getD_eq_getElem?_getD, Int.toNat_natCast]
  rw [List.getElem?_append_right (by omega), Nat.add_sub_cancel_left]
  rfl
variable (hx : 1 ≤ x ∧ x ≤ 20) (hy : 1 ≤ y ∧ y ≤ 20) (hl : partsU l) (hp : U32 p) (hq : U32 q)
include hp hq hl in
theorem all_U : partsU (allP l x y p q) := by
  intro r hr
  rcases List.mem_append.1 hr with h | h
  · exact hl r h
  rcases List.mem_cons.1 h with rfl | h
  · intro v hv
    rw [(List.mem_replicate.1 hv).2]; exact hp
  · obtain rfl := List.mem_singleton.1 h
    intro v hv
    rw [List.mem_singleton.1 hv]; exact hq
include hx hy
theorem full_in : partIn x y (fullP x y p) := by
  have := mul_area (w := x) (h := y) ⟨by omega, by omega⟩ ⟨by omega, by omega⟩
  refine ⟨⟨⟨hx.1, by show x ≤ 16384; omega⟩, ⟨hy.1, by show y ≤ 16384; omega⟩, ?_⟩, Int.le_refl 0, Int.le_refl 0, ?_, ?_⟩
  · show ((List.replicate (x * y).toNat p).length : Int) = x * y
    rw [List.length_replicate, Int.toNat_of_nonneg (by omega)]
  · show (0 : Int) ≤ x - x; omega
  · show (0 : Int) ≤ y - y; omega
theorem dot_in : partIn x y (dotP q) := by
  refine ⟨⟨⟨Int.le_refl 1, show (1 : Int) ≤ 16384 by decide⟩, ⟨Int.le_refl 1, show (1 : Int) ≤ 16384 by decide⟩, rfl⟩, Int.le_refl 0, Int.le_refl 0, ?_, ?_⟩
  · show (0 : Int) ≤ x - 1; omega
  · show (0 : Int) ≤ y - 1; omega
theorem all_in_iff (n : Nat) (h1 : l.length + 1 ≤ n) (h2 : n ≤ l.length + 2) : allIn x y (allP l x y p q) n ↔ allIn x y l l.length := by
  constructor
  · intro h i hi
    have := h i (by omega)
    rwa [rd_all i hi] at this
  · intro h i hi
    rcases Nat.lt_trichotomy i l.length with c | c | c
    · rw [rd_all i c]; exact h i c
    · subst c; rw [rd_full]; exact full_in hx hy
    · obtain rfl : i = l.length + 1 := by omega
      rw [rd_dot]; exact dot_in hx hy
include hl hp hq
theorem clears_no (h : ¬ allIn x y l l.length) : renderF x y (allP l x y p q) l.length = some (0, 0, [], 1) ∧ renderF x y (allP l x y p q) ((l.length : Int) + 1) = some (0, 0, [], 1) := by
  have hu := all_U (x := x) (y := y) hl hp hq
  constructor
  · unfold renderF
    rw [if_pos hu, if_neg (fun hh => h ((all_in_iff hx hy _ (by simp) (by simp)).1 hh.2.2))]
  · unfold renderF
    rw [if_pos hu, if_neg (fun hh => h ((all_in_iff hx hy _ (by omega) (by omega)).1 hh.2.2))]
theorem clears_ok (h : allIn x y l l.length) : ∃ pb : List Int, renderF x y (allP l x y p q) l.length = some (x, y, List.replicate (x * y).toNat p, 0) ∧ renderF x y (allP l x y p q) ((l.length : Int) + 1) = some (x, y, pb, 0) ∧
    (pb.length : Int) = x * y ∧ rd pb 0 = q ∧ ∀ i : Nat, 1 ≤ i → i < pb.length → rd pb i = 0 := by
  have hu := all_U (x := x) (y := y) hl hp hq
  have sx : sideOk x := ⟨by omega, by omega⟩
  have sy : sideOk y := ⟨by omega, by omega⟩
  have ha1 := (all_in_iff (l := l) (p := p) (q := q) hx hy (l.length + 1) (by omega) (by omega)).2 h
  have ha2 := (all_in_iff (l := l) (p := p) (q := q) hx hy (l.length + 2) (by omega) (by omega)).2 h
  have hln : (allP l x y p q).length = l.length + 2 := allP_len
  have ok1 := comeF_ok sx sy (partsU_rd hu) (l.length + 1) (by omega) ha1
  have ok2 := comeF_ok sx sy (partsU_rd hu) (l.length + 2) (by omega) ha2
  have har := mul_area sx sy
  have px1 : ∀ X Y : Int, 0 ≤ X → X < x → 0 ≤ Y → Y < y → pixN (allP l x y p q) X Y (l.length + 1) = p := by
    intro X Y h1 h2 h3 h4
    have hin : insP (fullP x y p) X Y := by unfold insP inR fullP; refine ⟨?_, ?_, ?_, ?_⟩ <;> simp only <;> omega
    rw [pixN, rd_full, drawP, if_pos hin]
    show rd (List.replicate (x * y).toNat p) ((Y - 0) * x + (X - 0)) = p
    have := at_in h1 h2 h3 h4
    rw [Int.sub_zero, Int.sub_zero]
    unfold rd
    rw [List.getD_eq_getElem?_getD, List.getElem?_replicate, if_pos (by omega)]
    rfl
  have split : ∀ i : Nat, (i : Int) < x * y → ∃ X Y : Int, 0 ≤ X ∧ X < x ∧ 0 ≤ Y ∧ Y < y ∧ Y * x + X = i := by
    intro i hi
    refine ⟨(i : Int) % x, (i : Int) / x, Int.emod_nonneg _ (by omega), Int.emod_lt_of_pos _ (by omega), Int.ediv_nonneg (by omega) (by omega), Int.ediv_lt_of_lt_mul (by omega) (by rw [Int.mul_comm]; omega), Int.ediv_mul_add_emod _ _⟩
  have e1 : (comeF x y (allP l x y p q) (l.length + 1)).pix = List.replicate (x * y).toNat p := by
    refine rd_eq_replicate (by have := ok1.1; omega) fun i hi => ?_
    obtain ⟨X, Y, h1, h2, h3, h4, h5⟩ := split i (by omega)
    rw [← h5, rd_come sx sy (partsU_rd hu) h1 h2 h3 h4 (l.length + 1) (by omega) ha1, px1 X Y h1 h2 h3 h4]
  have px2 : ∀ X Y : Int, 0 ≤ X → X < x → 0 ≤ Y → Y < y → pixN (allP l x y p q) X Y (l.length + 2) = if X = 0 ∧ Y = 0 then q else 0 := by
    intro X Y h1 h2 h3 h4
    have hin : insP (fullP x y p) X Y := by unfold insP inR fullP; refine ⟨?_, ?_, ?_, ?_⟩ <;> simp only <;> omega
    have hg : goneP (allP l x y p q) X Y (l.length + 1) (pixN (allP l x y p q) X Y (l.length + 1)) = 0 := by
      rw [goneP, rd_full, if_pos ⟨rfl, hin⟩]
    rw [pixN, hg, rd_dot, drawP]
    by_cases c : X = 0 ∧ Y = 0
    · obtain ⟨rfl, rfl⟩ := c
      rw [if_pos (by unfold insP inR dotP; simp), if_pos ⟨rfl, rfl⟩]
      rfl
    · rw [if_neg c, if_neg (fun hh => c (by unfold insP inR dotP at hh; simp only at hh; omega))]
  refine ⟨(comeF x y (allP l x y p q) (l.length + 2)).pix, ?_, ?_, ok2.1, ?_, ?_⟩
  · unfold renderF
    rw [if_pos hu, if_pos ⟨⟨sx, sy⟩, ⟨by omega, by omega⟩, by simpa using ha1⟩, Int.toNat_natCast, e1]
  · unfold renderF
    rw [if_pos hu, if_pos ⟨⟨sx, sy⟩, ⟨by omega, by omega⟩, by rw [show ((l.length : Int) + 1).toNat + 1 = l.length + 2 by omega]; exact ha2⟩, show ((l.length : Int) + 1).toNat + 1 = l.length + 2 by omega]
  · have := rd_come sx sy (partsU_rd hu) (x := 0) (y := 0) (by omega) (by omega) (by omega) (by omega) (l.length + 2) (by omega) ha2
    rw [px2 0 0 (by omega) (by omega) (by omega) (by omega), if_pos ⟨rfl, rfl⟩] at this
    simpa using this
  · intro i h1 h2
    obtain ⟨X, Y, g1, g2, g3, g4, g5⟩ := split i (by have := ok2.1; omega)
    rw [← g5, rd_come sx sy (partsU_rd hu) g1 g2 g3 g4 (l.length + 2) (by omega) ha2, px2 X Y g1 g2 g3 g4, if_neg ?_]
    rintro ⟨rfl, rfl⟩
    omega
end
end Go.Proofs.Ytegifkffhnhccaa.P
