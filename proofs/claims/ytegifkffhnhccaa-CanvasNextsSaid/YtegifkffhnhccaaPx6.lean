-- Printed by mp.py (our own program over the kit's printer) out of the translation.
import Derived.Test.YtegifkffhnhccaaPx0
import Derived.Test.YtegifkffhnhccaaPx1
import Derived.Test.YtegifkffhnhccaaPx3
import Derived.Test.YtegifkffhnhccaaPx4
import Derived.Test.YtegifkffhnhccaaPx5
namespace Go.Proofs.Ytegifkffhnhccaa.P
open Go.RowKit Go.Proofs.YtegifkffhnhccaaW.PrintWords Go.Proofs.YtegifkffhnhccaaW.PrintLast Go.Proofs.YtegifkffhnhccaaW.PrintMore
attribute [local go_sem] max2_int min2_int max_two min_two max_three min_three max_four min_four   -- for this text's walks alone
set_option linter.unusedVariables false
set_option linter.unusedSimpArgs false

/-! ### marquetrylaw27_CanvasRenders: function 4 -/
mutual
def marquetrylaw27_CanvasRenders.j0 : Nat → Int → Int → List (S47) → Int → Int → Bool → Int → Int → List Int → Option (Bool)
  | 0, _, _, _, _, _, _, _, _, _ => none
  | k + 1, x0, x1, x2, x3, x10, x11, x146000, x146001, x146002 => (marquetrylaw27_parts.f k x2).bind fun t146 => (marquetrylaw27_CanvasRenders.l0 k x0 x1 x3 x10 x11 t146 0 x146000 x146001 x146002)
def marquetrylaw27_CanvasRenders.j2 : Nat → Int → Int → Int → Int → Bool → List (S39) → Int → Int → List Int → Option (Bool)
  | 0, _, _, _, _, _, _, _, _, _ => none
  | k + 1, x0, x1, x3, x10, x11, x12, x146000, x146001, x146002 => if x11 = true then (if x10 = 0 then (if x146000 = x0 then (if x146001 = x1 then (if (x146002.length : Int) = (wrap64 (x0 * x1)) then ((marquetrylaw27_answers.f).bind fun t152 => (marquetrylaw27_CanvasRenders.j3 k x0 x3 x12 (!t152) x146000 x146001 x146002)) else (marquetrylaw27_CanvasRenders.j3 k x0 x3 x12 true x146000 x146001 x146002)) else (marquetrylaw27_CanvasRenders.j3 k x0 x3 x12 true x146000 x146001 x146002)) else (marquetrylaw27_CanvasRenders.j3 k x0 x3 x12 true x146000 x146001 x146002)) else (marquetrylaw27_CanvasRenders.j3 k x0 x3 x12 true x146000 x146001 x146002)) else ((marquetrylaw27_answers.f).bind fun t151 => (if t151 = true then (if x10 = 1 then (some ((x146002.length : Int) == 0)) else (some false)) else (some false)))
def marquetrylaw27_CanvasRenders.j3 : Nat → Int → Int → List (S39) → Bool → Int → Int → List Int → Option (Bool)
  | 0, _, _, _, _, _, _, _ => none
  | k + 1, x0, x3, x12, x101, x146000, x146001, x146002 => if x101 = true then (some false) else (marquetrylaw27_CanvasRenders.l1 k x0 x3 x12 0 x146000 x146001 x146002)
def marquetrylaw27_CanvasRenders.l1 : Nat → Int → Int → List (S39) → Int → Int → Int → List Int → Option (Bool)
  | 0, _, _, _, _, _, _, _ => none
  | k + 1, x0, x3, x12, x14, x146000, x146001, x146002 => if x14 < (x146002.length : Int) then (if 0 ≤ x14 then (if x0 = 0 then (none) else ((marquetryref24_Pixel.f k x12 x3 (Int.tmod x14 x0) (wrap64 (Int.tdiv x14 x0))).bind fun t154 => (if (rd x146002 x14) = t154 then (marquetrylaw27_CanvasRenders.l1 k x0 x3 x12 (wrap64 (x14 + 1)) x146000 x146001 x146002) else (some false)))) else (none)) else (some true)
def marquetrylaw27_CanvasRenders.l0 : Nat → Int → Int → Int → Int → Bool → List (S39) → Int → Int → Int → List Int → Option (Bool)
  | 0, _, _, _, _, _, _, _, _, _, _ => none
  | k + 1, x0, x1, x3, x10, x11, x12, x13, x146000, x146001, x146002 => if x13 ≤ x3 then (if x11 = true then (if 0 ≤ x13 then (if x13 < (x12.length : Int) then ((marquetryref24_Within.f x0 x1 ((rd_T39 x12 x13).f0) ((rd_T39 x12 x13).f1) ((rd_T39 x12 x13).f2) ((rd_T39 x12 x13).f3) ((rd_T39 x12 x13).f4.f0) ((rd_T39 x12 x13).f4.f1) ((rd_T39 x12 x13).f4.f2)).bind fun t150 => (marquetrylaw27_CanvasRenders.l0 k x0 x1 x3 x10 t150 x12 (wrap64 (x13 + 1)) x146000 x146001 x146002)) else (none)) else (none)) else (marquetrylaw27_CanvasRenders.j2 k x0 x1 x3 x10 x11 x12 x146000 x146001 x146002)) else (marquetrylaw27_CanvasRenders.j2 k x0 x1 x3 x10 x11 x12 x146000 x146001 x146002)
end
def marquetrylaw27_CanvasRenders.f (k : Nat) (a0 : Int) (a1 : Int) (l2 : List (S47)) (a3 : Int) : Option (Bool) := (marquetrylaw27_small.f k a0 a1 l2).bind fun t137 => (if t137 = true then ((canvas_Render.f a0 a1 l2 a3).bind fun bt139 => (if a0 ≥ 1 then (if a1 ≥ 1 then (if a3 ≥ 0 then (marquetrylaw27_CanvasRenders.j0 k a0 a1 l2 a3 bt139.2.2.2 (decide (a3 < (l2.length : Int))) bt139.1 bt139.2.1 bt139.2.2.1) else (marquetrylaw27_CanvasRenders.j0 k a0 a1 l2 a3 bt139.2.2.2 false bt139.1 bt139.2.1 bt139.2.2.1)) else (marquetrylaw27_CanvasRenders.j0 k a0 a1 l2 a3 bt139.2.2.2 false bt139.1 bt139.2.1 bt139.2.2.1)) else (marquetrylaw27_CanvasRenders.j0 k a0 a1 l2 a3 bt139.2.2.2 false bt139.1 bt139.2.1 bt139.2.2.1))) else ((marquetrylaw27_answers.f).bind fun t138 => (some t138)))
theorem marquetrylaw27_CanvasRenders.mono_l : ∀ k, (∀ y0 y1 y2 y3 y4 y5 y6 y7 y8, LeO (marquetrylaw27_CanvasRenders.j0 k y0 y1 y2 y3 y4 y5 y6 y7 y8) (marquetrylaw27_CanvasRenders.j0 (k + 1) y0 y1 y2 y3 y4 y5 y6 y7 y8)) ∧ (∀ y0 y1 y2 y3 y4 y5 y6 y7 y8, LeO (marquetrylaw27_CanvasRenders.j2 k y0 y1 y2 y3 y4 y5 y6 y7 y8) (marquetrylaw27_CanvasRenders.j2 (k + 1) y0 y1 y2 y3 y4 y5 y6 y7 y8)) ∧ (∀ y0 y1 y2 y3 y4 y5 y6, LeO (marquetrylaw27_CanvasRenders.j3 k y0 y1 y2 y3 y4 y5 y6) (marquetrylaw27_CanvasRenders.j3 (k + 1) y0 y1 y2 y3 y4 y5 y6)) ∧ (∀ y0 y1 y2 y3 y4 y5 y6, LeO (marquetrylaw27_CanvasRenders.l1 k y0 y1 y2 y3 y4 y5 y6) (marquetrylaw27_CanvasRenders.l1 (k + 1) y0 y1 y2 y3 y4 y5 y6)) ∧ (∀ y0 y1 y2 y3 y4 y5 y6 y7 y8 y9, LeO (marquetrylaw27_CanvasRenders.l0 k y0 y1 y2 y3 y4 y5 y6 y7 y8 y9) (marquetrylaw27_CanvasRenders.l0 (k + 1) y0 y1 y2 y3 y4 y5 y6 y7 y8 y9))
  | 0 => ⟨fun _ _ _ _ _ _ _ _ _ r h => by simp [marquetrylaw27_CanvasRenders.j0] at h, fun _ _ _ _ _ _ _ _ _ r h => by simp [marquetrylaw27_CanvasRenders.j2] at h, fun _ _ _ _ _ _ _ r h => by simp [marquetrylaw27_CanvasRenders.j3] at h, fun _ _ _ _ _ _ _ r h => by simp [marquetrylaw27_CanvasRenders.l1] at h, fun _ _ _ _ _ _ _ _ _ _ r h => by simp [marquetrylaw27_CanvasRenders.l0] at h⟩
  | k + 1 => by
    obtain ⟨ih0, ih1, ih2, ih3, ih4⟩ := marquetrylaw27_CanvasRenders.mono_l k
    refine ⟨?_, ?_, ?_, ?_, ?_⟩
    · intro y0 y1 y2 y3 y4 y5 y6 y7 y8
      unfold marquetrylaw27_CanvasRenders.j0
      repeat' first
      | (with_reducible exact ih0 _ _ _ _ _ _ _ _ _)
      | (with_reducible exact ih1 _ _ _ _ _ _ _ _ _)
      | (with_reducible exact ih2 _ _ _ _ _ _ _)
      | (with_reducible exact ih3 _ _ _ _ _ _ _)
      | (with_reducible exact ih4 _ _ _ _ _ _ _ _ _ _)
      | (with_reducible exact marquetrylaw27_parts.mono _ _)
      | (with_reducible exact marquetrylaw27_small.mono _ _ _ _)
      | (with_reducible exact marquetryref24_Pixel.mono _ _ _ _ _)
      | (with_reducible exact LeO.refl _)
      | (with_reducible exact LeO.none _)
      | (with_reducible refine LeO.ite ?_ ?_)
      | (with_reducible refine LeO.bind ?_ (fun _ => ?_))
      | exact ih0 _ _ _ _ _ _ _ _ _
      | exact ih1 _ _ _ _ _ _ _ _ _
      | exact ih2 _ _ _ _ _ _ _
      | exact ih3 _ _ _ _ _ _ _
      | exact ih4 _ _ _ _ _ _ _ _ _ _
      | exact marquetrylaw27_parts.mono _ _
      | exact marquetrylaw27_small.mono _ _ _ _
      | exact marquetryref24_Pixel.mono _ _ _ _ _
      | exact LeO.none _
      | refine LeO.ite ?_ ?_
      | refine LeO.bind ?_ (fun _ => ?_)
    · intro y0 y1 y2 y3 y4 y5 y6 y7 y8
      unfold marquetrylaw27_CanvasRenders.j2
      repeat' first
      | (with_reducible exact ih0 _ _ _ _ _ _ _ _ _)
      | (with_reducible exact ih1 _ _ _ _ _ _ _ _ _)
      | (with_reducible exact ih2 _ _ _ _ _ _ _)
      | (with_reducible exact ih3 _ _ _ _ _ _ _)
      | (with_reducible exact ih4 _ _ _ _ _ _ _ _ _ _)
      | (with_reducible exact marquetrylaw27_parts.mono _ _)
      | (with_reducible exact marquetrylaw27_small.mono _ _ _ _)
      | (with_reducible exact marquetryref24_Pixel.mono _ _ _ _ _)
      | (with_reducible exact LeO.refl _)
      | (with_reducible exact LeO.none _)
      | (with_reducible refine LeO.ite ?_ ?_)
      | (with_reducible refine LeO.bind ?_ (fun _ => ?_))
      | exact ih0 _ _ _ _ _ _ _ _ _
      | exact ih1 _ _ _ _ _ _ _ _ _
      | exact ih2 _ _ _ _ _ _ _
      | exact ih3 _ _ _ _ _ _ _
      | exact ih4 _ _ _ _ _ _ _ _ _ _
      | exact marquetrylaw27_parts.mono _ _
      | exact marquetrylaw27_small.mono _ _ _ _
      | exact marquetryref24_Pixel.mono _ _ _ _ _
      | exact LeO.none _
      | refine LeO.ite ?_ ?_
      | refine LeO.bind ?_ (fun _ => ?_)
    · intro y0 y1 y2 y3 y4 y5 y6
      unfold marquetrylaw27_CanvasRenders.j3
      repeat' first
      | (with_reducible exact ih0 _ _ _ _ _ _ _ _ _)
      | (with_reducible exact ih1 _ _ _ _ _ _ _ _ _)
      | (with_reducible exact ih2 _ _ _ _ _ _ _)
      | (with_reducible exact ih3 _ _ _ _ _ _ _)
      | (with_reducible exact ih4 _ _ _ _ _ _ _ _ _ _)
      | (with_reducible exact marquetrylaw27_parts.mono _ _)
      | (with_reducible exact marquetrylaw27_small.mono _ _ _ _)
      | (with_reducible exact marquetryref24_Pixel.mono _ _ _ _ _)
      | (with_reducible exact LeO.refl _)
      | (with_reducible exact LeO.none _)
      | (with_reducible refine LeO.ite ?_ ?_)
      | (with_reducible refine LeO.bind ?_ (fun _ => ?_))
      | exact ih0 _ _ _ _ _ _ _ _ _
      | exact ih1 _ _ _ _ _ _ _ _ _
      | exact ih2 _ _ _ _ _ _ _
      | exact ih3 _ _ _ _ _ _ _
      | exact ih4 _ _ _ _ _ _ _ _ _ _
      | exact marquetrylaw27_parts.mono _ _
      | exact marquetrylaw27_small.mono _ _ _ _
      | exact marquetryref24_Pixel.mono _ _ _ _ _
      | exact LeO.none _
      | refine LeO.ite ?_ ?_
      | refine LeO.bind ?_ (fun _ => ?_)
    · intro y0 y1 y2 y3 y4 y5 y6
      unfold marquetrylaw27_CanvasRenders.l1
      repeat' first
      | (with_reducible exact ih0 _ _ _ _ _ _ _ _ _)
      | (with_reducible exact ih1 _ _ _ _ _ _ _ _ _)
      | (with_reducible exact ih2 _ _ _ _ _ _ _)
      | (with_reducible exact ih3 _ _ _ _ _ _ _)
      | (with_reducible exact ih4 _ _ _ _ _ _ _ _ _ _)
      | (with_reducible exact marquetrylaw27_parts.mono _ _)
      | (with_reducible exact marquetrylaw27_small.mono _ _ _ _)
      | (with_reducible exact marquetryref24_Pixel.mono _ _ _ _ _)
      | (with_reducible exact LeO.refl _)
      | (with_reducible exact LeO.none _)
      | (with_reducible refine LeO.ite ?_ ?_)
      | (with_reducible refine LeO.bind ?_ (fun _ => ?_))
      | exact ih0 _ _ _ _ _ _ _ _ _
      | exact ih1 _ _ _ _ _ _ _ _ _
      | exact ih2 _ _ _ _ _ _ _
      | exact ih3 _ _ _ _ _ _ _
      | exact ih4 _ _ _ _ _ _ _ _ _ _
      | exact marquetrylaw27_parts.mono _ _
      | exact marquetrylaw27_small.mono _ _ _ _
      | exact marquetryref24_Pixel.mono _ _ _ _ _
      | exact LeO.none _
      | refine LeO.ite ?_ ?_
      | refine LeO.bind ?_ (fun _ => ?_)
    · intro y0 y1 y2 y3 y4 y5 y6 y7 y8 y9
      unfold marquetrylaw27_CanvasRenders.l0
      repeat' first
      | (with_reducible exact ih0 _ _ _ _ _ _ _ _ _)
      | (with_reducible exact ih1 _ _ _ _ _ _ _ _ _)
      | (with_reducible exact ih2 _ _ _ _ _ _ _)
      | (with_reducible exact ih3 _ _ _ _ _ _ _)
      | (with_reducible exact ih4 _ _ _ _ _ _ _ _ _ _)
      | (with_reducible exact marquetrylaw27_parts.mono _ _)
      | (with_reducible exact marquetrylaw27_small.mono _ _ _ _)
      | (with_reducible exact marquetryref24_Pixel.mono _ _ _ _ _)
      | (with_reducible exact LeO.refl _)
      | (with_reducible exact LeO.none _)
      | (with_reducible refine LeO.ite ?_ ?_)
      | (with_reducible refine LeO.bind ?_ (fun _ => ?_))
      | exact ih0 _ _ _ _ _ _ _ _ _
      | exact ih1 _ _ _ _ _ _ _ _ _
      | exact ih2 _ _ _ _ _ _ _
      | exact ih3 _ _ _ _ _ _ _
      | exact ih4 _ _ _ _ _ _ _ _ _ _
      | exact marquetrylaw27_parts.mono _ _
      | exact marquetrylaw27_small.mono _ _ _ _
      | exact marquetryref24_Pixel.mono _ _ _ _ _
      | exact LeO.none _
      | refine LeO.ite ?_ ?_
      | refine LeO.bind ?_ (fun _ => ?_)
theorem marquetrylaw27_CanvasRenders.mono : ∀ a0 a1 a2 a3 k, LeO (marquetrylaw27_CanvasRenders.f k a0 a1 a2 a3) (marquetrylaw27_CanvasRenders.f (k + 1) a0 a1 a2 a3) := by
  intro a0 a1 a2 a3 k
  obtain ⟨ih0, ih1, ih2, ih3, ih4⟩ := marquetrylaw27_CanvasRenders.mono_l k
  unfold marquetrylaw27_CanvasRenders.f
  repeat' first
      | (with_reducible exact ih0 _ _ _ _ _ _ _ _ _)
      | (with_reducible exact ih1 _ _ _ _ _ _ _ _ _)
      | (with_reducible exact ih2 _ _ _ _ _ _ _)
      | (with_reducible exact ih3 _ _ _ _ _ _ _)
      | (with_reducible exact ih4 _ _ _ _ _ _ _ _ _ _)
      | (with_reducible exact marquetrylaw27_parts.mono _ _)
      | (with_reducible exact marquetrylaw27_small.mono _ _ _ _)
      | (with_reducible exact marquetryref24_Pixel.mono _ _ _ _ _)
      | (with_reducible exact LeO.refl _)
      | (with_reducible exact LeO.none _)
      | (with_reducible refine LeO.ite ?_ ?_)
      | (with_reducible refine LeO.bind ?_ (fun _ => ?_))
      | exact ih0 _ _ _ _ _ _ _ _ _
      | exact ih1 _ _ _ _ _ _ _ _ _
      | exact ih2 _ _ _ _ _ _ _
      | exact ih3 _ _ _ _ _ _ _
      | exact ih4 _ _ _ _ _ _ _ _ _ _
      | exact marquetrylaw27_parts.mono _ _
      | exact marquetrylaw27_small.mono _ _ _ _
      | exact marquetryref24_Pixel.mono _ _ _ _ _
      | exact LeO.none _
      | refine LeO.ite ?_ ?_
      | refine LeO.bind ?_ (fun _ => ?_)
def marquetrylaw27_CanvasRenders.T17 : Bool × List (List Nat × List Nat) := (true, [([], []), ([0], [0]), ([], []), ([1, 2], [1, 2]), ([3], [3]), ([], []), ([], []), ([], []), ([], []), ([7, 8], [7, 8]), ([], []), ([], []), ([10, 11], [10, 11]), ([5, 6, 9, 12], [5, 6, 9, 12]), ([4, 13], [4, 13])])
def marquetrylaw27_CanvasRenders.B17 : List Nat := [0, 1, 0, 7, 15, 0, 0, 0, 0, 384, 0, 0, 3072, 8160, 16383]
theorem marquetrylaw27_CanvasRenders.tab17 : rtab .any (opsOf Try.f4 17) = marquetrylaw27_CanvasRenders.T17 := by kernel_rfl
theorem marquetrylaw27_CanvasRenders.bits17 : waitsOk marquetrylaw27_CanvasRenders.T17.2 marquetrylaw27_CanvasRenders.B17 = true := by kernel_rfl
set_option maxHeartbeats 8000000 in
set_option maxRecDepth 100000 in
theorem marquetrylaw27_CanvasRenders.calls (k : Nat) (a0 : Int) (a1 : Int) (A2 : Option Addr) (c2 : Nat) (l2 : List (S47)) (a3 : Int) (r : Bool) (w : World) (hr2 : Kd.C k47 w A2 l2.length l2) (hc2 : l2.length ≤ c2) (h : marquetrylaw27_CanvasRenders.f k a0 a1 l2 a3 = some r) (hr : r = true) :
    Calls Try.prog 4 #[.int .i64 a0, .int .i64 a1, .slice A2 l2.length c2, .int .i64 a3] w fun e w' => e = .returned (.bool r) ∧ Below w.heap.size w w' := by
  have hu31 := Try.underlying31
  have hu39 := Try.underlying39
  have HR2 := Aside0.mk hr2
  have HC2 := Aside0.mk hc2
  clear hr2 hc2
  have HB := Aside0.mk (Below.refl w.heap.size w)
  have H : ((marquetrylaw27_small.f k a0 a1 l2).bind fun t137 => (if t137 = true then ((canvas_Render.f a0 a1 l2 a3).bind fun bt139 => (if a0 ≥ 1 then (if a1 ≥ 1 then (if a3 ≥ 0 then (marquetrylaw27_CanvasRenders.j0 k a0 a1 l2 a3 bt139.2.2.2 (decide (a3 < (l2.length : Int))) bt139.1 bt139.2.1 bt139.2.2.1) else (marquetrylaw27_CanvasRenders.j0 k a0 a1 l2 a3 bt139.2.2.2 false bt139.1 bt139.2.1 bt139.2.2.1)) else (marquetrylaw27_CanvasRenders.j0 k a0 a1 l2 a3 bt139.2.2.2 false bt139.1 bt139.2.1 bt139.2.2.1)) else (marquetrylaw27_CanvasRenders.j0 k a0 a1 l2 a3 bt139.2.2.2 false bt139.1 bt139.2.1 bt139.2.2.1))) else ((marquetrylaw27_answers.f).bind fun t138 => (some t138)))) = some r := h
  clear h
  have Hr := Aside0.mk hr
  clear hr
  replace H := Option.bind_eq_some_iff.mp H
  obtain ⟨t137, A50, H⟩ := H
  replace H : (if t137 = true then ((canvas_Render.f a0 a1 l2 a3).bind fun bt139 => (if a0 ≥ 1 then (if a1 ≥ 1 then (if a3 ≥ 0 then (marquetrylaw27_CanvasRenders.j0 k a0 a1 l2 a3 bt139.2.2.2 (decide (a3 < (l2.length : Int))) bt139.1 bt139.2.1 bt139.2.2.1) else (marquetrylaw27_CanvasRenders.j0 k a0 a1 l2 a3 bt139.2.2.2 false bt139.1 bt139.2.1 bt139.2.2.1)) else (marquetrylaw27_CanvasRenders.j0 k a0 a1 l2 a3 bt139.2.2.2 false bt139.1 bt139.2.1 bt139.2.2.1)) else (marquetrylaw27_CanvasRenders.j0 k a0 a1 l2 a3 bt139.2.2.2 false bt139.1 bt139.2.1 bt139.2.2.1))) else ((marquetrylaw27_answers.f).bind fun t138 => (some t138))) = some r := H
  have A5 := Aside0.mk A50
  clear A50
  by_cases c6 : t137 = true
  · subst c6
    have H1 : ((canvas_Render.f a0 a1 l2 a3).bind fun bt139 => (if a0 ≥ 1 then (if a1 ≥ 1 then (if a3 ≥ 0 then (marquetrylaw27_CanvasRenders.j0 k a0 a1 l2 a3 bt139.2.2.2 (decide (a3 < (l2.length : Int))) bt139.1 bt139.2.1 bt139.2.2.1) else (marquetrylaw27_CanvasRenders.j0 k a0 a1 l2 a3 bt139.2.2.2 false bt139.1 bt139.2.1 bt139.2.2.1)) else (marquetrylaw27_CanvasRenders.j0 k a0 a1 l2 a3 bt139.2.2.2 false bt139.1 bt139.2.1 bt139.2.2.1)) else (marquetrylaw27_CanvasRenders.j0 k a0 a1 l2 a3 bt139.2.2.2 false bt139.1 bt139.2.1 bt139.2.2.1))) = some r := by rw [if_pos rfl] at H; exact H
    clear H
    have H := H1
    clear H1
    replace H := Option.bind_eq_some_iff.mp H
    obtain ⟨⟨t139, t140, t141, t144⟩, A70, H⟩ := H
    replace H : (if a0 ≥ 1 then (if a1 ≥ 1 then (if a3 ≥ 0 then (marquetrylaw27_CanvasRenders.j0 k a0 a1 l2 a3 t144 (decide (a3 < (l2.length : Int))) t139 t140 t141) else (marquetrylaw27_CanvasRenders.j0 k a0 a1 l2 a3 t144 false t139 t140 t141)) else (marquetrylaw27_CanvasRenders.j0 k a0 a1 l2 a3 t144 false t139 t140 t141)) else (marquetrylaw27_CanvasRenders.j0 k a0 a1 l2 a3 t144 false t139 t140 t141)) = some r := H
    have A7 := Aside0.mk A70
    clear A70
    have HC8 := Aside0.mk H
    clear H
    go_enter Try.func4, Try.ntmps4
    go_upto_region 4 with (first | ((with_reducible refine gate_callee (f := 13) rfl ?_); refine goesL_ (some 18) rfl rfl Try.func13 (by kernel_rfl) rfl #[.int .i64 a0, .int .i64 a1, .slice A2 l2.length c2] rfl (by (try simp only [List.map_toArray, List.map_cons, List.map_nil]); first | done | rfl | (simp only [List.length_drop, List.length_take]; rfl)) ?_; (with_reducible refine (marquetrylaw27_small.calls k a0 a1 _ _ l2 true _ ?side1 ?side2 A5.out).mono ?_); (case side1 => repeat (first | exact HR2.out | (with_reducible refine Kd.C_alloc ?_ _) | (with_reducible refine Kd.C_drewN ?_ _) | (with_reducible refine Kd.C_drew ?_))); (case side2 => exact HC2.out); rintro e w' ⟨rfl, ⟨nd, rfl⟩⟩; refine ⟨_, rfl, ?_⟩) | (go_at_call 13; (with_reducible refine (marquetrylaw27_small.calls k a0 a1 _ _ l2 true _ ?side1 ?side2 A5.out).mono ?_); (case side1 => repeat (first | exact HR2.out | (with_reducible refine Kd.C_alloc ?_ _) | (with_reducible refine Kd.C_drewN ?_ _) | (with_reducible refine Kd.C_drew ?_))); (case side2 => exact HC2.out); rintro e w' ⟨rfl, ⟨nd, rfl⟩⟩) | ((with_reducible refine gate_callee (f := 14) rfl ?_); refine goesL_ (some 26) rfl rfl Try.func14 (by kernel_rfl) rfl #[.int .i64 a0, .int .i64 a1, .slice A2 l2.length c2, .int .i64 a3] rfl (by (try simp only [List.map_toArray, List.map_cons, List.map_nil]); first | done | rfl | (simp only [List.length_drop, List.length_take]; rfl)) ?_; (with_reducible refine (canvas_Render.calls a0 a1 _ _ l2 a3 t139 t140 t141 t144 _ ?side1 ?side2 A7.out).mono ?_); (case side1 => repeat (first | exact HR2.out | (with_reducible refine Kd.C_alloc ?_ _) | (with_reducible refine Kd.C_drewN ?_ _) | (with_reducible refine Kd.C_drew ?_))); (case side2 => exact HC2.out); rintro e w9 ⟨v142, rfl, ho0, hb⟩; refine ⟨_, rfl, ?_⟩; have n0_ := Aside0.mk (Kd.R_lower ho0 (below_size (by repeat (first | (with_reducible first | exact HB.out | apply below_alloc | apply pw_below_drewN | apply below_drew1) | exact HB.out)))); have n1_ := Aside0.mk (below_step (by repeat (first | (with_reducible first | exact HB.out | apply below_alloc | apply pw_below_drewN | apply below_drew1) | exact HB.out)) hb); clear HB; have HO143 := n0_; have HB := n1_; clear n0_ n1_; (try clear hb); (try clear hb2); (try clear hk); (try clear hi); (try clear ho0)) | (go_at_call 14; (with_reducible refine (canvas_Render.calls a0 a1 _ _ l2 a3 t139 t140 t141 t144 _ ?side1 ?side2 A7.out).mono ?_); (case side1 => repeat (first | exact HR2.out | (with_reducible refine Kd.C_alloc ?_ _) | (with_reducible refine Kd.C_drewN ?_ _) | (with_reducible refine Kd.C_drew ?_))); (case side2 => exact HC2.out); rintro e w9 ⟨v142, rfl, ho0, hb⟩; have n0_ := Aside0.mk (Kd.R_lower ho0 (below_size (by repeat (first | (with_reducible first | exact HB.out | apply below_alloc | apply pw_below_drewN | apply below_drew1) | exact HB.out)))); have n1_ := Aside0.mk (below_step (by repeat (first | (with_reducible first | exact HB.out | apply below_alloc | apply pw_below_drewN | apply below_drew1) | exact HB.out)) hb); clear HB; have HO143 := n0_; have HB := n1_; clear n0_ n1_; (try clear hb); (try clear hb2); (try clear hk); (try clear hi); (try clear ho0)) | ((with_reducible refine gate_dst (N := 9) rfl ?_); (try (refine gate_guard (by rfl) ?_; dsimp only)); refine box_event ?hg (N := 9) ?hd (cs := #[.int .i64 0, .int .i64 0, .slice none 0 0]) (t := 31) ?hr ?_; (case hd => rfl); (case hg => rfl); (case hr => first | (go_simp; done) | (go_simp; rfl)); intro gb145 hg w10 hbox hb; have n0_ := Aside0.mk (Kd.R_below (by (with_reducible repeat (first | apply Kd.R_alloc | apply Kd.R_drewN | apply Kd.R_drew)); exact HO143.out) hb); have n1_ := Aside0.mk (below_step (by repeat (first | (with_reducible first | exact HB.out | apply below_alloc | apply pw_below_drewN | apply below_drew1) | exact HB.out)) hb); have n2_ := Aside0.mk (hbox); have n3_ := Aside0.mk ((by rw [hg]; exact (below_size (by repeat (first | (with_reducible first | exact HB.out | apply below_alloc | apply pw_below_drewN | apply below_drew1) | exact HB.out))) : w.heap.size ≤ gb145)); have n4_ := Aside0.mk ((by rw [hg]; exact (below_size (by repeat (first | (with_reducible first | exact HB.out | apply below_alloc | apply pw_below_drewN | apply below_drew1) | exact HB.out))) : w.heap.size ≤ gb145)); clear HO143; clear HB; have HO143 := n0_; have HB := n1_; have BK145 := n2_; have GW145 := n3_; have GE145 := n4_; clear n0_ n1_ n2_ n3_ n4_; clear hb hbox hg; have hcz11_0 : w10.cell? ⟨gb145, 0, none⟩ = some (.int .i64 0) := (blk_cell BK145.out 0).trans rfl; have hcz11_1 : w10.cell? ⟨gb145, 1, none⟩ = some (.int .i64 0) := (blk_cell BK145.out 1).trans rfl; have hcz11_2 : w10.cell? ⟨gb145, 2, none⟩ = some (.slice none 0 0) := (blk_cell BK145.out 2).trans rfl; have hfz11_0 := blk_frozen BK145.out 0; have hfz11_1 := blk_frozen BK145.out 1; have hfz11_2 := blk_frozen BK145.out 2; obtain ⟨Ao12, co12, eo12⟩ := Kd.R_slice HO143.out; subst eo12))
    (try simp only [Act.put, List.setIfInBounds_toArray, List.set_cons_zero, List.set_cons_succ])
    go_cut [11] (fun v11 wc => ∃ (kq : Nat) (x11_7 : Bool), v11 = .bool x11_7 ∧ Aside0 (marquetrylaw27_CanvasRenders.j0 kq a0 a1 l2 a3 t144 x11_7 t139 t140 t141 = some r) ∧ Aside0 (kq ≤ k) ∧ Aside0 (Kd.R (Kd.int .u32) 22 wc w.heap.size (fun _ => True) (.slice Ao12 t141.length co12) t141) ∧ Aside0 (wc.heap[gb145]? = some (.cells #[.int .i64 t139, .int .i64 t140, (.slice Ao12 t141.length co12)] 31 (0, 0))) ∧ Aside0 (Below w.heap.size w wc))
    case first =>
      have H := HC8.out
      clear HC8
      by_cases c13 : a0 ≥ 1
      · rw [if_pos c13] at H
        have c13b0 : decide (1 ≤ a0) = true := decide_eq_true c13
        clear c13
        (first | rw [c13b0] | (simp only [i64_w, i32_w]; rw [c13b0]) | skip)
        by_cases c14 : a1 ≥ 1
        · rw [if_pos c14] at H
          have c14b0 : decide (1 ≤ a1) = true := decide_eq_true c14
          clear c14
          by_cases c15 : a3 ≥ 0
          · rw [if_pos c15] at H
            have c15b0 : decide (0 ≤ a3) = true := decide_eq_true c15
            clear c15
            have H' := Aside0.mk H
            clear H
            go_wp2
            go_meet
            case rel => exact ⟨_, (decide (a3 < (l2.length : Int))), (by first | rfl | (simp; done) | (simp [*]; done)), H', ⟨by first | omega | exact Nat.le_refl _⟩, ⟨by (with_reducible repeat (first | apply Kd.R_alloc | apply Kd.R_drewN | apply Kd.R_drew)); exact Kd.R_mono (Kd.R_far (p := ⟨gb145, 2, none⟩) (Kd.R_far (p := ⟨gb145, 1, none⟩) (Kd.R_far (p := ⟨gb145, 0, none⟩) (Kd.R_types HO143.out BK145.out (by decide)) (fun _ hk => hk.2) (.int .i64 t139)) (fun _ hk => hk.2) (.int .i64 t140)) (fun _ hk => hk.2) (.slice Ao12 t141.length co12)) (fun _ hk => trivial)⟩, ⟨by (with_reducible repeat (first | refine blk_drewN ?_ _ | refine blk_drew ?_ | refine blk_alloc ?_ _)); refine blk_put (cs := #[.int .i64 t139, .int .i64 t140, .slice none 0 0]) ?_ 2 _ rfl; (with_reducible repeat (first | refine blk_drewN ?_ _ | refine blk_drew ?_ | refine blk_alloc ?_ _)); refine blk_put (cs := #[.int .i64 t139, .int .i64 0, .slice none 0 0]) ?_ 1 _ rfl; (with_reducible repeat (first | refine blk_drewN ?_ _ | refine blk_drew ?_ | refine blk_alloc ?_ _)); refine blk_put (cs := #[.int .i64 0, .int .i64 0, .slice none 0 0]) ?_ 0 _ rfl; (with_reducible repeat (first | refine blk_drewN ?_ _ | refine blk_drew ?_ | refine blk_alloc ?_ _)); exact BK145.out⟩, ⟨by repeat (first | (with_reducible first | exact HB.out | apply below_alloc | apply pw_below_drewN | apply below_drew1 | refine below_set ?_ GE145.out) | exact HB.out)⟩⟩
          · rw [if_neg c15] at H
            have c15b0 : decide (0 ≤ a3) = false := decide_eq_false c15
            clear c15
            have H' := Aside0.mk H
            clear H
            go_wp2
            go_meet
            case rel => exact ⟨_, (false), (by first | rfl | (simp; done) | (simp [*]; done)), H', ⟨by first | omega | exact Nat.le_refl _⟩, ⟨by (with_reducible repeat (first | apply Kd.R_alloc | apply Kd.R_drewN | apply Kd.R_drew)); exact Kd.R_mono (Kd.R_far (p := ⟨gb145, 2, none⟩) (Kd.R_far (p := ⟨gb145, 1, none⟩) (Kd.R_far (p := ⟨gb145, 0, none⟩) (Kd.R_types HO143.out BK145.out (by decide)) (fun _ hk => hk.2) (.int .i64 t139)) (fun _ hk => hk.2) (.int .i64 t140)) (fun _ hk => hk.2) (.slice Ao12 t141.length co12)) (fun _ hk => trivial)⟩, ⟨by (with_reducible repeat (first | refine blk_drewN ?_ _ | refine blk_drew ?_ | refine blk_alloc ?_ _)); refine blk_put (cs := #[.int .i64 t139, .int .i64 t140, .slice none 0 0]) ?_ 2 _ rfl; (with_reducible repeat (first | refine blk_drewN ?_ _ | refine blk_drew ?_ | refine blk_alloc ?_ _)); refine blk_put (cs := #[.int .i64 t139, .int .i64 0, .slice none 0 0]) ?_ 1 _ rfl; (with_reducible repeat (first | refine blk_drewN ?_ _ | refine blk_drew ?_ | refine blk_alloc ?_ _)); refine blk_put (cs := #[.int .i64 0, .int .i64 0, .slice none 0 0]) ?_ 0 _ rfl; (with_reducible repeat (first | refine blk_drewN ?_ _ | refine blk_drew ?_ | refine blk_alloc ?_ _)); exact BK145.out⟩, ⟨by repeat (first | (with_reducible first | exact HB.out | apply below_alloc | apply pw_below_drewN | apply below_drew1 | refine below_set ?_ GE145.out) | exact HB.out)⟩⟩
        · rw [if_neg c14] at H
          have c14b0 : decide (1 ≤ a1) = false := decide_eq_false c14
          clear c14
          have H' := Aside0.mk H
          clear H
          go_wp2
          go_meet
          case rel => exact ⟨_, (false), (by first | rfl | (simp; done) | (simp [*]; done)), H', ⟨by first | omega | exact Nat.le_refl _⟩, ⟨by (with_reducible repeat (first | apply Kd.R_alloc | apply Kd.R_drewN | apply Kd.R_drew)); exact Kd.R_mono (Kd.R_far (p := ⟨gb145, 2, none⟩) (Kd.R_far (p := ⟨gb145, 1, none⟩) (Kd.R_far (p := ⟨gb145, 0, none⟩) (Kd.R_types HO143.out BK145.out (by decide)) (fun _ hk => hk.2) (.int .i64 t139)) (fun _ hk => hk.2) (.int .i64 t140)) (fun _ hk => hk.2) (.slice Ao12 t141.length co12)) (fun _ hk => trivial)⟩, ⟨by (with_reducible repeat (first | refine blk_drewN ?_ _ | refine blk_drew ?_ | refine blk_alloc ?_ _)); refine blk_put (cs := #[.int .i64 t139, .int .i64 t140, .slice none 0 0]) ?_ 2 _ rfl; (with_reducible repeat (first | refine blk_drewN ?_ _ | refine blk_drew ?_ | refine blk_alloc ?_ _)); refine blk_put (cs := #[.int .i64 t139, .int .i64 0, .slice none 0 0]) ?_ 1 _ rfl; (with_reducible repeat (first | refine blk_drewN ?_ _ | refine blk_drew ?_ | refine blk_alloc ?_ _)); refine blk_put (cs := #[.int .i64 0, .int .i64 0, .slice none 0 0]) ?_ 0 _ rfl; (with_reducible repeat (first | refine blk_drewN ?_ _ | refine blk_drew ?_ | refine blk_alloc ?_ _)); exact BK145.out⟩, ⟨by repeat (first | (with_reducible first | exact HB.out | apply below_alloc | apply pw_below_drewN | apply below_drew1 | refine below_set ?_ GE145.out) | exact HB.out)⟩⟩
      · rw [if_neg c13] at H
        have c13b0 : decide (1 ≤ a0) = false := decide_eq_false c13
        clear c13
        (first | rw [c13b0] | (simp only [i64_w, i32_w]; rw [c13b0]) | skip)
        have H' := Aside0.mk H
        clear H
        go_wp2
        go_meet
        case rel => exact ⟨_, (false), (by first | rfl | (simp; done) | (simp [*]; done)), H', ⟨by first | omega | exact Nat.le_refl _⟩, ⟨by (with_reducible repeat (first | apply Kd.R_alloc | apply Kd.R_drewN | apply Kd.R_drew)); exact Kd.R_mono (Kd.R_far (p := ⟨gb145, 2, none⟩) (Kd.R_far (p := ⟨gb145, 1, none⟩) (Kd.R_far (p := ⟨gb145, 0, none⟩) (Kd.R_types HO143.out BK145.out (by decide)) (fun _ hk => hk.2) (.int .i64 t139)) (fun _ hk => hk.2) (.int .i64 t140)) (fun _ hk => hk.2) (.slice Ao12 t141.length co12)) (fun _ hk => trivial)⟩, ⟨by (with_reducible repeat (first | refine blk_drewN ?_ _ | refine blk_drew ?_ | refine blk_alloc ?_ _)); refine blk_put (cs := #[.int .i64 t139, .int .i64 t140, .slice none 0 0]) ?_ 2 _ rfl; (with_reducible repeat (first | refine blk_drewN ?_ _ | refine blk_drew ?_ | refine blk_alloc ?_ _)); refine blk_put (cs := #[.int .i64 t139, .int .i64 0, .slice none 0 0]) ?_ 1 _ rfl; (with_reducible repeat (first | refine blk_drewN ?_ _ | refine blk_drew ?_ | refine blk_alloc ?_ _)); refine blk_put (cs := #[.int .i64 0, .int .i64 0, .slice none 0 0]) ?_ 0 _ rfl; (with_reducible repeat (first | refine blk_drewN ?_ _ | refine blk_drew ?_ | refine blk_alloc ?_ _)); exact BK145.out⟩, ⟨by repeat (first | (with_reducible first | exact HB.out | apply below_alloc | apply pw_below_drewN | apply below_drew1 | refine below_set ?_ GE145.out) | exact HB.out)⟩⟩
    case rest =>
      clear HC8
      try clear c1
      try clear c2
      try clear p2
      try clear c4
      try clear c6
      try clear c13
      try clear c13b0
      try clear c14
      try clear c14b0
      try clear c15
      try clear c15b0
      try clear hcz11_0
      try clear hcz11_1
      try clear hcz11_2
      try clear hfz11_0
      try clear hfz11_1
      try clear hfz11_2
      obtain ⟨kq, x11_7, rfl, HA, HJ7, HO_146002, BK145, HB⟩ := hcut
      cases kq with
      | zero => exact absurd HA.out (by simp [marquetrylaw27_CanvasRenders.j0])
      | succ kj7 =>
        have H := HA.out
        clear HA
        simp only [marquetrylaw27_CanvasRenders.j0] at H
        replace H := Option.bind_eq_some_iff.mp H
        obtain ⟨t146, A160, H⟩ := H
        replace H : (marquetrylaw27_CanvasRenders.l0 kj7 a0 a1 a3 t144 x11_7 t146 0 t139 t140 t141) = some r := H
        have A16 := Aside0.mk A160
        clear A160
        have HC17 := Aside0.mk H
        clear H
        go_upto_block 0 with (first | ((with_reducible refine gate_callee (f := 15) rfl ?_); refine goesL_ (some 46) rfl rfl Try.func15 (by kernel_rfl) rfl #[.slice A2 l2.length c2] rfl (by (try simp only [List.map_toArray, List.map_cons, List.map_nil]); first | done | rfl | (simp only [List.length_drop, List.length_take]; rfl)) ?_; (with_reducible refine (marquetrylaw27_parts.calls kj7 (fun k_ => k_ < w.heap.size) _ _ l2 t146 _ ?side1 A16.out).mono ?_); (case side1 => exact Kd.V_mk HC2.out (Kd.F_below (Kd.C_F k47_heap HR2.out) (by repeat (first | (with_reducible first | exact HB.out | apply below_alloc | apply pw_below_drewN | apply below_drew1 | refine below_set ?_ GE145.out) | exact HB.out)))); rintro e w18 ⟨v147, rfl, ho0, hb⟩; refine ⟨_, rfl, ?_⟩; have n0_ := Aside0.mk (Kd.R_below (by (with_reducible repeat (first | apply Kd.R_alloc | apply Kd.R_drewN | apply Kd.R_drew)); exact HO_146002.out) hb); have n1_ := Aside0.mk (Kd.N_lower (Kd.N_mono (ok' := fun k_ => some k_ ≠ (.slice Ao12 t141.length co12 : Value).ownBlock ∧ k_ ≠ gb145) ho0 (fun k_ hk_ => ⟨Or.elim hk_ (fun hs_ => fun e_ => Nat.not_le.2 hs_ (Kd.R_base HO_146002.out k_ e_.symm)) (fun hn_ => (Kd.fresh' (Kd.R_lt (by (with_reducible repeat (first | apply Kd.R_alloc | apply Kd.R_drewN | apply Kd.R_drew)); exact HO_146002.out)) k_ hn_)), Or.elim hk_ (fun hs_ => fun e_ => Nat.not_le.2 hs_ (by rw [e_]; exact GW145.out)) (fun hn_ => (Kd.freshB (g := gb145) (o := .cells #[.int .i64 t139, .int .i64 t140, .slice Ao12 t141.length co12] 31 (0, 0)) (by (with_reducible repeat (first | refine blk_drewN ?_ _ | refine blk_drew ?_ | refine blk_alloc ?_ _)); exact BK145.out) k_ hn_))⟩)) (below_size (by repeat (first | (with_reducible first | exact HB.out | apply below_alloc | apply pw_below_drewN | apply below_drew1 | refine below_set ?_ GE145.out) | exact HB.out)))); have n2_ := Aside0.mk (blk_below (g := gb145) (o := .cells #[.int .i64 t139, .int .i64 t140, .slice Ao12 t141.length co12] 31 (0, 0)) (by (with_reducible repeat (first | refine blk_drewN ?_ _ | refine blk_drew ?_ | refine blk_alloc ?_ _)); exact BK145.out) hb); have n3_ := Aside0.mk (below_step (by repeat (first | (with_reducible first | exact HB.out | apply below_alloc | apply pw_below_drewN | apply below_drew1 | refine below_set ?_ GE145.out) | exact HB.out)) hb); clear HO_146002; clear BK145; clear HB; have HO_146002 := n0_; have HO148 := n1_; have BK145 := n2_; have HB := n3_; clear n0_ n1_ n2_ n3_; (try clear hb); (try clear hb2); (try clear hk); (try clear hi); (try clear ho0)) | (go_at_call 15; (with_reducible refine (marquetrylaw27_parts.calls kj7 (fun k_ => k_ < w.heap.size) _ _ l2 t146 _ ?side1 A16.out).mono ?_); (case side1 => exact Kd.V_mk HC2.out (Kd.F_below (Kd.C_F k47_heap HR2.out) (by repeat (first | (with_reducible first | exact HB.out | apply below_alloc | apply pw_below_drewN | apply below_drew1 | refine below_set ?_ GE145.out) | exact HB.out)))); rintro e w18 ⟨v147, rfl, ho0, hb⟩; have n0_ := Aside0.mk (Kd.R_below (by (with_reducible repeat (first | apply Kd.R_alloc | apply Kd.R_drewN | apply Kd.R_drew)); exact HO_146002.out) hb); have n1_ := Aside0.mk (Kd.N_lower (Kd.N_mono (ok' := fun k_ => some k_ ≠ (.slice Ao12 t141.length co12 : Value).ownBlock ∧ k_ ≠ gb145) ho0 (fun k_ hk_ => ⟨Or.elim hk_ (fun hs_ => fun e_ => Nat.not_le.2 hs_ (Kd.R_base HO_146002.out k_ e_.symm)) (fun hn_ => (Kd.fresh' (Kd.R_lt (by (with_reducible repeat (first | apply Kd.R_alloc | apply Kd.R_drewN | apply Kd.R_drew)); exact HO_146002.out)) k_ hn_)), Or.elim hk_ (fun hs_ => fun e_ => Nat.not_le.2 hs_ (by rw [e_]; exact GW145.out)) (fun hn_ => (Kd.freshB (g := gb145) (o := .cells #[.int .i64 t139, .int .i64 t140, .slice Ao12 t141.length co12] 31 (0, 0)) (by (with_reducible repeat (first | refine blk_drewN ?_ _ | refine blk_drew ?_ | refine blk_alloc ?_ _)); exact BK145.out) k_ hn_))⟩)) (below_size (by repeat (first | (with_reducible first | exact HB.out | apply below_alloc | apply pw_below_drewN | apply below_drew1 | refine below_set ?_ GE145.out) | exact HB.out)))); have n2_ := Aside0.mk (blk_below (g := gb145) (o := .cells #[.int .i64 t139, .int .i64 t140, .slice Ao12 t141.length co12] 31 (0, 0)) (by (with_reducible repeat (first | refine blk_drewN ?_ _ | refine blk_drew ?_ | refine blk_alloc ?_ _)); exact BK145.out) hb); have n3_ := Aside0.mk (below_step (by repeat (first | (with_reducible first | exact HB.out | apply below_alloc | apply pw_below_drewN | apply below_drew1 | refine below_set ?_ GE145.out) | exact HB.out)) hb); clear HO_146002; clear BK145; clear HB; have HO_146002 := n0_; have HO148 := n1_; have BK145 := n2_; have HB := n3_; clear n0_ n1_ n2_ n3_; (try clear hb); (try clear hb2); (try clear hk); (try clear hi); (try clear ho0)))
        (try simp only [Act.put, List.setIfInBounds_toArray, List.set_cons_zero, List.set_cons_succ])
        go_cut [11] (fun v11 wc => ∃ (kq : Nat) (x11_16 : Bool), v11 = .bool x11_16 ∧ Aside0 (marquetrylaw27_CanvasRenders.j2 kq a0 a1 a3 t144 x11_16 t146 t139 t140 t141 = some r) ∧ Aside0 (kq ≤ kj7) ∧ Aside0 (Kd.N k39 39 wc w.heap.size (fun k_ => some k_ ≠ ((.slice Ao12 t141.length co12) : Value).ownBlock ∧ k_ ≠ gb145) v147 t146) ∧ Aside0 (Kd.R (Kd.int .u32) 22 wc w.heap.size (fun _ => True) (.slice Ao12 t141.length co12) t141) ∧ Aside0 (wc.heap[gb145]? = some (.cells #[.int .i64 t139, .int .i64 t140, (.slice Ao12 t141.length co12)] 31 (0, 0))) ∧ Aside0 (Below w.heap.size w wc))
        case first =>
          have H := HC17.out
          clear HC17
          have H' := Aside0.mk H
          clear H
          go_wp2
          go_loopg [11, 13] kj7 (fun kq v11 v13 w' => ∃ (x11_2 : Bool) (x13_2 : Int), v11 = .bool x11_2 ∧ v13 = .int .i64 x13_2 ∧ Aside0 (marquetrylaw27_CanvasRenders.l0 kq a0 a1 a3 t144 x11_2 t146 x13_2 t139 t140 t141 = some r) ∧ Aside0 (kq ≤ kj7) ∧ Aside0 (Kd.N k39 39 w' w.heap.size (fun k_ => some k_ ≠ ((.slice Ao12 t141.length co12) : Value).ownBlock ∧ k_ ≠ gb145) v147 t146) ∧ Aside0 (Kd.R (Kd.int .u32) 22 w' w.heap.size (fun _ => True) (.slice Ao12 t141.length co12) t141) ∧ Aside0 (w'.heap[gb145]? = some (.cells #[.int .i64 t139, .int .i64 t140, (.slice Ao12 t141.length co12)] 31 (0, 0))) ∧ Aside0 (Below w.heap.size w w'))
          case atStart => exact ⟨(x11_7), (0), (by first | rfl | (simp; done) | (simp [*]; done)), (by first | rfl | (simp; done) | (simp [*]; done)), H', ⟨Nat.le_refl _⟩, ⟨by (with_reducible repeat (first | apply Kd.N_alloc | apply Kd.N_drewN | apply Kd.N_drew)); exact HO148.out⟩, ⟨by (with_reducible repeat (first | apply Kd.R_alloc | apply Kd.R_drewN | apply Kd.R_drew)); exact HO_146002.out⟩, ⟨by (with_reducible repeat (first | refine blk_drewN ?_ _ | refine blk_drew ?_ | refine blk_alloc ?_ _)); exact BK145.out⟩, ⟨by repeat (first | (with_reducible first | exact HB.out | apply below_alloc | apply pw_below_drewN | apply below_drew1 | refine below_set ?_ GE145.out) | exact HB.out)⟩⟩
          case round =>
            clear H'
            try clear c1
            try clear c2
            try clear p2
            try clear c4
            try clear c6
            try clear c13
            try clear c13b0
            try clear c14
            try clear c14b0
            try clear c15
            try clear c15b0
            try clear hcz11_0
            try clear hcz11_1
            try clear hcz11_2
            try clear hfz11_0
            try clear hfz11_1
            try clear hfz11_2
            try clear p2
            obtain ⟨x11_2, x13_2, rfl, rfl, HA, HK2, HO_12, HO_146002, BK145, HB⟩ := hrel
            cases gk with
            | zero => exact absurd HA.out (by simp [marquetrylaw27_CanvasRenders.l0])
            | succ k2 =>
              have H := HA.out
              clear HA
              simp only [marquetrylaw27_CanvasRenders.l0] at H
              by_cases c19 : x13_2 ≤ a3
              · rw [if_pos c19] at H
                have c19b0 : decide (x13_2 ≤ a3) = true := decide_eq_true c19
                clear c19
                (first | rw [c19b0] | (simp only [i64_w, i32_w]; rw [c19b0]) | skip)
                by_cases c20 : x11_2 = true
                · subst c20
                  have H1 : (if 0 ≤ x13_2 then (if x13_2 < (t146.length : Int) then ((marquetryref24_Within.f a0 a1 ((rd_T39 t146 x13_2).f0) ((rd_T39 t146 x13_2).f1) ((rd_T39 t146 x13_2).f2) ((rd_T39 t146 x13_2).f3) ((rd_T39 t146 x13_2).f4.f0) ((rd_T39 t146 x13_2).f4.f1) ((rd_T39 t146 x13_2).f4.f2)).bind fun t150 => (marquetrylaw27_CanvasRenders.l0 k2 a0 a1 a3 t144 t150 t146 (wrap64 (x13_2 + 1)) t139 t140 t141)) else (none)) else (none)) = some r := by rw [if_pos rfl] at H; exact H
                  clear H
                  have H := H1
                  clear H1
                  by_cases c21 : 0 ≤ x13_2
                  · rw [if_pos c21] at H
                    have c21b0 : decide (0 ≤ x13_2) = true := decide_eq_true c21
                    clear c21
                    by_cases c22 : x13_2 < (t146.length : Int)
                    · rw [if_pos c22] at H
                      have c22b0 : decide (x13_2 < (t146.length : Int)) = true := decide_eq_true c22
                      clear c22
                      replace H := Option.bind_eq_some_iff.mp H
                      obtain ⟨t150, A230, H⟩ := H
                      replace H : (marquetrylaw27_CanvasRenders.l0 k2 a0 a1 a3 t144 t150 t146 (wrap64 (x13_2 + 1)) t139 t140 t141) = some r := H
                      have A23 := Aside0.mk A230
                      clear A230
                      have H' := Aside0.mk H
                      clear H
                      obtain ⟨Ao24, co24, eo24⟩ := Kd.N_slice HO_12.out
                      subst eo24
                      have p149 : 0 ≤ (x13_2 : Int) := of_decide_eq_true (by first | (with_reducible assumption) | assumption)
                      have q149 : x13_2 < (t146.length : Int) := of_decide_eq_true (by first | (with_reducible assumption) | assumption)
                      obtain ⟨ad149, A149_6, c149_6, e149, hx149_0, hx149_1, hx149_2, hx149_3, hx149_4, hx149_5, hx149_6, hl149_6, hi149_6⟩ := at_T39 (Kd.N_reads' HO_12.out).2.2 x13_2 p149 q149
                      cases e149
                      obtain ⟨ce149, hce149, hMe149, hcc149⟩ := Kd.N_get HO_12.out z39 x13_2 p149 (by first | exact q149 | exact of_decide_eq_true (by first | (with_reducible assumption) | assumption) | (have e_ := (Kd.N_reads' HO_12.out).1; omega))
                      obtain ⟨ua149_6, uc149_6, rfl, ul149_6, ge149_6⟩ := k39_openF hMe149
                      have hv149_6 := hcc149 6 _ rfl
                      rw [add_field _ _ 6 (by omega)] at hv149_6
                      replace hv149_6 := Option.some.inj (hv149_6.symm.trans hx149_6)
                      injection hv149_6 with hva_ hvn_ hvc_
                      rw [hva_] at ge149_6
                      rw [hvc_] at ul149_6
                      have HL149_6 := Aside0.mk (show Kd.V (Kd.int .u32) 22 _ w.heap.size _ _ ((rd_T39 t146 x13_2).f4.f2) from Kd.V_mk ul149_6 ge149_6)
                      clear hva_ hvn_ hvc_ ge149_6 ul149_6
                      clear hcc149 hce149
                      have HR149_6 := Aside0.mk hi149_6
                      have HC149_6 := Aside0.mk hl149_6
                      clear hi149_6 hl149_6
                      replace p149 := eq_true p149
                      replace q149 := eq_true q149
                      go_wp2_with (first | ((with_reducible refine gate_callee (f := 16) rfl ?_); refine goesL_ (some 61) rfl rfl Try.func16 (by kernel_rfl) rfl #[.int .i64 a0, .int .i64 a1, .agg #[.int .i64 ((rd_T39 t146 x13_2).f0), .int .i64 ((rd_T39 t146 x13_2).f1), .bool ((rd_T39 t146 x13_2).f2), .bool ((rd_T39 t146 x13_2).f3), .int .i64 ((rd_T39 t146 x13_2).f4.f0), .int .i64 ((rd_T39 t146 x13_2).f4.f1), .slice A149_6 ((rd_T39 t146 x13_2).f4.f2).length c149_6]] rfl (by (try simp only [List.map_toArray, List.map_cons, List.map_nil]); first | done | rfl | (simp only [List.length_drop, List.length_take]; rfl)) ?_; (with_reducible refine (marquetryref24_Within.calls a0 a1 ((rd_T39 t146 x13_2).f0) ((rd_T39 t146 x13_2).f1) ((rd_T39 t146 x13_2).f2) ((rd_T39 t146 x13_2).f3) ((rd_T39 t146 x13_2).f4.f0) ((rd_T39 t146 x13_2).f4.f1) _ _ ((rd_T39 t146 x13_2).f4.f2) t150 _ ?side1 ?side2 A23.out).mono ?_); (case side1 => repeat (first | exact (by repeat (first | (with_reducible exact HR149_6.out) | (with_reducible refine Kd.C_alloc ?_ _) | (with_reducible refine Kd.C_drewN ?_ _) | (with_reducible refine Kd.C_drew ?_) | exact HR149_6.out)) | (with_reducible refine Kd.C_alloc ?_ _) | (with_reducible refine Kd.C_drewN ?_ _) | (with_reducible refine Kd.C_drew ?_))); (case side2 => exact HC149_6.out); rintro e w25 ⟨rfl, hb⟩; refine ⟨_, rfl, ?_⟩; have n0_ := Aside0.mk (Kd.N_below (by (with_reducible repeat (first | apply Kd.N_alloc | apply Kd.N_drewN | apply Kd.N_drew)); exact HO_12.out) hb); have n1_ := Aside0.mk (Kd.R_below (by (with_reducible repeat (first | apply Kd.R_alloc | apply Kd.R_drewN | apply Kd.R_drew)); exact HO_146002.out) hb); have n2_ := Aside0.mk (Kd.V_below (by (with_reducible repeat (first | apply Kd.V_alloc | apply Kd.V_drewN | apply Kd.V_drew)); exact HL149_6.out) hb); have n3_ := Aside0.mk (blk_below (g := gb145) (o := .cells #[.int .i64 t139, .int .i64 t140, .slice Ao12 t141.length co12] 31 (0, 0)) (by (with_reducible repeat (first | refine blk_drewN ?_ _ | refine blk_drew ?_ | refine blk_alloc ?_ _)); exact BK145.out) hb); have n4_ := Aside0.mk (Kd.C_below (by repeat (first | (with_reducible exact HR149_6.out) | (with_reducible refine Kd.C_alloc ?_ _) | (with_reducible refine Kd.C_drewN ?_ _) | (with_reducible refine Kd.C_drew ?_) | exact HR149_6.out)) hb); have n5_ := Aside0.mk (below_step (by repeat (first | (with_reducible first | exact HB.out | apply below_alloc | apply pw_below_drewN | apply below_drew1 | refine below_set ?_ GE145.out) | exact HB.out)) hb); clear HO_12; clear HO_146002; clear HL149_6; clear BK145; clear HR149_6; clear HB; have HO_12 := n0_; have HO_146002 := n1_; have HL149_6 := n2_; have BK145 := n3_; have HR149_6 := n4_; have HB := n5_; clear n0_ n1_ n2_ n3_ n4_ n5_; (try clear hb); (try clear hb2); (try clear hk); (try clear hi)) | (go_at_call 16; (with_reducible refine (marquetryref24_Within.calls a0 a1 ((rd_T39 t146 x13_2).f0) ((rd_T39 t146 x13_2).f1) ((rd_T39 t146 x13_2).f2) ((rd_T39 t146 x13_2).f3) ((rd_T39 t146 x13_2).f4.f0) ((rd_T39 t146 x13_2).f4.f1) _ _ ((rd_T39 t146 x13_2).f4.f2) t150 _ ?side1 ?side2 A23.out).mono ?_); (case side1 => repeat (first | exact (by repeat (first | (with_reducible exact HR149_6.out) | (with_reducible refine Kd.C_alloc ?_ _) | (with_reducible refine Kd.C_drewN ?_ _) | (with_reducible refine Kd.C_drew ?_) | exact HR149_6.out)) | (with_reducible refine Kd.C_alloc ?_ _) | (with_reducible refine Kd.C_drewN ?_ _) | (with_reducible refine Kd.C_drew ?_))); (case side2 => exact HC149_6.out); rintro e w25 ⟨rfl, hb⟩; have n0_ := Aside0.mk (Kd.N_below (by (with_reducible repeat (first | apply Kd.N_alloc | apply Kd.N_drewN | apply Kd.N_drew)); exact HO_12.out) hb); have n1_ := Aside0.mk (Kd.R_below (by (with_reducible repeat (first | apply Kd.R_alloc | apply Kd.R_drewN | apply Kd.R_drew)); exact HO_146002.out) hb); have n2_ := Aside0.mk (Kd.V_below (by (with_reducible repeat (first | apply Kd.V_alloc | apply Kd.V_drewN | apply Kd.V_drew)); exact HL149_6.out) hb); have n3_ := Aside0.mk (blk_below (g := gb145) (o := .cells #[.int .i64 t139, .int .i64 t140, .slice Ao12 t141.length co12] 31 (0, 0)) (by (with_reducible repeat (first | refine blk_drewN ?_ _ | refine blk_drew ?_ | refine blk_alloc ?_ _)); exact BK145.out) hb); have n4_ := Aside0.mk (Kd.C_below (by repeat (first | (with_reducible exact HR149_6.out) | (with_reducible refine Kd.C_alloc ?_ _) | (with_reducible refine Kd.C_drewN ?_ _) | (with_reducible refine Kd.C_drew ?_) | exact HR149_6.out)) hb); have n5_ := Aside0.mk (below_step (by repeat (first | (with_reducible first | exact HB.out | apply below_alloc | apply pw_below_drewN | apply below_drew1 | refine below_set ?_ GE145.out) | exact HB.out)) hb); clear HO_12; clear HO_146002; clear HL149_6; clear BK145; clear HR149_6; clear HB; have HO_12 := n0_; have HO_146002 := n1_; have HL149_6 := n2_; have BK145 := n3_; have HR149_6 := n4_; have HB := n5_; clear n0_ n1_ n2_ n3_ n4_ n5_; (try clear hb); (try clear hb2); (try clear hk); (try clear hi)))
                      go_roundg k2
                      case measure => have := HJ7.out; have := HK2.out; omega
                      case rel => exact ⟨(t150), (wrap64 (x13_2 + 1)), (by first | rfl | (simp; done) | (simp [*]; done)), (by first | rfl | (simp; done) | (simp [*]; done)), H', ⟨by have := HJ7.out; have := HK2.out; omega⟩, ⟨by (with_reducible repeat (first | apply Kd.N_alloc | apply Kd.N_drewN | apply Kd.N_drew)); exact HO_12.out⟩, ⟨by (with_reducible repeat (first | apply Kd.R_alloc | apply Kd.R_drewN | apply Kd.R_drew)); exact HO_146002.out⟩, ⟨by (with_reducible repeat (first | refine blk_drewN ?_ _ | refine blk_drew ?_ | refine blk_alloc ?_ _)); exact BK145.out⟩, ⟨by repeat (first | (with_reducible first | exact HB.out | apply below_alloc | apply pw_below_drewN | apply below_drew1 | refine below_set ?_ GE145.out) | exact HB.out)⟩⟩
                    · rw [if_neg c22] at H
                      exact absurd H (by simp)
                  · rw [if_neg c21] at H
                    exact absurd H (by simp)
                · replace c20 := Bool.eq_false_iff.mpr c20
                  subst c20
                  have H1 : (marquetrylaw27_CanvasRenders.j2 k2 a0 a1 a3 t144 false t146 t139 t140 t141) = some r := by rw [if_neg (show ¬ (false = true) by decide)] at H; exact H
                  clear H
                  have H := H1
                  clear H1
                  have H' := Aside0.mk H
                  clear H
                  go_wp2
                  go_meet
                  case rel => exact ⟨_, (false), (by first | rfl | (simp; done) | (simp [*]; done)), H', ⟨by have := HJ7.out; have := HK2.out; first | omega | exact Nat.le_refl _⟩, ⟨by (with_reducible repeat (first | apply Kd.N_alloc | apply Kd.N_drewN | apply Kd.N_drew)); exact HO_12.out⟩, ⟨by (with_reducible repeat (first | apply Kd.R_alloc | apply Kd.R_drewN | apply Kd.R_drew)); exact HO_146002.out⟩, ⟨by (with_reducible repeat (first | refine blk_drewN ?_ _ | refine blk_drew ?_ | refine blk_alloc ?_ _)); exact BK145.out⟩, ⟨by repeat (first | (with_reducible first | exact HB.out | apply below_alloc | apply pw_below_drewN | apply below_drew1 | refine below_set ?_ GE145.out) | exact HB.out)⟩⟩
              · rw [if_neg c19] at H
                have c19b0 : decide (x13_2 ≤ a3) = false := decide_eq_false c19
                clear c19
                (first | rw [c19b0] | (simp only [i64_w, i32_w]; rw [c19b0]) | skip)
                have H' := Aside0.mk H
                clear H
                go_wp2
                go_meet
                case rel => exact ⟨_, (x11_2), (by first | rfl | (simp; done) | (simp [*]; done)), H', ⟨by have := HJ7.out; have := HK2.out; first | omega | exact Nat.le_refl _⟩, ⟨by (with_reducible repeat (first | apply Kd.N_alloc | apply Kd.N_drewN | apply Kd.N_drew)); exact HO_12.out⟩, ⟨by (with_reducible repeat (first | apply Kd.R_alloc | apply Kd.R_drewN | apply Kd.R_drew)); exact HO_146002.out⟩, ⟨by (with_reducible repeat (first | refine blk_drewN ?_ _ | refine blk_drew ?_ | refine blk_alloc ?_ _)); exact BK145.out⟩, ⟨by repeat (first | (with_reducible first | exact HB.out | apply below_alloc | apply pw_below_drewN | apply below_drew1 | refine below_set ?_ GE145.out) | exact HB.out)⟩⟩
        case rest =>
          clear HC17
          try clear c1
          try clear p1
          try clear q1
          try clear hx1
          try clear c2
          try clear p2
          try clear c4
          try clear c6
          try clear p6
          try clear c13
          try clear c13b0
          try clear c14
          try clear c14b0
          try clear p14
          try clear q14
          try clear hx14
          try clear c15
          try clear c15b0
          try clear c16
          try clear c19
          try clear c19b0
          try clear c20
          try clear c21
          try clear c21b0
          try clear c22
          try clear c22b0
          try clear hcz11_0
          try clear hcz11_1
          try clear hcz11_2
          try clear hfz11_0
          try clear hfz11_1
          try clear hfz11_2
          try clear hx149_0
          try clear hx149_1
          try clear hx149_2
          try clear hx149_3
          try clear hx149_4
          try clear hx149_5
          try clear hx149_6
          try clear p149
          try clear p2
          try clear q149
          obtain ⟨kq, x11_16, rfl, HA, HJ16, HO_12, HO_146002, BK145, HB⟩ := hcut
          cases kq with
          | zero => exact absurd HA.out (by simp [marquetrylaw27_CanvasRenders.j2])
          | succ kj16 =>
            have H := HA.out
            clear HA
            simp only [marquetrylaw27_CanvasRenders.j2] at H
            by_cases c26 : x11_16 = true
            · subst c26
              have H1 : (if t144 = 0 then (if t139 = a0 then (if t140 = a1 then (if (t141.length : Int) = (wrap64 (a0 * a1)) then ((marquetrylaw27_answers.f).bind fun t152 => (marquetrylaw27_CanvasRenders.j3 kj16 a0 a3 t146 (!t152) t139 t140 t141)) else (marquetrylaw27_CanvasRenders.j3 kj16 a0 a3 t146 true t139 t140 t141)) else (marquetrylaw27_CanvasRenders.j3 kj16 a0 a3 t146 true t139 t140 t141)) else (marquetrylaw27_CanvasRenders.j3 kj16 a0 a3 t146 true t139 t140 t141)) else (marquetrylaw27_CanvasRenders.j3 kj16 a0 a3 t146 true t139 t140 t141)) = some r := by rw [if_pos rfl] at H; exact H
              clear H
              have H := H1
              clear H1
              have HC27 := Aside0.mk H
              clear H
              go_upto_region 12 with (fail)
              go_cut [101] (fun v101 wc => ∃ (kq : Nat) (x101_26 : Bool), v101 = .bool x101_26 ∧ Aside0 (marquetrylaw27_CanvasRenders.j3 kq a0 a3 t146 x101_26 t139 t140 t141 = some r) ∧ Aside0 (kq ≤ kj16) ∧ Aside0 (Kd.N k39 39 wc w.heap.size (fun k_ => some k_ ≠ ((.slice Ao12 t141.length co12) : Value).ownBlock ∧ k_ ≠ gb145) v147 t146) ∧ Aside0 (Kd.R (Kd.int .u32) 22 wc w.heap.size (fun _ => True) (.slice Ao12 t141.length co12) t141) ∧ Aside0 (wc.heap[gb145]? = some (.cells #[.int .i64 t139, .int .i64 t140, (.slice Ao12 t141.length co12)] 31 (0, 0))) ∧ Aside0 (Below w.heap.size w wc))
              case first =>
                have H := HC27.out
                clear HC27
                by_cases c28 : t144 = 0
                · rw [if_pos c28] at H
                  have c28b0 : (t144 == 0) = true := beq_iff_eq.mpr c28
                  have c28b1 : (t144 != 0) = false := bne_eq_false_iff_eq.mpr c28
                  clear c28
                  (first | rw [c28b0] | (simp only [i64_w, i32_w]; rw [c28b0]) | skip)
                  by_cases c29 : t139 = a0
                  · rw [if_pos c29] at H
                    have c29b0 : (t139 == a0) = true := beq_iff_eq.mpr c29
                    have c29b1 : (t139 != a0) = false := bne_eq_false_iff_eq.mpr c29
                    clear c29
                    by_cases c30 : t140 = a1
                    · rw [if_pos c30] at H
                      have c30b0 : (t140 == a1) = true := beq_iff_eq.mpr c30
                      have c30b1 : (t140 != a1) = false := bne_eq_false_iff_eq.mpr c30
                      clear c30
                      by_cases c31 : (t141.length : Int) = (wrap64 (a0 * a1))
                      · rw [if_pos c31] at H
                        have c31b0 : ((t141.length : Int) == (wrap64 (a0 * a1))) = true := beq_iff_eq.mpr c31
                        have c31b1 : ((t141.length : Int) != (wrap64 (a0 * a1))) = false := bne_eq_false_iff_eq.mpr c31
                        clear c31
                        replace H := Option.bind_eq_some_iff.mp H
                        obtain ⟨t152, A320, H⟩ := H
                        replace H : (marquetrylaw27_CanvasRenders.j3 kj16 a0 a3 t146 (!t152) t139 t140 t141) = some r := H
                        have A32 := Aside0.mk A320
                        clear A320
                        have H' := Aside0.mk H
                        clear H
                        have hcz33_0 : wc.cell? ⟨gb145, 0, none⟩ = some (.int .i64 t139) := (blk_cell BK145.out 0).trans rfl
                        have hcz33_1 : wc.cell? ⟨gb145, 1, none⟩ = some (.int .i64 t140) := (blk_cell BK145.out 1).trans rfl
                        have hcz33_2 : wc.cell? ⟨gb145, 2, none⟩ = some (.slice Ao12 t141.length co12) := (blk_cell BK145.out 2).trans rfl
                        have hfz33_0 := blk_frozen BK145.out 0
                        have hfz33_1 := blk_frozen BK145.out 1
                        have hfz33_2 := blk_frozen BK145.out 2
                        go_wp2_with (first | (go_at_call 11; (with_reducible refine (marquetrylaw27_answers.calls  t152 _ A32.out).mono ?_); clear A32; rintro e w34 ⟨rfl, hb⟩; have n0_ := Aside0.mk (Kd.N_below (by (with_reducible repeat (first | apply Kd.N_alloc | apply Kd.N_drewN | apply Kd.N_drew)); exact HO_12.out) hb); have n1_ := Aside0.mk (Kd.R_below (by (with_reducible repeat (first | apply Kd.R_alloc | apply Kd.R_drewN | apply Kd.R_drew)); exact HO_146002.out) hb); have n2_ := Aside0.mk (blk_below (g := gb145) (o := .cells #[.int .i64 t139, .int .i64 t140, .slice Ao12 t141.length co12] 31 (0, 0)) (by (with_reducible repeat (first | refine blk_drewN ?_ _ | refine blk_drew ?_ | refine blk_alloc ?_ _)); exact BK145.out) hb); have n3_ := Aside0.mk (below_step (by repeat (first | (with_reducible first | exact HB.out | apply below_alloc | apply pw_below_drewN | apply below_drew1 | refine below_set ?_ GE145.out) | exact HB.out)) hb); clear HO_12; clear HO_146002; clear BK145; clear HB; have HO_12 := n0_; have HO_146002 := n1_; have BK145 := n2_; have HB := n3_; clear n0_ n1_ n2_ n3_; (try clear hb); (try clear hb2); (try clear hk); (try clear hi)))
                        go_meet
                        case rel => exact ⟨_, (!t152), (by first | rfl | (simp; done) | (simp [*]; done)), H', ⟨by have := HJ7.out; have := HJ16.out; first | omega | exact Nat.le_refl _⟩, ⟨by (with_reducible repeat (first | apply Kd.N_alloc | apply Kd.N_drewN | apply Kd.N_drew)); exact HO_12.out⟩, ⟨by (with_reducible repeat (first | apply Kd.R_alloc | apply Kd.R_drewN | apply Kd.R_drew)); exact HO_146002.out⟩, ⟨by (with_reducible repeat (first | refine blk_drewN ?_ _ | refine blk_drew ?_ | refine blk_alloc ?_ _)); exact BK145.out⟩, ⟨by repeat (first | (with_reducible first | exact HB.out | apply below_alloc | apply pw_below_drewN | apply below_drew1 | refine below_set ?_ GE145.out) | exact HB.out)⟩⟩
                      · rw [if_neg c31] at H
                        have c31b0 : ((t141.length : Int) == (wrap64 (a0 * a1))) = false := beq_eq_false_iff_ne.mpr c31
                        have c31b1 : ((t141.length : Int) != (wrap64 (a0 * a1))) = true := bne_iff_ne.mpr c31
                        have H' := Aside0.mk H
                        clear H
                        have hcz35_0 : wc.cell? ⟨gb145, 0, none⟩ = some (.int .i64 t139) := (blk_cell BK145.out 0).trans rfl
                        have hcz35_1 : wc.cell? ⟨gb145, 1, none⟩ = some (.int .i64 t140) := (blk_cell BK145.out 1).trans rfl
                        have hcz35_2 : wc.cell? ⟨gb145, 2, none⟩ = some (.slice Ao12 t141.length co12) := (blk_cell BK145.out 2).trans rfl
                        have hfz35_0 := blk_frozen BK145.out 0
                        have hfz35_1 := blk_frozen BK145.out 1
                        have hfz35_2 := blk_frozen BK145.out 2
                        go_wp2
                        go_meet
                        case rel => exact ⟨_, (true), (by first | rfl | (simp; done) | (simp [*]; done)), H', ⟨by have := HJ7.out; have := HJ16.out; first | omega | exact Nat.le_refl _⟩, ⟨by (with_reducible repeat (first | apply Kd.N_alloc | apply Kd.N_drewN | apply Kd.N_drew)); exact HO_12.out⟩, ⟨by (with_reducible repeat (first | apply Kd.R_alloc | apply Kd.R_drewN | apply Kd.R_drew)); exact HO_146002.out⟩, ⟨by (with_reducible repeat (first | refine blk_drewN ?_ _ | refine blk_drew ?_ | refine blk_alloc ?_ _)); exact BK145.out⟩, ⟨by repeat (first | (with_reducible first | exact HB.out | apply below_alloc | apply pw_below_drewN | apply below_drew1 | refine below_set ?_ GE145.out) | exact HB.out)⟩⟩
                    · rw [if_neg c30] at H
                      have c30b0 : (t140 == a1) = false := beq_eq_false_iff_ne.mpr c30
                      have c30b1 : (t140 != a1) = true := bne_iff_ne.mpr c30
                      have H' := Aside0.mk H
                      clear H
                      have hcz36_0 : wc.cell? ⟨gb145, 0, none⟩ = some (.int .i64 t139) := (blk_cell BK145.out 0).trans rfl
                      have hcz36_1 : wc.cell? ⟨gb145, 1, none⟩ = some (.int .i64 t140) := (blk_cell BK145.out 1).trans rfl
                      have hcz36_2 : wc.cell? ⟨gb145, 2, none⟩ = some (.slice Ao12 t141.length co12) := (blk_cell BK145.out 2).trans rfl
                      have hfz36_0 := blk_frozen BK145.out 0
                      have hfz36_1 := blk_frozen BK145.out 1
                      have hfz36_2 := blk_frozen BK145.out 2
                      go_wp2
                      go_meet
                      case rel => exact ⟨_, (true), (by first | rfl | (simp; done) | (simp [*]; done)), H', ⟨by have := HJ7.out; have := HJ16.out; first | omega | exact Nat.le_refl _⟩, ⟨by (with_reducible repeat (first | apply Kd.N_alloc | apply Kd.N_drewN | apply Kd.N_drew)); exact HO_12.out⟩, ⟨by (with_reducible repeat (first | apply Kd.R_alloc | apply Kd.R_drewN | apply Kd.R_drew)); exact HO_146002.out⟩, ⟨by (with_reducible repeat (first | refine blk_drewN ?_ _ | refine blk_drew ?_ | refine blk_alloc ?_ _)); exact BK145.out⟩, ⟨by repeat (first | (with_reducible first | exact HB.out | apply below_alloc | apply pw_below_drewN | apply below_drew1 | refine below_set ?_ GE145.out) | exact HB.out)⟩⟩
                  · rw [if_neg c29] at H
                    have c29b0 : (t139 == a0) = false := beq_eq_false_iff_ne.mpr c29
                    have c29b1 : (t139 != a0) = true := bne_iff_ne.mpr c29
                    have H' := Aside0.mk H
                    clear H
                    have hcz37_0 : wc.cell? ⟨gb145, 0, none⟩ = some (.int .i64 t139) := (blk_cell BK145.out 0).trans rfl
                    have hcz37_1 : wc.cell? ⟨gb145, 1, none⟩ = some (.int .i64 t140) := (blk_cell BK145.out 1).trans rfl
                    have hcz37_2 : wc.cell? ⟨gb145, 2, none⟩ = some (.slice Ao12 t141.length co12) := (blk_cell BK145.out 2).trans rfl
                    have hfz37_0 := blk_frozen BK145.out 0
                    have hfz37_1 := blk_frozen BK145.out 1
                    have hfz37_2 := blk_frozen BK145.out 2
                    go_wp2
                    go_meet
                    case rel => exact ⟨_, (true), (by first | rfl | (simp; done) | (simp [*]; done)), H', ⟨by have := HJ7.out; have := HJ16.out; first | omega | exact Nat.le_refl _⟩, ⟨by (with_reducible repeat (first | apply Kd.N_alloc | apply Kd.N_drewN | apply Kd.N_drew)); exact HO_12.out⟩, ⟨by (with_reducible repeat (first | apply Kd.R_alloc | apply Kd.R_drewN | apply Kd.R_drew)); exact HO_146002.out⟩, ⟨by (with_reducible repeat (first | refine blk_drewN ?_ _ | refine blk_drew ?_ | refine blk_alloc ?_ _)); exact BK145.out⟩, ⟨by repeat (first | (with_reducible first | exact HB.out | apply below_alloc | apply pw_below_drewN | apply below_drew1 | refine below_set ?_ GE145.out) | exact HB.out)⟩⟩
                · rw [if_neg c28] at H
                  have c28b0 : (t144 == 0) = false := beq_eq_false_iff_ne.mpr c28
                  have c28b1 : (t144 != 0) = true := bne_iff_ne.mpr c28
                  (first | rw [c28b0] | (simp only [i64_w, i32_w]; rw [c28b0]) | skip)
                  have H' := Aside0.mk H
                  clear H
                  go_wp2
                  go_meet
                  case rel => exact ⟨_, (true), (by first | rfl | (simp; done) | (simp [*]; done)), H', ⟨by have := HJ7.out; have := HJ16.out; first | omega | exact Nat.le_refl _⟩, ⟨by (with_reducible repeat (first | apply Kd.N_alloc | apply Kd.N_drewN | apply Kd.N_drew)); exact HO_12.out⟩, ⟨by (with_reducible repeat (first | apply Kd.R_alloc | apply Kd.R_drewN | apply Kd.R_drew)); exact HO_146002.out⟩, ⟨by (with_reducible repeat (first | refine blk_drewN ?_ _ | refine blk_drew ?_ | refine blk_alloc ?_ _)); exact BK145.out⟩, ⟨by repeat (first | (with_reducible first | exact HB.out | apply below_alloc | apply pw_below_drewN | apply below_drew1 | refine below_set ?_ GE145.out) | exact HB.out)⟩⟩
              case rest =>
                clear HC27
                try clear c1
                try clear p1
                try clear q1
                try clear hx1
                try clear c2
                try clear p2
                try clear c3
                try clear c4
                try clear c6
                try clear p6
                try clear c13
                try clear c13b0
                try clear c14
                try clear c14b0
                try clear p14
                try clear q14
                try clear hx14
                try clear c15
                try clear c15b0
                try clear c16
                try clear c19
                try clear c19b0
                try clear c20
                try clear c21
                try clear c21b0
                try clear c22
                try clear c22b0
                try clear c26
                try clear c28
                try clear c28b0
                try clear c28b1
                try clear c29
                try clear c29b0
                try clear c29b1
                try clear c30
                try clear c30b0
                try clear c30b1
                try clear c31
                try clear c31b0
                try clear c31b1
                try clear hcz11_0
                try clear hcz11_1
                try clear hcz11_2
                try clear hcz33_0
                try clear hcz33_1
                try clear hcz33_2
                try clear hcz35_0
                try clear hcz35_1
                try clear hcz35_2
                try clear hcz36_0
                try clear hcz36_1
                try clear hcz36_2
                try clear hcz37_0
                try clear hcz37_1
                try clear hcz37_2
                try clear hfz11_0
                try clear hfz11_1
                try clear hfz11_2
                try clear hfz33_0
                try clear hfz33_1
                try clear hfz33_2
                try clear hfz35_0
                try clear hfz35_1
                try clear hfz35_2
                try clear hfz36_0
                try clear hfz36_1
                try clear hfz36_2
                try clear hfz37_0
                try clear hfz37_1
                try clear hfz37_2
                try clear hx149_0
                try clear hx149_1
                try clear hx149_2
                try clear hx149_3
                try clear hx149_4
                try clear hx149_5
                try clear hx149_6
                try clear p1
                try clear p14
                try clear p149
                try clear p2
                try clear p6
                try clear q1
                try clear q14
                try clear q149
                obtain ⟨kq, x101_26, rfl, HA, HJ26, HO_12, HO_146002, BK145, HB⟩ := hcut
                cases kq with
                | zero => exact absurd HA.out (by simp [marquetrylaw27_CanvasRenders.j3])
                | succ kj26 =>
                  have H := HA.out
                  clear HA
                  simp only [marquetrylaw27_CanvasRenders.j3] at H
                  by_cases c38 : x101_26 = true
                  · subst c38
                    have H1 : (some false) = some r := by rw [if_pos rfl] at H; exact H
                    clear H
                    have H := H1
                    clear H1
                    exact absurd ((Option.some.inj H).trans Hr.out) (by decide)
                  · replace c38 := Bool.eq_false_iff.mpr c38
                    subst c38
                    have H1 : (marquetrylaw27_CanvasRenders.l1 kj26 a0 a3 t146 0 t139 t140 t141) = some r := by rw [if_neg (show ¬ (false = true) by decide)] at H; exact H
                    clear H
                    have H := H1
                    clear H1
                    have H' := Aside0.mk H
                    clear H
                    go_wp2
                    go_loopg [14] kj26 (fun kq v14 w' => ∃ (x14_4 : Int), v14 = .int .i64 x14_4 ∧ Aside0 (marquetrylaw27_CanvasRenders.l1 kq a0 a3 t146 x14_4 t139 t140 t141 = some r) ∧ Aside0 (kq ≤ kj26) ∧ Aside0 (Kd.N k39 39 w' w.heap.size (fun k_ => some k_ ≠ ((.slice Ao12 t141.length co12) : Value).ownBlock ∧ k_ ≠ gb145) v147 t146) ∧ Aside0 (Kd.R (Kd.int .u32) 22 w' w.heap.size (fun _ => True) (.slice Ao12 t141.length co12) t141) ∧ Aside0 (w'.heap[gb145]? = some (.cells #[.int .i64 t139, .int .i64 t140, (.slice Ao12 t141.length co12)] 31 (0, 0))) ∧ Aside0 (Below w.heap.size w w'))
                    case atStart => exact ⟨(0), (by first | rfl | (simp; done) | (simp [*]; done)), H', ⟨Nat.le_refl _⟩, ⟨by (with_reducible repeat (first | apply Kd.N_alloc | apply Kd.N_drewN | apply Kd.N_drew)); exact HO_12.out⟩, ⟨by (with_reducible repeat (first | apply Kd.R_alloc | apply Kd.R_drewN | apply Kd.R_drew)); exact HO_146002.out⟩, ⟨by (with_reducible repeat (first | refine blk_drewN ?_ _ | refine blk_drew ?_ | refine blk_alloc ?_ _)); exact BK145.out⟩, ⟨by repeat (first | (with_reducible first | exact HB.out | apply below_alloc | apply pw_below_drewN | apply below_drew1 | refine below_set ?_ GE145.out) | exact HB.out)⟩⟩
                    case round =>
                      clear H'
                      try clear c1
                      try clear p1
                      try clear q1
                      try clear hx1
                      try clear c2
                      try clear p2
                      try clear c3
                      try clear c4
                      try clear c6
                      try clear p6
                      try clear c13
                      try clear c13b0
                      try clear c14
                      try clear c14b0
                      try clear p14
                      try clear q14
                      try clear hx14
                      try clear c15
                      try clear c15b0
                      try clear c16
                      try clear c19
                      try clear c19b0
                      try clear c20
                      try clear c21
                      try clear c21b0
                      try clear c22
                      try clear c22b0
                      try clear c26
                      try clear c28
                      try clear c28b0
                      try clear c28b1
                      try clear c29
                      try clear c29b0
                      try clear c29b1
                      try clear c30
                      try clear c30b0
                      try clear c30b1
                      try clear c31
                      try clear c31b0
                      try clear c31b1
                      try clear c38
                      try clear hcz11_0
                      try clear hcz11_1
                      try clear hcz11_2
                      try clear hcz33_0
                      try clear hcz33_1
                      try clear hcz33_2
                      try clear hcz35_0
                      try clear hcz35_1
                      try clear hcz35_2
                      try clear hcz36_0
                      try clear hcz36_1
                      try clear hcz36_2
                      try clear hcz37_0
                      try clear hcz37_1
                      try clear hcz37_2
                      try clear hfz11_0
                      try clear hfz11_1
                      try clear hfz11_2
                      try clear hfz33_0
                      try clear hfz33_1
                      try clear hfz33_2
                      try clear hfz35_0
                      try clear hfz35_1
                      try clear hfz35_2
                      try clear hfz36_0
                      try clear hfz36_1
                      try clear hfz36_2
                      try clear hfz37_0
                      try clear hfz37_1
                      try clear hfz37_2
                      try clear hx149_0
                      try clear hx149_1
                      try clear hx149_2
                      try clear hx149_3
                      try clear hx149_4
                      try clear hx149_5
                      try clear hx149_6
                      try clear p1
                      try clear p14
                      try clear p149
                      try clear p2
                      try clear p6
                      try clear q1
                      try clear q14
                      try clear q149
                      obtain ⟨x14_4, rfl, HA, HK4, HO_12, HO_146002, BK145, HB⟩ := hrel
                      cases gk with
                      | zero => exact absurd HA.out (by simp [marquetrylaw27_CanvasRenders.l1])
                      | succ k4 =>
                        have H := HA.out
                        clear HA
                        simp only [marquetrylaw27_CanvasRenders.l1] at H
                        by_cases c39 : x14_4 < (t141.length : Int)
                        · rw [if_pos c39] at H
                          have c39b0 : decide (x14_4 < (t141.length : Int)) = true := decide_eq_true c39
                          clear c39
                          by_cases c40 : 0 ≤ x14_4
                          · rw [if_pos c40] at H
                            have c40b0 : decide (0 ≤ x14_4) = true := decide_eq_true c40
                            clear c40
                            by_cases c41 : a0 = 0
                            · rw [if_pos c41] at H
                              exact absurd H (by simp)
                            · rw [if_neg c41] at H
                              have c41b0 : (a0 == 0) = false := beq_eq_false_iff_ne.mpr c41
                              have c41b1 : (a0 != 0) = true := bne_iff_ne.mpr c41
                              replace H := Option.bind_eq_some_iff.mp H
                              obtain ⟨t154, A420, H⟩ := H
                              replace H : (if (rd t141 x14_4) = t154 then (marquetrylaw27_CanvasRenders.l1 k4 a0 a3 t146 (wrap64 (x14_4 + 1)) t139 t140 t141) else (some false)) = some r := H
                              have A42 := Aside0.mk A420
                              clear A420
                              by_cases c43 : (rd t141 x14_4) = t154
                              · rw [if_pos c43] at H
                                have c43b0 : ((rd t141 x14_4) == t154) = true := beq_iff_eq.mpr c43
                                have c43b1 : ((rd t141 x14_4) != t154) = false := bne_eq_false_iff_eq.mpr c43
                                clear c43
                                have H' := Aside0.mk H
                                clear H
                                have hcz44_0 : wr.cell? ⟨gb145, 0, none⟩ = some (.int .i64 t139) := (blk_cell BK145.out 0).trans rfl
                                have hcz44_1 : wr.cell? ⟨gb145, 1, none⟩ = some (.int .i64 t140) := (blk_cell BK145.out 1).trans rfl
                                have hcz44_2 : wr.cell? ⟨gb145, 2, none⟩ = some (.slice Ao12 t141.length co12) := (blk_cell BK145.out 2).trans rfl
                                have hfz44_0 := blk_frozen BK145.out 0
                                have hfz44_1 := blk_frozen BK145.out 1
                                have hfz44_2 := blk_frozen BK145.out 2
                                try go_wp2
                                have n0_ := Aside0.mk (Kd.N_drew HO_12.out)
                                have n1_ := Aside0.mk (Kd.R_drew HO_146002.out)
                                have n2_ := Aside0.mk (blk_drew BK145.out)
                                have n3_ := Aside0.mk (below_drew1 HB.out)
                                clear HO_12
                                clear HO_146002
                                clear BK145
                                clear HB
                                have HO_12 := n0_
                                have HO_146002 := n1_
                                have BK145 := n2_
                                have HB := n3_
                                clear n0_ n1_ n2_ n3_
                                have p153 : 0 ≤ (x14_4 : Int) := of_decide_eq_true (by first | (with_reducible assumption) | assumption)
                                have q153 : x14_4 < (t141.length : Int) := of_decide_eq_true (by first | (with_reducible assumption) | assumption)
                                obtain ⟨ad153, e153, hx153_0⟩ := Kd.at_int (Kd.R_reads' HO_146002.out).2.2 x14_4 p153 q153
                                cases e153
                                replace p153 := eq_true p153
                                replace q153 := eq_true q153
                                obtain ⟨Ao46, co46, eo46⟩ := Kd.N_slice HO_12.out
                                (first | subst eo46 | (injection eo46 with f1_ f2_ f3_; have f4_ := f1_.symm; have f5_ := f3_.symm; clear f1_ f2_ f3_; subst f4_; subst f5_))
                                refine start_ (n := 15) (S := fun w' => w'.cell? ⟨gb145, 0, none⟩ = some (.int .i64 t139) ∧ w'.cell? ⟨gb145, 1, none⟩ = some (.int .i64 t140) ∧ w'.cell? ⟨gb145, 2, none⟩ = some (.slice (some ad153) t141.length co12) ∧ w'.cell? (ad153.add (x14_4).toNat) = some (.int .u32 (rd t141 x14_4))) (ds := []) #[false, false, false, false, false, false, false, false, false, false, false, false, false, false, false] (by kernel_rfl) rfl rfl ⟨(blk_cell BK145.out 0).trans rfl, (blk_cell BK145.out 1).trans rfl, (blk_cell BK145.out 2).trans rfl, hx153_0⟩ (fun hHeld => ?_); refine with_tabW marquetrylaw27_CanvasRenders.tab17 marquetrylaw27_CanvasRenders.bits17 (fun HT_ HW_ => ?_)
                                generalize wr.drew = w45 at HO_12 HO_146002 BK145 HB hx153_0 hHeld ⊢
                                refine pure_ (i := 0) (N := some 109) (v := ?_) (a' := ?_) #[true, false, false, false, false, false, false, false, false, false, false, false, false, false, false] rfl rfl (any_of HT_.out (by kernel_rfl)) (fun _ _ _ h => h) (Or.inl ⟨by rfl, ?_⟩) ?_ ?_
                                rotate_left
                                · intro w'
                                  go_simp
                                  with_reducible rfl
                                rotate_left
                                · simp only [Act.put, List.setIfInBounds_toArray, List.set_cons_zero, List.set_cons_succ, i64_w, i32_w]
                                  rfl
                                refine pure_ (i := 2) (N := some 111) (v := ?_) (a' := ?_) #[true, false, true, false, false, false, false, false, false, false, false, false, false, false, false] rfl rfl (any_of HT_.out (by kernel_rfl)) (fun _ _ _ h => h) (Or.inl ⟨by rfl, ?_⟩) ?_ ?_
                                rotate_left
                                · intro w'
                                  go_simp
                                  with_reducible rfl
                                rotate_left
                                · simp only [Act.put, List.setIfInBounds_toArray, List.set_cons_zero, List.set_cons_succ, i64_w, i32_w]
                                  rfl
                                refine pure_ (i := 5) (N := some 114) (v := ?_) (a' := ?_) #[true, false, true, false, false, true, false, false, false, false, false, false, false, false, false] rfl rfl (any_of HT_.out (by kernel_rfl)) (fun _ _ _ h => h) (Or.inl ⟨by rfl, ?_⟩) ?_ ?_
                                rotate_left
                                · intro w'
                                  go_simp
                                  with_reducible rfl
                                rotate_left
                                · simp only [Act.put, List.setIfInBounds_toArray, List.set_cons_zero, List.set_cons_succ, i64_w, i32_w]
                                  rfl
                                refine pure_ (i := 6) (N := some 115) (v := ?_) (a' := ?_) #[true, false, true, false, false, true, true, false, false, false, false, false, false, false, false] rfl rfl (any_of HT_.out (by kernel_rfl)) (fun _ _ _ h => h) (Or.inl ⟨by rfl, ?_⟩) ?_ ?_
                                rotate_left
                                · intro w'
                                  go_simp
                                  with_reducible rfl
                                rotate_left
                                · simp only [Act.put, List.setIfInBounds_toArray, List.set_cons_zero, List.set_cons_succ, i64_w, i32_w]
                                  rfl
                                refine pure_ (i := 7) (N := some 116) (v := ?_) (a' := ?_) #[true, false, true, false, false, true, true, true, false, false, false, false, false, false, false] rfl rfl (any_of HT_.out (by kernel_rfl)) (fun _ _ _ h => h) (Or.inl ⟨by rfl, ?_⟩) ?_ ?_
                                rotate_left
                                · intro w'
                                  go_simp
                                  with_reducible rfl
                                rotate_left
                                · simp only [Act.put, List.setIfInBounds_toArray, List.set_cons_zero, List.set_cons_succ, i64_w, i32_w]
                                  rfl
                                refine pure_ (i := 8) (N := some 117) (v := ?_) (a' := ?_) #[true, false, true, false, false, true, true, true, true, false, false, false, false, false, false] rfl rfl (any_of HT_.out (by kernel_rfl)) (fun _ _ _ h => h) (Or.inl ⟨by rfl, ?_⟩) ?_ ?_
                                rotate_left
                                · intro w'
                                  go_simp
                                  with_reducible rfl
                                rotate_left
                                · simp only [Act.put, List.setIfInBounds_toArray, List.set_cons_zero, List.set_cons_succ, i64_w, i32_w]
                                  rfl
                                refine pure_ (i := 9) (N := some 118) (v := ?_) (a' := ?_) #[true, false, true, false, false, true, true, true, true, true, false, false, false, false, false] rfl rfl (any_of HT_.out (by kernel_rfl)) (fun _ _ _ h => h) (Or.inl ⟨by rfl, ?_⟩) ?_ ?_
                                rotate_left
                                · intro w'
                                  go_simp
                                  with_reducible rfl
                                rotate_left
                                · simp only [Act.put, List.setIfInBounds_toArray, List.set_cons_zero, List.set_cons_succ, i64_w, i32_w]
                                  rfl
                                refine pure_ (i := 10) (N := some 119) (v := ?_) (a' := ?_) #[true, false, true, false, false, true, true, true, true, true, true, false, false, false, false] rfl rfl (any_of HT_.out (by kernel_rfl)) (fun _ _ _ h => h) (Or.inl ⟨by rfl, ?_⟩) ?_ ?_
                                rotate_left
                                · intro w'
                                  go_simp
                                  with_reducible rfl
                                rotate_left
                                · simp only [Act.put, List.setIfInBounds_toArray, List.set_cons_zero, List.set_cons_succ, i64_w, i32_w]
                                  rfl
                                refine pure_ (i := 11) (N := some 120) (v := ?_) (a' := ?_) #[true, false, true, false, false, true, true, true, true, true, true, true, false, false, false] rfl rfl (any_of HT_.out (by kernel_rfl)) (fun _ _ _ h => h) (Or.inl ⟨by rfl, ?_⟩) ?_ ?_
                                rotate_left
                                · intro w'
                                  go_simp
                                  with_reducible rfl
                                rotate_left
                                · simp only [Act.put, List.setIfInBounds_toArray, List.set_cons_zero, List.set_cons_succ, i64_w, i32_w]
                                  rfl
                                refine pure_ (i := 12) (N := some 121) (v := ?_) (a' := ?_) #[true, false, true, false, false, true, true, true, true, true, true, true, true, false, false] rfl rfl (any_of HT_.out (by kernel_rfl)) (fun _ _ _ h => h) (Or.inl ⟨by rfl, ?_⟩) ?_ ?_
                                rotate_left
                                · intro w'
                                  go_simp
                                  with_reducible rfl
                                rotate_left
                                · simp only [Act.put, List.setIfInBounds_toArray, List.set_cons_zero, List.set_cons_succ, i64_w, i32_w]
                                  rfl
                                refine take_ (i := 1) (N := some 110) (v := ?_) (a' := ?_) #[true, true, true, false, false, true, true, true, true, true, true, true, true, false, false] rfl rfl (take_ofW HT_.out HW_.out (by kernel_rfl)) (fun _ _ _ h => h) (Or.inl ⟨by rfl, ?_⟩) hHeld ?_ ?_
                                rotate_left
                                · rintro w' ⟨s0, s1, s2, s3⟩
                                  go_simp
                                  with_reducible rfl
                                rotate_left
                                · simp only [Act.put, List.setIfInBounds_toArray, List.set_cons_zero, List.set_cons_succ, i64_w, i32_w]
                                  rfl
                                refine pure_ (i := 3) (N := some 112) (v := ?_) (a' := ?_) #[true, true, true, true, false, true, true, true, true, true, true, true, true, false, false] rfl rfl (any_of HT_.out (by kernel_rfl)) (fun _ _ _ h => h) (Or.inl ⟨by rfl, ?_⟩) ?_ ?_
                                rotate_left
                                · intro w'
                                  go_simp
                                  with_reducible rfl
                                rotate_left
                                · simp only [Act.put, List.setIfInBounds_toArray, List.set_cons_zero, List.set_cons_succ, i64_w, i32_w]
                                  rfl
                                refine take_ (i := 4) (N := some 113) (v := ?_) (a' := ?_) #[true, true, true, true, true, true, true, true, true, true, true, true, true, false, false] rfl rfl (take_ofW HT_.out HW_.out (by kernel_rfl)) (fun _ _ _ h => h) (Or.inl ⟨by rfl, ?_⟩) hHeld ?_ ?_
                                rotate_left
                                · rintro w' ⟨s0, s1, s2, s3⟩
                                  go_simp
                                  with_reducible rfl
                                rotate_left
                                · simp only [Act.put, List.setIfInBounds_toArray, List.set_cons_zero, List.set_cons_succ, i64_w, i32_w]
                                  rfl
                                refine one_ (i := 13) (N := some 122) #[true, true, true, true, true, true, true, true, true, true, true, true, true, true, false] rfl rfl (one_of HT_.out (by kernel_rfl)) (by decide) (fun K hK => ?_)
                                first | (refine goes_ Try.func17 (by kernel_rfl) rfl #[.slice Ao46 t146.length co46, .int .i64 a3, .int .i64 (Int.tmod x14_4 a0), .int .i64 (wrap64 (Int.tdiv x14_4 a0))] (by rfl) rfl rfl (by (try simp only [List.map_toArray, List.map_cons, List.map_nil]); first | done | rfl | (simp only [List.length_drop, List.length_take]; rfl)) ?_) | (refine goesT_ Try.func17 (by kernel_rfl) rfl #[.slice Ao46 t146.length co46, .int .i64 a3, .int .i64 (Int.tmod x14_4 a0), .int .i64 (wrap64 (Int.tdiv x14_4 a0))] (by rfl) rfl rfl (by rfl) (by (try simp only [List.map_toArray, List.map_cons, List.map_nil]); first | done | rfl | (simp only [List.length_drop, List.length_take]; rfl)) ?_)
                                with_reducible refine (marquetryref24_Pixel.calls k4 _ _ t146 a3 (Int.tmod x14_4 a0) (wrap64 (Int.tdiv x14_4 a0)) t154 _ ?side1 ?side2 A42.out).mono ?_
                                (case side1 => repeat (first | exact (Kd.N_reads' HO_12.out).2.2 | (with_reducible refine Kd.C_alloc ?_ _) | (with_reducible refine Kd.C_drewN ?_ _) | (with_reducible refine Kd.C_drew ?_)))
                                (case side2 => exact (Kd.N_reads' HO_12.out).2.1)
                                rintro e w47 ⟨rfl, hb⟩
                                have HS3_ := (hb.cell (World.block_lt_of_cell? _ _ (hHeld.2.2.2))).trans (hHeld.2.2.2)
                                refine ⟨_, rfl, ?_⟩
                                have n0_ := Aside0.mk (Kd.N_below (by (with_reducible repeat (first | apply Kd.N_alloc | apply Kd.N_drewN | apply Kd.N_drew)); exact HO_12.out) hb)
                                have n1_ := Aside0.mk (Kd.R_below (by (with_reducible repeat (first | apply Kd.R_alloc | apply Kd.R_drewN | apply Kd.R_drew)); exact HO_146002.out) hb)
                                have n2_ := Aside0.mk (blk_below (g := gb145) (o := .cells #[.int .i64 t139, .int .i64 t140, .slice (some ad153) t141.length co12] 31 (0, 0)) (by (with_reducible repeat (first | refine blk_drewN ?_ _ | refine blk_drew ?_ | refine blk_alloc ?_ _)); exact BK145.out) hb)
                                have n3_ := Aside0.mk (below_step (by repeat (first | (with_reducible first | exact HB.out | apply below_alloc | apply pw_below_drewN | apply below_drew1 | refine below_set ?_ GE145.out) | exact HB.out)) hb)
                                clear HO_12
                                clear HO_146002
                                clear BK145
                                clear HB
                                have HO_12 := n0_
                                have HO_146002 := n1_
                                have BK145 := n2_
                                have HB := n3_
                                clear n0_ n1_ n2_ n3_
                                (try clear hb)
                                (try clear hb2)
                                (try clear hk)
                                (try clear hi)
                                refine hK.out _ _ ⟨(blk_cell BK145.out 0).trans rfl, (blk_cell BK145.out 1).trans rfl, (blk_cell BK145.out 2).trans rfl, HS3_⟩ (fun hHeld => ?_)
                                clear hK K
                                refine norm_ (a' := ?_) ?_ ?_
                                rotate_left
                                · show Act.put _ (some 122) _ = _
                                  simp only [Act.put, List.setIfInBounds_toArray, List.set_cons_zero, List.set_cons_succ, i64_w, i32_w]
                                  rfl
                                refine pure_ (i := 14) (N := some 123) (v := ?_) (a' := ?_) #[true, true, true, true, true, true, true, true, true, true, true, true, true, true, true] rfl rfl (any_of HT_.out (by kernel_rfl)) (fun _ _ _ h => h) (Or.inl ⟨by rfl, ?_⟩) ?_ ?_
                                rotate_left
                                · intro w'
                                  go_simp
                                  with_reducible rfl
                                rotate_left
                                · simp only [Act.put, List.setIfInBounds_toArray, List.set_cons_zero, List.set_cons_succ, i64_w, i32_w]
                                  rfl
                                refine done_ (done_of HT_.out (by kernel_rfl)) ?_
                                try go_wp2
                                go_roundg k4
                                case measure => have := HJ7.out; have := HJ16.out; have := HJ26.out; have := HK4.out; omega
                                case rel => exact ⟨(wrap64 (x14_4 + 1)), (by first | rfl | (simp; done) | (simp [*]; done)), H', ⟨by have := HJ7.out; have := HJ16.out; have := HJ26.out; have := HK4.out; omega⟩, ⟨by (with_reducible repeat (first | apply Kd.N_alloc | apply Kd.N_drewN | apply Kd.N_drew)); exact HO_12.out⟩, ⟨by (with_reducible repeat (first | apply Kd.R_alloc | apply Kd.R_drewN | apply Kd.R_drew)); exact HO_146002.out⟩, ⟨by (with_reducible repeat (first | refine blk_drewN ?_ _ | refine blk_drew ?_ | refine blk_alloc ?_ _)); exact BK145.out⟩, ⟨by repeat (first | (with_reducible first | exact HB.out | apply below_alloc | apply pw_below_drewN | apply below_drew1 | refine below_set ?_ GE145.out) | exact HB.out)⟩⟩
                              · rw [if_neg c43] at H
                                have c43b0 : ((rd t141 x14_4) == t154) = false := beq_eq_false_iff_ne.mpr c43
                                have c43b1 : ((rd t141 x14_4) != t154) = true := bne_iff_ne.mpr c43
                                exact absurd ((Option.some.inj H).trans Hr.out) (by decide)
                          · rw [if_neg c40] at H
                            exact absurd H (by simp)
                        · rw [if_neg c39] at H
                          have c39b0 : decide (x14_4 < (t141.length : Int)) = false := decide_eq_false c39
                          clear c39
                          obtain rfl := Option.some.inj H
                          have hcz48_0 : wr.cell? ⟨gb145, 0, none⟩ = some (.int .i64 t139) := (blk_cell BK145.out 0).trans rfl
                          have hcz48_1 : wr.cell? ⟨gb145, 1, none⟩ = some (.int .i64 t140) := (blk_cell BK145.out 1).trans rfl
                          have hcz48_2 : wr.cell? ⟨gb145, 2, none⟩ = some (.slice Ao12 t141.length co12) := (blk_cell BK145.out 2).trans rfl
                          have hfz48_0 := blk_frozen BK145.out 0
                          have hfz48_1 := blk_frozen BK145.out 1
                          have hfz48_2 := blk_frozen BK145.out 2
                          go_wp2
                          go_ret
                          exact ⟨by first | rfl | (simp [errW_none, errW_some] <;> rfl) | (simp [*, errW_none, errW_some] <;> rfl), by repeat (first | (with_reducible first | exact HB.out | apply below_alloc | apply pw_below_drewN | apply below_drew1 | refine below_set ?_ GE145.out) | exact HB.out)⟩
            · replace c26 := Bool.eq_false_iff.mpr c26
              subst c26
              have H1 : ((marquetrylaw27_answers.f).bind fun t151 => (if t151 = true then (if t144 = 1 then (some ((t141.length : Int) == 0)) else (some false)) else (some false))) = some r := by rw [if_neg (show ¬ (false = true) by decide)] at H; exact H
              clear H
              have H := H1
              clear H1
              replace H := Option.bind_eq_some_iff.mp H
              obtain ⟨t151, A490, H⟩ := H
              replace H : (if t151 = true then (if t144 = 1 then (some ((t141.length : Int) == 0)) else (some false)) else (some false)) = some r := H
              have A49 := Aside0.mk A490
              clear A490
              by_cases c50 : t151 = true
              · subst c50
                have H1 : (if t144 = 1 then (some ((t141.length : Int) == 0)) else (some false)) = some r := by rw [if_pos rfl] at H; exact H
                clear H
                have H := H1
                clear H1
                by_cases c51 : t144 = 1
                · rw [if_pos c51] at H
                  have c51b0 : (t144 == 1) = true := beq_iff_eq.mpr c51
                  have c51b1 : (t144 != 1) = false := bne_eq_false_iff_eq.mpr c51
                  clear c51
                  obtain rfl := Option.some.inj H
                  go_wp2_with (first | ((with_reducible refine gate_callee (f := 11) rfl ?_); refine goesL_ (some 64) rfl rfl Try.func11 (by kernel_rfl) rfl #[] rfl (by (try simp only [List.map_toArray, List.map_cons, List.map_nil]); first | done | rfl | (simp only [List.length_drop, List.length_take]; rfl)) ?_; (with_reducible refine (marquetrylaw27_answers.calls  true _ A49.out).mono ?_); clear A49; rintro e w52 ⟨rfl, hb⟩; refine ⟨_, rfl, ?_⟩; have n0_ := Aside0.mk (Kd.N_below (by (with_reducible repeat (first | apply Kd.N_alloc | apply Kd.N_drewN | apply Kd.N_drew)); exact HO_12.out) hb); have n1_ := Aside0.mk (Kd.R_below (by (with_reducible repeat (first | apply Kd.R_alloc | apply Kd.R_drewN | apply Kd.R_drew)); exact HO_146002.out) hb); have n2_ := Aside0.mk (blk_below (g := gb145) (o := .cells #[.int .i64 t139, .int .i64 t140, .slice Ao12 t141.length co12] 31 (0, 0)) (by (with_reducible repeat (first | refine blk_drewN ?_ _ | refine blk_drew ?_ | refine blk_alloc ?_ _)); exact BK145.out) hb); have n3_ := Aside0.mk (below_step (by repeat (first | (with_reducible first | exact HB.out | apply below_alloc | apply pw_below_drewN | apply below_drew1 | refine below_set ?_ GE145.out) | exact HB.out)) hb); clear HO_12; clear HO_146002; clear BK145; clear HB; have HO_12 := n0_; have HO_146002 := n1_; have BK145 := n2_; have HB := n3_; clear n0_ n1_ n2_ n3_; (try clear hb); (try clear hb2); (try clear hk); (try clear hi); have hcz53_0 : w52.cell? ⟨gb145, 0, none⟩ = some (.int .i64 t139) := (blk_cell BK145.out 0).trans rfl; have hcz53_1 : w52.cell? ⟨gb145, 1, none⟩ = some (.int .i64 t140) := (blk_cell BK145.out 1).trans rfl; have hcz53_2 : w52.cell? ⟨gb145, 2, none⟩ = some (.slice Ao12 t141.length co12) := (blk_cell BK145.out 2).trans rfl; have hfz53_0 := blk_frozen BK145.out 0; have hfz53_1 := blk_frozen BK145.out 1; have hfz53_2 := blk_frozen BK145.out 2) | (go_at_call 11; (with_reducible refine (marquetrylaw27_answers.calls  true _ A49.out).mono ?_); clear A49; rintro e w52 ⟨rfl, hb⟩; have n0_ := Aside0.mk (Kd.N_below (by (with_reducible repeat (first | apply Kd.N_alloc | apply Kd.N_drewN | apply Kd.N_drew)); exact HO_12.out) hb); have n1_ := Aside0.mk (Kd.R_below (by (with_reducible repeat (first | apply Kd.R_alloc | apply Kd.R_drewN | apply Kd.R_drew)); exact HO_146002.out) hb); have n2_ := Aside0.mk (blk_below (g := gb145) (o := .cells #[.int .i64 t139, .int .i64 t140, .slice Ao12 t141.length co12] 31 (0, 0)) (by (with_reducible repeat (first | refine blk_drewN ?_ _ | refine blk_drew ?_ | refine blk_alloc ?_ _)); exact BK145.out) hb); have n3_ := Aside0.mk (below_step (by repeat (first | (with_reducible first | exact HB.out | apply below_alloc | apply pw_below_drewN | apply below_drew1 | refine below_set ?_ GE145.out) | exact HB.out)) hb); clear HO_12; clear HO_146002; clear BK145; clear HB; have HO_12 := n0_; have HO_146002 := n1_; have BK145 := n2_; have HB := n3_; clear n0_ n1_ n2_ n3_; (try clear hb); (try clear hb2); (try clear hk); (try clear hi); have hcz53_0 : w52.cell? ⟨gb145, 0, none⟩ = some (.int .i64 t139) := (blk_cell BK145.out 0).trans rfl; have hcz53_1 : w52.cell? ⟨gb145, 1, none⟩ = some (.int .i64 t140) := (blk_cell BK145.out 1).trans rfl; have hcz53_2 : w52.cell? ⟨gb145, 2, none⟩ = some (.slice Ao12 t141.length co12) := (blk_cell BK145.out 2).trans rfl; have hfz53_0 := blk_frozen BK145.out 0; have hfz53_1 := blk_frozen BK145.out 1; have hfz53_2 := blk_frozen BK145.out 2))
                  go_ret
                  exact ⟨by first | rfl | (simp [errW_none, errW_some] <;> rfl) | (simp [*, errW_none, errW_some] <;> rfl), by repeat (first | (with_reducible first | exact HB.out | apply below_alloc | apply pw_below_drewN | apply below_drew1 | refine below_set ?_ GE145.out) | exact HB.out)⟩
                · rw [if_neg c51] at H
                  have c51b0 : (t144 == 1) = false := beq_eq_false_iff_ne.mpr c51
                  have c51b1 : (t144 != 1) = true := bne_iff_ne.mpr c51
                  exact absurd ((Option.some.inj H).trans Hr.out) (by decide)
              · replace c50 := Bool.eq_false_iff.mpr c50
                subst c50
                have H1 : (some false) = some r := by rw [if_neg (show ¬ (false = true) by decide)] at H; exact H
                clear H
                have H := H1
                clear H1
                exact absurd ((Option.some.inj H).trans Hr.out) (by decide)
  · replace c6 := Bool.eq_false_iff.mpr c6
    subst c6
    have H1 : ((marquetrylaw27_answers.f).bind fun t138 => (some t138)) = some r := by rw [if_neg (show ¬ (false = true) by decide)] at H; exact H
    clear H
    have H := H1
    clear H1
    replace H := Option.bind_eq_some_iff.mp H
    obtain ⟨t138, A540, H⟩ := H
    replace H : (some t138) = some r := H
    have A54 := Aside0.mk A540
    clear A540
    obtain rfl := Option.some.inj H
    go_enter Try.func4, Try.ntmps4
    go_wp2_with (first | ((with_reducible refine gate_callee (f := 13) rfl ?_); refine goesL_ (some 18) rfl rfl Try.func13 (by kernel_rfl) rfl #[.int .i64 a0, .int .i64 a1, .slice A2 l2.length c2] rfl (by (try simp only [List.map_toArray, List.map_cons, List.map_nil]); first | done | rfl | (simp only [List.length_drop, List.length_take]; rfl)) ?_; (with_reducible refine (marquetrylaw27_small.calls k a0 a1 _ _ l2 false _ ?side1 ?side2 A5.out).mono ?_); (case side1 => repeat (first | exact HR2.out | (with_reducible refine Kd.C_alloc ?_ _) | (with_reducible refine Kd.C_drewN ?_ _) | (with_reducible refine Kd.C_drew ?_))); (case side2 => exact HC2.out); rintro e w' ⟨rfl, ⟨nd, rfl⟩⟩; refine ⟨_, rfl, ?_⟩) | (go_at_call 13; (with_reducible refine (marquetrylaw27_small.calls k a0 a1 _ _ l2 false _ ?side1 ?side2 A5.out).mono ?_); (case side1 => repeat (first | exact HR2.out | (with_reducible refine Kd.C_alloc ?_ _) | (with_reducible refine Kd.C_drewN ?_ _) | (with_reducible refine Kd.C_drew ?_))); (case side2 => exact HC2.out); rintro e w' ⟨rfl, ⟨nd, rfl⟩⟩) | ((with_reducible refine gate_callee (f := 11) rfl ?_); refine goesL_ (some 20) rfl rfl Try.func11 (by kernel_rfl) rfl #[] rfl (by (try simp only [List.map_toArray, List.map_cons, List.map_nil]); first | done | rfl | (simp only [List.length_drop, List.length_take]; rfl)) ?_; (with_reducible refine (marquetrylaw27_answers.calls  t138 _ A54.out).mono ?_); clear A54; rintro e w55 ⟨rfl, hb⟩; refine ⟨_, rfl, ?_⟩; have n0_ := Aside0.mk (below_step (by repeat (first | (with_reducible first | exact HB.out | apply below_alloc | apply pw_below_drewN | apply below_drew1) | exact HB.out)) hb); clear HB; have HB := n0_; clear n0_; (try clear hb); (try clear hb2); (try clear hk); (try clear hi)) | (go_at_call 11; (with_reducible refine (marquetrylaw27_answers.calls  t138 _ A54.out).mono ?_); clear A54; rintro e w55 ⟨rfl, hb⟩; have n0_ := Aside0.mk (below_step (by repeat (first | (with_reducible first | exact HB.out | apply below_alloc | apply pw_below_drewN | apply below_drew1) | exact HB.out)) hb); clear HB; have HB := n0_; clear n0_; (try clear hb); (try clear hb2); (try clear hk); (try clear hi)))
    go_ret
    exact ⟨by first | rfl | (simp [errW_none, errW_some] <;> rfl) | (simp [*, errW_none, errW_some] <;> rfl), by repeat (first | (with_reducible first | exact HB.out | apply below_alloc | apply pw_below_drewN | apply below_drew1) | exact HB.out)⟩

/-- THE ONE PURE STATEMENT of marquetrylaw27_CanvasRenders. -/
def marquetrylaw27_CanvasRenders.Pure : Prop := ∀ (a0 : Int) (a1 : Int) (l2 : List (S47)) (a3 : Int), (Lit.int .i64 a0).wf = true → (Lit.int .i64 a1).wf = true → l2.length ≤ maxLen → l2.length * 64 ≤ 140737488351232 → (∀ y ∈ l2, q47 y) → (Lit.int .i64 a3).wf = true → ∃ k, marquetrylaw27_CanvasRenders.f k a0 a1 l2 a3 = some true

end Go.Proofs.Ytegifkffhnhccaa.P
