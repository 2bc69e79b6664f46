/- What a place's pixel may be. -/
import Derived.Test.YtioppjmpkdffkaaGuess
import Derived.Test.YtioppjmpkdffkaaPixMake
namespace Go.Proofs.Ytioppjmpkdffkaa.Pure
open Go Go.RowKit Go.Proofs.Ytioppjmpkdffkaa.P Go.Proofs.YtioppjmpkdffkaaW.PrintWords Go.Proofs.YtioppjmpkdffkaaW.PrintLast Go.Proofs.YtioppjmpkdffkaaW.PrintMore Go.Proofs.Ytioppjmpkdffkaa.U

def U32s (l : List Int) : Prop := ∀ x ∈ l, U32 x
theorem u32s_of {l : List Int} (h : ∀ y ∈ l, (Lit.int .u32 y).wf = true) : U32s l := fun x hx => wf_u32 (h x hx)
theorem rd_u32 {l : List Int} (hl : U32s l) (i : Int) : U32 (rd l i) := by
  unfold rd
  rw [List.getD_eq_getElem?_getD]
  by_cases h : i.toNat < l.length
  · rw [List.getElem?_eq_getElem h]; exact hl _ (List.getElem_mem _)
  · rw [List.getElem?_eq_none (by omega)]; decide
/-- The pixels around a place within. -/
def tr12 (w : Int) (l : List Int) (x y : Int) : Int := if x = w - 1 then rd l (y * w) else rd l (y * w - w + x + 1)
/-- A place's pixel. -/
def at12 (w : Int) (l : List Int) (m x y : Int) : Int :=
  if x = 0 ∧ y = 0 then 4278190080 else if y = 0 then rd l (x - 1) else if x = 0 then rd l (y * w - w)
  else guess m (rd l (y * w + x - 1)) (rd l (y * w - w + x)) (rd l (y * w - w + x - 1)) (tr12 w l x y)
theorem place_bd {w h y : Int} {l : List Int} (hg : good w h l) (hy : 0 ≤ y ∧ y < h) : 0 ≤ y * w ∧ y * w + w ≤ l.length ∧ l.length ≤ 268435456 ∧ (1 ≤ y → w ≤ y * w) := by
  have hn := good_len hg
  obtain ⟨a, b, c, d, e⟩ := hg
  have p0 := Int.mul_nonneg hy.1 (show 0 ≤ w by omega)
  have p1 : (y + 1) * w ≤ h * w := Int.mul_le_mul_of_nonneg_right (by omega) (by omega)
  rw [Int.add_mul, Int.one_mul, Int.mul_comm h w, ← e] at p1
  refine ⟨p0, p1, hn.2, fun h1 => ?_⟩
  have p2 : 1 * w ≤ y * w := Int.mul_le_mul_of_nonneg_right h1 (by omega)
  omega
theorem view_eq {w x y : Int} {l : List Int} (hx : 0 ≤ x) (hy : 0 ≤ y) (h0 : 0 ≤ y * w) (h1 : y * w + x < l.length) (h2 : l.length ≤ 268435456) : guess_View_at.f w l x y = some (rd l (y * w + x)) := by
  unfold guess_View_at.f
  rw [w64 (n := y * w) (by omega) (by omega), w64 (by omega) (by omega), if_neg (by omega), if_neg (by omega), if_pos (by omega), if_pos h1]
theorem view_bad {w x y : Int} {l : List Int} (h : x < 0 ∨ y < 0) : guess_View_at.f w l x y = some 0 := by
  unfold guess_View_at.f
  by_cases c : x < 0
  · rw [if_pos c]
  · rw [if_neg c, if_pos (by omega)]
theorem around_in {w h x y : Int} {l : List Int} (hg : good w h l) (hx : 0 ≤ x ∧ x < w) (hy : 0 ≤ y ∧ y < h) :
    guess_View_Around.f w l x y = some (if x = 0 then 0 else rd l (y * w + x - 1), if y = 0 then 0 else rd l (y * w - w + x), if x = 0 ∨ y = 0 then 0 else rd l (y * w - w + x - 1), if x = w - 1 then rd l (y * w) else if y = 0 then 0 else rd l (y * w - w + x + 1)) := by
  obtain ⟨p0, p1, p2, p3⟩ := place_bd hg hy
  have hw : w ≤ 16384 := hg.2.1
  have hh : h ≤ 16384 := hg.2.2.2.1
  unfold guess_View_Around.f
  rw [w64 (n := x - 1) (by omega) (by omega), w64 (n := y - 1) (by omega) (by omega), w64 (n := w - 1) (by omega) (by omega), w64 (n := x + 1) (by omega) (by omega)]
  have e1 : guess_View_at.f w l (x - 1) y = some (if x = 0 then 0 else rd l (y * w + x - 1)) := by
    by_cases c : x = 0
    · rw [if_pos c, view_bad (by omega)]
    · rw [if_neg c, view_eq (by omega) (by omega) p0 (by omega) p2, show y * w + (x - 1) = y * w + x - 1 by omega]
  have m1 : (y - 1) * w = y * w - w := by rw [Int.sub_mul, Int.one_mul]
  have e2 : guess_View_at.f w l x (y - 1) = some (if y = 0 then 0 else rd l (y * w - w + x)) := by
    by_cases c : y = 0
    · rw [if_pos c, view_bad (by omega)]
    · have := p3 (by omega)
      rw [if_neg c, view_eq (by omega) (by omega) (by omega) (by omega) p2, m1]
  have e3 : guess_View_at.f w l (x - 1) (y - 1) = some (if x = 0 ∨ y = 0 then 0 else rd l (y * w - w + x - 1)) := by
    by_cases c : x = 0 ∨ y = 0
    · rw [if_pos c, view_bad (by omega)]
    · have := p3 (by omega)
      rw [if_neg c, view_eq (by omega) (by omega) (by omega) (by omega) p2, m1, show y * w - w + (x - 1) = y * w - w + x - 1 by omega]
  have e4 : guess_View_at.f w l 0 y = some (rd l (y * w)) := by rw [view_eq (by omega) (by omega) p0 (by omega) p2, Int.add_zero]
  have e5 : ¬ x = w - 1 → guess_View_at.f w l (x + 1) (y - 1) = some (if y = 0 then 0 else rd l (y * w - w + x + 1)) := by
    intro cx
    by_cases c : y = 0
    · rw [if_pos c, view_bad (by omega)]
    · have := p3 (by omega)
      rw [if_neg c, view_eq (by omega) (by omega) (by omega) (by omega) p2, m1, show y * w - w + (x + 1) = y * w - w + x + 1 by omega]
  simp only [e1, e2, e3, e4, Option.bind_some]
  by_cases c : x = w - 1
  · rw [if_pos c, if_pos c]
  · rw [if_neg c, if_neg c, e5 c]; rfl
theorem within_eq {w h x y : Int} {l : List Int} : guess_within.f w h l x y = some (decide (good w h l ∧ (0 ≤ x ∧ x < w) ∧ (0 ≤ y ∧ y < h))) := by
  unfold guess_within.f
  rw [pgood_eq, Option.bind_some]
  by_cases c0 : good w h l
  · rw [if_pos (by simpa using c0)]
    by_cases c1 : x ≥ 0
    · rw [if_pos c1]
      by_cases c2 : x < w
      · rw [if_pos c2]
        by_cases c3 : y ≥ 0
        · rw [if_pos c3]; simp [c0, c1, c2, c3]
        · rw [if_neg c3]; simp [c3]
      · rw [if_neg c2]; simp [c2]
    · rw [if_neg c1]; simp [c1]
  · rw [if_neg (by simpa using c0)]; simp [c0]
theorem At_bad {w h x y m : Int} {l : List Int} (hb : ¬ (good w h l ∧ (0 ≤ x ∧ x < w) ∧ (0 ≤ y ∧ y < h))) : Ev (fun k => guess_At.f k w h l m x y) 0 := by
  unfold guess_At.f
  simp only [within_eq, Option.bind_some]
  exact Ev.ite_neg (by simpa using hb) (Ev.now _)
theorem At_ev {w h x y : Int} {l : List Int} (hl : U32s l) (hg : good w h l) (hx : 0 ≤ x ∧ x < w) (hy : 0 ≤ y ∧ y < h) (m : Int) : Ev (fun k => guess_At.f k w h l m x y) (at12 w l m x y) := by
  obtain ⟨p0, p1, p2, p3⟩ := place_bd hg hy
  have hw : w ≤ 16384 := hg.2.1
  have hh : h ≤ 16384 := hg.2.2.2.1
  unfold guess_At.f
  simp only [within_eq, Option.bind_some]
  refine Ev.ite_pos (by simpa using ⟨hg, hx, hy⟩) (Ev.bind ?_ (Ev.now _))
  unfold guess_View_At.f at12
  have hj : ∀ b : Bool, b = decide (x = 0 ∧ y = 0) → Ev (fun k => guess_View_At.j0 k m x y b w l) (at12 w l m x y) := by
    intro b hb
    refine Ev.succ ?_
    simp only [guess_View_At.j0]
    unfold at12
    by_cases c : x = 0 ∧ y = 0
    · rw [if_pos c]; exact Ev.ite_pos (by simp [hb, c]) (Ev.now _)
    · rw [if_neg c]
      refine Ev.ite_neg (by simpa [hb] using c) ?_
      by_cases c1 : y = 0
      · refine Ev.ite_pos c1 ?_
        rw [if_pos c1]
        rw [w64 (n := x - 1) (by omega) (by omega)]
        simp only [view_eq (w := w) (l := l) (x := x - 1) (y := 0) (by omega) (by omega) (by omega) (by omega) p2, Option.bind_some]
        exact Ev.fin (by rw [show (0 : Int) * w + (x - 1) = x - 1 by omega])
      · refine Ev.ite_neg c1 ?_
        rw [if_neg c1]
        have := p3 (by omega)
        by_cases c2 : x = 0
        · refine Ev.ite_pos c2 ?_
          rw [if_pos c2]
          have m1 : (y - 1) * w = y * w - w := by rw [Int.sub_mul, Int.one_mul]
          rw [w64 (n := y - 1) (by omega) (by omega)]
          simp only [view_eq (w := w) (l := l) (x := 0) (y := y - 1) (by omega) (by omega) (by omega) (by omega) p2, Option.bind_some]
          exact Ev.fin (by rw [m1, Int.add_zero])
        · refine Ev.ite_neg c2 ?_
          rw [if_neg c2]
          simp only [around_in hg hx hy, Option.bind_some, c1, c2, or_false, if_false]
          have e : (if x = w - 1 then rd l (y * w) else rd l (y * w - w + x + 1)) = tr12 w l x y := rfl
          have u : U32 (tr12 w l x y) := by unfold tr12; split <;> exact rd_u32 hl _
          simp only [e, Guess_eq m (rd_u32 hl _) (rd_u32 hl _) (rd_u32 hl _) u, Option.bind_some]
          exact Ev.now _
  by_cases c : x = 0
  · refine Ev.ite_pos c ?_
    exact hj _ (by simp [c]; rfl)
  · refine Ev.ite_neg c ?_
    exact hj _ (by simp [c])
end Go.Proofs.Ytioppjmpkdffkaa.Pure
