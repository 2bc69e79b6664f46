/- What a place's pixel may be, by a view and by the reference. -/
import Derived.Test.YtnbocgmlcdcahaaGuess
import Derived.Test.YtnbocgmlcdcahaaPixMake
namespace Go.Proofs.Ytnbocgmlcdcahaa.Pure
open Go Go.RowKit Go.Proofs.Ytnbocgmlcdcahaa.P Go.Proofs.YtnbocgmlcdcahaaW.PrintWords Go.Proofs.YtnbocgmlcdcahaaW.PrintLast Go.Proofs.YtnbocgmlcdcahaaW.PrintMore Go.Proofs.Ytnbocgmlcdcahaa.U

def U32s (l : List Int) : Prop := ∀ x ∈ l, U32 x
theorem u32s_of {l : List Int} (h : ∀ y ∈ l, (Lit.int .u32 y).wf = true) : U32s l := fun x hx => wf_u32 (h x hx)
theorem rd_u32 {l : List Int} (hl : U32s l) (i : Int) : U32 (rd l i) := by
  unfold rd
  rw [List.getD_eq_getElem?_getD]
  by_cases h : i.toNat < l.length
  · rw [List.getElem?_eq_getElem h]; exact hl _ (List.getElem_mem _)
  · rw [List.getElem?_eq_none (by omega)]; decide
/-- The pixels around a place within. -/
def tr12 (w : Int) (l : List Int) (x y : Int) : Int := if x = w - 1 then rd l (y * w) else rd l (y * w - w + x + 1)
/-- A place's pixel. -/
def at12 (w : Int) (l : List Int) (m x y : Int) : Int :=
  if x = 0 ∧ y = 0 then 4278190080 else if y = 0 then rd l (x - 1) else if x = 0 then rd l (y * w - w)
  else guess m (rd l (y * w + x - 1)) (rd l (y * w - w + x)) (rd l (y * w - w + x - 1)) (tr12 w l x y)
theorem place_bd {w h y : Int} {l : List Int} (hg : good w h l) (hy : 0 ≤ y ∧ y < h) : 0 ≤ y * w ∧ y * w + w ≤ l.length ∧ l.length ≤ 268435456 ∧ (1 ≤ y → w ≤ y * w) := by
  have hn := good_len hg
  obtain ⟨a, b, c, d, e⟩ := hg
  have p0 := Int.mul_nonneg hy.1 (show 0 ≤ w by omega)
  have p1 : (y + 1) * w ≤ h * w := Int.mul_le_mul_of_nonneg_right (by omega) (by omega)
  rw [Int.add_mul, Int.one_mul, Int.mul_comm h w, ← e] at p1
  refine ⟨p0, p1, hn.2, fun h1 => ?_⟩
  have p2 : 1 * w ≤ y * w := Int.mul_le_mul_of_nonneg_right h1 (by omega)
  omega
theorem view_eq {w x y : Int} {l : List Int} (hx : 0 ≤ x) (hy : 0 ≤ y) (h0 : 0 ≤ y * w) (h1 : y * w + x < l.length) (h2 : l.length ≤ 268435456) : guess_View_at.f w l x y = some (rd l (y * w + x)) := by
  unfold guess_View_at.f
  rw [w64 (n := y * w) (by omega) (by omega), w64 (by omega) (by omega), if_neg (by omega), if_neg (by omega), if_pos (by omega), if_pos h1]
theorem view_bad {w x y : Int} {l : List Int} (h : x < 0 ∨ y < 0) : guess_View_at.f w l x y = some 0 := by
  unfold guess_View_at.f
  by_cases c : x < 0
  · rw [if_pos c]
  · rw [if_neg c, if_pos (by omega)]
theorem around_in {w h x y : Int} {l : List Int} (hg : good w h l) (hx : 0 ≤ x ∧ x < w) (hy : 0 ≤ y ∧ y < h) :
    guess_View_Around.f w l x y = some (if x = 0 then 0 else rd l (y * w + x - 1), if y = 0 then 0 else rd l (y * w - w + x), if x = 0 ∨ y = 0 then 0 else rd l (y * w - w + x - 1), if x = w - 1 then rd l (y * w) else if y = 0 then 0 else rd l (y * w - w + x + 1)) := by
  obtain ⟨p0, p1, p2, p3⟩ := place_bd hg hy
  have hw : w ≤ 16384 := hg.2.1
  have hh : h ≤ 16384 := hg.2.2.2.1
  unfold guess_View_Around.f
  rw [w64 (n := x - 1) (by omega) (by omega), w64 (n := y - 1) (by omega) (by omega), w64 (n := w - 1) (by omega) (by omega), w64 (n := x + 1) (by omega) (by omega)]
  have e1 : guess_View_at.f w l (x - 1) y = some (if x = 0 then 0 else rd l (y * w + x - 1)) := by
    by_cases c : x = 0
    · rw [if_pos c, view_bad (by omega)]
    · rw [if_neg c, view_eq (by omega) (by omega) p0 (by omega) p2, show y * w + (x - 1) = y * w + x - 1 by omega]
  have m1 : (y - 1) * w = y * w - w := by rw [Int.sub_mul, Int.one_mul]
  have e2 : guess_View_at.f w l x (y - 1) = some (if y = 0 then 0 else rd l (y * w - w + x)) := by
    by_cases c : y = 0
    · rw [if_pos c, view_bad (by omega)]
    · have := p3 (by omega)
      rw [if_neg c, view_eq (by omega) (by omega) (by omega) (by omega) p2, m1]
  have e3 : guess_View_at.f w l (x - 1) (y - 1) = some (if x = 0 ∨ y = 0 then 0 else rd l (y * w - w + x - 1)) := by
    by_cases c : x = 0 ∨ y = 0
    · rw [if_pos c, view_bad (by omega)]
    · have := p3 (by omega)
      rw [if_neg c, view_eq (by omega) (by omega) (by omega) (by omega) p2, m1, show y * w - w + (x - 1) = y * w - w + x - 1 by omega]
  have e4 : guess_View_at.f w l 0 y = some (rd l (y * w)) := by rw [view_eq (by omega) (by omega) p0 (by omega) p2, Int.add_zero]
  have e5 : ¬ x = w - 1 → guess_View_at.f w l (x + 1) (y - 1) = some (if y = 0 then 0 else rd l (y * w - w + x + 1)) := by
    intro cx
    by_cases c : y = 0
    · rw [if_pos c, view_bad (by omega)]
    · have := p3 (by omega)
      rw [if_neg c, view_eq (by omega) (by omega) (by omega) (by omega) p2, m1, show y * w - w + (x + 1) = y * w - w + x + 1 by omega]
  simp only [e1, e2, e3, e4, Option.bind_some]
  by_cases c : x = w - 1
  · rw [if_pos c, if_pos c]
  · rw [if_neg c, if_neg c, e5 c]; rfl
theorem View_At_ev {w h x y : Int} {l : List Int} (hl : U32s l) (hg : good w h l) (hx : 0 ≤ x ∧ x < w) (hy : 0 ≤ y ∧ y < h) (m : Int) : Ev (fun k => guess_View_At.f k w l m x y) (at12 w l m x y) := by
  obtain ⟨p0, p1, p2, p3⟩ := place_bd hg hy
  have hw : w ≤ 16384 := hg.2.1
  have hh : h ≤ 16384 := hg.2.2.2.1
  unfold guess_View_At.f at12
  have hj : ∀ b : Bool, b = decide (x = 0 ∧ y = 0) → Ev (fun k => guess_View_At.j0 k m x y b w l) (at12 w l m x y) := by
    intro b hb
    refine Ev.succ ?_
    simp only [guess_View_At.j0]
    unfold at12
    by_cases c : x = 0 ∧ y = 0
    · rw [if_pos c]; exact Ev.ite_pos (by simp [hb, c]) (Ev.now _)
    · rw [if_neg c]
      refine Ev.ite_neg (by simpa [hb] using c) ?_
      by_cases c1 : y = 0
      · refine Ev.ite_pos c1 ?_
        rw [if_pos c1]
        rw [w64 (n := x - 1) (by omega) (by omega)]
        simp only [view_eq (w := w) (l := l) (x := x - 1) (y := 0) (by omega) (by omega) (by omega) (by omega) p2, Option.bind_some]
        exact Ev.fin (by rw [show (0 : Int) * w + (x - 1) = x - 1 by omega])
      · refine Ev.ite_neg c1 ?_
        rw [if_neg c1]
        have := p3 (by omega)
        by_cases c2 : x = 0
        · refine Ev.ite_pos c2 ?_
          rw [if_pos c2]
          have m1 : (y - 1) * w = y * w - w := by rw [Int.sub_mul, Int.one_mul]
          rw [w64 (n := y - 1) (by omega) (by omega)]
          simp only [view_eq (w := w) (l := l) (x := 0) (y := y - 1) (by omega) (by omega) (by omega) (by omega) p2, Option.bind_some]
          exact Ev.fin (by rw [m1, Int.add_zero])
        · refine Ev.ite_neg c2 ?_
          rw [if_neg c2]
          simp only [around_in hg hx hy, Option.bind_some, c1, c2, or_false, if_false]
          have e : (if x = w - 1 then rd l (y * w) else rd l (y * w - w + x + 1)) = tr12 w l x y := rfl
          have u : U32 (tr12 w l x y) := by unfold tr12; split <;> exact rd_u32 hl _
          simp only [e, Guess_eq m (rd_u32 hl _) (rd_u32 hl _) (rd_u32 hl _) u, Option.bind_some]
          exact Ev.now _
  by_cases c : x = 0
  · refine Ev.ite_pos c ?_
    exact hj _ (by simp [c]; rfl)
  · refine Ev.ite_neg c ?_
    exact hj _ (by simp [c])
def q0 (w : Int) (l : List Int) (x y : Int) : Int := if x = 0 then 0 else rd l (y * w + x - 1)
def q1 (w : Int) (l : List Int) (x y : Int) : Int := if y = 0 then 0 else rd l (y * w - w + x)
def q2 (w : Int) (l : List Int) (x y : Int) : Int := if x = 0 ∨ y = 0 then 0 else rd l (y * w - w + x - 1)
def q3 (w : Int) (l : List Int) (x y : Int) : Int := if x = w - 1 then rd l (y * w) else if y = 0 then 0 else rd l (y * w - w + x + 1)
theorem around_q {w h x y : Int} {l : List Int} (hg : good w h l) (hx : 0 ≤ x ∧ x < w) (hy : 0 ≤ y ∧ y < h) :
    guess_View_Around.f w l x y = some (q0 w l x y, q1 w l x y, q2 w l x y, q3 w l x y) := around_in hg hx hy
section
variable {w h x y : Int} {l : List Int} (hg : good w h l) (hx : 0 ≤ x ∧ x < w) (hy : 0 ≤ y ∧ y < h)
include hg hx hy
theorem ref3 (a b c : Int) : Ev (fun k => marquetryref11_Around.j3 k w l x y a b c 0) (a, b, c, q3 w l x y) := by
  obtain ⟨p0, p1, p2, p3⟩ := place_bd hg hy
  have hw : w ≤ 16384 := hg.2.1
  refine Ev.succ ?_
  simp only [marquetryref11_Around.j3]
  simp only [w64 (n := y * w) (by omega) (by omega), w64 (n := w - 1) (by omega) (by omega), w64 (n := y * w - w) (by omega) (by omega), w64 (n := y * w - w + x) (by omega) (by omega), w64 (n := y * w - w + x + 1) (by omega) (by omega)]
  unfold q3
  by_cases c1 : x = w - 1
  · refine Ev.ite_pos c1 (Ev.ite_pos (by omega) (Ev.ite_pos (by omega) ?_))
    rw [if_pos c1]; exact Ev.now _
  refine Ev.ite_neg c1 ?_
  rw [if_neg c1]
  by_cases c2 : y = 0
  · refine Ev.ite_neg (by omega) ?_
    rw [if_pos c2]; exact Ev.now _
  have := p3 (by omega)
  refine Ev.ite_pos (by omega) (Ev.ite_pos (by omega) (Ev.ite_pos (by omega) ?_))
  rw [if_neg c2]; exact Ev.now _
theorem ref1 (a b : Int) : Ev (fun k => marquetryref11_Around.j1 k w l x y a b 0 0) (a, b, q2 w l x y, q3 w l x y) := by
  obtain ⟨p0, p1, p2, p3⟩ := place_bd hg hy
  have hw : w ≤ 16384 := hg.2.1
  have two : ∀ z : Bool, z = decide (¬ (x = 0 ∨ y = 0)) → Ev (fun k => marquetryref11_Around.j2 k w l x y z a b 0 0) (a, b, q2 w l x y, q3 w l x y) := by
    intro z hz
    refine Ev.succ ?_
    simp only [marquetryref11_Around.j2]
    simp only [w64 (n := y * w) (by omega) (by omega), w64 (n := y * w - w) (by omega) (by omega), w64 (n := y * w - w + x) (by omega) (by omega), w64 (n := y * w - w + x - 1) (by omega) (by omega)]
    unfold q2
    by_cases c : x = 0 ∨ y = 0
    · refine Ev.ite_neg (by simp [hz, c]) ?_
      rw [if_pos c]
      exact ref3 hg hx hy a b 0
    · have := p3 (by omega)
      refine Ev.ite_pos (by simp [hz, c]) (Ev.ite_pos (by omega) (Ev.ite_pos (by omega) ?_))
      rw [if_neg c]
      exact ref3 hg hx hy a b _
  refine Ev.succ ?_
  simp only [marquetryref11_Around.j1]
  by_cases c : x = 0
  · exact Ev.ite_neg (by omega) (two _ (by simp [c]))
  · refine Ev.ite_pos (by omega) (two _ ?_)
    by_cases c2 : y = 0
    · simp [c, c2]
    · simp [c, c2]; omega
theorem ref0 (a : Int) : Ev (fun k => marquetryref11_Around.j0 k w l x y a 0 0 0) (a, q1 w l x y, q2 w l x y, q3 w l x y) := by
  obtain ⟨p0, p1, p2, p3⟩ := place_bd hg hy
  have hw : w ≤ 16384 := hg.2.1
  refine Ev.succ ?_
  simp only [marquetryref11_Around.j0]
  simp only [w64 (n := y * w) (by omega) (by omega), w64 (n := y * w - w) (by omega) (by omega), w64 (n := y * w - w + x) (by omega) (by omega)]
  unfold q1
  by_cases c : y = 0
  · refine Ev.ite_neg (by omega) ?_
    rw [if_pos c]
    exact ref1 hg hx hy a 0
  · have := p3 (by omega)
    refine Ev.ite_pos (by omega) (Ev.ite_pos (by omega) (Ev.ite_pos (by omega) ?_))
    rw [if_neg c]
    exact ref1 hg hx hy a _
theorem refAround_ev : Ev (fun k => marquetryref11_Around.f k w l x y) (q0 w l x y, q1 w l x y, q2 w l x y, q3 w l x y) := by
  obtain ⟨p0, p1, p2, p3⟩ := place_bd hg hy
  have hw : w ≤ 16384 := hg.2.1
  unfold marquetryref11_Around.f
  simp only [w64 (n := y * w) (by omega) (by omega), w64 (n := y * w + x) (by omega) (by omega), w64 (n := y * w + x - 1) (by omega) (by omega)]
  have e := ref0 hg hx hy (q0 w l x y)
  unfold q0 at e ⊢
  by_cases c : x = 0
  · refine Ev.ite_neg (by omega) ?_
    rw [if_pos c] at e ⊢
    exact e
  · refine Ev.ite_pos (by omega) (Ev.ite_pos (by omega) (Ev.ite_pos (by omega) ?_))
    rw [if_neg c] at e ⊢
    exact e
theorem refAt_ev (hl : U32s l) (m : Int) : Ev (fun k => marquetryref11_At.f k w l m x y) (at12 w l m x y) := by
  unfold marquetryref11_At.f
  refine Ev.bind (refAround_ev hg hx hy) ?_
  have hj : ∀ b : Bool, b = decide (x = 0 ∧ y = 0) → Ev (fun k => marquetryref11_At.j0 k m x y b (q0 w l x y) (q1 w l x y) (q2 w l x y) (q3 w l x y)) (at12 w l m x y) := by
    intro b hb
    refine Ev.succ ?_
    simp only [marquetryref11_At.j0]
    unfold at12
    by_cases c : x = 0 ∧ y = 0
    · rw [if_pos c]; exact Ev.ite_pos (by simp [hb, c]) (Ev.now _)
    · rw [if_neg c]
      refine Ev.ite_neg (by simpa [hb] using c) ?_
      by_cases c1 : y = 0
      · refine Ev.ite_pos c1 ?_
        rw [if_pos c1]
        have c2 : ¬ x = 0 := by omega
        unfold q0
        rw [if_neg c2]
        exact Ev.fin (by rw [c1, show (0 : Int) * w + x - 1 = x - 1 by omega])
      · refine Ev.ite_neg c1 ?_
        rw [if_neg c1]
        by_cases c2 : x = 0
        · refine Ev.ite_pos c2 ?_
          rw [if_pos c2]
          unfold q1
          rw [if_neg c1]
          exact Ev.fin (by rw [c2, Int.add_zero])
        · refine Ev.ite_neg c2 ?_
          rw [if_neg c2]
          have e0 : q0 w l x y = rd l (y * w + x - 1) := if_neg c2
          have e1 : q1 w l x y = rd l (y * w - w + x) := if_neg c1
          have e2 : q2 w l x y = rd l (y * w - w + x - 1) := if_neg (by omega)
          have e3 : q3 w l x y = tr12 w l x y := by unfold q3 tr12; rw [if_neg c1]
          have u : U32 (tr12 w l x y) := by unfold tr12; split <;> exact rd_u32 hl _
          rw [e0, e1, e2, e3]
          exact Ev.bind (refGuess_ev m (rd_u32 hl _) (rd_u32 hl _) (rd_u32 hl _) u) (Ev.now _)
  by_cases c : x = 0
  · refine Ev.ite_pos c ?_
    exact hj _ (by simp [c]; rfl)
  · refine Ev.ite_neg c ?_
    exact hj _ (by simp [c])
end
end Go.Proofs.Ytnbocgmlcdcahaa.Pure
