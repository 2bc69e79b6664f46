/- The pixels around any place, and its pixel, as the reference has them. -/
import Derived.Test.YtioppjmpkdffkaaGuessAt
namespace Go.Proofs.Ytioppjmpkdffkaa.Pure
open Go Go.RowKit Go.Proofs.Ytioppjmpkdffkaa.P Go.Proofs.YtioppjmpkdffkaaW.PrintWords Go.Proofs.YtioppjmpkdffkaaW.PrintLast Go.Proofs.YtioppjmpkdffkaaW.PrintMore Go.Proofs.Ytioppjmpkdffkaa.U

def q0 (w : Int) (l : List Int) (x y : Int) : Int := if x = 0 then 0 else rd l (y * w + x - 1)
def q1 (w : Int) (l : List Int) (x y : Int) : Int := if y = 0 then 0 else rd l (y * w - w + x)
def q2 (w : Int) (l : List Int) (x y : Int) : Int := if x = 0 ∨ y = 0 then 0 else rd l (y * w - w + x - 1)
def q3 (w : Int) (l : List Int) (x y : Int) : Int := if x = w - 1 then rd l (y * w) else if y = 0 then 0 else rd l (y * w - w + x + 1)
theorem around_q {w h x y : Int} {l : List Int} (hg : good w h l) (hx : 0 ≤ x ∧ x < w) (hy : 0 ≤ y ∧ y < h) :
    guess_View_Around.f w l x y = some (q0 w l x y, q1 w l x y, q2 w l x y, q3 w l x y) := around_in hg hx hy
section
variable {w h x y : Int} {l : List Int} (hg : good w h l) (hx : 0 ≤ x ∧ x < w) (hy : 0 ≤ y ∧ y < h)
include hg hx hy
theorem ref3 (a b c : Int) : Ev (fun k => marquetryref11_Around.j3 k w l x y a b c 0) (a, b, c, q3 w l x y) := by
  obtain ⟨p0, p1, p2, p3⟩ := place_bd hg hy
  have hw : w ≤ 16384 := hg.2.1
  refine Ev.succ ?_
  simp only [marquetryref11_Around.j3]
  simp only [w64 (n := y * w) (by omega) (by omega), w64 (n := w - 1) (by omega) (by omega), w64 (n := y * w - w) (by omega) (by omega), w64 (n := y * w - w + x) (by omega) (by omega), w64 (n := y * w - w + x + 1) (by omega) (by omega)]
  unfold q3
  by_cases c1 : x = w - 1
  · refine Ev.ite_pos c1 (Ev.ite_pos (by omega) (Ev.ite_pos (by omega) ?_))
    rw [if_pos c1]; exact Ev.now _
  refine Ev.ite_neg c1 ?_
  rw [if_neg c1]
  by_cases c2 : y = 0
  · refine Ev.ite_neg (by omega) ?_
    rw [if_pos c2]; exact Ev.now _
  have := p3 (by omega)
  refine Ev.ite_pos (by omega) (Ev.ite_pos (by omega) (Ev.ite_pos (by omega) ?_))
  rw [if_neg c2]; exact Ev.now _
theorem ref1 (a b : Int) : Ev (fun k => marquetryref11_Around.j1 k w l x y a b 0 0) (a, b, q2 w l x y, q3 w l x y) := by
  obtain ⟨p0, p1, p2, p3⟩ := place_bd hg hy
  have hw : w ≤ 16384 := hg.2.1
  have two : ∀ z : Bool, z = decide (¬ (x = 0 ∨ y = 0)) → Ev (fun k => marquetryref11_Around.j2 k w l x y z a b 0 0) (a, b, q2 w l x y, q3 w l x y) := by
    intro z hz
    refine Ev.succ ?_
    simp only [marquetryref11_Around.j2]
    simp only [w64 (n := y * w) (by omega) (by omega), w64 (n := y * w - w) (by omega) (by omega), w64 (n := y * w - w + x) (by omega) (by omega), w64 (n := y * w - w + x - 1) (by omega) (by omega)]
    unfold q2
    by_cases c : x = 0 ∨ y = 0
    · refine Ev.ite_neg (by simp [hz, c]) ?_
      rw [if_pos c]
      exact ref3 hg hx hy a b 0
    · have := p3 (by omega)
      refine Ev.ite_pos (by simp [hz, c]) (Ev.ite_pos (by omega) (Ev.ite_pos (by omega) ?_))
      rw [if_neg c]
      exact ref3 hg hx hy a b _
  refine Ev.succ ?_
  simp only [marquetryref11_Around.j1]
  by_cases c : x = 0
  · exact Ev.ite_neg (by omega) (two _ (by simp [c]))
  · refine Ev.ite_pos (by omega) (two _ ?_)
    by_cases c2 : y = 0
    · simp [c, c2]
    · simp [c, c2]; omega
theorem ref0 (a : Int) : Ev (fun k => marquetryref11_Around.j0 k w l x y a 0 0 0) (a, q1 w l x y, q2 w l x y, q3 w l x y) := by
  obtain ⟨p0, p1, p2, p3⟩ := place_bd hg hy
  have hw : w ≤ 16384 := hg.2.1
  refine Ev.succ ?_
  simp only [marquetryref11_Around.j0]
  simp only [w64 (n := y * w) (by omega) (by omega), w64 (n := y * w - w) (by omega) (by omega), w64 (n := y * w - w + x) (by omega) (by omega)]
  unfold q1
  by_cases c : y = 0
  · refine Ev.ite_neg (by omega) ?_
    rw [if_pos c]
    exact ref1 hg hx hy a 0
  · have := p3 (by omega)
    refine Ev.ite_pos (by omega) (Ev.ite_pos (by omega) (Ev.ite_pos (by omega) ?_))
    rw [if_neg c]
    exact ref1 hg hx hy a _
theorem refAround_ev : Ev (fun k => marquetryref11_Around.f k w l x y) (q0 w l x y, q1 w l x y, q2 w l x y, q3 w l x y) := by
  obtain ⟨p0, p1, p2, p3⟩ := place_bd hg hy
  have hw : w ≤ 16384 := hg.2.1
  unfold marquetryref11_Around.f
  simp only [w64 (n := y * w) (by omega) (by omega), w64 (n := y * w + x) (by omega) (by omega), w64 (n := y * w + x - 1) (by omega) (by omega)]
  have e := ref0 hg hx hy (q0 w l x y)
  unfold q0 at e ⊢
  by_cases c : x = 0
  · refine Ev.ite_neg (by omega) ?_
    rw [if_pos c] at e ⊢
    exact e
  · refine Ev.ite_pos (by omega) (Ev.ite_pos (by omega) (Ev.ite_pos (by omega) ?_))
    rw [if_neg c] at e ⊢
    exact e
theorem refAt_ev (hl : U32s l) (m : Int) : Ev (fun k => marquetryref11_At.f k w l m x y) (at12 w l m x y) := by
  unfold marquetryref11_At.f
  refine Ev.bind (refAround_ev hg hx hy) ?_
  have hj : ∀ b : Bool, b = decide (x = 0 ∧ y = 0) → Ev (fun k => marquetryref11_At.j0 k m x y b (q0 w l x y) (q1 w l x y) (q2 w l x y) (q3 w l x y)) (at12 w l m x y) := by
    intro b hb
    refine Ev.succ ?_
    simp only [marquetryref11_At.j0]
    unfold at12
    by_cases c : x = 0 ∧ y = 0
    · rw [if_pos c]; exact Ev.ite_pos (by simp [hb, c]) (Ev.now _)
    · rw [if_neg c]
      refine Ev.ite_neg (by simpa [hb] using c) ?_
      by_cases c1 : y = 0
      · refine Ev.ite_pos c1 ?_
        rw [if_pos c1]
        have c2 : ¬ x = 0 := by omega
        unfold q0
        rw [if_neg c2]
        exact Ev.fin (by rw [c1, show (0 : Int) * w + x - 1 = x - 1 by omega])
      · refine Ev.ite_neg c1 ?_
        rw [if_neg c1]
        by_cases c2 : x = 0
        · refine Ev.ite_pos c2 ?_
          rw [if_pos c2]
          unfold q1
          rw [if_neg c1]
          exact Ev.fin (by rw [c2, Int.add_zero])
        · refine Ev.ite_neg c2 ?_
          rw [if_neg c2]
          have e0 : q0 w l x y = rd l (y * w + x - 1) := if_neg c2
          have e1 : q1 w l x y = rd l (y * w - w + x) := if_neg c1
          have e2 : q2 w l x y = rd l (y * w - w + x - 1) := if_neg (by omega)
          have e3 : q3 w l x y = tr12 w l x y := by unfold q3 tr12; rw [if_neg c1]
          have u : U32 (tr12 w l x y) := by unfold tr12; split <;> exact rd_u32 hl _
          rw [e0, e1, e2, e3]
          exact Ev.bind (refGuess_ev m (rd_u32 hl _) (rd_u32 hl _) (rd_u32 hl _) u) (Ev.now _)
  by_cases c : x = 0
  · refine Ev.ite_pos c ?_
    exact hj _ (by simp [c]; rfl)
  · refine Ev.ite_neg c ?_
    exact hj _ (by simp [c])
end
theorem GuessPlaces : marquetrylaw12_GuessPlaces.Pure := by
  intro w h l m x y _ _ hl1 _ hl0 _ _ _
  have hl := u32s_of hl0
  refine Ev.rounds (g := fun t => marquetrylaw12_GuessPlaces.f t w h l m x y) ?_
  unfold marquetrylaw12_GuessPlaces.f
  simp only [answers_eq, Option.bind_some]
  by_cases c : (l.length : Int) > 3000
  · exact Ev.ite_pos c (Ev.now _)
  refine Ev.ite_neg c ?_
  unfold guess_Around.f
  simp only [within_eq, good_eq, Option.bind_some]
  by_cases hb : good w h l ∧ (0 ≤ x ∧ x < w) ∧ (0 ≤ y ∧ y < h)
  · obtain ⟨hg, hx, hy⟩ := id hb
    refine Ev.bind (a := (q0 w l x y, q1 w l x y, q2 w l x y, q3 w l x y)) (Ev.ite_pos (by simpa using hb) ?_) ?_
    · simp only [around_q hg hx hy, Option.bind_some]
      exact Ev.now _
    refine Ev.bind (At_ev hl hg hx hy m) ?_
    refine Ev.ite_pos (by simpa using hg) (Ev.ite_neg (by omega) (Ev.ite_neg (by omega) (Ev.ite_neg (by omega) ?_)))
    refine Ev.succ ?_
    simp only [marquetrylaw12_GuessPlaces.j0, answers_eq, Option.bind_some, if_true]
    refine Ev.ite_neg (by simp; omega) ?_
    refine Ev.bind (refAround_ev hg hx hy) (Ev.ite_pos (by simp) ?_)
    exact Ev.bind (refAt_ev hg hx hy hl m) (Ev.fin (by simp))
  · refine Ev.bind (a := (0, 0, 0, 0)) (Ev.ite_neg (by simpa using hb) (Ev.now _)) (Ev.bind (At_bad hb) ?_)
    have skip : ∀ z : Bool, z = true → Ev (fun t => marquetrylaw12_GuessPlaces.j0 t m x y 0 0 0 0 0 z w h l) true := by
      intro z hz
      refine Ev.succ ?_
      simp only [marquetrylaw12_GuessPlaces.j0, answers_eq, Option.bind_some, if_true]
      exact Ev.ite_pos hz (Ev.fin (by simp))
    by_cases hg : good w h l
    · refine Ev.ite_pos (by simpa using hg) ?_
      by_cases c1 : x < 0
      · exact Ev.ite_pos c1 (skip _ rfl)
      refine Ev.ite_neg c1 ?_
      by_cases c2 : y < 0
      · exact Ev.ite_pos c2 (skip _ rfl)
      refine Ev.ite_neg c2 ?_
      by_cases c3 : x ≥ w
      · exact Ev.ite_pos c3 (skip _ rfl)
      refine Ev.ite_neg c3 (skip _ ?_)
      have : y ≥ h := by
        refine Classical.byContradiction fun c4 => hb ⟨hg, ?_, ?_⟩ <;> omega
      simpa using this
    · exact Ev.ite_neg (by simpa using hg) (skip _ rfl)
end Go.Proofs.Ytioppjmpkdffkaa.Pure
