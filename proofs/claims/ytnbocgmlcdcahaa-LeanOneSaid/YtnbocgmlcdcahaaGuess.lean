/- What a mode makes of the pixels around. -/
import Derived.Test.YtnbocgmlcdcahaaPx
import Derived.Test.YtnbocgmlcdcahaaPixRef
namespace Go.Proofs.Ytnbocgmlcdcahaa.Pure
open Go Go.RowKit Go.Proofs.Ytnbocgmlcdcahaa.P Go.Proofs.YtnbocgmlcdcahaaW.PrintWords Go.Proofs.YtnbocgmlcdcahaaW.PrintLast Go.Proofs.YtnbocgmlcdcahaaW.PrintMore Go.Proofs.Ytnbocgmlcdcahaa.U

/-- What a mode makes of the pixels around: left, above, above that, above at the right. -/
def guess (m l t tl tr : Int) : Int :=
  if m = 1 then l else if m = 2 then t else if m = 3 then tr else if m = 4 then tl
  else if m = 5 then each4 fAvg (each4 fAvg l tr 0) t 0 else if m = 6 then each4 fAvg l tl 0 else if m = 7 then each4 fAvg l t 0 else if m = 8 then each4 fAvg tl t 0
  else if m = 9 then each4 fAvg t tr 0 else if m = 10 then each4 fAvg (each4 fAvg l tl 0) (each4 fAvg t tr 0) 0 else if m = 11 then pick4 l t tl
  else if m = 12 then each4 fFull l t tl else if m = 13 then each4 fHalf (each4 fAvg l t 0) tl 0 else 4278190080
theorem Pick_eq {p q r : Int} (hp : U32 p) (hq : U32 q) (hr : U32 r) : pixel_Pick.f p q r = some (pick4 p q r) := if_pos ⟨hp, hq, hr⟩
theorem Guess_eq (m : Int) {l t tl tr : Int} (hl : U32 l) (ht : U32 t) (h1 : U32 tl) (h2 : U32 tr) : guess_Guess.f m l t tl tr = some (guess m l t tl tr) := by
  unfold guess_Guess.f guess
  simp only [Avg_eq hl h2, Avg_eq hl h1, Avg_eq hl ht, Avg_eq h1 ht, Avg_eq ht h2, Pick_eq hl ht h1, Full_eq hl ht h1, Option.bind_some, Avg_eq (u32_each fAvg l tr 0) ht, Avg_eq (u32_each fAvg l tl 0) (u32_each fAvg t tr 0), Half_eq (u32_each fAvg l t 0) h1]
  simp only [apply_ite some]
theorem refGuess_ev (m : Int) {l t tl tr : Int} (hl : U32 l) (ht : U32 t) (h1 : U32 tl) (h2 : U32 tr) : Ev (fun k => marquetryref11_Guess.f k m l t tl tr) (guess m l t tl tr) := by
  have rAvg : ∀ {p q : Int}, U32 p → U32 q → marquetryref11_Avg.f p q = some (each4 fAvg p q 0) := fun hp hq => if_pos ⟨hp, hq⟩
  have rHalf : ∀ {p q : Int}, U32 p → U32 q → marquetryref11_Half.f p q = some (each4 fHalf p q 0) := fun hp hq => if_pos ⟨hp, hq⟩
  have rFull : ∀ {p q r : Int}, U32 p → U32 q → U32 r → marquetryref11_Full.f p q r = some (each4 fFull p q r) := fun hp hq hr => if_pos ⟨hp, hq, hr⟩
  unfold marquetryref11_Guess.f guess
  simp only [rAvg hl h2, rAvg hl h1, rAvg hl ht, rAvg h1 ht, rAvg ht h2, rFull hl ht h1, Option.bind_some, rAvg (u32_each fAvg l tr 0) ht, rAvg (u32_each fAvg l tl 0) (u32_each fAvg t tr 0), rHalf (u32_each fAvg l t 0) h1]
  by_cases c : m = 11
  · subst c
    simp only [show ¬ ((11 : Int) = 1) by omega, show ¬ ((11 : Int) = 2) by omega, show ¬ ((11 : Int) = 3) by omega, show ¬ ((11 : Int) = 4) by omega, show ¬ ((11 : Int) = 5) by omega, show ¬ ((11 : Int) = 6) by omega, show ¬ ((11 : Int) = 7) by omega, show ¬ ((11 : Int) = 8) by omega, show ¬ ((11 : Int) = 9) by omega, show ¬ ((11 : Int) = 10) by omega, if_false, if_true]
    exact Ev.bind (refPick_ev hl ht h1) (Ev.now _)
  · simp only [c, if_false, ← apply_ite some]
    exact Ev.now _

end Go.Proofs.Ytnbocgmlcdcahaa.Pure
