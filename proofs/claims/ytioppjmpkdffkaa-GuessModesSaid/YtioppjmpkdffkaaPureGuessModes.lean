/- What any mode makes of any pixels around is the reference's. -/
import Derived.Test.YtioppjmpkdffkaaGuess
namespace Go.Proofs.Ytioppjmpkdffkaa.Pure
open Go Go.RowKit Go.Proofs.Ytioppjmpkdffkaa.P Go.Proofs.YtioppjmpkdffkaaW.PrintWords Go.Proofs.YtioppjmpkdffkaaW.PrintLast Go.Proofs.YtioppjmpkdffkaaW.PrintMore Go.Proofs.Ytioppjmpkdffkaa.U

theorem GuessModes : marquetrylaw12_GuessModes.Pure := by
  intro m l t tl tr _ wl wt w1 w2
  have hl := u32_wf wl
  have ht := u32_wf wt
  have h1 := u32_wf w1
  have h2 := u32_wf w2
  refine Ev.rounds (g := fun k => marquetrylaw12_GuessModes.f k m l t tl tr) ?_
  unfold marquetrylaw12_GuessModes.f
  simp only [answers_eq, Guess_eq m hl ht h1 h2, Option.bind_some, if_true]
  exact Ev.bind (refGuess_ev m hl ht h1 h2) (Ev.fin (by simp))

end Go.Proofs.Ytioppjmpkdffkaa.Pure
