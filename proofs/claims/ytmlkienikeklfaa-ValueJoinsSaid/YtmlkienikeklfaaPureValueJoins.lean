/- For any symbol and any bits behind it: the number, and how many bits the symbol has, are the reference's. -/
import Derived.Test.YtmlkienikeklfaaValue
namespace Go.Proofs.Ytmlkienikeklfaa.Pure
open Go Go.RowKit Go.Proofs.Ytmlkienikeklfaa.P Go.Proofs.YtmlkienikeklfaaW.PrintWords Go.Proofs.YtmlkienikeklfaaW.PrintLast Go.Proofs.YtmlkienikeklfaaW.PrintMore Go.Proofs.Ytmlkienikeklfaa.U

theorem ValueJoins : marquetrylaw08_ValueJoins.Pure := by
  intro s x ws wx
  have hx := wf_u32 wx
  refine Ev.rounds (g := fun k => marquetrylaw08_ValueJoins.f k s x) ?_
  unfold marquetrylaw08_ValueJoins.f
  refine Ev.bind answers_ev ?_
  simp only [if_true, value_Extra_eq, ref_Extra_eq, Option.bind_some]
  refine Ev.bind (value_Join_ev s x hx) (Ev.bind (ref_Join_ev s x hx) (Ev.fin (by simp)))

end Go.Proofs.Ytmlkienikeklfaa.Pure
