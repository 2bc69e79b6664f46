/- Each number from 1 to 2^20 has one symbol and bits that are it again by the reference; any other number has none. -/
import Derived.Test.YtmlkienikeklfaaValue
namespace Go.Proofs.Ytmlkienikeklfaa.Pure
open Go Go.RowKit Go.Proofs.Ytmlkienikeklfaa.P Go.Proofs.YtmlkienikeklfaaW.PrintWords Go.Proofs.YtmlkienikeklfaaW.PrintLast Go.Proofs.YtmlkienikeklfaaW.PrintMore Go.Proofs.Ytmlkienikeklfaa.U

theorem ValueBack : marquetrylaw08_ValueBack.Pure := by
  intro n wn
  have hn := wf_i64 wn
  refine Ev.rounds (g := fun k => marquetrylaw08_ValueBack.f k n) ?_
  unfold marquetrylaw08_ValueBack.f
  have bad : Ev (fun k => marquetrylaw08_ValueBack.j0 k n 0 0 0 true) true := by
    refine Ev.succ ?_
    simp only [marquetrylaw08_ValueBack.j0, if_true]
    refine Ev.bind answers_ev ?_
    simp only [if_true]
    exact Ev.now _
  by_cases c : n < 1
  · exact Ev.bind (value_Split_bad n (.inl c)) (Ev.ite_pos c bad)
  by_cases c2 : n > 1048576
  · refine Ev.bind (value_Split_bad n (.inr c2)) (Ev.ite_neg c ?_)
    rw [decide_eq_true c2]
    exact bad
  obtain ⟨s, x, he, hs, hx, e⟩ := value_Split_ev n (by omega) (by omega)
  refine Ev.bind he (Ev.ite_neg c ?_)
  rw [decide_eq_false c2]
  refine Ev.succ ?_
  simp only [marquetrylaw08_ValueBack.j0]
  refine Ev.ite_neg (by decide) (Ev.bind answers_ev ?_)
  simp only [if_true, ref_Extra_eq, Option.bind_some]
  have h1 := extra_bd s
  have hp := pow18 s
  rw [wu64 (n := extra s) (by omega) (by omega), wu64 (n := x) (by omega) (by omega), shl_u64 (by omega), Int.one_mul, Int.emod_eq_of_lt (by omega) (by omega)]
  refine Ev.ite_pos (by omega) (Ev.ite_pos (by omega) (Ev.ite_pos (by omega) (Ev.ite_pos hx.2 (Ev.bind (ref_Join_ev s x (by omega)) (Ev.fin ?_)))))
  unfold join
  rw [if_pos ⟨hs.1, hs.2, hx.2⟩]
  simp only [beq_iff_eq]
  omega

end Go.Proofs.Ytmlkienikeklfaa.Pure
