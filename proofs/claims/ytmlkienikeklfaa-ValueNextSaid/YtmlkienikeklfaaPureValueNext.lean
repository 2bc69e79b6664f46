/- The number behind a symbol's last one is the next symbol's first. -/
import Derived.Test.YtmlkienikeklfaaValue
namespace Go.Proofs.Ytmlkienikeklfaa.Pure
open Go Go.RowKit Go.Proofs.Ytmlkienikeklfaa.P Go.Proofs.YtmlkienikeklfaaW.PrintWords Go.Proofs.YtmlkienikeklfaaW.PrintLast Go.Proofs.YtmlkienikeklfaaW.PrintMore Go.Proofs.Ytmlkienikeklfaa.U

theorem ValueNext : marquetrylaw08_ValueNext.Pure := by
  intro a wa
  have ha := wf_u8 wa
  refine Ev.rounds (g := fun k => marquetrylaw08_ValueNext.f k a) ?_
  unfold marquetrylaw08_ValueNext.f
  rw [Int.tmod_eq_emod_of_nonneg ha.1]
  have h1 : 0 ≤ a % 39 ∧ a % 39 ≤ 38 := by omega
  generalize a % 39 = s at *
  have he := extra_bd s
  have hp := pow18 s
  have hf := first_bd s (by omega) (by omega)
  have hn := first_next s (by omega) (by omega)
  have hf1 := first_bd (s + 1) (by omega) (by omega)
  have hp1 := pow18 (s + 1)
  have hl := first_mono (s + 1) 40 (by omega) (by omega) (by omega)
  have h40 : first 40 = 1048577 := by decide
  rw [w64 (n := s) (by omega) (by omega), w64 (n := s + 1) (by omega) (by omega)]
  simp only [value_Extra_eq, Option.bind_some]
  rw [wu64 (n := extra s) (by omega) (by omega), shl_u32 (by omega), Int.one_mul, Int.emod_eq_of_lt (a := 2 ^ _) (by omega) (by omega), Int.emod_eq_of_lt (a := 2 ^ _ - 1) (by omega) (by omega)]
  refine Ev.ite_pos he.1 (Ev.bind (value_Join_ev s _ (by omega)) ?_)
  have j1 : join s (2 ^ (extra s).toNat - 1) = first (s + 1) - 1 := by unfold join; rw [if_pos (by omega)]; omega
  have j2 : join (s + 1) 0 = first (s + 1) := by unfold join; rw [if_pos (by omega)]; omega
  have j3 : join s (2 ^ (extra s).toNat) = 0 := by unfold join; rw [if_neg (by omega)]
  rw [j1, w64 (n := first (s + 1) - 1 + 1) (by omega) (by omega), show first (s + 1) - 1 + 1 = first (s + 1) by omega]
  refine Ev.bind (split_of (s := s + 1) (x := 0) (by omega) (by omega) (by omega) (by omega)) (Ev.bind answers_ev ?_)
  simp only [if_true]
  refine Ev.bind (value_Join_ev (s + 1) 0 (by omega)) ?_
  rw [j2]
  refine Ev.ite_pos rfl (Ev.bind (value_Join_ev s _ (by omega)) ?_)
  rw [j3]
  exact Ev.now _

end Go.Proofs.Ytmlkienikeklfaa.Pure
