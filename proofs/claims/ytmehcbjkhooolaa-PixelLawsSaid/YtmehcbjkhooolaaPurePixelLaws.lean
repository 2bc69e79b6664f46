/- For any two pixels: less and more are ways back, and the half of two is between them, in each of the four. -/
import Derived.Test.YtmehcbjkhooolaaPixLaw
namespace Go.Proofs.Ytmehcbjkhooolaa.Pure
open Go Go.RowKit Go.Proofs.Ytmehcbjkhooolaa.P Go.Proofs.YtmehcbjkhooolaaW.PrintWords Go.Proofs.YtmehcbjkhooolaaW.PrintLast Go.Proofs.YtmehcbjkhooolaaW.PrintMore Go.Proofs.Ytmehcbjkhooolaa.U

theorem between (a b m : Int) (hm : m = (a + b) / 2) : ¬ (m < a ∧ m < b) ∧ ¬ (m > a ∧ m > b) := by omega
theorem laws_round (a b c k : Int) (p q m : Int) (ha : marquetryref11_Part.f p k = some a) (hb : marquetryref11_Part.f q k = some b) (hc : marquetryref11_Part.f m k = some c)
    (h : c = (a + b) / 2) (h4 : k < 4) (h0 : 0 ≤ k) (e : Ev (fun n => marquetrylaw11_PixelLaws.l0 n p q m (k + 1)) true) : Ev (fun n => marquetrylaw11_PixelLaws.l0 n p q m k) true := by
  refine Ev.succ ?_
  simp only [marquetrylaw11_PixelLaws.l0]
  refine Ev.ite_pos h4 ?_
  simp only [ha, hb, hc, Option.bind_some]
  have hw : wrap64 (k + 1) = k + 1 := w64 (by omega) (by omega)
  rw [hw]
  by_cases c1 : c < a
  · exact Ev.ite_pos c1 (Ev.ite_neg (by omega) (Ev.ite_neg (by omega) e))
  · refine Ev.ite_neg c1 ?_
    by_cases c2 : c > a
    · exact Ev.ite_pos c2 (Ev.ite_neg (by omega) e)
    · exact Ev.ite_neg c2 e
theorem PixelLaws : marquetrylaw11_PixelLaws.Pure := by
  intro p q wp wq
  have hp := u32_wf wp
  have hq := u32_wf wq
  refine Ev.rounds (g := fun k => marquetrylaw11_PixelLaws.f k p q) ?_
  unfold marquetrylaw11_PixelLaws.f
  simp only [Avg_eq hp hq, Option.bind_some]
  have hm : U32 (each4 fAvg p q 0) := u32_each _ _ _ _
  have p0 := pA_bd hp
  have p1 := pR_bd p
  have p2 := pG_bd p
  have p3 := pB_bd p
  have q0 := pA_bd hq
  have q1 := pR_bd q
  have q2 := pG_bd q
  have q3 := pB_bd q
  refine laws_round _ _ _ 0 _ _ _ (part0 hp) (part0 hq) (part0 hm) (by rw [pA_each]; unfold fAvg; omega) (by omega) (by omega) ?_
  refine laws_round _ _ _ 1 _ _ _ (part1 hp) (part1 hq) (part1 hm) (by rw [pR_each]; unfold fAvg; omega) (by omega) (by omega) ?_
  refine laws_round _ _ _ 2 _ _ _ (part2 hp) (part2 hq) (part2 hm) (by rw [pG_each]; unfold fAvg; omega) (by omega) (by omega) ?_
  refine laws_round _ _ _ 3 _ _ _ (part3 hp) (part3 hq) (part3 hm) (by rw [pB_each]; unfold fAvg; omega) (by omega) (by omega) ?_
  refine Ev.succ ?_
  simp only [marquetrylaw11_PixelLaws.l0]
  refine Ev.ite_neg (by omega) ?_
  have ha : U32 (each4 fAdd p q 0) := u32_each _ _ _ _
  have hs : U32 (each4 fSub p q 0) := u32_each _ _ _ _
  simp only [answers_eq, Option.bind_some, if_true, Add_eq hp hq, Sub_eq ha hq, add_sub hp, Sub_eq hp hq, Add_eq hs hq, sub_add hp, Add_eq hq hp, Avg_eq hp hp, avg_self hp, add_comm4 q p]
  exact Ev.fin (by simp)

end Go.Proofs.Ytmehcbjkhooolaa.Pure
