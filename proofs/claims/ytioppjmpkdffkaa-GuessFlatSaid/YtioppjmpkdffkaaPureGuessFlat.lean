/- Where all pixels around are one, each mode but Black's makes that one. -/
import Derived.Test.YtioppjmpkdffkaaGuess
namespace Go.Proofs.Ytioppjmpkdffkaa.Pure
open Go Go.RowKit Go.Proofs.Ytioppjmpkdffkaa.P Go.Proofs.YtioppjmpkdffkaaW.PrintWords Go.Proofs.YtioppjmpkdffkaaW.PrintLast Go.Proofs.YtioppjmpkdffkaaW.PrintMore Go.Proofs.Ytioppjmpkdffkaa.U

theorem full_flat {p : Int} (h : U32 p) : each4 fFull p p p = p := by
  have h0 := pA_bd h
  have h1 := pR_bd p
  have h2 := pG_bd p
  have h3 := pB_bd p
  have e : ∀ x : Int, 0 ≤ x ∧ x ≤ 255 → fFull x x x % 256 = x := by
    intro x hx
    unfold fFull cut255 mn mx
    (repeat' split) <;> omega
  exact parts_ext (u32_each _ _ _ _) h (by rw [pA_each, e _ h0]) (by rw [pR_each, e _ h1]) (by rw [pG_each, e _ h2]) (by rw [pB_each, e _ h3])
theorem half_flat {p : Int} (h : U32 p) : each4 fHalf p p 0 = p := by
  have h0 := pA_bd h
  have h1 := pR_bd p
  have h2 := pG_bd p
  have h3 := pB_bd p
  have e : ∀ x : Int, 0 ≤ x ∧ x ≤ 255 → fHalf x x 0 % 256 = x := by
    intro x hx
    unfold fHalf cut255 mn mx
    rw [Int.sub_self, show Int.tdiv 0 2 = 0 by decide]
    (repeat' split) <;> omega
  have z : pA 0 = 0 ∧ pR 0 = 0 ∧ pG 0 = 0 ∧ pB 0 = 0 := by decide
  refine parts_ext (u32_each _ _ _ _) h ?_ ?_ ?_ ?_
  · rw [pA_each, z.1, e _ h0]
  · rw [pR_each, z.2.1, e _ h1]
  · rw [pG_each, z.2.2.1, e _ h2]
  · rw [pB_each, z.2.2.2, e _ h3]
theorem pick_flat (p : Int) : pick4 p p p = p := by unfold pick4; split <;> rfl
theorem guess_flat {m p : Int} (h : U32 p) (h0 : 1 ≤ m) (h1 : m ≤ 13) : guess m p p p p = p := by
  have hm : m = 1 ∨ m = 2 ∨ m = 3 ∨ m = 4 ∨ m = 5 ∨ m = 6 ∨ m = 7 ∨ m = 8 ∨ m = 9 ∨ m = 10 ∨ m = 11 ∨ m = 12 ∨ m = 13 := by omega
  rcases hm with rfl | rfl | rfl | rfl | rfl | rfl | rfl | rfl | rfl | rfl | rfl | rfl | rfl <;> simp [guess, avg_self h, full_flat h, half_flat h, pick_flat]
theorem GuessFlat : marquetrylaw12_GuessFlat.Pure := by
  intro m p wm wp
  have hm := wf_u8 wm
  have hp := u32_wf wp
  unfold marquetrylaw12_GuessFlat.f
  rw [Int.tmod_eq_emod_of_nonneg hm.1, w64 (by omega) (by omega)]
  have g0 : guess 0 p p p p = 4278190080 := by unfold guess; rfl
  have g14 : guess 14 p p p p = 4278190080 := by unfold guess; rfl
  simp only [answers_eq, Option.bind_some, if_true, Guess_eq _ hp hp hp hp, g0, g14]
  by_cases c : m % 14 = 0
  · rw [if_pos c]; simp
  · rw [if_neg c, guess_flat hp (by omega) (by omega)]; simp

end Go.Proofs.Ytioppjmpkdffkaa.Pure
