/- Any pixel above any other one. -/
import Derived.Test.YtegifkffhnhccaaCanvasEv
namespace Go.Proofs.Ytegifkffhnhccaa.Pure
open Go Go.RowKit Go.Proofs.Ytegifkffhnhccaa.P Go.Proofs.YtegifkffhnhccaaW.PrintWords Go.Proofs.YtegifkffhnhccaaW.PrintLast Go.Proofs.YtegifkffhnhccaaW.PrintMore Go.Proofs.Ytegifkffhnhccaa.U
theorem CanvasOver : marquetrylaw27_CanvasOver.Pure := by
  intro a b ha hb
  have hA : U32 a := wf_u32 ha
  have hB : U32 b := wf_u32 hb
  have h1 := over_alpha hA hB
  unfold marquetrylaw27_CanvasOver.f
  have e1 : canvas_Over.f a b = some (overP a b) := by rw [canvas_Over.f, if_pos ⟨hA, hB⟩]
  have e2 : marquetryref24_Over.f a b = some (overP a b) := by rw [marquetryref24_Over.f, if_pos ⟨hA, hB⟩]
  simp only [e1, e2, marquetrylaw27_answers.f, Option.bind_some, if_true]
  have e : decide (overP a b / 16777216 ≥ b / 16777216) = true := decide_eq_true h1
  by_cases c0 : b / 16777216 = 0
  · rw [if_pos c0, if_neg (by omega : ¬ b / 16777216 = 255)]
    by_cases c1 : a / 16777216 = 255
    · rw [if_pos c1, if_pos (over_gone hA c0 c1), e]
    · rw [if_neg c1, e]
  · rw [if_neg c0]
    by_cases c1 : b / 16777216 = 255
    · rw [if_pos c1, if_pos (over_full hB c1), e]
    · rw [if_neg c1, e]
end Go.Proofs.Ytegifkffhnhccaa.Pure
