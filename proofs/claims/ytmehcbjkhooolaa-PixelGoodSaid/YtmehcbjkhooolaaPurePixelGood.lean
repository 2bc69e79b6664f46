/- Which images may be: the program and the reference say the same of any image. -/
import Derived.Test.YtmehcbjkhooolaaPx
import Derived.Test.YtmehcbjkhooolaaPix
namespace Go.Proofs.Ytmehcbjkhooolaa.Pure
open Go Go.RowKit Go.Proofs.Ytmehcbjkhooolaa.P Go.Proofs.YtmehcbjkhooolaaW.PrintWords Go.Proofs.YtmehcbjkhooolaaW.PrintLast Go.Proofs.YtmehcbjkhooolaaW.PrintMore Go.Proofs.Ytmehcbjkhooolaa.U

theorem answers_eq : marquetrylaw11_answers.f = some true := by
  unfold marquetrylaw11_answers.f
  rw [Avg_eq (by decide) (by decide), Option.bind_some, if_pos (by decide), Add_eq (by decide) (by decide), Option.bind_some]
  decide
theorem good_some (w h : Int) (l : List Int) : ∃ b, pixel_Good.f w h l = some b := by
  unfold pixel_Good.f
  (repeat' split) <;> exact ⟨_, rfl⟩
theorem PixelGood : marquetrylaw11_PixelGood.Pure := by
  intro w h l _ _ _ _ _
  have e : marquetryref11_Good.f w h l = pixel_Good.f w h l := rfl
  obtain ⟨b, hb⟩ := good_some w h l
  unfold marquetrylaw11_PixelGood.f
  simp only [answers_eq, Option.bind_some, if_true, e, hb]
  simp

end Go.Proofs.Ytmehcbjkhooolaa.Pure
