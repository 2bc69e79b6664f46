/- What is kept is there as it was given: one part alone, pixel by pixel. -/
import Derived.Test.YtegifkffhnhccaaCanvasLaw
namespace Go.Proofs.Ytegifkffhnhccaa.P
open Go Go.RowKit Go.Proofs.YtegifkffhnhccaaW.PrintWords Go.Proofs.YtegifkffhnhccaaW.PrintLast Go.Proofs.YtegifkffhnhccaaW.PrintMore
set_option linter.unusedVariables false
set_option linter.unusedSimpArgs false
def keptP (X Y : Int) (keep : Bool) (w h : Int) (l : List Int) : S47 := ⟨X, Y, keep, false, ⟨w, h, l⟩⟩
section
variable {X Y w h : Int} {keep : Bool} {l : List Int} (hg : goodI w h l) (hw : w ≤ 40) (hh : h ≤ 40) (hX : 0 ≤ X ∧ X ≤ 9) (hY : 0 ≤ Y ∧ Y ≤ 9) (hu : ∀ x ∈ l, U32 x)
include hg hw hh hX hY
theorem kept_ask : askOk (w + 10) (h + 10) [keptP X Y keep w h l] 0 := by
  obtain ⟨⟨a1, a2⟩, ⟨a3, a4⟩, a5⟩ := hg
  refine ⟨⟨⟨by omega, by omega⟩, ⟨by omega, by omega⟩⟩, by simp, ?_⟩
  intro i hi
  obtain rfl : i = 0 := by simpa using hi
  show withinC (w + 10) (h + 10) X Y w h l
  exact ⟨⟨⟨a1, a2⟩, ⟨a3, a4⟩, a5⟩, hX.1, hY.1, by omega, by omega⟩
include hu
theorem kept_render : ∃ pix : List Int, renderF (w + 10) (h + 10) [keptP X Y keep w h l] 0 = some (w + 10, h + 10, pix, 0) ∧ (pix.length : Int) = (w + 10) * (h + 10) ∧
    ∀ i : Nat, i < l.length → rd pix ((Y + (i : Int) / w) * (w + 10) + X + (i : Int) % w) = if keep = false ∧ pA (rd l i) = 0 then 0 else rd l i := by
  have hask := kept_ask (keep := keep) hg hw hh hX hY
  have hU : partsU [keptP X Y keep w h l] := by
    intro p hp
    obtain rfl := List.mem_singleton.1 hp
    exact hu
  obtain ⟨⟨hW, hH⟩, _, ha⟩ := hask
  have ok := comeF_ok hW hH (partsU_rd hU) 1 (Nat.le_refl 1) ha
  refine ⟨(comeF (w + 10) (h + 10) [keptP X Y keep w h l] 1).pix, ?_, ok.1, ?_⟩
  · unfold renderF
    rw [if_pos hU, if_pos (kept_ask hg hw hh hX hY)]
    rfl
  · intro i hi
    obtain ⟨⟨a1, a2⟩, ⟨a3, a4⟩, a5⟩ := hg
    have q1 : (i : Int) / w * w + i % w = i := Int.ediv_mul_add_emod _ _
    have q2 := Int.emod_nonneg (i : Int) (show w ≠ 0 by omega)
    have q3 := Int.emod_lt_of_pos (i : Int) (show 0 < w by omega)
    have q4 : 0 ≤ (i : Int) / w := Int.ediv_nonneg (by omega) (by omega)
    have q5 : (i : Int) / w < h := Int.ediv_lt_of_lt_mul (by omega) (by rw [Int.mul_comm]; omega)
    have hr := rd_come hW hH (partsU_rd hU) (x := X + (i : Int) % w) (y := Y + (i : Int) / w) (by omega) (by omega) (by omega) (by omega) 1 (Nat.le_refl 1) ha
    rw [Int.add_assoc, hr]
    show drawP (keptP X Y keep w h l) _ _ 0 = _
    have hin : insP (keptP X Y keep w h l) (X + (i : Int) % w) (Y + (i : Int) / w) := by
      unfold insP inR keptP
      refine ⟨?_, ?_, ?_, ?_⟩ <;> simp only <;> omega
    rw [drawP, if_pos hin]
    show partP keep 0 (rd l ((Y + (i : Int) / w - Y) * w + (X + (i : Int) % w - X))) = _
    have e : (Y + (i : Int) / w - Y) * w + (X + (i : Int) % w - X) = i := by
      rw [show Y + (i : Int) / w - Y = (i : Int) / w by omega]; omega
    rw [e]
    have hq : U32 (rd l (i : Int)) := rd_U32 hu i hi
    cases keep
    · rw [partP, if_neg (by decide), over_none hq]
      by_cases c : pA (rd l (i : Int)) = 0
      · rw [if_pos c, if_pos ⟨rfl, c⟩]
      · rw [if_neg c, if_neg (fun hh => c hh.2)]
    · rw [partP, if_pos rfl, if_neg (fun hh => by cases hh.1)]
end
end Go.Proofs.Ytegifkffhnhccaa.P
