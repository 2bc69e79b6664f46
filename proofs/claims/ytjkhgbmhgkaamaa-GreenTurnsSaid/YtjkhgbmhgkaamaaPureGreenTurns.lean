/- Green taken away and given back: the reference's, and one undoes the other. -/
import Derived.Test.YtjkhgbmhgkaamaaGreen
import Derived.Test.YtjkhgbmhgkaamaaPart
namespace Go.Proofs.Ytjkhgbmhgkaamaa.Pure
open Go Go.RowKit Go.Proofs.Ytjkhgbmhgkaamaa.P Go.Proofs.YtjkhgbmhgkaamaaW.PrintWords Go.Proofs.YtjkhgbmhgkaamaaW.PrintLast Go.Proofs.YtjkhgbmhgkaamaaW.PrintMore Go.Proofs.Ytjkhgbmhgkaamaa.U

theorem wneg {g : Int} (h : 0 ≤ g ∧ g ≤ 255) : wrap64 (-g) = -g := w64 (by omega) (by omega)
theorem refS_loop {l : List Int} (hl : U32s l) (hlen : l.length ≤ 268435456) (w h : Int) (d : Nat) : ∀ i : Nat, i + d = l.length →
    Ev (fun k => marquetryref11_Green.l0 k false i w h l w h ((l.take i).map gS)) (w, h, l.map gS) := by
  induction d with
  | zero =>
    intro i hd
    refine Ev.succ ?_
    simp only [marquetryref11_Green.l0]
    refine Ev.ite_neg (by omega) (Ev.fin ?_)
    rw [List.take_of_length_le (by omega)]
  | succ d ih =>
    intro i hd
    refine Ev.succ ?_
    simp only [marquetryref11_Green.l0]
    have hu := hl _ (rd_mem (l := l) (i := (i : Int)) (by omega) (by omega))
    have h0 := pA_bd hu
    have h1 := pR_bd (rd l i)
    have h2 := pG_bd (rd l i)
    have h3 := pB_bd (rd l i)
    refine Ev.ite_pos (by omega) (Ev.ite_pos (by omega) ?_)
    simp only [part2 hu, Option.bind_some, wneg h2]
    refine Ev.ite_neg (by decide) ?_
    refine Ev.succ ?_
    simp only [marquetryref11_Green.j1]
    simp only [part0 hu, part1 hu, part2 hu, part3 hu, Option.bind_some, marquetryref11_Make.f]
    refine Ev.ite_pos (by simp; omega) ?_
    rw [w64 (n := pR (rd l i) + -pG (rd l i)) (by omega) (by omega), w64 (n := pB (rd l i) + -pG (rd l i)) (by omega) (by omega)]
    rw [show join4 (pA (rd l i)) (pR (rd l i) + -pG (rd l i)) (pG (rd l i)) (pB (rd l i) + -pG (rd l i)) = gS (rd l i) by unfold gS; rw [Int.sub_eq_add_neg, Int.sub_eq_add_neg]]
    rw [map_take gS (by omega), w64 (by omega) (by omega)]
    exact ih (i + 1) (by omega)
theorem refA_loop {l : List Int} (hl : U32s l) (hlen : l.length ≤ 268435456) (w h : Int) (d : Nat) : ∀ i : Nat, i + d = l.length →
    Ev (fun k => marquetryref11_Green.l0 k true i w h l w h ((l.take i).map gA)) (w, h, l.map gA) := by
  induction d with
  | zero =>
    intro i hd
    refine Ev.succ ?_
    simp only [marquetryref11_Green.l0]
    refine Ev.ite_neg (by omega) (Ev.fin ?_)
    rw [List.take_of_length_le (by omega)]
  | succ d ih =>
    intro i hd
    refine Ev.succ ?_
    simp only [marquetryref11_Green.l0]
    have hu := hl _ (rd_mem (l := l) (i := (i : Int)) (by omega) (by omega))
    have h0 := pA_bd hu
    have h1 := pR_bd (rd l i)
    have h2 := pG_bd (rd l i)
    have h3 := pB_bd (rd l i)
    refine Ev.ite_pos (by omega) (Ev.ite_pos (by omega) ?_)
    simp only [part2 hu, Option.bind_some]
    refine Ev.ite_pos trivial ?_
    refine Ev.succ ?_
    simp only [marquetryref11_Green.j1]
    simp only [part0 hu, part1 hu, part2 hu, part3 hu, Option.bind_some, marquetryref11_Make.f]
    refine Ev.ite_pos (by simp; omega) ?_
    rw [w64 (n := pR (rd l i) + pG (rd l i)) (by omega) (by omega), w64 (n := pB (rd l i) + pG (rd l i)) (by omega) (by omega)]
    rw [show join4 (pA (rd l i)) (pR (rd l i) + pG (rd l i)) (pG (rd l i)) (pB (rd l i) + pG (rd l i)) = gA (rd l i) from rfl]
    rw [map_take gA (by omega), w64 (by omega) (by omega)]
    exact ih (i + 1) (by omega)
theorem refS_ev {l : List Int} (hl : U32s l) (hlen : l.length ≤ 268435456) (w h : Int) : Ev (fun k => marquetryref11_Green.f k w h l false) (w, h, l.map gS) := by
  unfold marquetryref11_Green.f
  exact refS_loop hl hlen w h l.length 0 (by omega)
theorem refA_ev {l : List Int} (hl : U32s l) (hlen : l.length ≤ 268435456) (w h : Int) : Ev (fun k => marquetryref11_Green.f k w h l true) (w, h, l.map gA) := by
  unfold marquetryref11_Green.f
  exact refA_loop hl hlen w h l.length 0 (by omega)
theorem GreenTurns : marquetrylaw15_GreenTurns.Pure := by
  intro w h l _ _ hl1 _ hl0
  have hl := u32s_of hl0
  refine Ev.rounds (g := fun k => marquetrylaw15_GreenTurns.f k w h l) ?_
  unfold marquetrylaw15_GreenTurns.f
  by_cases c : (l.length : Int) > 3000
  · exact Ev.ite_pos c (Ev.bind answers_ev (Ev.now _))
  refine Ev.ite_neg c ?_
  simp only [good_eq, Option.bind_some]
  by_cases hg : good w h l
  · have hS := u32s_map gS u32_gS l
    have hA := u32s_map gA u32_gA l
    refine Ev.bind (Forth_ev hl hg) (Ev.bind (Back_ev hl hg) ?_)
    refine Ev.ite_pos (by simpa using hg) ?_
    refine Ev.bind (Back_ev hS (good_map gS hg)) (Ev.bind (Forth_ev hA (good_map gA hg)) (Ev.bind answers_ev ?_))
    refine Ev.ite_pos rfl (Ev.ite_pos rfl (Ev.ite_pos rfl (Ev.ite_pos rfl (Ev.ite_pos rfl ?_))))
    have hlen : ∀ f : Int → Int, (l.map f).length ≤ 140737488355328 := fun f => by rw [List.length_map]; omega
    refine Ev.bind (refS_ev hl (by omega) w h) (Ev.bind (same_ev w h _ (hlen _)) (Ev.ite_pos rfl ?_))
    refine Ev.bind (refA_ev hl (by omega) w h) (Ev.bind (same_ev w h _ (hlen _)) (Ev.ite_pos rfl ?_))
    simp only [map_back (fun p => gA_gS) hl, map_back (fun p => gS_gA) hl]
    exact Ev.bind (same_ev w h l (by omega)) (Ev.ite_pos rfl (Ev.bind (same_ev w h l (by omega)) (Ev.now _)))
  · refine Ev.bind (Forth_bad hg) (Ev.bind (Back_bad hg) ?_)
    refine Ev.ite_neg (by simpa using hg) (Ev.bind answers_ev (Ev.ite_pos rfl (Ev.ite_pos rfl (Ev.ite_pos rfl (Ev.fin (by simp [wrap64]))))))
end Go.Proofs.Ytjkhgbmhgkaamaa.Pure
