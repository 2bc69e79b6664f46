/- Elements of nothing, and pictures without green and red. -/
import Derived.Test.YtbbbngjjefnmhaaCross
namespace Go.Proofs.Ytbbbngjjefnmhaa.Pure
open Go Go.RowKit Go.Proofs.Ytbbbngjjefnmhaa.P Go.Proofs.YtbbbngjjefnmhaaW.PrintWords Go.Proofs.YtbbbngjjefnmhaaW.PrintLast Go.Proofs.YtbbbngjjefnmhaaW.PrintMore Go.Proofs.Ytbbbngjjefnmhaa.U

def ends (p : Int) : Int := join4 (pA p) 0 0 (pB p)
theorem fw_ends (e : S24) (p : Int) : fw e (ends p) = ends p := by
  unfold fw ends
  rw [pA_join, pR_join, pG_join, pB_join, show (0 : Int) % 256 = 0 by decide, show sg 0 = 0 by decide, dl_zero', dl_zero', dl_zero']
  exact join_eq (by omega) (by omega) (by omega) (by omega)
theorem each_id {f : S24 → Int → Int} {w b : Int} {l2 : List S24} {l : List Int} (h : ∀ j : Nat, j < l.length → f (el w b l2 j) (rd l j) = rd l j) : each f w b l2 l = l := by
  refine rd_ext (each_len _ _ _ _ _) fun j hj => ?_
  rw [each_len] at hj
  rw [each_rd _ _ _ _ _ hj, h j hj]
theorem rd_map' {f : Int → Int} {l : List Int} {i : Nat} (h : i < l.length) : rd (l.map f) (i : Int) = f (rd l (i : Int)) := by
  unfold rd
  rw [Int.toNat_natCast, List.getD_eq_getElem?_getD, List.getElem?_eq_getElem (by simpa using h), List.getD_eq_getElem?_getD, List.getElem?_eq_getElem h]
  simp
theorem rep24 (n : Nat) : ∀ i : Int, rd_T24 (List.replicate n (⟨0, 0, 0⟩ : S24)) i = ⟨0, 0, 0⟩ := by
  intro i
  unfold rd_T24
  rw [List.getD_eq_getElem?_getD, List.getElem?_replicate]
  split <;> rfl
theorem e8_rep {e : S24} (h : E8 e) (n : Nat) : E8s (List.replicate n e) := fun x hx => by rw [List.eq_of_mem_replicate hx]; exact h
theorem cn_l1 {w h : Int} {l : List Int} (hl : U32s l) (hg : good w h l) (e : S24) (he : E8 e) (d : Nat) : ∀ i : Nat, (i : Int) + d = blocks w 4 * blocks h 4 →
    Ev (fun k => marquetrylaw14_CrossNothing.l1 k (List.replicate i (⟨0, 0, 0⟩ : S24)) (List.replicate i e) i w h l e.f0 e.f1 e.f2 w h (l.map ends)) true := by
  have hlen := good_len hg
  induction d with
  | zero =>
    intro i hd
    refine Ev.succ ?_
    simp only [marquetrylaw14_CrossNothing.l1]
    refine Ev.bind (refMany_ev hg (by omega) (by omega)) (Ev.ite_neg (by omega) ?_)
    have gm : good w h (l.map ends) := by unfold good at *; rw [List.length_map]; exact hg
    have um : U32s (l.map ends) := fun x hx => by
      obtain ⟨y, _, rfl⟩ := List.mem_map.1 hx
      exact u32_join _ _ _ _
    have f1 : fit w h l 4 (List.replicate i (⟨0, 0, 0⟩ : S24)) := ⟨hg, by omega, by omega, by rw [List.length_replicate]; omega⟩
    have f2 : fit w h (l.map ends) 4 (List.replicate i e) := ⟨gm, by omega, by omega, by rw [List.length_replicate]; omega⟩
    refine Ev.bind (Forth_ev hl (e8_rep (by unfold E8 I8; simp) i) f1) (Ev.bind (Forth_ev um (e8_rep he i) f2) ?_)
    rw [each_id (fun j hj => fw_zero (rd_u32 hl _) (by unfold el; rw [rep24]; rfl))]
    rw [each_id (l := l.map ends) (fun j hj => by rw [List.length_map] at hj; rw [rd_map' hj]; exact fw_ends _ _)]
    simp only [answers_eq, Option.bind_some]
    refine Ev.ite_pos trivial (Ev.ite_pos trivial (Ev.ite_pos trivial (Ev.bind (same_ev w h l (by omega)) (Ev.ite_pos rfl (Ev.bind (same_ev w h _ (by rw [List.length_map]; omega)) (Ev.now _))))))
  | succ d ih =>
    intro i hd
    refine Ev.succ ?_
    simp only [marquetrylaw14_CrossNothing.l1]
    have hb : blocks w 4 * blocks h 4 ≤ 268435456 := by
      obtain ⟨w0, w1, h0, h1, _⟩ := hg
      obtain ⟨p0, p1, p2⟩ := blocks_in w0 w1 (b := 4) (by omega) (by omega)
      obtain ⟨q0, q1, q2⟩ := blocks_in h0 h1 (b := 4) (by omega) (by omega)
      have := Int.mul_le_mul p1 q1 (by omega) (by omega)
      omega
    refine Ev.bind (refMany_ev hg (by omega) (by omega)) (Ev.ite_pos (by omega) (Ev.ite_pos (by rw [List.length_replicate]; omega) (Ev.ite_pos (by rw [List.length_replicate]; omega) ?_)))
    rw [w64 (by omega) (by omega), ← List.replicate_succ', show [(⟨e.f0, e.f1, e.f2⟩ : S24)] = [e] by rfl, ← List.replicate_succ']
    exact ih (i + 1) (by omega)
theorem cn_l0 {w h : Int} {l : List Int} (hl : U32s l) (hg : good w h l) (e : S24) (he : E8 e) (d : Nat) : ∀ i : Nat, i + d = l.length →
    Ev (fun k => marquetrylaw14_CrossNothing.l0 k i w h l e.f0 e.f1 e.f2 w h ((l.take i).map ends)) true := by
  have hlen := good_len hg
  induction d with
  | zero =>
    intro i hd
    refine Ev.succ ?_
    simp only [marquetrylaw14_CrossNothing.l0]
    refine Ev.ite_neg (by omega) ?_
    rw [List.take_of_length_le (by omega)]
    have hm : 0 ≤ blocks w 4 * blocks h 4 := by
      obtain ⟨w0, w1, h0, h1, _⟩ := hg
      obtain ⟨p0, p1, p2⟩ := blocks_in w0 w1 (b := 4) (by omega) (by omega)
      obtain ⟨q0, q1, q2⟩ := blocks_in h0 h1 (b := 4) (by omega) (by omega)
      exact Int.mul_nonneg (by omega) (by omega)
    exact cn_l1 hl hg e he (blocks w 4 * blocks h 4).toNat 0 (by omega)
  | succ d ih =>
    intro i hd
    refine Ev.succ ?_
    simp only [marquetrylaw14_CrossNothing.l0]
    refine Ev.ite_pos (by omega) (Ev.ite_pos (by omega) (Ev.ite_pos (by simp; omega) ?_))
    rw [and_ends (rd_u32 hl _), w64 (by omega) (by omega)]
    have e1 : (l.take i).map ends ++ [join4 (pA (rd l (i : Int))) 0 0 (pB (rd l (i : Int)))] = (l.take (i + 1)).map ends := by
      have hr : rd l (i : Int) = l[i] := by
        unfold rd
        rw [Int.toNat_natCast, List.getD_eq_getElem?_getD, List.getElem?_eq_getElem (by omega)]; rfl
      rw [hr, List.take_succ_eq_append_getElem (by omega), List.map_append]; rfl
    rw [e1]
    exact ih (i + 1) (by omega)
theorem CrossNothing : marquetrylaw14_CrossNothing.Pure := by
  intro w h l a b c _ _ _ _ hl0 wa wb wc
  have hl := u32s_of hl0
  refine Ev.rounds (g := fun k => marquetrylaw14_CrossNothing.f k w h l a b c) ?_
  unfold marquetrylaw14_CrossNothing.f
  have skip : ∀ z : Bool, z = true → Ev (fun k => marquetrylaw14_CrossNothing.j0 k z w h l a b c) true := by
    intro z hz
    refine Ev.succ ?_
    simp only [marquetrylaw14_CrossNothing.j0, answers_eq, Option.bind_some]
    exact Ev.ite_pos hz (Ev.now _)
  simp only [good_eq, Option.bind_some]
  by_cases hg : good w h l
  · refine Ev.ite_pos (by simpa using hg) ?_
    by_cases c1 : (l.length : Int) > 1000
    · exact skip _ (by simpa using c1)
    · refine Ev.succ ?_
      simp only [marquetrylaw14_CrossNothing.j0]
      refine Ev.ite_neg (by simpa using c1) ?_
      exact cn_l0 hl hg ⟨a, b, c⟩ ⟨wf_i8 wa, wf_i8 wb, wf_i8 wc⟩ l.length 0 (by omega)
  · exact Ev.ite_neg (by simpa using hg) (skip _ rfl)
end Go.Proofs.Ytbbbngjjefnmhaa.Pure
