/- Forth and back an image is itself; alpha and green stay. -/
import Derived.Test.YtbbbngjjefnmhaaCrossB
namespace Go.Proofs.Ytbbbngjjefnmhaa.Pure
open Go Go.RowKit Go.Proofs.Ytbbbngjjefnmhaa.P Go.Proofs.YtbbbngjjefnmhaaW.PrintWords Go.Proofs.YtbbbngjjefnmhaaW.PrintLast Go.Proofs.YtbbbngjjefnmhaaW.PrintMore Go.Proofs.Ytbbbngjjefnmhaa.U

theorem stays_fw {p : Int} (h : U32 p) (e : S24) : Go.bits .and .u32 (Go.bits .xor .u32 (fw e p) p) 4278255360 = 0 := by
  have h0 := pA_bd h
  have h2 := pG_bd p
  refine stays (u32_fw e p) h ?_ ?_ <;> unfold fw
  · rw [pA_join]; omega
  · rw [pG_join]; omega
theorem cb_loop {l : List Int} (hl : U32s l) (hlen : l.length ≤ 268435456) (w h b : Int) (l2 : List S24) (d : Nat) : ∀ i : Nat, i + d = l.length →
    Ev (fun k => marquetrylaw14_CrossBack.l0 k 0 0 i w h l w h (each fw w b l2 l) w h l w h l) true := by
  induction d with
  | zero =>
    intro i hd
    refine Ev.succ ?_
    simp only [marquetrylaw14_CrossBack.l0, answers_eq, Option.bind_some, each_len]
    refine Ev.ite_neg (by omega) (Ev.ite_pos trivial (Ev.ite_pos trivial (Ev.ite_pos trivial ?_)))
    exact Ev.bind (same_ev w h l (by omega)) (Ev.ite_pos rfl (Ev.bind (same_ev w h l (by omega)) (Ev.now _)))
  | succ d ih =>
    intro i hd
    refine Ev.succ ?_
    simp only [marquetrylaw14_CrossBack.l0, each_len]
    rw [each_rd fw w b l2 l (j := i) (by omega), stays_fw (rd_u32 hl _)]
    refine Ev.ite_pos (by omega) (Ev.ite_pos (by omega) (Ev.ite_pos (by omega) (Ev.ite_pos rfl ?_)))
    rw [w64 (by omega) (by omega)]
    exact ih (i + 1) (by omega)
theorem CrossBack : marquetrylaw14_CrossBack.Pure := by
  intro w h l b l2 _ _ _ _ hl0 _ _ _ he0
  have hl := u32s_of hl0
  have he : E8s l2 := fun e hx => by
    obtain ⟨a, b, c⟩ := he0 e hx
    exact ⟨wf_i8 a, wf_i8 b, wf_i8 c⟩
  refine Ev.rounds (g := fun k => marquetrylaw14_CrossBack.f k w h l b l2) ?_
  unfold marquetrylaw14_CrossBack.f
  have skip : ∀ z : Bool, z = true → Ev (fun k => marquetrylaw14_CrossBack.j0 k b l2 z w h l) true := by
    intro z hz
    refine Ev.succ ?_
    simp only [marquetrylaw14_CrossBack.j0, answers_eq, Option.bind_some]
    exact Ev.ite_pos hz (Ev.now _)
  by_cases c : (l.length : Int) > 2000
  · exact Ev.ite_pos c (skip _ rfl)
  refine Ev.ite_neg c ?_
  simp only [good_eq, Option.bind_some]
  by_cases hg : good w h l
  · refine Ev.ite_pos (by simpa using hg) ?_
    by_cases c1 : b < 2
    · exact Ev.ite_pos c1 (skip _ rfl)
    refine Ev.ite_neg c1 ?_
    by_cases c2 : b > 9
    · exact Ev.ite_pos c2 (skip _ rfl)
    refine Ev.ite_neg c2 ?_
    refine Ev.bind (refMany_ev hg (by omega) (by omega)) ?_
    by_cases c3 : (l2.length : Int) = blocks w b * blocks h b
    · have hf : fit w h l b l2 := ⟨hg, by omega, by omega, c3⟩
      refine Ev.succ ?_
      simp only [marquetrylaw14_CrossBack.j0]
      refine Ev.ite_neg (by simpa using c3) ?_
      refine Ev.bind (Forth_ev hl he hf) (Ev.bind (Back_ev (each_u32 u32_fw _ _ _ _) he (fit_each fw hf)) (Ev.bind (Back_ev hl he hf) (Ev.bind (Forth_ev (each_u32 u32_bw _ _ _ _) he (fit_each bw hf)) ?_)))
      rw [each_back (fun e p hp => bw_fw hp e) hl, each_back (fun e p hp => fw_bw hp e) hl]
      exact cb_loop hl (good_len hg).2 w h b l2 l.length 0 (by omega)
    · exact skip _ (by simpa using c3)
  · exact Ev.ite_neg (by simpa using hg) (skip _ rfl)
end Go.Proofs.Ytbbbngjjefnmhaa.Pure
