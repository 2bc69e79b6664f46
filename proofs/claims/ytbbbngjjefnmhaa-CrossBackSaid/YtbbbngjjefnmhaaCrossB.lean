/- The way back. -/
import Derived.Test.YtbbbngjjefnmhaaCross
namespace Go.Proofs.Ytbbbngjjefnmhaa.Pure
open Go Go.RowKit Go.Proofs.Ytbbbngjjefnmhaa.P Go.Proofs.YtbbbngjjefnmhaaW.PrintWords Go.Proofs.YtbbbngjjefnmhaaW.PrintLast Go.Proofs.YtbbbngjjefnmhaaW.PrintMore Go.Proofs.Ytbbbngjjefnmhaa.U

theorem back_eq {p : Int} (h : U32 p) {e : S24} (he : E8 e) : cross_back.f p e.f0 e.f1 e.f2 = some (bw e p) := by
  have h0 := pA_bd h
  have h1 := pR_bd p
  have h2 := pG_bd p
  have h3 := pB_bd p
  obtain ⟨e0, e1, e2⟩ := he
  have d0 := dl_bd e0 (sg_i8 (pG p))
  have d1 := dl_bd e1 (sg_i8 (pG p))
  have d2 := dl_bd e2 (sg_i8 ((pR p + dl e.f0 (sg (pG p))) % 256))
  unfold cross_back.f
  simp only [parts_eq h, Option.bind_some, sg_eq, delta_eq e0 (sg_i8 _), delta_eq e1 (sg_i8 _), delta_eq e2 (sg_i8 _)]
  rw [w64 (n := pR p) (by omega) (by omega), w64 (n := pB p) (by omega) (by omega), w64 (n := pR p + dl e.f0 (sg (pG p))) (by omega) (by omega), w64 (n := pB p + dl e.f1 (sg (pG p))) (by omega) (by omega), w64 (by omega) (by omega)]
  rw [make_join h0 h2]; rfl
theorem back_loop {w h b : Int} {l : List Int} {l2 : List S24} (hl : U32s l) (he : E8s l2) (hf : fit w h l b l2) (w' h' : Int) (d : Nat) : ∀ (i : Nat) (m : List Int), i + d = l.length → m.length = l.length → (∀ j : Nat, j < i → rd m (j : Int) = bw (el w b l2 j) (rd l j)) →
    Ev (fun k => cross_way_turn__cross_back.l0 k l l.length i w h l w' h' m w b l2) (w', h', each bw w b l2 l, 0) := by
  induction d with
  | zero =>
    intro i m hd hm hs
    refine Ev.succ ?_
    simp only [cross_way_turn__cross_back.l0]
    refine Ev.ite_neg (by omega) (Ev.fin ?_)
    rw [rd_ext (l := m) (m := each bw w b l2 l) (by rw [each_len]; exact hm) (fun j hj => by rw [hs j (by omega), each_rd _ _ _ _ _ (by omega)])]
  | succ d ih =>
    intro i m hd hm hs
    refine Ev.succ ?_
    simp only [cross_way_turn__cross_back.l0]
    have hw := hf.1.1
    have hlen := (good_len hf.1).2
    have hu := rd_u32 hl (i : Int)
    refine Ev.ite_pos (by omega) (Ev.ite_pos (by omega) (Ev.ite_pos (by omega) (Ev.ite_neg (by omega) ?_)))
    rw [at_el hf (i := i) (by omega)]
    simp only [Option.bind_some]
    have step : ∀ v, v = bw (el w b l2 i) (rd l i) → Ev (fun k => cross_way_turn__cross_back.l0 k l l.length (wrap64 ((i : Int) + 1)) w h l w' h' (m.set (i : Int).toNat v) w b l2) (w', h', each bw w b l2 l, 0) := by
      intro v hv
      rw [w64 (by omega) (by omega)]
      refine ih (i + 1) _ (by omega) (by rw [List.length_set]; exact hm) ?_
      intro j hj
      rw [set_rd (by omega)]
      by_cases c : j = i
      · rw [if_pos c, hv, c]
      · rw [if_neg c]; exact hs j (by omega)
    by_cases c : isZ (el w b l2 i) = true
    · exact Ev.ite_pos c (Ev.ite_pos (by omega) (step _ (bw_zero hu c).symm))
    · refine Ev.ite_neg c ?_
      exact Ev.bindo (back_eq hu (rd24_e8 he _ : E8 (el w b l2 i))) (Ev.ite_pos (by omega) (step _ rfl))
theorem Back_ev {w h b : Int} {l : List Int} {l2 : List S24} (hl : U32s l) (he : E8s l2) (hf : fit w h l b l2) : Ev (fun k => cross_Back.f k w h l b l2) (w, h, each bw w b l2 l, 0) := by
  have hlen := good_len hf.1
  unfold cross_Back.f cross_way_turn__cross_back.f
  simp only [pgood_eq, bits_eq, many_eq hf.1 hf.2.1 hf.2.2.1, Option.bind_some]
  refine Ev.bind (a := (w, h, each bw w b l2 l, 0)) (Ev.ite_pos (by simpa using hf.1) (Ev.ite_pos (by simpa using ⟨hf.2.1, hf.2.2.1⟩) (Ev.succ ?_))) (Ev.now _)
  simp only [cross_way_turn__cross_back.j0]
  refine Ev.ite_neg (by simpa using hf.2.2.2) (Ev.ite_pos (by omega) (Ev.ite_pos (by omega) ?_))
  exact back_loop hl he hf w h l.length 0 _ (by omega) (by simp) (fun j hj => absurd hj (by omega))
end Go.Proofs.Ytbbbngjjefnmhaa.Pure
