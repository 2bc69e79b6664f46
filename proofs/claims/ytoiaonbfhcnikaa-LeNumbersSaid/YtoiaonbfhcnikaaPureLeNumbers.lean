/- For any bytes (of at most 3000; more are let go), any place and any number: what is read and what is written is the reference's, and what is written is read again. -/
import Derived.Test.YtoiaonbfhcnikaaLe
namespace Go.Proofs.Ytoiaonbfhcnikaa.Pure
open Go Go.RowKit Go.Proofs.Ytoiaonbfhcnikaa.P Go.Proofs.YtoiaonbfhcnikaaW.PrintWords Go.Proofs.YtoiaonbfhcnikaaW.PrintLast Go.Proofs.YtoiaonbfhcnikaaW.PrintMore Go.Proofs.Ytoiaonbfhcnikaa.U

theorem LeNumbers : marquetrylaw01_LeNumbers.Pure := by
  intro l a n v hlen hl8 hwf wa wn wv
  have ha := wf_i64 wa
  have hn := wf_i64 wn
  have hv := wf_u64 wv
  have hl := bytes_wf hwf
  refine Ev.rounds (g := fun k => marquetrylaw01_LeNumbers.f k l a n v) ?_
  unfold marquetrylaw01_LeNumbers.f
  by_cases c : (l.length : Int) > 3000
  · refine Ev.ite_pos c ?_
    exact Ev.bind answers_ev (Ev.now _)
  refine Ev.ite_neg c ?_
  refine Ev.bind (le_Get_ev hl (by omega) a n (by omega)) ?_
  refine Ev.bind (ref_Get_ev hl (by omega) a n (by omega)) ?_
  refine Ev.bind (le_Put_ev v n hv.1 hv.2) ?_
  refine Ev.bind (ref_Put_ev v n hv.1 hv.2) ?_
  refine Ev.bind answers_ev ?_
  simp only [if_true]
  refine Ev.ite_neg (by simp) (Ev.ite_neg (by simp) ?_)
  by_cases h : 1 ≤ n ∧ n ≤ 8 ∧ v < 256 ^ n.toNat
  · rw [put_good h]
    have lb := bytes_len n.toNat v
    refine Ev.bind (same_ev _ (by simp only; omega)) ?_
    simp only [if_true]
    refine Ev.bind (le_Get_ev (bytes_bytes _ _) (by omega) 0 n (by omega)) ?_
    rw [get_good (by omega)]
    have e : ((bytes n.toNat v).drop (0 : Int).toNat).take n.toNat = bytes n.toNat v := by
      show List.take n.toNat (bytes n.toNat v) = _
      rw [List.take_of_length_le (by omega)]
    rw [e, num_bytes _ v hv.1 h.2.2]
    simp only [if_true, beq_self_eq_true]
    exact Ev.now _
  · rw [put_bad h]
    refine Ev.bind (same_ev [] (by simp)) ?_
    simp only [if_true]
    refine Ev.bind (le_Get_ev (l := []) (by intro x hx; cases hx) (by simp) 0 n (by omega)) ?_
    exact Ev.ite_neg (by decide) (Ev.now _)

end Go.Proofs.Ytoiaonbfhcnikaa.Pure
