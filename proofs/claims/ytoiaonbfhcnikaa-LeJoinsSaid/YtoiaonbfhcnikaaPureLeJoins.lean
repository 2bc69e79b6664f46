/- For any two numbers, laid one behind the other: each is read at its place, and both as one. -/
import Derived.Test.YtoiaonbfhcnikaaLe
namespace Go.Proofs.Ytoiaonbfhcnikaa.Pure
open Go Go.RowKit Go.Proofs.Ytoiaonbfhcnikaa.P Go.Proofs.YtoiaonbfhcnikaaW.PrintWords Go.Proofs.YtoiaonbfhcnikaaW.PrintLast Go.Proofs.YtoiaonbfhcnikaaW.PrintMore Go.Proofs.Ytoiaonbfhcnikaa.U

theorem LeJoins : marquetrylaw01_LeJoins.Pure := by
  intro a b wa wb
  have ha := wf_u32 wa
  have hb := wf_u32 wb
  refine Ev.rounds (g := fun k => marquetrylaw01_LeJoins.f k a b) ?_
  unfold marquetrylaw01_LeJoins.f
  rw [wu64 (n := a) (by omega) (by omega), wu64 (n := b) (by omega) (by omega), wu64 (n := b * 4294967296) (by omega) (by omega), wu64 (by omega) (by omega)]
  refine Ev.bind (le_Put_ev a 4 (by omega) (by omega)) ?_
  refine Ev.bind (le_Put_ev b 4 (by omega) (by omega)) ?_
  have p4 : (256 : Int) ^ (4 : Int).toNat = 4294967296 := by decide
  rw [put_good (by rw [p4]; omega), put_good (v := b) (by rw [p4]; omega)]
  have la := bytes_len 4 a
  have lb := bytes_len 4 b
  have na := num_bytes 4 a ha.1 (by show a < 4294967296; omega)
  have nb := num_bytes 4 b hb.1 (by show b < 4294967296; omega)
  have ba := bytes_bytes 4 a
  have bb := bytes_bytes 4 b
  have t4 : (4 : Int).toNat = 4 := rfl
  simp only [t4, Option.bind_some, List.nil_append]
  generalize bytes 4 a = x at *
  generalize bytes 4 b = y at *
  have hl : (x ++ y).length = 8 := by simp [la, lb]
  have hxy : Bytes (x ++ y) := by
    intro z hz
    rcases List.mem_append.1 hz with h | h
    · exact ba z h
    · exact bb z h
  refine Ev.ite_pos (by simp; omega) (Ev.ite_pos (by omega) ?_)
  refine Ev.bind (le_Get_ev hxy (by omega) 0 4 (by omega)) ?_
  refine Ev.bind (le_Get_ev hxy (by omega) 4 4 (by omega)) ?_
  refine Ev.bind (le_Get_ev hxy (by omega) 0 8 (by omega)) ?_
  refine Ev.bind answers_ev ?_
  rw [get_good (a := 0) (n := 4) (by omega), get_good (a := 4) (n := 4) (by omega), get_good (a := 0) (n := 8) (by omega)]
  have g1 : ((x ++ y).drop (0 : Int).toNat).take (4 : Int).toNat = x := by simp [List.take_left' la]
  have g2 : ((x ++ y).drop (4 : Int).toNat).take (4 : Int).toNat = y := by
    rw [t4, List.drop_left' la, List.take_of_length_le (by omega)]
  have g3 : ((x ++ y).drop (0 : Int).toNat).take (8 : Int).toNat = x ++ y := by
    show List.take 8 (x ++ y) = _
    rw [List.take_of_length_le (by omega)]
  have n3 : num (x ++ y) = a + b * 4294967296 := by
    match x, la with
    | [p, q, r, s], _ => simp only [List.cons_append, List.nil_append, num] at na ⊢; omega
  rw [g1, g2, g3, na, nb, n3]
  simp only [if_true, beq_self_eq_true]
  exact Ev.now _

end Go.Proofs.Ytoiaonbfhcnikaa.Pure
