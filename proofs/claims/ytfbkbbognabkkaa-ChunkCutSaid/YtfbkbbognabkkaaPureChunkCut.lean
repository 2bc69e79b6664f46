/- A file of chunks that is cut off anywhere has run out. -/
import Derived.Test.YtfbkbbognabkkaaChunk4
namespace Go.Proofs.Ytfbkbbognabkkaa.Pure
open Go Go.RowKit Go.Proofs.Ytfbkbbognabkkaa.P Go.Proofs.YtfbkbbognabkkaaW.PrintWords Go.Proofs.YtfbkbbognabkkaaW.PrintLast Go.Proofs.YtfbkbbognabkkaaW.PrintMore Go.Proofs.Ytfbkbbognabkkaa.U

theorem ChunkCut_loop {l : List Ch} (hf : Fine l) (hs : l.length + weight l < 5000) (n : Int) (h0 : 0 ≤ n) (h1 : n ≤ 65535) (d : Nat) : ∀ (i : Nat), i + d = l.length → (∀ x ∈ l.take i, okName x.f0 = true) → Ev (fun k => marquetrylaw24_ChunkCut.l0 k l n i) true := by
  induction d with
  | zero =>
    intro i hd hok
    rw [List.take_of_length_le (by omega)] at hok
    refine Ev.succ ?_
    simp only [marquetrylaw24_ChunkCut.l0]
    refine Ev.ite_neg (by omega) ?_
    refine Ev.bind (File_ev (by omega)) ?_
    have hl := file_len l
    have hlay := lay_len l
    have hsf := small_fine hf hs
    have hb2 : Bytes (file l) := by
      unfold file
      refine Bytes.app (Bytes.app (Bytes.app ?_ (bytes_bytes 4 _)) ?_) (lay_bytes (fun x hx => (hsf x hx).1))
      · intro x hx; simp at hx; omega
      · intro x hx; simp at hx; omega
    rw [w64 (n := n) (by omega) (by omega), Int.tmod_eq_emod_of_nonneg h0]
    have m0 := Int.emod_nonneg n (b := ((file l).length : Int)) (by omega)
    have m1 := Int.emod_lt_of_pos n (b := ((file l).length : Int)) (by omega)
    generalize n % ((file l).length : Int) = m at *
    refine Ev.ite_neg (by omega) (Ev.ite_pos (by omega) (Ev.ite_pos (by omega) ?_))
    refine Ev.bind (chunk_Scan_ev (hb2.take _) (by simp only [List.length_take]; omega)) ?_
    rw [scan_cut hok (by omega) (by omega)]
    refine Ev.bind answers_ev ?_
    simp only [if_true]
    exact Ev.now _
  | succ d ih =>
    intro i hd hok
    refine Ev.succ ?_
    simp only [marquetrylaw24_ChunkCut.l0]
    have hi : i < l.length := by omega
    have e : l.take (i + 1) = l.take i ++ [l[i]] := List.take_succ_eq_append_getElem hi
    refine Ev.ite_pos (by omega) (Ev.ite_pos (by omega) ?_)
    rw [w64 (by omega) (by omega), rdT_at hi]
    refine Ev.bind (Name_ev _ (by have := (hf.2 _ (List.getElem_mem hi)).1; omega)) ?_
    by_cases c : okName l[i].f0 = true
    · refine Ev.ite_pos c (ih (i + 1) (by omega) ?_)
      rw [e]
      intro x hx
      rcases List.mem_append.1 hx with h | h
      · exact hok x h
      · rw [List.mem_singleton.1 h]; exact c
    · exact Ev.ite_neg c (Ev.bind answers_ev (Ev.now _))
theorem ChunkCut : marquetrylaw24_ChunkCut.Pure := by
  intro l n _ h1 h2 hn
  have hf := fine_of h1 h2
  have hw := wf_u16 hn
  refine Ev.rounds (g := fun k => marquetrylaw24_ChunkCut.f k l n) ?_
  unfold marquetrylaw24_ChunkCut.f
  refine Ev.bind (small_ev hf) ?_
  by_cases c : small l = true
  · refine Ev.ite_pos c ?_
    exact ChunkCut_loop hf (small_iff.1 c) n hw.1 hw.2 l.length 0 (by omega) (by simp)
  · exact Ev.ite_neg c (Ev.bind answers_ev (Ev.now _))
end Go.Proofs.Ytfbkbbognabkkaa.Pure
