/- For any bytes: which chunks they are, in a file and without one, or why none, is the reference's answer. -/
import Derived.Test.YtfbkbbognabkkaaChunk2
namespace Go.Proofs.Ytfbkbbognabkkaa.Pure
open Go Go.RowKit Go.Proofs.Ytfbkbbognabkkaa.P Go.Proofs.YtfbkbbognabkkaaW.PrintWords Go.Proofs.YtfbkbbognabkkaaW.PrintLast Go.Proofs.YtfbkbbognabkkaaW.PrintMore Go.Proofs.Ytfbkbbognabkkaa.U

theorem ChunkReads : marquetrylaw24_ChunkReads.Pure := by
  intro b _ _ hw
  have hb := bytes_wf hw
  refine Ev.rounds (g := fun k => marquetrylaw24_ChunkReads.f k b) ?_
  unfold marquetrylaw24_ChunkReads.f
  by_cases c : (b.length : Int) > 5000
  · exact Ev.ite_pos c (Ev.bind answers_ev (Ev.now _))
  refine Ev.ite_neg c ?_
  refine Ev.bindo rfl ?_
  refine Ev.ite_pos (by simp only [List.length_nil]; omega) ?_
  rw [List.nil_append]
  refine Ev.bind (chunk_Scan_ev hb (by omega)) ?_
  refine Ev.bind (ref_Scan_ev hb (by omega)) ?_
  refine Ev.bind (chunk_Inner_ev hb (by omega)) ?_
  refine Ev.bind (ref_Inner_ev hb (by omega)) ?_
  refine Ev.bind answers_ev ?_
  simp only [if_true]
  have h1 := scan_len hb
  have h2 := inner_len b.length b [] b.length hb (Nat.le_refl _) (fun x hx => by simp at hx)
  refine Ev.bind (sameChunks_ev _ (by omega) (fun x hx => Nat.le_trans (h1.2 x hx) (by omega))) ?_
  simp only [if_true]
  refine Ev.bind (sameChunks_ev _ (by have := h2.1; simp only [List.length_nil] at this; omega) (fun x hx => Nat.le_trans (h2.2 x hx) (by omega))) ?_
  exact Ev.now _
end Go.Proofs.Ytfbkbbognabkkaa.Pure
