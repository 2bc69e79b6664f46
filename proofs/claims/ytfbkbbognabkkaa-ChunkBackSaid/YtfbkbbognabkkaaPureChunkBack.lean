/- Any chunks with names that may be are a file that is read as them, and laid without one they are read as them, too; chunks with another name are refused. -/
import Derived.Test.YtfbkbbognabkkaaChunk4
namespace Go.Proofs.Ytfbkbbognabkkaa.Pure
open Go Go.RowKit Go.Proofs.Ytfbkbbognabkkaa.P Go.Proofs.YtfbkbbognabkkaaW.PrintWords Go.Proofs.YtfbkbbognabkkaaW.PrintLast Go.Proofs.YtfbkbbognabkkaaW.PrintMore Go.Proofs.Ytfbkbbognabkkaa.U

theorem ChunkBack_loop {l : List Ch} (more : List Int) (hf : Fine l) (hs : l.length + weight l < 5000) (hm : Bytes more) (hml : more.length ≤ 100) (b c : List Int) (eb ec : Int)
    (hbc : if ok l then b = file l ∧ eb = 0 ∧ c = lay l ∧ ec = 0 else b = [] ∧ eb = 7 ∧ c = [] ∧ ec = 7) (d : Nat) : ∀ (i : Nat) (may : Bool), i + d = l.length → (may = true ↔ ∀ x ∈ l.take i, okName x.f0 = true) →
    Ev (fun k => marquetrylaw24_ChunkBack.l0 k l more b eb c ec may i) true := by
  induction d with
  | zero =>
    intro i may hd hmay
    rw [List.take_of_length_le (by omega)] at hmay
    refine Ev.succ ?_
    simp only [marquetrylaw24_ChunkBack.l0]
    refine Ev.ite_neg (by omega) ?_
    by_cases c1 : ok l
    · rw [if_pos c1] at hbc
      obtain ⟨rfl, rfl, rfl, rfl⟩ := hbc
      have hfile := file_len l
      have hlay := lay_len l
      have hsf := small_fine hf hs
      have hb2 : Bytes (file l) := by
        unfold file
        refine Bytes.app (Bytes.app (Bytes.app ?_ (bytes_bytes 4 _)) ?_) (lay_bytes (fun x hx => (hsf x hx).1))
        · intro x hx; simp at hx; omega
        · intro x hx; simp at hx; omega
      refine Ev.ite_pos (hmay.2 c1) ?_
      refine Ev.bindo rfl (Ev.ite_pos (by simp only [List.length_nil]; omega) (Ev.bindo rfl (Ev.ite_pos (by simp only [List.length_append, List.length_nil]; omega) ?_)))
      rw [List.nil_append]
      refine Ev.bind (chunk_Scan_ev (hb2.app hm) (by simp only [List.length_append]; omega)) ?_
      refine Ev.bind (chunk_Inner_ev (lay_bytes (fun x hx => (hsf x hx).1)) (by omega)) ?_
      rw [scan_file c1 hsf (by omega), inner_lay l _ [] c1 hsf (Nat.le_refl _), List.nil_append]
      refine Ev.bind answers_ev ?_
      simp only [if_true]
      refine Ev.bind (File_ev (by omega)) ?_
      refine Ev.bind (same_ev _ (by omega)) ?_
      simp only [if_true]
      refine Ev.bind (ref_Lay_ev (by omega)) ?_
      refine Ev.bind (same_ev _ (by omega)) ?_
      simp only [if_true]
      have hsame := sameChunks_ev l (by omega) (fun x hx => by have := (hsf x hx).2; omega)
      refine Ev.bind hsame ?_
      simp only [if_true]
      exact Ev.bind hsame (Ev.now _)
    · rw [if_neg c1] at hbc
      obtain ⟨rfl, rfl, rfl, rfl⟩ := hbc
      refine Ev.ite_neg (fun h => c1 (hmay.1 h)) ?_
      refine Ev.bind answers_ev ?_
      simp only [if_true]
      exact Ev.fin (by simp [wrap64])
  | succ d ih =>
    intro i may hd hmay
    refine Ev.succ ?_
    simp only [marquetrylaw24_ChunkBack.l0]
    have hi : i < l.length := by omega
    have e : l.take (i + 1) = l.take i ++ [l[i]] := List.take_succ_eq_append_getElem hi
    refine Ev.ite_pos (by omega) ?_
    rw [w64 (by omega) (by omega)]
    have step : ∀ b : Bool, (b = true ↔ (may = true ∧ okName l[i].f0 = true)) → (b = true ↔ ∀ x ∈ l.take (i + 1), okName x.f0 = true) := by
      intro b hb
      rw [hb, e, hmay]
      constructor
      · rintro ⟨h1, h2⟩ x hx
        rcases List.mem_append.1 hx with h | h
        · exact h1 x h
        · rw [List.mem_singleton.1 h]; exact h2
      · intro h
        exact ⟨fun x hx => h x (List.mem_append_left _ hx), h _ (List.mem_append_right _ (by simp))⟩
    cases may with
    | true =>
      simp only [if_true]
      refine Ev.ite_pos (by omega) ?_
      rw [rdT_at hi]
      refine Ev.bind (Name_ev _ (by have := (hf.2 _ (List.getElem_mem hi)).1; omega)) ?_
      exact ih (i + 1) _ (by omega) (step _ (by simp))
    | false =>
      refine Ev.ite_neg (by simp) ?_
      exact ih (i + 1) false (by omega) (step _ (by simp))
theorem ChunkBack : marquetrylaw24_ChunkBack.Pure := by
  intro l more _ h1 h2 _ h3 h4
  have hf := fine_of h1 h2
  refine Ev.rounds (g := fun k => marquetrylaw24_ChunkBack.f k l more) ?_
  unfold marquetrylaw24_ChunkBack.f
  have skip : Ev (fun k => marquetrylaw24_ChunkBack.j0 k l more true) true := by
    refine Ev.succ ?_
    simp only [marquetrylaw24_ChunkBack.j0, if_true]
    exact Ev.bind answers_ev (Ev.now _)
  refine Ev.bind (small_ev hf) ?_
  by_cases c : small l = true
  · refine Ev.ite_pos c ?_
    have hs := small_iff.1 c
    by_cases c2 : (more.length : Int) > 100
    · simp only [c2, decide_true]
      exact skip
    · simp only [c2, decide_false]
      refine Ev.succ ?_
      simp only [marquetrylaw24_ChunkBack.j0]
      refine Ev.ite_neg (by simp) ?_
      refine Ev.bind (chunk_Print_ev (by omega)) ?_
      refine Ev.bind (chunk_Lay_ev (by omega)) ?_
      refine ChunkBack_loop more hf hs (bytes_wf h4) (by omega) _ _ _ _ ?_ l.length 0 true (by omega) (by simp)
      unfold laid
      by_cases c3 : ok l
      · rw [if_pos c3, if_pos c3, if_pos c3]; exact ⟨rfl, rfl, rfl, rfl⟩
      · rw [if_neg c3, if_neg c3, if_neg c3]; exact ⟨rfl, rfl, rfl, rfl⟩
  · exact Ev.ite_neg c skip
end Go.Proofs.Ytfbkbbognabkkaa.Pure
