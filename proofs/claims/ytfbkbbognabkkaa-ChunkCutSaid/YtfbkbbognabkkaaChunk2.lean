/- Files of chunks: what is scanned, and when two rows of chunks are the same. -/
import Derived.Test.YtfbkbbognabkkaaChunk
namespace Go.Proofs.Ytfbkbbognabkkaa.Pure
open Go Go.RowKit Go.Proofs.Ytfbkbbognabkkaa.P Go.Proofs.YtfbkbbognabkkaaW.PrintWords Go.Proofs.YtfbkbbognabkkaaW.PrintLast Go.Proofs.YtfbkbbognabkkaaW.PrintMore Go.Proofs.Ytfbkbbognabkkaa.U

def riff : List UInt8 := [82, 73, 70, 70]
def webp : List UInt8 := [87, 69, 66, 80]
/-- A file's chunks. -/
def scan (b : List Int) : List Ch × Int :=
  if b.length < 12 then ([], 2) else
  if ¬ (strOfNums (b.take 4)).toList = riff ∨ ¬ (strOfNums ((b.take 12).drop 8)).toList = webp ∨ num ((b.drop 4).take 4) < 4 ∨ num ((b.drop 4).take 4) % 2 = 1 then ([], 3) else
  if (b.length : Int) - 8 < num ((b.drop 4).take 4) then ([], 2) else
  inner (num ((b.drop 4).take 4) - 4).toNat ((b.take (8 + num ((b.drop 4).take 4)).toNat).drop 12) []
section
variable {b : List Int}
theorem scan_short (h : b.length < 12) : scan b = ([], 2) := by unfold scan; rw [if_pos h]
theorem scan_form (h : ¬ b.length < 12) (h2 : ¬ (strOfNums (b.take 4)).toList = riff ∨ ¬ (strOfNums ((b.take 12).drop 8)).toList = webp ∨ num ((b.drop 4).take 4) < 4 ∨ num ((b.drop 4).take 4) % 2 = 1) : scan b = ([], 3) := by unfold scan; rw [if_neg h, if_pos h2]
theorem scan_out (h : ¬ b.length < 12) (h2 : ¬ (¬ (strOfNums (b.take 4)).toList = riff ∨ ¬ (strOfNums ((b.take 12).drop 8)).toList = webp ∨ num ((b.drop 4).take 4) < 4 ∨ num ((b.drop 4).take 4) % 2 = 1)) (h3 : (b.length : Int) - 8 < num ((b.drop 4).take 4)) : scan b = ([], 2) := by
  unfold scan; rw [if_neg h, if_neg h2, if_pos h3]
theorem scan_good (h : ¬ b.length < 12) (h2 : ¬ (¬ (strOfNums (b.take 4)).toList = riff ∨ ¬ (strOfNums ((b.take 12).drop 8)).toList = webp ∨ num ((b.drop 4).take 4) < 4 ∨ num ((b.drop 4).take 4) % 2 = 1)) (h3 : ¬ (b.length : Int) - 8 < num ((b.drop 4).take 4)) :
    scan b = inner (num ((b.drop 4).take 4) - 4).toNat ((b.take (8 + num ((b.drop 4).take 4)).toNat).drop 12) [] := by
  unfold scan; rw [if_neg h, if_neg h2, if_neg h3]
end
theorem scan_tail {k : Nat → Option (List Ch × Int)} {b : List Int} (h : Ev k (inner ((b.take (8 + num ((b.drop 4).take 4)).toNat).drop 12).length ((b.take (8 + num ((b.drop 4).take 4)).toNat).drop 12) [])) (_hb : Bytes b) (h1 : ¬ b.length < 12) (h3 : ¬ (b.length : Int) - 8 < num ((b.drop 4).take 4)) (h4 : 4 ≤ num ((b.drop 4).take 4)) :
    Ev k (inner (num ((b.drop 4).take 4) - 4).toNat ((b.take (8 + num ((b.drop 4).take 4)).toNat).drop 12) []) := by
  have e : ((b.take (8 + num ((b.drop 4).take 4)).toNat).drop 12).length = (num ((b.drop 4).take 4) - 4).toNat := by simp only [List.length_drop, List.length_take]; omega
  rw [e] at h
  exact h
theorem chunk_Scan_ev {b : List Int} (hb : Bytes b) (hl : b.length ≤ 1000000000) : Ev (fun k => chunk_Scan.f k b) (scan b) := by
  unfold chunk_Scan.f
  have hn := num4 hb
  by_cases c1 : b.length < 12
  · rw [scan_short c1]
    exact Ev.ite_pos (by omega) (Ev.now _)
  refine Ev.ite_neg (by omega) ?_
  refine Ev.bind (le_Get_ev hb (by omega) 4 4 (by omega)) ?_
  rw [get4 (by omega)]
  have bad : Ev (fun k => chunk_Scan.j0 k b (num ((b.drop 4).take 4)) true) (([] : List Ch), (3 : Int)) := by
    refine Ev.succ ?_
    simp only [chunk_Scan.j0, if_true]
    exact Ev.now _
  refine Ev.ite_pos (by omega) ?_
  by_cases c2 : (strOfNums (b.take 4)).toList = riff
  case neg => rw [scan_form c1 (.inl c2)]; exact Ev.ite_neg c2 bad
  refine Ev.ite_pos c2 (Ev.ite_pos (by omega) (Ev.ite_pos (by omega) ?_))
  by_cases c3 : (strOfNums ((b.take 12).drop 8)).toList = webp
  case neg => rw [scan_form c1 (.inr (.inl c3))]; exact Ev.ite_neg c3 bad
  refine Ev.ite_pos c3 ?_
  by_cases c4 : num ((b.drop 4).take 4) < 4
  · rw [scan_form c1 (.inr (.inr (.inl c4)))]; exact Ev.ite_pos c4 bad
  refine Ev.ite_neg c4 ?_
  rw [Int.tmod_eq_emod_of_nonneg hn.1]
  by_cases c5 : num ((b.drop 4).take 4) % 2 = 1
  · rw [scan_form c1 (.inr (.inr (.inr c5))), c5]; exact bad
  rw [show (num ((b.drop 4).take 4) % 2 == 1) = false by simpa using c5]
  have hng : ¬ (¬ (strOfNums (b.take 4)).toList = riff ∨ ¬ (strOfNums ((b.take 12).drop 8)).toList = webp ∨ num ((b.drop 4).take 4) < 4 ∨ num ((b.drop 4).take 4) % 2 = 1) := by
    rintro (h | h | h | h)
    · exact h c2
    · exact h c3
    · exact c4 h
    · exact c5 h
  refine Ev.succ ?_
  simp only [chunk_Scan.j0]
  refine Ev.ite_neg (by simp) ?_
  rw [w64 (n := (b.length : Int) - 8) (by omega) (by omega), wu64 (n := (b.length : Int) - 8) (by omega) (by omega), w64 (n := num ((b.drop 4).take 4)) (by omega) (by omega), w64 (n := 8 + num ((b.drop 4).take 4)) (by omega) (by omega)]
  by_cases c6 : (b.length : Int) - 8 < num ((b.drop 4).take 4)
  · rw [scan_out c1 hng c6]
    exact Ev.ite_pos (by omega) (Ev.now _)
  rw [scan_good c1 hng c6]
  refine Ev.ite_neg (by omega) (Ev.ite_pos (by omega) (Ev.ite_pos (by omega) ?_))
  refine Ev.bind (scan_tail (chunk_Inner_ev ((hb.take _).drop _) (by simp only [List.length_drop, List.length_take]; omega)) hb c1 c6 (by omega)) (Ev.now _)
theorem ref_Scan_ev {b : List Int} (hb : Bytes b) (hl : b.length ≤ 1000000000) : Ev (fun k => marquetryref24_Scan.f k b) (scan b) := by
  unfold marquetryref24_Scan.f
  have hn := num4 hb
  by_cases c1 : b.length < 12
  · rw [scan_short c1]
    exact Ev.ite_pos (by omega) (Ev.now _)
  refine Ev.ite_neg (by omega) ?_
  refine Ev.bind (ref_Get_ev hb (by omega) 4 4 (by omega)) ?_
  rw [get4 (by omega)]
  have bad : Ev (fun k => marquetryref24_Scan.j0 k b (num ((b.drop 4).take 4)) true) (([] : List Ch), (3 : Int)) := by
    refine Ev.succ ?_
    simp only [marquetryref24_Scan.j0, if_true]
    exact Ev.now _
  refine Ev.ite_pos (by omega) ?_
  by_cases c2 : (strOfNums (b.take 4)).toList = riff
  case neg => rw [scan_form c1 (.inl c2)]; exact Ev.ite_neg c2 bad
  refine Ev.ite_pos c2 (Ev.ite_pos (by omega) (Ev.ite_pos (by omega) ?_))
  by_cases c3 : (strOfNums ((b.take 12).drop 8)).toList = webp
  case neg => rw [scan_form c1 (.inr (.inl c3))]; exact Ev.ite_neg c3 bad
  refine Ev.ite_pos c3 ?_
  by_cases c4 : num ((b.drop 4).take 4) < 4
  · rw [scan_form c1 (.inr (.inr (.inl c4)))]; exact Ev.ite_pos c4 bad
  refine Ev.ite_neg c4 ?_
  rw [Int.tmod_eq_emod_of_nonneg hn.1]
  by_cases c5 : num ((b.drop 4).take 4) % 2 = 1
  · rw [scan_form c1 (.inr (.inr (.inr c5))), c5]; exact bad
  rw [show (num ((b.drop 4).take 4) % 2 != 0) = false by simp; omega]
  have hng : ¬ (¬ (strOfNums (b.take 4)).toList = riff ∨ ¬ (strOfNums ((b.take 12).drop 8)).toList = webp ∨ num ((b.drop 4).take 4) < 4 ∨ num ((b.drop 4).take 4) % 2 = 1) := by
    rintro (h | h | h | h)
    · exact h c2
    · exact h c3
    · exact c4 h
    · exact c5 h
  refine Ev.succ ?_
  simp only [marquetryref24_Scan.j0]
  refine Ev.ite_neg (by simp) ?_
  rw [w64 (n := (b.length : Int) - 8) (by omega) (by omega), wu64 (n := (b.length : Int) - 8) (by omega) (by omega), w64 (n := num ((b.drop 4).take 4)) (by omega) (by omega), w64 (n := 8 + num ((b.drop 4).take 4)) (by omega) (by omega)]
  by_cases c6 : (b.length : Int) - 8 < num ((b.drop 4).take 4)
  · rw [scan_out c1 hng c6]
    exact Ev.ite_pos (by omega) (Ev.now _)
  rw [scan_good c1 hng c6]
  refine Ev.ite_neg (by omega) (Ev.ite_pos (by omega) (Ev.ite_pos (by omega) ?_))
  refine Ev.bind (scan_tail (ref_Inner_ev ((hb.take _).drop _) (by simp only [List.length_drop, List.length_take]; omega)) hb c1 c6 (by omega)) (Ev.now _)

/-! ### the same chunks -/
theorem rdT_at {l : List Ch} {i : Nat} (h : i < l.length) : rd_T35 l (i : Int) = l[i] := by
  unfold rd_T35
  rw [show ((i : Int)).toNat = i by omega, List.getD_eq_getElem?_getD, List.getElem?_eq_getElem h]
  rfl
theorem sameChunks_loop (l : List Ch) (hl : l.length ≤ 140737488355328) (hd : ∀ x ∈ l, x.f1.length ≤ 140737488355328) (d : Nat) : ∀ i : Nat, i + d = l.length → Ev (fun k => marquetryref24_SameChunks.l0 k l l i) true := by
  induction d with
  | zero =>
    intro i h
    refine Ev.succ ?_
    simp only [marquetryref24_SameChunks.l0]
    exact Ev.ite_neg (by omega) (Ev.now _)
  | succ d ih =>
    intro i h
    refine Ev.succ ?_
    simp only [marquetryref24_SameChunks.l0]
    refine Ev.ite_pos (by omega) (Ev.ite_pos (by omega) (Ev.ite_pos (by omega) ?_))
    simp only [if_true]
    refine Ev.bind (same_ev _ (by rw [rdT_at (by omega)]; exact hd _ (List.getElem_mem _))) ?_
    simp only [if_true]
    rw [w64 (by omega) (by omega)]
    exact ih (i + 1) (by omega)
theorem sameChunks_ev (l : List Ch) (hl : l.length ≤ 140737488355328) (hd : ∀ x ∈ l, x.f1.length ≤ 140737488355328) : Ev (fun k => marquetryref24_SameChunks.f k l l) true := by
  unfold marquetryref24_SameChunks.f
  simp only [if_true]
  exact sameChunks_loop l hl hd l.length 0 (by omega)
theorem inner_len (d : Nat) : ∀ (b : List Int) (acc : List Ch) (B : Nat), Bytes b → b.length ≤ B → (∀ x ∈ acc, x.f1.length ≤ B) → (inner d b acc).1.length ≤ d + acc.length ∧ ∀ x ∈ (inner d b acc).1, x.f1.length ≤ B := by
  induction d with
  | zero => intro b acc B _ _ ha; exact ⟨by simp [inner], ha⟩
  | succ d ih =>
    intro b acc B hb hB ha
    rw [inner]
    by_cases c : b.length = 0
    · rw [if_pos c]; exact ⟨by simp only; omega, ha⟩
    rw [if_neg c]
    by_cases c2 : (one b).2.2.2 = 0
    · rw [if_pos c2]
      have hn := one_num hb c2
      have := ih (b.drop (one b).2.2.1.toNat) (acc ++ [⟨(one b).1, (one b).2.1⟩]) B (hb.drop _) (by simp only [List.length_drop]; omega) (by
        intro x hx
        rcases List.mem_append.1 hx with h | h
        · exact ha x h
        · rw [List.mem_singleton.1 h]; simp only; omega)
      refine ⟨?_, this.2⟩
      have h2 := this.1
      simp only [List.length_append, List.length_singleton] at h2
      omega
    · rw [if_neg c2]
      exact ⟨by simp, fun x hx => by simp at hx⟩
theorem scan_len {b : List Int} (hb : Bytes b) : (scan b).1.length ≤ b.length ∧ ∀ x ∈ (scan b).1, x.f1.length ≤ b.length := by
  unfold scan
  repeat' split
  all_goals first | exact ⟨by simp, fun x hx => by simp at hx⟩ | skip
  have h1 := num4 hb
  have := inner_len (num ((b.drop 4).take 4) - 4).toNat ((b.take (8 + num ((b.drop 4).take 4)).toNat).drop 12) [] b.length ((hb.take _).drop _) (by simp only [List.length_drop, List.length_take]; omega) (fun x hx => by simp at hx)
  refine ⟨?_, this.2⟩
  have h2 := this.1
  simp only [List.length_nil] at h2
  omega
theorem answers_ev : Ev (fun _ => marquetrylaw24_answers.f) true := Ev.now _
end Go.Proofs.Ytfbkbbognabkkaa.Pure
