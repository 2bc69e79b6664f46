/- The same pixel again and again: all steps but the first are known. -/
import Derived.Test.YtnpmnfhmlnhepaaPx11
import Derived.Test.YtnpmnfhmlnhepaaU
namespace Go.Proofs.Ytnpmnfhmlnhepaa.Pure
open Go Go.RowKit Go.Proofs.Ytnpmnfhmlnhepaa.P Go.Proofs.YtnpmnfhmlnhepaaW.PrintWords Go.Proofs.YtnpmnfhmlnhepaaW.PrintLast Go.Proofs.YtnpmnfhmlnhepaaW.PrintMore Go.Proofs.Ytnpmnfhmlnhepaa.U
set_option linter.unusedVariables false
theorem answers_ev : Ev (fun _ => marquetrylaw17_answers.f) true := Ev.now _
theorem rd_rep {k : Nat} {p : Int} {i : Nat} (h : i < k) : rd (List.replicate k p) i = p := by
  rw [rd_nat' (by rw [List.length_replicate]; exact h), List.getElem_replicate]
theorem cut_rep {k : Nat} {p : Int} {i : Nat} (h : i < k) : cutL (List.replicate k p) i 1 = [p] := by
  unfold cutL
  rw [List.drop_replicate, List.take_replicate, show min 1 (k - i) = 1 by omega]
  rfl
section
variable {c : Int} (c0 : 1 ≤ c) (c11 : c ≤ 11)
include c0 c11
theorem slot_lt {p : Int} {cl : List Int} (h : clOk c cl) : ∃ j : Nat, slotN p c = j ∧ j < cl.length := by
  rcases h.1 with h | h
  · omega
  · have hb := slotN_bd (argb := p) c0 c11
    obtain ⟨j, hj⟩ : ∃ j : Nat, slotN p c = j := ⟨(slotN p c).toNat, by omega⟩
    refine ⟨j, hj, ?_⟩
    rw [h.2.2]
    have : (j : Int) < ((2 ^ c.toNat : Nat) : Int) := by rw [← hj]; push_cast; exact hb.2
    omega
theorem rd_add {p : Int} {cl : List Int} (h : clOk c cl) : rd (addC c cl p) (slotN p c) = p := by
  obtain ⟨j, e, hj⟩ := slot_lt c0 c11 (p := p) h
  unfold addC
  rw [if_neg (by omega), e, Int.toNat_natCast, rd_nat' (by rw [List.length_set]; exact hj), List.getElem_set_self]
theorem find_yes {p : Int} {cl : List Int} (h : rd cl (slotN p c) = p) : findC c p cl = some (slotN p c) := by
  unfold findC
  rw [if_neg (by omega), if_pos h]
theorem next_yes {p : Int} {k : Nat} {i : Nat} {cl : List Int} (hi : i < k) (h : rd cl (slotN p c) = p) : nextT c (List.replicate k p) i cl [] = (knownT (slotN p c), 1, []) := by
  unfold nextT
  simp only [rd_rep hi, find_yes c0 c11 h]
theorem cov_rest {p : Int} (hp : U32 p) {k : Nat} : ∀ (d i : Nat) (cl : List Int), clOk c cl → rd cl (slotN p c) = p → i + d = k → coverL c (List.replicate k p) d i cl [] = List.replicate d (knownT (slotN p c))
  | 0, i, cl, _, _, _ => rfl
  | d + 1, i, cl, hk, h, hd => by
    have hi : i < k := by omega
    unfold coverL
    rw [if_pos (by rw [List.length_replicate]; exact hi), next_yes c0 c11 hi h]
    show _ :: coverL c _ d (i + 1) (addsC c cl (cutL _ i 1)) [] = _
    rw [cut_rep hi]
    show _ :: coverL c _ d (i + 1) (addC c cl p) [] = _
    rw [cov_rest hp d (i + 1) _ (clOk_add hk hp) (rd_add c0 c11 hk) (by omega), List.replicate_succ]
theorem cov_all {p : Int} (hp : U32 p) (k : Nat) : ∃ t : Tk, coverL c (List.replicate (k + 1) p) (k + 1) 0 (startC c) [] = t :: List.replicate k (knownT (slotN p c)) ∧ (t.f0 = 1 ∨ p = 0 ∧ t.f0 = 3) := by
  have hk : clOk c (startC c) := clOk_start ⟨by omega, c11⟩
  have hx : (nextT c (List.replicate (k + 1) p) 0 (startC c) []).2 = (1, []) ∧ ((nextT c (List.replicate (k + 1) p) 0 (startC c) []).1.f0 = 1 ∨ p = 0 ∧ (nextT c (List.replicate (k + 1) p) 0 (startC c) []).1.f0 = 3) := by
    obtain ⟨j, e, hj⟩ := slot_lt c0 c11 (p := p) hk
    have e0 : rd (startC c) (slotN p c) = 0 := by
      rw [e, rd_nat' hj]
      simp only [startC]
      split
      · omega
      · exact List.getElem_replicate _
    unfold nextT
    simp only [rd_rep (p := p) (show 0 < k + 1 by omega)]
    by_cases h : p = 0
    · rw [find_yes c0 c11 (by rw [e0, h])]
      exact ⟨rfl, .inr ⟨h, rfl⟩⟩
    · have : findC c p (startC c) = none := by
        unfold findC
        rw [if_neg (by omega), if_neg (by rw [e0]; exact fun h' => h h'.symm)]
      rw [this]
      exact ⟨rfl, .inl rfl⟩
  refine ⟨(nextT c (List.replicate (k + 1) p) 0 (startC c) []).1, ?_, hx.2⟩
  rw [coverL, if_pos (by rw [List.length_replicate]; omega), hx.1]
  show _ :: coverL c _ k (0 + 1) (addsC c (startC c) (cutL _ 0 1)) [] = _
  rw [cut_rep (by omega)]
  show _ :: coverL c _ k (0 + 1) (addC c (startC c) p) [] = _
  rw [cov_rest c0 c11 hp k (0 + 1) _ (clOk_add hk hp) (rd_add c0 c11 hk) (by omega)]
end
theorem rd_known {t u : Tk} {k i : Nat} (h1 : 1 ≤ i) (h : i < k + 1) : rd_T37 (t :: List.replicate k u) i = u := by
  obtain ⟨j, rfl⟩ : ∃ j, i = j + 1 := ⟨i - 1, by omega⟩
  unfold rd_T37
  rw [Int.toNat_natCast, List.getD_eq_getElem?_getD, List.getElem?_cons_succ, List.getElem?_replicate_of_lt (by omega)]
  rfl
theorem ask_loop {p : Int} {t u : Tk} {k : Nat} (hk0 : 1 ≤ k) (hk : k ≤ 5000) (ht : t.f0 = 1 ∨ p = 0 ∧ t.f0 = 3) (hu : u.f0 = 3) (d : Nat) :
    ∀ i : Nat, 1 ≤ i → i + d = k + 1 → Ev (fun kk => marquetrylaw17_TokenKnowns.l1 kk p (k + 1) (t :: List.replicate k u) i) true := by
  induction d with
  | zero =>
    intro i h1 hd
    refine Ev.succ ?_
    simp only [marquetrylaw17_TokenKnowns.l1]
    refine Ev.ite_neg (by omega) (Ev.bind answers_ev (Ev.ite_pos (by trivial) (Ev.ite_pos (by rw [List.length_cons]; omega) ?_)))
    have e : rd_T37 (t :: List.replicate k u) 0 = t := rfl
    rw [e]
    rcases ht with h | ⟨h, h3⟩
    · exact Ev.ite_pos h (Ev.now _)
    · exact Ev.ite_neg (by omega) (Ev.fin (by simp [h]))
  | succ d ih =>
    intro i h1 hd
    refine Ev.succ ?_
    simp only [marquetrylaw17_TokenKnowns.l1]
    have hl : (t :: List.replicate k u).length = k + 1 := by rw [List.length_cons, List.length_replicate]
    have e1 : rd_T37 (t :: List.replicate k u) 1 = u := rd_known (i := 1) (by omega) (by omega)
    rw [rd_known h1 (by omega), e1, w64 (by omega) (by omega)]
    exact Ev.ite_pos (by omega) (Ev.ite_pos (by omega) (Ev.ite_pos (by omega) (Ev.ite_pos hu (Ev.ite_pos (by omega) (Ev.ite_pos rfl (ih (i + 1) (by omega) (by omega)))))))
theorem lay_loop {p c : Int} (hp : U32 p) (c0 : 1 ≤ c) (c11 : c ≤ 11) {k : Nat} (hk0 : 1 ≤ k) (hk : k ≤ 5000) (d : Nat) : ∀ i : Nat, i + d = k + 1 → Ev (fun kk => marquetrylaw17_TokenKnowns.l0 kk p c (k + 1) (List.replicate i p) i) true := by
  induction d with
  | zero =>
    intro i hd
    obtain rfl : i = k + 1 := by omega
    refine Ev.succ ?_
    simp only [marquetrylaw17_TokenKnowns.l0]
    obtain ⟨t, ht, hf⟩ := cov_all c0 c11 hp k
    have hcov : token_Cover.f (List.replicate (k + 1) p) c [] = some (t :: List.replicate k (knownT (slotN p c)), 0) := by
      show coverT _ _ _ = _
      unfold coverT
      rw [if_pos ⟨fun x hx => by rw [List.eq_of_mem_replicate hx]; exact hp, by rw [List.length_replicate]; omega⟩]
      unfold coverV
      rw [if_pos ⟨⟨by omega, c11⟩, trivial⟩, List.length_replicate, ht]
    refine Ev.ite_neg (by omega) (Ev.bindo hcov (Ev.ite_pos (by trivial) (Ev.succ ?_)))
    simp only [marquetrylaw17_TokenKnowns.j1]
    exact Ev.ite_neg (by simp) (ask_loop hk0 hk hf rfl k 1 (by omega) (by omega))
  | succ d ih =>
    intro i hd
    have ih := ih (i + 1) (by omega)
    rw [List.replicate_succ'] at ih
    refine Ev.succ ?_
    simp only [marquetrylaw17_TokenKnowns.l0]
    rw [w64 (by omega) (by omega)]
    exact Ev.ite_pos (by omega) (Ev.ite_pos (by rw [List.length_replicate]; omega) ih)
theorem TokenKnowns : marquetrylaw17_TokenKnowns.Pure := by
  intro p n m hp hn hm
  have hu := wf_u32 hp
  have hn8 := wf_u8 hn
  have hm8 := wf_u8 hm
  refine Ev.rounds (g := fun k => marquetrylaw17_TokenKnowns.f k p n m) ?_
  unfold marquetrylaw17_TokenKnowns.f
  have e1 : wrap64 (wrap64 (Int.tmod m 11) + 1) = m % 11 + 1 := by rw [Int.tmod_eq_emod_of_nonneg hm8.1, w64 (n := m % 11) (by omega) (by omega), w64 (by omega) (by omega)]
  have e2 : wrap64 (wrap64 (Int.tmod n 50) + 2) = ((n % 50).toNat + 1 : Nat) + 1 := by rw [Int.tmod_eq_emod_of_nonneg hn8.1, w64 (n := n % 50) (by omega) (by omega), w64 (by omega) (by omega)]; omega
  rw [e1, e2]
  exact lay_loop hu (by omega) (by omega) (by omega) (by omega) _ 0 (Nat.zero_add _)
end Go.Proofs.Ytnpmnfhmlnhepaa.Pure
