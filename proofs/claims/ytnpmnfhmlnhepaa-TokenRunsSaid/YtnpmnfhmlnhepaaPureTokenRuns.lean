/- A copy of one ahead is a run: what it tells may lie in itself. -/
import Derived.Test.YtnpmnfhmlnhepaaPx11
import Derived.Test.YtnpmnfhmlnhepaaU
namespace Go.Proofs.Ytnpmnfhmlnhepaa.Pure
open Go Go.RowKit Go.Proofs.Ytnpmnfhmlnhepaa.P Go.Proofs.YtnpmnfhmlnhepaaW.PrintWords Go.Proofs.YtnpmnfhmlnhepaaW.PrintLast Go.Proofs.YtnpmnfhmlnhepaaW.PrintMore Go.Proofs.Ytnpmnfhmlnhepaa.U
set_option linter.unusedVariables false
theorem answers_ev : Ev (fun _ => marquetrylaw17_answers.f) true := Ev.now _
theorem add0 (s : PS) (x : Int) : s.add 0 x = ⟨s.pix ++ [x], s.cl⟩ := by unfold PS.add addC; rw [if_pos rfl]
theorem steps_app {bits most : Int} : ∀ {l l' : List Tk} {s : PS}, PS.steps bits most s (l ++ l') = (PS.steps bits most s l).bind fun s => PS.steps bits most s l'
  | [], l', s => rfl
  | t :: l, l', s => by
    show (s.step bits most t).bind (fun s => PS.steps bits most s (l ++ l')) = ((s.step bits most t).bind fun s => PS.steps bits most s l).bind _
    cases s.step bits most t with
    | none => rfl
    | some s1 => exact steps_app
theorem steps_lits {most : Int} : ∀ (p : List Int) (s : PS), (s.pix.length : Int) + p.length ≤ most → PS.steps 0 most s (p.map litT) = some ⟨s.pix ++ p, s.cl⟩
  | [], s, _ => by rw [List.append_nil]; rfl
  | x :: p, s, h => by
    rw [List.length_cons] at h
    have hs : s.step 0 most (litT x) = some ⟨s.pix ++ [x], s.cl⟩ := by
      unfold PS.step
      rw [if_neg (show ¬ (s.pix.length : Int) ≥ most by omega), if_pos (show (litT x).f0 = 1 from rfl)]
      exact congrArg some (add0 s x)
    show (s.step 0 most (litT x)).bind (fun s => PS.steps 0 most s (p.map litT)) = _
    rw [hs]
    show PS.steps 0 most ⟨s.pix ++ [x], s.cl⟩ (p.map litT) = _
    rw [steps_lits p ⟨s.pix ++ [x], s.cl⟩ (by show ((s.pix ++ [x]).length : Int) + _ ≤ _; rw [List.length_append, List.length_singleton]; omega)]
    show some (⟨(s.pix ++ [x]) ++ p, s.cl⟩ : PS) = _
    rw [List.append_assoc]
    rfl
theorem copy_rd {p : List Int} (hp : 0 < p.length) (cl : List Int) (n : Nat) : ∀ i : Nat, i < p.length + n → rd (PS.copy 0 ⟨p, cl⟩ p.length n).pix i = rd p ((i % p.length : Nat) : Int) := by
  induction n with
  | zero =>
    intro i hi
    show rd p i = _
    rw [Nat.mod_eq_of_lt (by omega)]
  | succ n ih =>
    intro i hi
    have hl : (PS.copy 0 ⟨p, cl⟩ p.length n).pix.length = p.length + n := PS.copy_len n
    have e : (PS.copy 0 ⟨p, cl⟩ p.length (n + 1)).pix = (PS.copy 0 ⟨p, cl⟩ p.length n).pix ++ [rd (PS.copy 0 ⟨p, cl⟩ p.length n).pix n] := by
      show ((PS.copy 0 ⟨p, cl⟩ p.length n).add 0 _).pix = _
      rw [add0, hl]
      show _ ++ [_] = _
      rw [show ((p.length + n : Nat) : Int) - (p.length : Int) = (n : Int) by omega]
    rw [e]
    by_cases c : i < p.length + n
    · rw [rd_nat' (by rw [List.length_append, hl]; omega), List.getElem_append_left (by omega), ← rd_nat' (by omega)]
      exact ih i c
    · obtain rfl : i = p.length + n := by omega
      rw [rd_nat' (by rw [List.length_append, hl, List.length_singleton]; omega), List.getElem_append_right (by omega)]
      simp only [hl, Nat.sub_self, List.getElem_cons_zero]
      rw [ih n (by omega), Nat.add_mod_left]
theorem toksU {p : List Int} (hu : ∀ x ∈ p, U32 x) {k : Int} : tokU (p.map litT ++ [copyT k p.length]) := by
  intro t ht
  rcases List.mem_append.1 ht with h | h
  · obtain ⟨x, hx, rfl⟩ := List.mem_map.1 h
    exact hu x hx
  · rw [List.mem_singleton.1 h]
    show U32 0
    unfold U32; omega
section
variable {p : List Int} (h0 : 0 < p.length) (h50 : p.length ≤ 50) (hu : ∀ x ∈ p, U32 x) {k : Int} (k1 : 1 ≤ k) (k2 : k ≤ 4096)
include h0 h50 hu k1 k2
theorem run_ok : expandT (p.map litT ++ [copyT k p.length]) (p.length + k) 0 = some ((PS.copy 0 ⟨p, []⟩ p.length k.toNat).pix, 0) := by
  have hl : (PS.copy 0 ⟨p, []⟩ p.length k.toNat).pix.length = p.length + k.toNat := PS.copy_len k.toNat
  unfold expandT
  rw [if_pos (toksU hu)]
  unfold expandV
  rw [if_neg (by unfold bitsOk; omega), steps_app, steps_lits p _ (by show ((0 : Nat) : Int) + _ ≤ _; omega)]
  show some (outV _ (PS.steps 0 _ ⟨[] ++ p, []⟩ [copyT k p.length])) = _
  have hs : PS.step 0 (p.length + k) ⟨p, []⟩ (copyT k p.length) = some (PS.copy 0 ⟨p, []⟩ p.length k.toNat) := by
    unfold PS.step
    rw [if_neg (show ¬ (p.length : Int) ≥ p.length + k by omega), if_neg (show ¬ (copyT k p.length).f0 = 1 by show ¬ (2 : Int) = 1; decide), if_pos (show (copyT k p.length).f0 = 2 from rfl), if_pos (show mayCopy (p.length + k) ⟨p, []⟩ (copyT k p.length) from ⟨k1, k2, show (1 : Int) ≤ p.length by omega, Int.le_refl _, show k ≤ p.length + k - p.length by omega⟩)]
    rfl
  have hst : PS.steps 0 (p.length + k) ⟨p, []⟩ [copyT k p.length] = some (PS.copy 0 ⟨p, []⟩ p.length k.toNat) := by
    show (PS.step 0 (p.length + k) ⟨p, []⟩ (copyT k p.length)).bind _ = _
    rw [hs]
    rfl
  rw [List.nil_append, hst]
  show some (if (p.length : Int) + k ≤ _ then _ else _) = _
  rw [if_pos (by rw [hl]; omega)]
theorem run_no : expandT (p.map litT ++ [copyT k p.length]) (p.length + k - 1) 0 = some ([], 3) := by
  unfold expandT
  rw [if_pos (toksU hu)]
  unfold expandV
  rw [if_neg (by unfold bitsOk; omega), steps_app, steps_lits p _ (by show ((0 : Nat) : Int) + _ ≤ _; omega)]
  show some (outV _ (PS.steps 0 _ ⟨[] ++ p, []⟩ [copyT k p.length])) = _
  have hs : PS.step 0 (p.length + k - 1) ⟨p, []⟩ (copyT k p.length) = none := by
    unfold PS.step
    by_cases c : (p.length : Int) ≥ p.length + k - 1
    · exact if_pos c
    · rw [if_neg (show ¬ ((⟨p, []⟩ : PS).pix.length : Int) ≥ _ from c), if_neg (show ¬ (copyT k p.length).f0 = 1 by show ¬ (2 : Int) = 1; decide), if_pos (show (copyT k p.length).f0 = 2 from rfl), if_neg (fun h : mayCopy _ ⟨p, []⟩ (copyT k p.length) => by have h2 : k ≤ p.length + k - 1 - p.length := h.2.2.2.2; omega)]
  have hst : PS.steps 0 (p.length + k - 1) ⟨p, []⟩ [copyT k p.length] = none := by
    show (PS.step 0 (p.length + k - 1) ⟨p, []⟩ (copyT k p.length)).bind _ = _
    rw [hs]
    rfl
  rw [List.nil_append, hst]
  rfl
end
theorem cmp_loop {p x : List Int} {k : Int} {l : List Tk} (h0 : 0 < p.length) (hx : x.length ≤ 5000) (hrd : ∀ i : Nat, i < x.length → rd x i = rd p ((i % p.length : Nat) : Int)) (hno : token_Expand.f l (wrap64 (wrap64 ((p.length : Int) + k) - 1)) 0 = some ([], 3)) (d : Nat) :
    ∀ i : Nat, i + d = x.length → Ev (fun kk => marquetrylaw17_TokenRuns.l1 kk p k l x i) true := by
  induction d with
  | zero =>
    intro i hd
    refine Ev.succ ?_
    simp only [marquetrylaw17_TokenRuns.l1]
    refine Ev.ite_neg (by omega) (Ev.bindo hno (Ev.bind answers_ev (Ev.ite_pos (by trivial) (Ev.now _))))
  | succ d ih =>
    intro i hd
    have hm := Nat.mod_lt i h0
    refine Ev.succ ?_
    simp only [marquetrylaw17_TokenRuns.l1]
    have e : Int.tmod (i : Int) (p.length : Int) = ((i % p.length : Nat) : Int) := by rw [Int.tmod_eq_emod_of_nonneg (by omega)]; rfl
    rw [e, w64 (by omega) (by omega)]
    exact Ev.ite_pos (by omega) (Ev.ite_pos (by omega) (Ev.ite_neg (by omega) (Ev.ite_pos (by omega) (Ev.ite_pos (by omega) (Ev.ite_pos (hrd i (by omega)) (ih (i + 1) (by omega)))))))
theorem lit_loop {p : List Int} {k : Int} (h0 : 0 < p.length) (h50 : p.length ≤ 50) (hu : ∀ x ∈ p, U32 x) (k1 : 1 ≤ k) (k2 : k ≤ 4096) (d : Nat) : ∀ i : Nat, i + d = p.length → Ev (fun kk => marquetrylaw17_TokenRuns.l0 kk p k ((p.take i).map litT) i) true := by
  induction d with
  | zero =>
    intro i hd
    refine Ev.succ ?_
    simp only [marquetrylaw17_TokenRuns.l0]
    have hl : (PS.copy 0 ⟨p, []⟩ p.length k.toNat).pix.length = p.length + k.toNat := PS.copy_len k.toNat
    rw [List.take_of_length_le (by omega)]
    refine Ev.ite_neg (by omega) (Ev.ite_pos (by rw [List.length_map]; omega) (Ev.bindo rfl ?_))
    rw [w64 (n := (p.length : Int) + k) (by omega) (by omega)]
    refine Ev.bindo (run_ok h0 h50 hu k1 k2) (Ev.ite_pos (by trivial) (Ev.succ ?_))
    simp only [marquetrylaw17_TokenRuns.j2]
    refine Ev.ite_neg (by rw [hl]; simp; omega) ?_
    refine cmp_loop h0 (by omega) (fun i hi => copy_rd h0 [] k.toNat i (by omega)) ?_ _ 0 (Nat.zero_add _)
    rw [w64 (n := (p.length : Int) + k) (by omega) (by omega), w64 (by omega) (by omega)]
    exact run_no h0 h50 hu k1 k2
  | succ d ih =>
    intro i hd
    have ih := ih (i + 1) (by omega)
    have hi : i < p.length := by omega
    rw [List.take_succ_eq_append_getElem hi, List.map_append] at ih
    refine Ev.succ ?_
    simp only [marquetrylaw17_TokenRuns.l0]
    rw [w64 (by omega) (by omega), rd_nat' hi]
    exact Ev.ite_pos (by omega) (Ev.ite_pos (by omega) (Ev.ite_pos (by rw [List.length_map, List.length_take]; omega) ih))
theorem TokenRuns : marquetrylaw17_TokenRuns.Pure := by
  intro p n _ _ hp hn
  have hu : ∀ x ∈ p, U32 x := fun x hx => wf_u32 (hp x hx)
  have hn16 := wf_u16 hn
  refine Ev.rounds (g := fun k => marquetrylaw17_TokenRuns.f k p n) ?_
  unfold marquetrylaw17_TokenRuns.f
  have skip : ∀ x, x = true → Ev (fun k => marquetrylaw17_TokenRuns.j0 k p n x) true := by
    intro x hx
    refine Ev.succ ?_
    simp only [marquetrylaw17_TokenRuns.j0]
    exact Ev.ite_pos hx (Ev.bind answers_ev (Ev.now _))
  by_cases c1 : (p.length : Int) = 0
  · exact Ev.ite_pos c1 (skip _ rfl)
  refine Ev.ite_neg c1 ?_
  by_cases c2 : (p.length : Int) > 50
  · exact skip _ (decide_eq_true c2)
  refine Ev.succ ?_
  simp only [marquetrylaw17_TokenRuns.j0]
  refine Ev.ite_neg (by simpa using c2) ?_
  have e : wrap64 (wrap64 (Int.tmod n 4096) + 1) = n % 4096 + 1 := by rw [Int.tmod_eq_emod_of_nonneg hn16.1, w64 (n := n % 4096) (by omega) (by omega), w64 (by omega) (by omega)]
  rw [e]
  exact lit_loop (by omega) (by omega) hu (by omega) (by omega) p.length 0 (Nat.zero_add _)
end Go.Proofs.Ytnpmnfhmlnhepaa.Pure
