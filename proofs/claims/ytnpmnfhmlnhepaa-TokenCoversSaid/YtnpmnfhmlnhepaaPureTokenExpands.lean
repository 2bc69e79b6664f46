/- The pixels of any steps, of any size, with any cache, or that they are none. -/
import Derived.Test.YtnpmnfhmlnhepaaPx8
import Derived.Test.YtnpmnfhmlnhepaaPx1
import Derived.Test.YtnpmnfhmlnhepaaU
namespace Go.Proofs.Ytnpmnfhmlnhepaa.Pure
open Go Go.RowKit Go.Proofs.Ytnpmnfhmlnhepaa.P Go.Proofs.YtnpmnfhmlnhepaaW.PrintWords Go.Proofs.YtnpmnfhmlnhepaaW.PrintLast Go.Proofs.YtnpmnfhmlnhepaaW.PrintMore Go.Proofs.Ytnpmnfhmlnhepaa.U
set_option linter.unusedVariables false
theorem answers_ev : Ev (fun _ => marquetrylaw17_answers.f) true := Ev.now _
theorem same_loop {l : List Int} (hl : l.length ≤ 268435456) (d : Nat) : ∀ i : Nat, i + d = l.length → Ev (fun k => marquetryref11_Pixels.l0 k l l i) true := by
  induction d with
  | zero =>
    intro i hd
    refine Ev.succ ?_
    simp only [marquetryref11_Pixels.l0]
    exact Ev.ite_neg (by omega) (Ev.now _)
  | succ d ih =>
    intro i hd
    refine Ev.succ ?_
    simp only [marquetryref11_Pixels.l0]
    refine Ev.ite_pos (by omega) (Ev.ite_pos (by omega) (Ev.ite_pos (by omega) (Ev.ite_pos trivial ?_)))
    rw [w64 (by omega) (by omega)]
    exact ih (i + 1) (by omega)
theorem pixels_ev {l : List Int} (hl : l.length ≤ 268435456) : Ev (fun k => marquetryref11_Pixels.f k l l) true := by
  unfold marquetryref11_Pixels.f
  exact Ev.ite_pos rfl (same_loop hl l.length 0 (Nat.zero_add _))
theorem steps_len {bits most : Int} : ∀ {l : List Tk} {s s' : PS}, s.ok bits → (∀ t ∈ l, U32 t.f4) → (s.pix.length : Int) ≤ most → PS.steps bits most s l = some s' → (s'.pix.length : Int) ≤ most
  | [], s, s', _, _, h, he => by obtain rfl : s = s' := Option.some.inj he; exact h
  | t :: l, s, s', hok, hu, h, he => by
    obtain ⟨s1, h1, h2⟩ := Option.bind_eq_some_iff.1 (show (s.step bits most t).bind _ = some s' from he)
    have := PS.step_ok hok (hu t List.mem_cons_self) h1
    exact steps_len this.1 (fun t ht => hu t (List.mem_cons_of_mem _ ht)) this.2 h2
theorem toks_U {l : List Tk} (h : ∀ y ∈ l, q37 y) : tokU l := fun t ht => by
  have := h t ht
  unfold q37 at this
  exact wf_u32 this.2.2.2.2
theorem TokenExpands : marquetrylaw17_TokenExpands.Pure := by
  intro l n bits _ _ hq hn hb
  have hU := toks_U hq
  have hn64 := wf_i64 hn
  refine Ev.rounds (g := fun k => marquetrylaw17_TokenExpands.f k l n bits) ?_
  unfold marquetrylaw17_TokenExpands.f
  have skip : ∀ x, x = true → Ev (fun k => marquetrylaw17_TokenExpands.j0 k l n bits x) true := by
    intro x hx
    refine Ev.succ ?_
    simp only [marquetrylaw17_TokenExpands.j0]
    exact Ev.ite_pos hx (Ev.bind answers_ev (Ev.now _))
  by_cases c1 : (l.length : Int) > 200
  · exact Ev.ite_pos c1 (skip _ rfl)
  refine Ev.ite_neg c1 ?_
  by_cases c2 : n > 5000
  · exact skip _ (decide_eq_true c2)
  refine Ev.succ ?_
  simp only [marquetrylaw17_TokenExpands.j0]
  refine Ev.ite_neg (by simpa using c2) (Ev.bindo rfl (Ev.ite_pos (by show 0 + l.length < _; omega) ?_))
  have he : token_Expand.f ([] ++ l) n bits = some (expandV l n bits) := by
    rw [List.nil_append]
    unfold token_Expand.f expandT
    rw [if_pos hU]
  refine Ev.bindo he ?_
  have bad : ∀ x, x = true → expandV l n bits = ([], 1) → Ev (fun k => marquetrylaw17_TokenExpands.j1 k l n bits (expandV l n bits).1 (expandV l n bits).2 x) true := by
    intro x hx hv
    rw [hv]
    refine Ev.succ ?_
    simp only [marquetrylaw17_TokenExpands.j1]
    exact Ev.ite_pos hx (Ev.bind answers_ev (Ev.ite_pos (by trivial) (Ev.ite_pos (by trivial) (Ev.now _))))
  by_cases d1 : n < 0
  · exact Ev.ite_pos d1 (bad _ rfl (by unfold expandV; rw [if_pos (.inl d1)]))
  refine Ev.ite_neg d1 ?_
  by_cases d2 : bits < 0
  · exact Ev.ite_pos d2 (bad _ rfl (by unfold expandV; rw [if_pos (.inr (.inr (fun h => by have := h.1; omega)))]))
  refine Ev.ite_neg d2 ?_
  by_cases d3 : bits > 11
  · exact bad _ (decide_eq_true d3) (by unfold expandV; rw [if_pos (.inr (.inr (fun h => by have := h.2; omega)))])
  have hbo : bitsOk bits := ⟨by omega, by omega⟩
  have hv : expandV l n bits = outV n (PS.steps bits n (PS.start bits) l) := by
    unfold expandV
    rw [if_neg (by rintro (h | h | h); exact d1 h; omega; exact h hbo)]
  have hr : marquetryref17_Expand.f l n bits = some (expandV l n bits) := by
    unfold marquetryref17_Expand.f expandR
    rw [if_pos ⟨hU, ⟨by omega, by omega⟩, hbo⟩, hv]
  have hlen : (expandV l n bits).1.length ≤ 268435456 := by
    rw [hv]
    cases hs : PS.steps bits n (PS.start bits) l with
    | none => simp [outV]
    | some s =>
      have := steps_len (PS.start_ok hbo) hU (by simp [PS.start]; omega) hs
      show (if n ≤ (s.pix.length : Int) then (s.pix, (0 : Int)) else ([], 3)).1.length ≤ _
      by_cases c : n ≤ (s.pix.length : Int)
      · rw [if_pos c]; show s.pix.length ≤ _; omega
      · rw [if_neg c]; exact Nat.zero_le _
  refine Ev.succ ?_
  simp only [marquetrylaw17_TokenExpands.j1]
  refine Ev.ite_neg (by simpa using d3) (Ev.bindo hr (Ev.bind answers_ev (Ev.ite_pos (by trivial) (Ev.ite_pos (by trivial) (Ev.bind (pixels_ev hlen) (Ev.now _))))))
end Go.Proofs.Ytnpmnfhmlnhepaa.Pure
