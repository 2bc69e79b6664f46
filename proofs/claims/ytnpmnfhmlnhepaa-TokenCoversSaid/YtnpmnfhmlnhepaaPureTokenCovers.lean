/- The steps of any pixels, by any spans, with any cache; they tell the pixels; which spans fit. -/
import Derived.Test.YtnpmnfhmlnhepaaPx10
import Derived.Test.YtnpmnfhmlnhepaaRefFits
import Derived.Test.YtnpmnfhmlnhepaaPureTokenExpands
namespace Go.Proofs.Ytnpmnfhmlnhepaa.Pure
open Go Go.RowKit Go.Proofs.Ytnpmnfhmlnhepaa.P Go.Proofs.YtnpmnfhmlnhepaaW.PrintWords Go.Proofs.YtnpmnfhmlnhepaaW.PrintLast Go.Proofs.YtnpmnfhmlnhepaaW.PrintMore Go.Proofs.Ytnpmnfhmlnhepaa.U
set_option linter.unusedVariables false
theorem covers_len {bits : Int} {pix : List Int} : ∀ (d a : Nat) (cl : List Int) (sp : List Sp), (coverL bits pix d a cl sp).length ≤ d
  | 0, a, cl, sp => Nat.le_refl 0
  | d + 1, a, cl, sp => by
    by_cases h : a < pix.length
    · obtain ⟨t, m, rest, hn⟩ : ∃ t m rest, nextT bits pix a cl sp = (t, m, rest) := ⟨_, _, _, rfl⟩
      rw [cover_next h hn]
      exact Nat.succ_le_succ (covers_len d _ _ _)
    · rw [cover_end (by omega)]
      exact Nat.zero_le _
theorem covers_U {bits : Int} {pix : List Int} (hu : pixU pix) : ∀ (d a : Nat) (cl : List Int) (sp : List Sp), tokU (coverL bits pix d a cl sp)
  | 0, a, cl, sp => fun t ht => by cases ht
  | d + 1, a, cl, sp => by
    by_cases h : a < pix.length
    · obtain ⟨t, m, rest, hn⟩ : ∃ t m rest, nextT bits pix a cl sp = (t, m, rest) := ⟨_, _, _, rfl⟩
      rw [cover_next h hn]
      intro x hx
      rcases List.mem_cons.1 hx with rfl | hx
      · have := next_u (bits := bits) (cl := cl) (sp := sp) (hu _ (rd_mem (l := pix) (i := (a : Int)) (by omega) (by omega)))
        rw [hn] at this
        exact this
      · exact covers_U hu d _ _ _ x hx
    · rw [cover_end (by omega)]
      exact fun t ht => by cases ht
theorem TokenCovers : marquetrylaw17_TokenCovers.Pure := by
  intro pix bits sp _ _ hq hn _ _ hs
  have hu : pixU pix := fun x hx => wf_u32 (hq x hx)
  have hn64 := wf_i64 hn
  refine Ev.rounds (g := fun k => marquetrylaw17_TokenCovers.f k pix bits sp) ?_
  unfold marquetrylaw17_TokenCovers.f
  have skip : ∀ x, x = true → Ev (fun k => marquetrylaw17_TokenCovers.j0 k pix bits sp x) true := by
    intro x hx
    refine Ev.succ ?_
    simp only [marquetrylaw17_TokenCovers.j0]
    exact Ev.ite_pos hx (Ev.bind answers_ev (Ev.now _))
  by_cases c1 : (pix.length : Int) > 1000
  · exact Ev.ite_pos c1 (skip _ rfl)
  refine Ev.ite_neg c1 ?_
  by_cases c2 : (sp.length : Int) > 200
  · exact skip _ (decide_eq_true c2)
  have hp : pix.length ≤ 268435456 := by omega
  refine Ev.succ ?_
  simp only [marquetrylaw17_TokenCovers.j0]
  refine Ev.ite_neg (by simpa using c2) (Ev.bind (RefFits_ev (by omega) (by omega) hs) (Ev.bindo rfl (Ev.ite_pos (by show 0 + pix.length < _; omega) ?_)))
  have he : token_Cover.f ([] ++ pix) bits sp = some (coverV pix bits sp) := by
    rw [List.nil_append]
    unfold token_Cover.f coverT
    rw [if_pos ⟨hu, hp⟩]
  refine Ev.bindo he (Ev.bind answers_ev (Ev.ite_pos rfl (Ev.bind (Fits_ev (by omega) (by omega)) ?_)))
  rw [show (decide (fitsAll pix 0 sp) != decide (fitsAll pix 0 sp)) = false by simp]
  refine Ev.succ ?_
  simp only [marquetrylaw17_TokenCovers.j1]
  refine Ev.ite_neg (by simp) ?_
  have bad : ∀ x, x = true → coverV pix bits sp = ([], 1) → Ev (fun k => marquetrylaw17_TokenCovers.j2 k pix bits sp (coverV pix bits sp).1 (coverV pix bits sp).2 x) true := by
    intro x hx hv
    rw [hv]
    refine Ev.succ ?_
    simp only [marquetrylaw17_TokenCovers.j2]
    exact Ev.ite_pos hx (Ev.ite_pos (by trivial) (Ev.now _))
  by_cases c3 : fitsAll pix 0 sp
  case neg => exact Ev.ite_neg (by simpa using c3) (bad _ rfl (by unfold coverV; rw [if_neg (fun h => c3 h.2)]))
  refine Ev.ite_pos (decide_eq_true c3) ?_
  by_cases c4 : bits < 0
  · exact Ev.ite_pos c4 (bad _ rfl (by unfold coverV; rw [if_neg (fun h => by have := h.1.1; omega)]))
  refine Ev.ite_neg c4 ?_
  by_cases c5 : bits > 11
  · exact bad _ (decide_eq_true c5) (by unfold coverV; rw [if_neg (fun h => by have := h.1.2; omega)])
  have hbo : bitsOk bits := ⟨by omega, by omega⟩
  have hv : coverV pix bits sp = (coverL bits pix pix.length 0 (startC bits) sp, 0) := by
    unfold coverV
    rw [if_pos ⟨hbo, c3⟩]
  rw [hv]
  have hr : marquetryref17_Cover.f pix bits sp = some (coverL bits pix pix.length 0 (startC bits) sp) := by
    unfold marquetryref17_Cover.f coverR
    rw [if_pos ⟨⟨hu, hp⟩, hbo, c3⟩]
  refine Ev.succ ?_
  simp only [marquetrylaw17_TokenCovers.j2]
  refine Ev.ite_neg (by simpa using c5) (Ev.bindo hr (Ev.ite_pos trivial ?_))
  rw [show (((coverL bits pix pix.length 0 (startC bits) sp).length : Int) != ((coverL bits pix pix.length 0 (startC bits) sp).length : Int)) = false by simp]
  obtain ⟨cl', hst⟩ := cover_steps (bits := bits) hu pix.length 0 (startC bits) sp (by omega) (by omega) (clOk_start hbo) (fitsAll_each c3)
  have hlen := covers_len (bits := bits) (pix := pix) pix.length 0 (startC bits) sp
  have hU := covers_U (bits := bits) hu pix.length 0 (startC bits) sp
  generalize coverL bits pix pix.length 0 (startC bits) sp = L at *
  refine Ev.succ ?_
  simp only [marquetrylaw17_TokenCovers.j3]
  refine Ev.ite_neg (by simp) ?_
  have hex : token_Expand.f L (pix.length : Int) bits = some (pix, 0) := by
    unfold token_Expand.f expandT
    rw [if_pos hU]
    congr 1
    unfold expandV
    rw [if_neg (by rintro (h | h | h); omega; omega; exact h hbo)]
    rw [show (⟨pix.take 0, startC bits⟩ : PS) = PS.start bits from rfl] at hst
    rw [hst]
    show (if (pix.length : Int) ≤ (pix.length : Int) then (pix, (0 : Int)) else ([], 3)) = _
    rw [if_pos (Int.le_refl _)]
  have loop : ∀ (d i : Nat), i + d = L.length → Ev (fun k => marquetrylaw17_TokenCovers.l0 k pix bits L L i) true := by
    intro d
    induction d with
    | zero =>
      intro i hi
      refine Ev.succ ?_
      simp only [marquetrylaw17_TokenCovers.l0]
      exact Ev.ite_neg (by omega) (Ev.bindo hex (Ev.ite_pos rfl (Ev.bind (pixels_ev hp) (Ev.now _))))
    | succ d ih =>
      intro i hi
      refine Ev.succ ?_
      simp only [marquetrylaw17_TokenCovers.l0]
      rw [w64 (n := (i : Int) + 1) (by omega) (by omega)]
      exact Ev.ite_pos (by omega) (Ev.ite_pos (by omega) (Ev.ite_pos (by omega) (Ev.ite_neg (by simp) (ih (i + 1) (by omega)))))
  exact loop L.length 0 (Nat.zero_add _)
end Go.Proofs.Ytnpmnfhmlnhepaa.Pure
