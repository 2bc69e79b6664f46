-- Printed by mp.py (our own program over the kit's printer) out of the translation.
import Derived.Test.YtnpmnfhmlnhepaaPx0
import Derived.Test.YtnpmnfhmlnhepaaPx5
import Derived.Test.YtnpmnfhmlnhepaaPx6
import Derived.Test.YtnpmnfhmlnhepaaPx7
namespace Go.Proofs.Ytnpmnfhmlnhepaa.P
open Go.RowKit Go.Proofs.YtnpmnfhmlnhepaaW.PrintWords Go.Proofs.YtnpmnfhmlnhepaaW.PrintLast Go.Proofs.YtnpmnfhmlnhepaaW.PrintMore
attribute [local go_sem] max2_int min2_int max_two min_two max_three min_three max_four min_four   -- for this text's walks alone
set_option linter.unusedVariables false
set_option linter.unusedSimpArgs false

/-! ### marquetrylaw17_TokenKnowns: function 5 -/
mutual
def marquetrylaw17_TokenKnowns.l0 : Nat → Int → Int → Int → List Int → Int → Option (Bool)
  | 0, _, _, _, _, _ => none
  | k + 1, x0, x7, x8, x9, x10 => if x10 < x8 then (if x9.length < 35184372088832 then (marquetrylaw17_TokenKnowns.l0 k x0 x7 x8 (x9 ++ [x0]) (wrap64 (x10 + 1))) else (none)) else ((token_Cover.f x9 x7 ([] : List (S45))).bind fun bt164 => (if bt164.2 = 0 then (marquetrylaw17_TokenKnowns.j1 k x0 x8 bt164.1 ((bt164.1.length : Int) != x8)) else (marquetrylaw17_TokenKnowns.j1 k x0 x8 bt164.1 true)))
def marquetrylaw17_TokenKnowns.j1 : Nat → Int → Int → List (S37) → Bool → Option (Bool)
  | 0, _, _, _, _ => none
  | k + 1, x0, x8, x11, x44 => if x44 = true then (some false) else (marquetrylaw17_TokenKnowns.l1 k x0 x8 x11 1)
def marquetrylaw17_TokenKnowns.l1 : Nat → Int → Int → List (S37) → Int → Option (Bool)
  | 0, _, _, _, _ => none
  | k + 1, x0, x8, x11, x13 => if x13 < x8 then (if 0 ≤ x13 then (if x13 < (x11.length : Int) then (if ((rd_T37 x11 x13).f0) = 3 then (if 1 < (x11.length : Int) then (if ((rd_T37 x11 x13).f3) = ((rd_T37 x11 1).f3) then (marquetrylaw17_TokenKnowns.l1 k x0 x8 x11 (wrap64 (x13 + 1))) else (some false)) else (none)) else (some false)) else (none)) else (none)) else ((marquetrylaw17_answers.f).bind fun t171 => (if t171 = true then (if 0 < (x11.length : Int) then (if ((rd_T37 x11 0).f0) = 1 then (some true) else (some (x0 == 0))) else (none)) else (some false)))
end
def marquetrylaw17_TokenKnowns.f (k : Nat) (a0 : Int) (a1 : Int) (a2 : Int) : Option (Bool) := marquetrylaw17_TokenKnowns.l0 k a0 (wrap64 ((wrap64 (Int.tmod a2 11)) + 1)) (wrap64 ((wrap64 (Int.tmod a1 50)) + 2)) ([] : List Int) 0
theorem marquetrylaw17_TokenKnowns.mono_l : ∀ k, (∀ y0 y1 y2 y3 y4, LeO (marquetrylaw17_TokenKnowns.l0 k y0 y1 y2 y3 y4) (marquetrylaw17_TokenKnowns.l0 (k + 1) y0 y1 y2 y3 y4)) ∧ (∀ y0 y1 y2 y3, LeO (marquetrylaw17_TokenKnowns.j1 k y0 y1 y2 y3) (marquetrylaw17_TokenKnowns.j1 (k + 1) y0 y1 y2 y3)) ∧ (∀ y0 y1 y2 y3, LeO (marquetrylaw17_TokenKnowns.l1 k y0 y1 y2 y3) (marquetrylaw17_TokenKnowns.l1 (k + 1) y0 y1 y2 y3))
  | 0 => ⟨fun _ _ _ _ _ r h => by simp [marquetrylaw17_TokenKnowns.l0] at h, fun _ _ _ _ r h => by simp [marquetrylaw17_TokenKnowns.j1] at h, fun _ _ _ _ r h => by simp [marquetrylaw17_TokenKnowns.l1] at h⟩
  | k + 1 => by
    obtain ⟨ih0, ih1, ih2⟩ := marquetrylaw17_TokenKnowns.mono_l k
    refine ⟨?_, ?_, ?_⟩
    · intro y0 y1 y2 y3 y4
      unfold marquetrylaw17_TokenKnowns.l0
      repeat' first
      | (with_reducible exact ih0 _ _ _ _ _)
      | (with_reducible exact ih1 _ _ _ _)
      | (with_reducible exact ih2 _ _ _ _)
      | (with_reducible exact LeO.refl _)
      | (with_reducible exact LeO.none _)
      | (with_reducible refine LeO.ite ?_ ?_)
      | (with_reducible refine LeO.bind ?_ (fun _ => ?_))
      | exact ih0 _ _ _ _ _
      | exact ih1 _ _ _ _
      | exact ih2 _ _ _ _
      | exact LeO.none _
      | refine LeO.ite ?_ ?_
      | refine LeO.bind ?_ (fun _ => ?_)
    · intro y0 y1 y2 y3
      unfold marquetrylaw17_TokenKnowns.j1
      repeat' first
      | (with_reducible exact ih0 _ _ _ _ _)
      | (with_reducible exact ih1 _ _ _ _)
      | (with_reducible exact ih2 _ _ _ _)
      | (with_reducible exact LeO.refl _)
      | (with_reducible exact LeO.none _)
      | (with_reducible refine LeO.ite ?_ ?_)
      | (with_reducible refine LeO.bind ?_ (fun _ => ?_))
      | exact ih0 _ _ _ _ _
      | exact ih1 _ _ _ _
      | exact ih2 _ _ _ _
      | exact LeO.none _
      | refine LeO.ite ?_ ?_
      | refine LeO.bind ?_ (fun _ => ?_)
    · intro y0 y1 y2 y3
      unfold marquetrylaw17_TokenKnowns.l1
      repeat' first
      | (with_reducible exact ih0 _ _ _ _ _)
      | (with_reducible exact ih1 _ _ _ _)
      | (with_reducible exact ih2 _ _ _ _)
      | (with_reducible exact LeO.refl _)
      | (with_reducible exact LeO.none _)
      | (with_reducible refine LeO.ite ?_ ?_)
      | (with_reducible refine LeO.bind ?_ (fun _ => ?_))
      | exact ih0 _ _ _ _ _
      | exact ih1 _ _ _ _
      | exact ih2 _ _ _ _
      | exact LeO.none _
      | refine LeO.ite ?_ ?_
      | refine LeO.bind ?_ (fun _ => ?_)
theorem marquetrylaw17_TokenKnowns.mono : ∀ a0 a1 a2 k, LeO (marquetrylaw17_TokenKnowns.f k a0 a1 a2) (marquetrylaw17_TokenKnowns.f (k + 1) a0 a1 a2) := by
  intro a0 a1 a2 k
  obtain ⟨ih0, ih1, ih2⟩ := marquetrylaw17_TokenKnowns.mono_l k
  unfold marquetrylaw17_TokenKnowns.f
  repeat' first
      | (with_reducible exact ih0 _ _ _ _ _)
      | (with_reducible exact ih1 _ _ _ _)
      | (with_reducible exact ih2 _ _ _ _)
      | (with_reducible exact LeO.refl _)
      | (with_reducible exact LeO.none _)
      | (with_reducible refine LeO.ite ?_ ?_)
      | (with_reducible refine LeO.bind ?_ (fun _ => ?_))
      | exact ih0 _ _ _ _ _
      | exact ih1 _ _ _ _
      | exact ih2 _ _ _ _
      | exact LeO.none _
      | refine LeO.ite ?_ ?_
      | refine LeO.bind ?_ (fun _ => ?_)
set_option maxHeartbeats 8000000 in
set_option maxRecDepth 100000 in
theorem marquetrylaw17_TokenKnowns.calls (k : Nat) (a0 : Int) (a1 : Int) (a2 : Int) (r : Bool) (w : World) (h : marquetrylaw17_TokenKnowns.f k a0 a1 a2 = some r) (hr : r = true) :
    Calls Try.prog 5 #[.int .u32 a0, .int .u8 a1, .int .u8 a2] w fun e w' => e = .returned (.bool r) ∧ Below w.heap.size w w' := by
  have HB := Aside0.mk (Below.refl w.heap.size w)
  have H : (marquetrylaw17_TokenKnowns.l0 k a0 (wrap64 ((wrap64 (Int.tmod a2 11)) + 1)) (wrap64 ((wrap64 (Int.tmod a1 50)) + 2)) ([] : List Int) 0) = some r := h
  clear h
  have Hr := Aside0.mk hr
  clear hr
  have H' := Aside0.mk H
  clear H
  go_enter Try.func5, Try.ntmps5
  go_wp2
  repeat (go_quiet (fail); try go_wp2)
  go_loopg [9, 10] k (fun kq v9 v10 w' => ∃ (x9_1 : List Int) (x10_1 : Int), v10 = .int .i64 x10_1 ∧ Aside0 (marquetrylaw17_TokenKnowns.l0 kq a0 (wrap64 ((wrap64 (Int.tmod a2 11)) + 1)) (wrap64 ((wrap64 (Int.tmod a1 50)) + 2)) x9_1 x10_1 = some r) ∧ Aside0 (kq ≤ k) ∧ Aside0 (Kd.R (Kd.int .u32) 35 w' w.heap.size (fun _ => True) v9 x9_1) ∧ Aside0 (Below w.heap.size w w'))
  case atStart => exact ⟨(([] : List Int)), (0), (by first | rfl | (simp; done) | (simp [*]; done)), H', ⟨Nat.le_refl _⟩, ⟨by first | exact Kd.R_nil _ _ _ _ _ | exact Kd.N_nil _ _ _ _ _ | exact Kd.V_nil _ _ _ _ _ | exact Kd.Q_nil _ _ _ _ _ | exact Kd.S_nil _ _ _ _ _⟩, ⟨by repeat (first | (with_reducible first | exact HB.out | apply below_alloc | apply pw_below_drewN | apply below_drew1) | exact HB.out)⟩⟩
  case round =>
    clear H'
    try clear p2
    obtain ⟨x9_1, x10_1, rfl, HA, HK1, HO_9, HB⟩ := hrel
    cases gk with
    | zero => exact absurd HA.out (by simp [marquetrylaw17_TokenKnowns.l0])
    | succ k1 =>
      have H := HA.out
      clear HA
      simp only [marquetrylaw17_TokenKnowns.l0] at H
      by_cases c4 : x10_1 < (wrap64 ((wrap64 (Int.tmod a1 50)) + 2))
      · rw [if_pos c4] at H
        have c4b0 : decide (x10_1 < (wrap64 ((wrap64 (Int.tmod a1 50)) + 2))) = true := decide_eq_true c4
        clear c4
        by_cases c5 : x9_1.length < 35184372088832
        · rw [if_pos c5] at H
          have LMc5 := Aside0.mk c5
          clear c5
          obtain ⟨y161, hy161⟩ : ∃ y_ : List Int, y_ = (x9_1 ++ [a0]) := ⟨_, rfl⟩
          replace H : (marquetrylaw17_TokenKnowns.l0 k1 a0 (wrap64 ((wrap64 (Int.tmod a2 11)) + 1)) (wrap64 ((wrap64 (Int.tmod a1 50)) + 2)) y161 (wrap64 (x10_1 + 1))) = some r := by first | (rw [hy161]; with_reducible exact H) | (have H2_ := (Option.bind_some _ _).symm.trans H; rw [hy161]; with_reducible exact H2_) | (have H2_ := (Option.bind_some _ _).symm.trans H; with_reducible exact H2_) | with_reducible exact H | (rw [hy161]; exact H) | exact H
          have Ny161 := Aside0.mk hy161
          clear hy161
          have H' := Aside0.mk H
          clear H
          go_wp2_with (first | ((with_reducible refine gate_builtin (b := .append) (xs := #[.tmp 27, .tmp 29]) rfl ?_); (try (refine gate_guard (by rfl) ?_; dsimp only)); at_builtin; refine Kd.R_append (Kd.int .u32) (w0 := w) w.heap.size rfl (.tmp 27) (.tmp 29) 24 35 (.int .u32 0) 4 rfl Try.underlying24 info35 rfl (by decide) (by omega) u9 x9_1 a0 [.int .u32 a0] (fun _ => True) (fun _ => False) rfl rfl ?aP (fun _ hk => hk.elim) ?aF ?aO ?aB ?aS ?aL ?_; (case aP => exact rfl); (case aB => exact (by repeat (first | (with_reducible first | exact HB.out | apply below_alloc | apply pw_below_drewN | apply below_drew1) | exact HB.out))); (case aF => exact (fun _ _ => trivial)); (case aO => exact (by (with_reducible repeat (first | apply Kd.R_alloc | apply Kd.R_drewN | apply Kd.R_drew)); exact HO_9.out)); (case aS => exact (below_size (by repeat (first | (with_reducible first | exact HB.out | apply below_alloc | apply pw_below_drewN | apply below_drew1) | exact HB.out)))); (case aL => have := LMc5.out; omega); intro v162 w6 ho hb hg hat; rw [← Ny161.out] at ho; have n0_ := Aside0.mk (hb); have n1_ := Aside0.mk (ho); clear HB; clear HO_9; have HB := n0_; have HO163 := n1_; clear n0_ n1_; clear ho hb hg hat))
          repeat (go_quiet (first | ((with_reducible refine gate_builtin (b := .append) (xs := #[.tmp 27, .tmp 29]) rfl ?_); (try (refine gate_guard (by rfl) ?_; dsimp only)); at_builtin; refine Kd.R_append (Kd.int .u32) (w0 := w) w.heap.size rfl (.tmp 27) (.tmp 29) 24 35 (.int .u32 0) 4 rfl Try.underlying24 info35 rfl (by decide) (by omega) u9 x9_1 a0 [.int .u32 a0] (fun _ => True) (fun _ => False) rfl rfl ?aP (fun _ hk => hk.elim) ?aF ?aO ?aB ?aS ?aL ?_; (case aP => exact rfl); (case aB => exact (by repeat (first | (with_reducible first | exact HB.out | apply below_alloc | apply pw_below_drewN | apply below_drew1) | exact HB.out))); (case aF => exact (fun _ _ => trivial)); (case aO => exact (by (with_reducible repeat (first | apply Kd.R_alloc | apply Kd.R_drewN | apply Kd.R_drew)); exact HO_9.out)); (case aS => exact (below_size (by repeat (first | (with_reducible first | exact HB.out | apply below_alloc | apply pw_below_drewN | apply below_drew1) | exact HB.out)))); (case aL => have := LMc5.out; omega); intro v162 w6 ho hb hg hat; rw [← Ny161.out] at ho; have n0_ := Aside0.mk (hb); have n1_ := Aside0.mk (ho); clear HB; clear HO_9; have HB := n0_; have HO163 := n1_; clear n0_ n1_; clear ho hb hg hat)); try go_wp2_with (first | ((with_reducible refine gate_builtin (b := .append) (xs := #[.tmp 27, .tmp 29]) rfl ?_); (try (refine gate_guard (by rfl) ?_; dsimp only)); at_builtin; refine Kd.R_append (Kd.int .u32) (w0 := w) w.heap.size rfl (.tmp 27) (.tmp 29) 24 35 (.int .u32 0) 4 rfl Try.underlying24 info35 rfl (by decide) (by omega) u9 x9_1 a0 [.int .u32 a0] (fun _ => True) (fun _ => False) rfl rfl ?aP (fun _ hk => hk.elim) ?aF ?aO ?aB ?aS ?aL ?_; (case aP => exact rfl); (case aB => exact (by repeat (first | (with_reducible first | exact HB.out | apply below_alloc | apply pw_below_drewN | apply below_drew1) | exact HB.out))); (case aF => exact (fun _ _ => trivial)); (case aO => exact (by (with_reducible repeat (first | apply Kd.R_alloc | apply Kd.R_drewN | apply Kd.R_drew)); exact HO_9.out)); (case aS => exact (below_size (by repeat (first | (with_reducible first | exact HB.out | apply below_alloc | apply pw_below_drewN | apply below_drew1) | exact HB.out)))); (case aL => have := LMc5.out; omega); intro v162 w6 ho hb hg hat; rw [← Ny161.out] at ho; have n0_ := Aside0.mk (hb); have n1_ := Aside0.mk (ho); clear HB; clear HO_9; have HB := n0_; have HO163 := n1_; clear n0_ n1_; clear ho hb hg hat)))
          go_roundg k1
          case measure => have := HK1.out; omega
          case rel => exact ⟨(y161), (wrap64 (x10_1 + 1)), (by first | rfl | (simp; done) | (simp [*]; done)), H', ⟨by have := HK1.out; omega⟩, ⟨by (with_reducible repeat (first | apply Kd.R_alloc | apply Kd.R_drewN | apply Kd.R_drew)); exact HO163.out⟩, ⟨by repeat (first | (with_reducible first | exact HB.out | apply below_alloc | apply pw_below_drewN | apply below_drew1) | exact HB.out)⟩⟩
        · rw [if_neg c5] at H
          exact absurd H (by simp)
      · rw [if_neg c4] at H
        have c4b0 : decide (x10_1 < (wrap64 ((wrap64 (Int.tmod a1 50)) + 2))) = false := decide_eq_false c4
        clear c4
        replace H := Option.bind_eq_some_iff.mp H
        obtain ⟨⟨t164, t165⟩, A70, H⟩ := H
        replace H : (if t165 = 0 then (marquetrylaw17_TokenKnowns.j1 k1 a0 (wrap64 ((wrap64 (Int.tmod a1 50)) + 2)) t164 ((t164.length : Int) != (wrap64 ((wrap64 (Int.tmod a1 50)) + 2)))) else (marquetrylaw17_TokenKnowns.j1 k1 a0 (wrap64 ((wrap64 (Int.tmod a1 50)) + 2)) t164 true)) = some r := H
        have A7 := Aside0.mk A70
        clear A70
        have HC8 := Aside0.mk H
        clear H
        obtain ⟨Ao9, co9, eo9⟩ := Kd.R_slice HO_9.out
        subst eo9
        go_upto_region 9 with (first | (go_at_call 13; (refine (token_Cover.calls _ _ x9_1 (wrap64 ((wrap64 (Int.tmod a2 11)) + 1)) _ _ ([] : List (S45)) t164 t165 _ ?side1 ?side2 ?side3 ?side4 A7.out).mono ?_); (case side1 => repeat (first | exact (Kd.R_reads' HO_9.out).2.2 | (with_reducible refine Kd.C_alloc ?_ _) | (with_reducible refine Kd.C_drewN ?_ _) | (with_reducible refine Kd.C_drew ?_))); (case side2 => exact (Kd.R_reads' HO_9.out).2.1); (case side3 => exact Kd.C_nil _ _); (case side4 => exact Nat.le_refl _); rintro e w10 ⟨v166, rfl, ho0, hb⟩; have n0_ := Aside0.mk (Kd.R_below (by (with_reducible repeat (first | apply Kd.R_alloc | apply Kd.R_drewN | apply Kd.R_drew)); exact HO_9.out) hb); have n1_ := Aside0.mk (Kd.R_lower ho0 (below_size (by repeat (first | (with_reducible first | exact HB.out | apply below_alloc | apply pw_below_drewN | apply below_drew1) | exact HB.out)))); have n2_ := Aside0.mk (below_step (by repeat (first | (with_reducible first | exact HB.out | apply below_alloc | apply pw_below_drewN | apply below_drew1) | exact HB.out)) hb); clear HO_9; clear HB; have HO_9 := n0_; have HO167 := n1_; have HB := n2_; clear n0_ n1_ n2_; (try clear hb); (try clear hb2); (try clear hk); (try clear hi); (try clear ho0)))
        repeat (go_quiet (first | (go_at_call 13; (refine (token_Cover.calls _ _ x9_1 (wrap64 ((wrap64 (Int.tmod a2 11)) + 1)) _ _ ([] : List (S45)) t164 t165 _ ?side1 ?side2 ?side3 ?side4 A7.out).mono ?_); (case side1 => repeat (first | exact (Kd.R_reads' HO_9.out).2.2 | (with_reducible refine Kd.C_alloc ?_ _) | (with_reducible refine Kd.C_drewN ?_ _) | (with_reducible refine Kd.C_drew ?_))); (case side2 => exact (Kd.R_reads' HO_9.out).2.1); (case side3 => exact Kd.C_nil _ _); (case side4 => exact Nat.le_refl _); rintro e w10 ⟨v166, rfl, ho0, hb⟩; have n0_ := Aside0.mk (Kd.R_below (by (with_reducible repeat (first | apply Kd.R_alloc | apply Kd.R_drewN | apply Kd.R_drew)); exact HO_9.out) hb); have n1_ := Aside0.mk (Kd.R_lower ho0 (below_size (by repeat (first | (with_reducible first | exact HB.out | apply below_alloc | apply pw_below_drewN | apply below_drew1) | exact HB.out)))); have n2_ := Aside0.mk (below_step (by repeat (first | (with_reducible first | exact HB.out | apply below_alloc | apply pw_below_drewN | apply below_drew1) | exact HB.out)) hb); clear HO_9; clear HB; have HO_9 := n0_; have HO167 := n1_; have HB := n2_; clear n0_ n1_ n2_; (try clear hb); (try clear hb2); (try clear hk); (try clear hi); (try clear ho0))); go_upto_region 9 with (first | (go_at_call 13; (refine (token_Cover.calls _ _ x9_1 (wrap64 ((wrap64 (Int.tmod a2 11)) + 1)) _ _ ([] : List (S45)) t164 t165 _ ?side1 ?side2 ?side3 ?side4 A7.out).mono ?_); (case side1 => repeat (first | exact (Kd.R_reads' HO_9.out).2.2 | (with_reducible refine Kd.C_alloc ?_ _) | (with_reducible refine Kd.C_drewN ?_ _) | (with_reducible refine Kd.C_drew ?_))); (case side2 => exact (Kd.R_reads' HO_9.out).2.1); (case side3 => exact Kd.C_nil _ _); (case side4 => exact Nat.le_refl _); rintro e w10 ⟨v166, rfl, ho0, hb⟩; have n0_ := Aside0.mk (Kd.R_below (by (with_reducible repeat (first | apply Kd.R_alloc | apply Kd.R_drewN | apply Kd.R_drew)); exact HO_9.out) hb); have n1_ := Aside0.mk (Kd.R_lower ho0 (below_size (by repeat (first | (with_reducible first | exact HB.out | apply below_alloc | apply pw_below_drewN | apply below_drew1) | exact HB.out)))); have n2_ := Aside0.mk (below_step (by repeat (first | (with_reducible first | exact HB.out | apply below_alloc | apply pw_below_drewN | apply below_drew1) | exact HB.out)) hb); clear HO_9; clear HB; have HO_9 := n0_; have HO167 := n1_; have HB := n2_; clear n0_ n1_ n2_; (try clear hb); (try clear hb2); (try clear hk); (try clear hi); (try clear ho0))))
        (try simp only [Act.put, List.setIfInBounds_toArray, List.set_cons_zero, List.set_cons_succ])
        go_cut [44] (fun v44 wc => ∃ (kq : Nat) (x44_7 : Bool), v44 = .bool x44_7 ∧ Aside0 (marquetrylaw17_TokenKnowns.j1 kq a0 (wrap64 ((wrap64 (Int.tmod a1 50)) + 2)) t164 x44_7 = some r) ∧ Aside0 (kq ≤ k1) ∧ Aside0 (Kd.R k37 37 wc w.heap.size (fun _ => True) v166 t164) ∧ Aside0 (Below w.heap.size w wc))
        case first =>
          have H := HC8.out
          clear HC8
          by_cases c11 : t165 = 0
          · rw [if_pos c11] at H
            have c11b0 : (t165 == 0) = true := beq_iff_eq.mpr c11
            have c11b1 : (t165 != 0) = false := bne_eq_false_iff_eq.mpr c11
            clear c11
            (first | rw [c11b0] | (simp only [i64_w, i32_w]; rw [c11b0]) | skip)
            have H' := Aside0.mk H
            clear H
            obtain ⟨Ao12, co12, eo12⟩ := Kd.R_slice HO167.out
            subst eo12
            go_wp2
            repeat (go_quiet (fail); try go_wp2)
            go_meet
            case rel => exact ⟨_, (((t164.length : Int) != (wrap64 ((wrap64 (Int.tmod a1 50)) + 2)))), (by first | rfl | (simp; done) | (simp [*]; done)), H', ⟨by have := HK1.out; first | omega | exact Nat.le_refl _⟩, ⟨by (with_reducible repeat (first | apply Kd.R_alloc | apply Kd.R_drewN | apply Kd.R_drew)); exact HO167.out⟩, ⟨by repeat (first | (with_reducible first | exact HB.out | apply below_alloc | apply pw_below_drewN | apply below_drew1) | exact HB.out)⟩⟩
          · rw [if_neg c11] at H
            have c11b0 : (t165 == 0) = false := beq_eq_false_iff_ne.mpr c11
            have c11b1 : (t165 != 0) = true := bne_iff_ne.mpr c11
            (first | rw [c11b0] | (simp only [i64_w, i32_w]; rw [c11b0]) | skip)
            have H' := Aside0.mk H
            clear H
            go_wp2
            repeat (go_quiet (fail); try go_wp2)
            go_meet
            case rel => exact ⟨_, (true), (by first | rfl | (simp; done) | (simp [*]; done)), H', ⟨by have := HK1.out; first | omega | exact Nat.le_refl _⟩, ⟨by (with_reducible repeat (first | apply Kd.R_alloc | apply Kd.R_drewN | apply Kd.R_drew)); exact HO167.out⟩, ⟨by repeat (first | (with_reducible first | exact HB.out | apply below_alloc | apply pw_below_drewN | apply below_drew1) | exact HB.out)⟩⟩
        case rest =>
          clear HC8
          try clear c1
          try clear p2
          try clear c4
          try clear c4b0
          try clear c5
          try clear p6
          try clear c11
          try clear c11b0
          try clear c11b1
          try clear p2
          obtain ⟨kq, x44_7, rfl, HA, HJ7, HO_11, HB⟩ := hcut
          cases kq with
          | zero => exact absurd HA.out (by simp [marquetrylaw17_TokenKnowns.j1])
          | succ kj7 =>
            have H := HA.out
            clear HA
            simp only [marquetrylaw17_TokenKnowns.j1] at H
            by_cases c13 : x44_7 = true
            · subst c13
              have H1 : (some false) = some r := by rw [if_pos rfl] at H; exact H
              clear H
              have H := H1
              clear H1
              exact absurd ((Option.some.inj H).trans Hr.out) (by decide)
            · replace c13 := Bool.eq_false_iff.mpr c13
              subst c13
              have H1 : (marquetrylaw17_TokenKnowns.l1 kj7 a0 (wrap64 ((wrap64 (Int.tmod a1 50)) + 2)) t164 1) = some r := by rw [if_neg (show ¬ (false = true) by decide)] at H; exact H
              clear H
              have H := H1
              clear H1
              have H' := Aside0.mk H
              clear H
              go_wp2
              repeat (go_quiet (fail); try go_wp2)
              go_loopg [13] kj7 (fun kq v13 w' => ∃ (x13_3 : Int), v13 = .int .i64 x13_3 ∧ Aside0 (marquetrylaw17_TokenKnowns.l1 kq a0 (wrap64 ((wrap64 (Int.tmod a1 50)) + 2)) t164 x13_3 = some r) ∧ Aside0 (kq ≤ kj7) ∧ Aside0 (Kd.R k37 37 w' w.heap.size (fun _ => True) v166 t164) ∧ Aside0 (Below w.heap.size w w'))
              case atStart => exact ⟨(1), (by first | rfl | (simp; done) | (simp [*]; done)), H', ⟨Nat.le_refl _⟩, ⟨by (with_reducible repeat (first | apply Kd.R_alloc | apply Kd.R_drewN | apply Kd.R_drew)); exact HO_11.out⟩, ⟨by repeat (first | (with_reducible first | exact HB.out | apply below_alloc | apply pw_below_drewN | apply below_drew1) | exact HB.out)⟩⟩
              case round =>
                clear H'
                try clear c1
                try clear p2
                try clear c4
                try clear c4b0
                try clear c5
                try clear p6
                try clear c11
                try clear c11b0
                try clear c11b1
                try clear c13
                try clear p2
                try clear p6
                obtain ⟨x13_3, rfl, HA, HK3, HO_11, HB⟩ := hrel
                cases gk with
                | zero => exact absurd HA.out (by simp [marquetrylaw17_TokenKnowns.l1])
                | succ k3 =>
                  have H := HA.out
                  clear HA
                  simp only [marquetrylaw17_TokenKnowns.l1] at H
                  by_cases c14 : x13_3 < (wrap64 ((wrap64 (Int.tmod a1 50)) + 2))
                  · rw [if_pos c14] at H
                    have c14b0 : decide (x13_3 < (wrap64 ((wrap64 (Int.tmod a1 50)) + 2))) = true := decide_eq_true c14
                    clear c14
                    by_cases c15 : 0 ≤ x13_3
                    · rw [if_pos c15] at H
                      have c15b0 : decide (0 ≤ x13_3) = true := decide_eq_true c15
                      clear c15
                      by_cases c16 : x13_3 < (t164.length : Int)
                      · rw [if_pos c16] at H
                        have c16b0 : decide (x13_3 < (t164.length : Int)) = true := decide_eq_true c16
                        clear c16
                        by_cases c17 : ((rd_T37 t164 x13_3).f0) = 3
                        · rw [if_pos c17] at H
                          have c17b0 : (((rd_T37 t164 x13_3).f0) == 3) = true := beq_iff_eq.mpr c17
                          have c17b1 : (((rd_T37 t164 x13_3).f0) != 3) = false := bne_eq_false_iff_eq.mpr c17
                          clear c17
                          by_cases c18 : 1 < (t164.length : Int)
                          · rw [if_pos c18] at H
                            have c18b0 : decide (1 < (t164.length : Int)) = true := decide_eq_true c18
                            have c18b1 : decide (1 < t164.length) = true := decide_eq_true (by omega)
                            clear c18
                            by_cases c19 : ((rd_T37 t164 x13_3).f3) = ((rd_T37 t164 1).f3)
                            · rw [if_pos c19] at H
                              have c19b0 : (((rd_T37 t164 x13_3).f3) == ((rd_T37 t164 1).f3)) = true := beq_iff_eq.mpr c19
                              have c19b1 : (((rd_T37 t164 x13_3).f3) != ((rd_T37 t164 1).f3)) = false := bne_eq_false_iff_eq.mpr c19
                              clear c19
                              have H' := Aside0.mk H
                              clear H
                              obtain ⟨Ao20, co20, eo20⟩ := Kd.R_slice HO_11.out
                              subst eo20
                              have p168 : 0 ≤ (x13_3 : Int) := of_decide_eq_true (by first | (with_reducible assumption) | assumption)
                              have q168 : x13_3 < (t164.length : Int) := of_decide_eq_true (by first | (with_reducible assumption) | assumption)
                              obtain ⟨ad168, e168, hx168_0, hx168_1, hx168_2, hx168_3, hx168_4⟩ := at_T37 (Kd.R_reads' HO_11.out).2.2 x13_3 p168 q168
                              cases e168
                              replace p168 := eq_true p168
                              replace q168 := eq_true q168
                              have p169 : 0 ≤ (x13_3 : Int) := of_decide_eq_true (by first | (with_reducible assumption) | assumption)
                              have q169 : x13_3 < (t164.length : Int) := of_decide_eq_true (by first | (with_reducible assumption) | assumption)
                              obtain ⟨ad169, e169, hx169_0, hx169_1, hx169_2, hx169_3, hx169_4⟩ := at_T37 (Kd.R_reads' HO_11.out).2.2 x13_3 p169 q169
                              obtain rfl : ad168 = ad169 := (by injection e169)
                              replace p169 := eq_true p169
                              replace q169 := eq_true q169
                              have p170 : 0 ≤ (1 : Int) := (by omega)
                              have q170 : 1 < (t164.length : Int) := of_decide_eq_true (by first | (with_reducible assumption) | assumption)
                              obtain ⟨ad170, e170, hx170_0, hx170_1, hx170_2, hx170_3, hx170_4⟩ := at_T37 (Kd.R_reads' HO_11.out).2.2 1 p170 q170
                              obtain rfl : ad168 = ad170 := (by injection e170)
                              (try simp only [show (1 : Int).toNat = 1 from rfl, Nat.reduceMul, Nat.reduceEqDiff, Go.Addr.add, ↓reduceIte] at hx170_0)
                              (try simp only [show (1 : Int).toNat = 1 from rfl, Nat.reduceMul, Nat.reduceEqDiff, Go.Addr.add, ↓reduceIte] at hx170_1)
                              (try simp only [show (1 : Int).toNat = 1 from rfl, Nat.reduceMul, Nat.reduceEqDiff, Go.Addr.add, ↓reduceIte] at hx170_2)
                              (try simp only [show (1 : Int).toNat = 1 from rfl, Nat.reduceMul, Nat.reduceEqDiff, Go.Addr.add, ↓reduceIte] at hx170_3)
                              (try simp only [show (1 : Int).toNat = 1 from rfl, Nat.reduceMul, Nat.reduceEqDiff, Go.Addr.add, ↓reduceIte] at hx170_4)
                              have qi170 : (1 < t164.length) = True := eq_true (by omega)
                              (try rw [show ((1 : Int)).toNat = 1 from rfl] at hx170_0)
                              (try rw [show 1 * 5 = 5 from rfl] at hx170_0)
                              (try rw [show ((1 : Int)).toNat = 1 from rfl] at hx170_1)
                              (try rw [show 1 * 5 = 5 from rfl] at hx170_1)
                              (try rw [show ((1 : Int)).toNat = 1 from rfl] at hx170_2)
                              (try rw [show 1 * 5 = 5 from rfl] at hx170_2)
                              (try rw [show ((1 : Int)).toNat = 1 from rfl] at hx170_3)
                              (try rw [show 1 * 5 = 5 from rfl] at hx170_3)
                              (try rw [show ((1 : Int)).toNat = 1 from rfl] at hx170_4)
                              (try rw [show 1 * 5 = 5 from rfl] at hx170_4)
                              replace p170 := eq_true p170
                              replace q170 := eq_true q170
                              go_wp2
                              repeat (go_quiet (fail); try go_wp2)
                              go_roundg k3
                              case measure => have := HK1.out; have := HJ7.out; have := HK3.out; omega
                              case rel => exact ⟨(wrap64 (x13_3 + 1)), (by first | rfl | (simp; done) | (simp [*]; done)), H', ⟨by have := HK1.out; have := HJ7.out; have := HK3.out; omega⟩, ⟨by (with_reducible repeat (first | apply Kd.R_alloc | apply Kd.R_drewN | apply Kd.R_drew)); exact HO_11.out⟩, ⟨by repeat (first | (with_reducible first | exact HB.out | apply below_alloc | apply pw_below_drewN | apply below_drew1) | exact HB.out)⟩⟩
                            · rw [if_neg c19] at H
                              have c19b0 : (((rd_T37 t164 x13_3).f3) == ((rd_T37 t164 1).f3)) = false := beq_eq_false_iff_ne.mpr c19
                              have c19b1 : (((rd_T37 t164 x13_3).f3) != ((rd_T37 t164 1).f3)) = true := bne_iff_ne.mpr c19
                              exact absurd ((Option.some.inj H).trans Hr.out) (by decide)
                          · rw [if_neg c18] at H
                            exact absurd H (by simp)
                        · rw [if_neg c17] at H
                          have c17b0 : (((rd_T37 t164 x13_3).f0) == 3) = false := beq_eq_false_iff_ne.mpr c17
                          have c17b1 : (((rd_T37 t164 x13_3).f0) != 3) = true := bne_iff_ne.mpr c17
                          exact absurd ((Option.some.inj H).trans Hr.out) (by decide)
                      · rw [if_neg c16] at H
                        exact absurd H (by simp)
                    · rw [if_neg c15] at H
                      exact absurd H (by simp)
                  · rw [if_neg c14] at H
                    have c14b0 : decide (x13_3 < (wrap64 ((wrap64 (Int.tmod a1 50)) + 2))) = false := decide_eq_false c14
                    clear c14
                    replace H := Option.bind_eq_some_iff.mp H
                    obtain ⟨t171, A210, H⟩ := H
                    replace H : (if t171 = true then (if 0 < (t164.length : Int) then (if ((rd_T37 t164 0).f0) = 1 then (some true) else (some (a0 == 0))) else (none)) else (some false)) = some r := H
                    have A21 := Aside0.mk A210
                    clear A210
                    by_cases c22 : t171 = true
                    · subst c22
                      have H1 : (if 0 < (t164.length : Int) then (if ((rd_T37 t164 0).f0) = 1 then (some true) else (some (a0 == 0))) else (none)) = some r := by rw [if_pos rfl] at H; exact H
                      clear H
                      have H := H1
                      clear H1
                      by_cases c23 : 0 < (t164.length : Int)
                      · rw [if_pos c23] at H
                        have c23b0 : decide (0 < (t164.length : Int)) = true := decide_eq_true c23
                        have c23b1 : decide (0 < t164.length) = true := decide_eq_true (by omega)
                        clear c23
                        by_cases c24 : ((rd_T37 t164 0).f0) = 1
                        · rw [if_pos c24] at H
                          have c24b0 : (((rd_T37 t164 0).f0) == 1) = true := beq_iff_eq.mpr c24
                          have c24b1 : (((rd_T37 t164 0).f0) != 1) = false := bne_eq_false_iff_eq.mpr c24
                          clear c24
                          obtain rfl := Option.some.inj H
                          go_wp2_with (first | (go_at_call 8; (with_reducible refine (marquetrylaw17_answers.calls  true _ A21.out).mono ?_); clear A21; rintro e w25 ⟨rfl, hb⟩; have n0_ := Aside0.mk (Kd.R_below (by (with_reducible repeat (first | apply Kd.R_alloc | apply Kd.R_drewN | apply Kd.R_drew)); exact HO_11.out) hb); have n1_ := Aside0.mk (below_step (by repeat (first | (with_reducible first | exact HB.out | apply below_alloc | apply pw_below_drewN | apply below_drew1) | exact HB.out)) hb); clear HO_11; clear HB; have HO_11 := n0_; have HB := n1_; clear n0_ n1_; (try clear hb); (try clear hb2); (try clear hk); (try clear hi); obtain ⟨Ao26, co26, eo26⟩ := Kd.R_slice HO_11.out; subst eo26; have p172 : 0 ≤ (0 : Int) := (by omega); have q172 : 0 < (t164.length : Int) := of_decide_eq_true (by first | (with_reducible assumption) | assumption); obtain ⟨ad172, e172, hx172_0, hx172_1, hx172_2, hx172_3, hx172_4⟩ := at_T37 (Kd.R_reads' HO_11.out).2.2 0 p172 q172; cases e172; have qi172 : (0 < t164.length) = True := eq_true (by omega); (try rw [show ((0 : Int)).toNat = 0 from rfl] at hx172_0); (try rw [show 0 * 5 = 0 from rfl] at hx172_0); (try rw [Addr.add_zero'] at hx172_0); (try rw [show ((0 : Int)).toNat = 0 from rfl] at hx172_1); (try rw [show 0 * 5 = 0 from rfl] at hx172_1); (try rw [Addr.add_zero'] at hx172_1); (try rw [show ((0 : Int)).toNat = 0 from rfl] at hx172_2); (try rw [show 0 * 5 = 0 from rfl] at hx172_2); (try rw [Addr.add_zero'] at hx172_2); (try rw [show ((0 : Int)).toNat = 0 from rfl] at hx172_3); (try rw [show 0 * 5 = 0 from rfl] at hx172_3); (try rw [Addr.add_zero'] at hx172_3); (try rw [show ((0 : Int)).toNat = 0 from rfl] at hx172_4); (try rw [show 0 * 5 = 0 from rfl] at hx172_4); (try rw [Addr.add_zero'] at hx172_4); replace p172 := eq_true p172; replace q172 := eq_true q172))
                          repeat (go_quiet (first | (go_at_call 8; (with_reducible refine (marquetrylaw17_answers.calls  true _ A21.out).mono ?_); clear A21; rintro e w25 ⟨rfl, hb⟩; have n0_ := Aside0.mk (Kd.R_below (by (with_reducible repeat (first | apply Kd.R_alloc | apply Kd.R_drewN | apply Kd.R_drew)); exact HO_11.out) hb); have n1_ := Aside0.mk (below_step (by repeat (first | (with_reducible first | exact HB.out | apply below_alloc | apply pw_below_drewN | apply below_drew1) | exact HB.out)) hb); clear HO_11; clear HB; have HO_11 := n0_; have HB := n1_; clear n0_ n1_; (try clear hb); (try clear hb2); (try clear hk); (try clear hi); obtain ⟨Ao26, co26, eo26⟩ := Kd.R_slice HO_11.out; subst eo26; have p172 : 0 ≤ (0 : Int) := (by omega); have q172 : 0 < (t164.length : Int) := of_decide_eq_true (by first | (with_reducible assumption) | assumption); obtain ⟨ad172, e172, hx172_0, hx172_1, hx172_2, hx172_3, hx172_4⟩ := at_T37 (Kd.R_reads' HO_11.out).2.2 0 p172 q172; cases e172; have qi172 : (0 < t164.length) = True := eq_true (by omega); (try rw [show ((0 : Int)).toNat = 0 from rfl] at hx172_0); (try rw [show 0 * 5 = 0 from rfl] at hx172_0); (try rw [Addr.add_zero'] at hx172_0); (try rw [show ((0 : Int)).toNat = 0 from rfl] at hx172_1); (try rw [show 0 * 5 = 0 from rfl] at hx172_1); (try rw [Addr.add_zero'] at hx172_1); (try rw [show ((0 : Int)).toNat = 0 from rfl] at hx172_2); (try rw [show 0 * 5 = 0 from rfl] at hx172_2); (try rw [Addr.add_zero'] at hx172_2); (try rw [show ((0 : Int)).toNat = 0 from rfl] at hx172_3); (try rw [show 0 * 5 = 0 from rfl] at hx172_3); (try rw [Addr.add_zero'] at hx172_3); (try rw [show ((0 : Int)).toNat = 0 from rfl] at hx172_4); (try rw [show 0 * 5 = 0 from rfl] at hx172_4); (try rw [Addr.add_zero'] at hx172_4); replace p172 := eq_true p172; replace q172 := eq_true q172)); try go_wp2_with (first | (go_at_call 8; (with_reducible refine (marquetrylaw17_answers.calls  true _ A21.out).mono ?_); clear A21; rintro e w25 ⟨rfl, hb⟩; have n0_ := Aside0.mk (Kd.R_below (by (with_reducible repeat (first | apply Kd.R_alloc | apply Kd.R_drewN | apply Kd.R_drew)); exact HO_11.out) hb); have n1_ := Aside0.mk (below_step (by repeat (first | (with_reducible first | exact HB.out | apply below_alloc | apply pw_below_drewN | apply below_drew1) | exact HB.out)) hb); clear HO_11; clear HB; have HO_11 := n0_; have HB := n1_; clear n0_ n1_; (try clear hb); (try clear hb2); (try clear hk); (try clear hi); obtain ⟨Ao26, co26, eo26⟩ := Kd.R_slice HO_11.out; subst eo26; have p172 : 0 ≤ (0 : Int) := (by omega); have q172 : 0 < (t164.length : Int) := of_decide_eq_true (by first | (with_reducible assumption) | assumption); obtain ⟨ad172, e172, hx172_0, hx172_1, hx172_2, hx172_3, hx172_4⟩ := at_T37 (Kd.R_reads' HO_11.out).2.2 0 p172 q172; cases e172; have qi172 : (0 < t164.length) = True := eq_true (by omega); (try rw [show ((0 : Int)).toNat = 0 from rfl] at hx172_0); (try rw [show 0 * 5 = 0 from rfl] at hx172_0); (try rw [Addr.add_zero'] at hx172_0); (try rw [show ((0 : Int)).toNat = 0 from rfl] at hx172_1); (try rw [show 0 * 5 = 0 from rfl] at hx172_1); (try rw [Addr.add_zero'] at hx172_1); (try rw [show ((0 : Int)).toNat = 0 from rfl] at hx172_2); (try rw [show 0 * 5 = 0 from rfl] at hx172_2); (try rw [Addr.add_zero'] at hx172_2); (try rw [show ((0 : Int)).toNat = 0 from rfl] at hx172_3); (try rw [show 0 * 5 = 0 from rfl] at hx172_3); (try rw [Addr.add_zero'] at hx172_3); (try rw [show ((0 : Int)).toNat = 0 from rfl] at hx172_4); (try rw [show 0 * 5 = 0 from rfl] at hx172_4); (try rw [Addr.add_zero'] at hx172_4); replace p172 := eq_true p172; replace q172 := eq_true q172)))
                          go_ret
                          exact ⟨by first | rfl | (simp [errW_none, errW_some] <;> rfl) | (simp [*, errW_none, errW_some] <;> rfl), by repeat (first | (with_reducible first | exact HB.out | apply below_alloc | apply pw_below_drewN | apply below_drew1) | exact HB.out)⟩
                        · rw [if_neg c24] at H
                          have c24b0 : (((rd_T37 t164 0).f0) == 1) = false := beq_eq_false_iff_ne.mpr c24
                          have c24b1 : (((rd_T37 t164 0).f0) != 1) = true := bne_iff_ne.mpr c24
                          obtain rfl := Option.some.inj H
                          go_wp2_with (first | (go_at_call 8; (with_reducible refine (marquetrylaw17_answers.calls  true _ A21.out).mono ?_); clear A21; rintro e w27 ⟨rfl, hb⟩; have n0_ := Aside0.mk (Kd.R_below (by (with_reducible repeat (first | apply Kd.R_alloc | apply Kd.R_drewN | apply Kd.R_drew)); exact HO_11.out) hb); have n1_ := Aside0.mk (below_step (by repeat (first | (with_reducible first | exact HB.out | apply below_alloc | apply pw_below_drewN | apply below_drew1) | exact HB.out)) hb); clear HO_11; clear HB; have HO_11 := n0_; have HB := n1_; clear n0_ n1_; (try clear hb); (try clear hb2); (try clear hk); (try clear hi); obtain ⟨Ao28, co28, eo28⟩ := Kd.R_slice HO_11.out; subst eo28; have p172 : 0 ≤ (0 : Int) := (by omega); have q172 : 0 < (t164.length : Int) := of_decide_eq_true (by first | (with_reducible assumption) | assumption); obtain ⟨ad172, e172, hx172_0, hx172_1, hx172_2, hx172_3, hx172_4⟩ := at_T37 (Kd.R_reads' HO_11.out).2.2 0 p172 q172; cases e172; have qi172 : (0 < t164.length) = True := eq_true (by omega); (try rw [show ((0 : Int)).toNat = 0 from rfl] at hx172_0); (try rw [show 0 * 5 = 0 from rfl] at hx172_0); (try rw [Addr.add_zero'] at hx172_0); (try rw [show ((0 : Int)).toNat = 0 from rfl] at hx172_1); (try rw [show 0 * 5 = 0 from rfl] at hx172_1); (try rw [Addr.add_zero'] at hx172_1); (try rw [show ((0 : Int)).toNat = 0 from rfl] at hx172_2); (try rw [show 0 * 5 = 0 from rfl] at hx172_2); (try rw [Addr.add_zero'] at hx172_2); (try rw [show ((0 : Int)).toNat = 0 from rfl] at hx172_3); (try rw [show 0 * 5 = 0 from rfl] at hx172_3); (try rw [Addr.add_zero'] at hx172_3); (try rw [show ((0 : Int)).toNat = 0 from rfl] at hx172_4); (try rw [show 0 * 5 = 0 from rfl] at hx172_4); (try rw [Addr.add_zero'] at hx172_4); replace p172 := eq_true p172; replace q172 := eq_true q172))
                          repeat (go_quiet (first | (go_at_call 8; (with_reducible refine (marquetrylaw17_answers.calls  true _ A21.out).mono ?_); clear A21; rintro e w27 ⟨rfl, hb⟩; have n0_ := Aside0.mk (Kd.R_below (by (with_reducible repeat (first | apply Kd.R_alloc | apply Kd.R_drewN | apply Kd.R_drew)); exact HO_11.out) hb); have n1_ := Aside0.mk (below_step (by repeat (first | (with_reducible first | exact HB.out | apply below_alloc | apply pw_below_drewN | apply below_drew1) | exact HB.out)) hb); clear HO_11; clear HB; have HO_11 := n0_; have HB := n1_; clear n0_ n1_; (try clear hb); (try clear hb2); (try clear hk); (try clear hi); obtain ⟨Ao28, co28, eo28⟩ := Kd.R_slice HO_11.out; subst eo28; have p172 : 0 ≤ (0 : Int) := (by omega); have q172 : 0 < (t164.length : Int) := of_decide_eq_true (by first | (with_reducible assumption) | assumption); obtain ⟨ad172, e172, hx172_0, hx172_1, hx172_2, hx172_3, hx172_4⟩ := at_T37 (Kd.R_reads' HO_11.out).2.2 0 p172 q172; cases e172; have qi172 : (0 < t164.length) = True := eq_true (by omega); (try rw [show ((0 : Int)).toNat = 0 from rfl] at hx172_0); (try rw [show 0 * 5 = 0 from rfl] at hx172_0); (try rw [Addr.add_zero'] at hx172_0); (try rw [show ((0 : Int)).toNat = 0 from rfl] at hx172_1); (try rw [show 0 * 5 = 0 from rfl] at hx172_1); (try rw [Addr.add_zero'] at hx172_1); (try rw [show ((0 : Int)).toNat = 0 from rfl] at hx172_2); (try rw [show 0 * 5 = 0 from rfl] at hx172_2); (try rw [Addr.add_zero'] at hx172_2); (try rw [show ((0 : Int)).toNat = 0 from rfl] at hx172_3); (try rw [show 0 * 5 = 0 from rfl] at hx172_3); (try rw [Addr.add_zero'] at hx172_3); (try rw [show ((0 : Int)).toNat = 0 from rfl] at hx172_4); (try rw [show 0 * 5 = 0 from rfl] at hx172_4); (try rw [Addr.add_zero'] at hx172_4); replace p172 := eq_true p172; replace q172 := eq_true q172)); try go_wp2_with (first | (go_at_call 8; (with_reducible refine (marquetrylaw17_answers.calls  true _ A21.out).mono ?_); clear A21; rintro e w27 ⟨rfl, hb⟩; have n0_ := Aside0.mk (Kd.R_below (by (with_reducible repeat (first | apply Kd.R_alloc | apply Kd.R_drewN | apply Kd.R_drew)); exact HO_11.out) hb); have n1_ := Aside0.mk (below_step (by repeat (first | (with_reducible first | exact HB.out | apply below_alloc | apply pw_below_drewN | apply below_drew1) | exact HB.out)) hb); clear HO_11; clear HB; have HO_11 := n0_; have HB := n1_; clear n0_ n1_; (try clear hb); (try clear hb2); (try clear hk); (try clear hi); obtain ⟨Ao28, co28, eo28⟩ := Kd.R_slice HO_11.out; subst eo28; have p172 : 0 ≤ (0 : Int) := (by omega); have q172 : 0 < (t164.length : Int) := of_decide_eq_true (by first | (with_reducible assumption) | assumption); obtain ⟨ad172, e172, hx172_0, hx172_1, hx172_2, hx172_3, hx172_4⟩ := at_T37 (Kd.R_reads' HO_11.out).2.2 0 p172 q172; cases e172; have qi172 : (0 < t164.length) = True := eq_true (by omega); (try rw [show ((0 : Int)).toNat = 0 from rfl] at hx172_0); (try rw [show 0 * 5 = 0 from rfl] at hx172_0); (try rw [Addr.add_zero'] at hx172_0); (try rw [show ((0 : Int)).toNat = 0 from rfl] at hx172_1); (try rw [show 0 * 5 = 0 from rfl] at hx172_1); (try rw [Addr.add_zero'] at hx172_1); (try rw [show ((0 : Int)).toNat = 0 from rfl] at hx172_2); (try rw [show 0 * 5 = 0 from rfl] at hx172_2); (try rw [Addr.add_zero'] at hx172_2); (try rw [show ((0 : Int)).toNat = 0 from rfl] at hx172_3); (try rw [show 0 * 5 = 0 from rfl] at hx172_3); (try rw [Addr.add_zero'] at hx172_3); (try rw [show ((0 : Int)).toNat = 0 from rfl] at hx172_4); (try rw [show 0 * 5 = 0 from rfl] at hx172_4); (try rw [Addr.add_zero'] at hx172_4); replace p172 := eq_true p172; replace q172 := eq_true q172)))
                          go_ret
                          exact ⟨by first | rfl | (simp [errW_none, errW_some] <;> rfl) | (simp [*, errW_none, errW_some] <;> rfl), by repeat (first | (with_reducible first | exact HB.out | apply below_alloc | apply pw_below_drewN | apply below_drew1) | exact HB.out)⟩
                      · rw [if_neg c23] at H
                        exact absurd H (by simp)
                    · replace c22 := Bool.eq_false_iff.mpr c22
                      subst c22
                      have H1 : (some false) = some r := by rw [if_neg (show ¬ (false = true) by decide)] at H; exact H
                      clear H
                      have H := H1
                      clear H1
                      exact absurd ((Option.some.inj H).trans Hr.out) (by decide)

/-- THE ONE PURE STATEMENT of marquetrylaw17_TokenKnowns: yours. -/
def marquetrylaw17_TokenKnowns.Pure : Prop := ∀ (a0 : Int) (a1 : Int) (a2 : Int), (Lit.int .u32 a0).wf = true → (Lit.int .u8 a1).wf = true → (Lit.int .u8 a2).wf = true → ∃ k, marquetrylaw17_TokenKnowns.f k a0 a1 a2 = some true
theorem marquetrylaw17_TokenKnowns.walk (P : marquetrylaw17_TokenKnowns.Pure) (a0 : Int) (a1 : Int) (a2 : Int) (w : World) (w0 : (Lit.int .u32 a0).wf = true) (w1 : (Lit.int .u8 a1).wf = true) (w2 : (Lit.int .u8 a2).wf = true) :
    Calls Try.prog 5 #[.int .u32 a0, .int .u8 a1, .int .u8 a2] w fun e w' => e = .returned (.bool true) ∧ Below w.heap.size w w' := by
  obtain ⟨k, h⟩ := P a0 a1 a2 w0 w1 w2
  refine (marquetrylaw17_TokenKnowns.calls k a0 a1 a2 true w h rfl).mono ?_
  rintro e w' ⟨rfl, hd⟩
  exact ⟨rfl, hd⟩

/-! ### marquetrylaw17_TokenRuns: function 6 -/
mutual
def marquetrylaw17_TokenRuns.j0 : Nat → List Int → Int → Bool → Option (Bool)
  | 0, _, _, _ => none
  | k + 1, x0, x1, x20 => if x20 = true then ((marquetrylaw17_answers.f).bind fun t173 => (some t173)) else (marquetrylaw17_TokenRuns.l0 k x0 (wrap64 ((wrap64 (Int.tmod x1 4096)) + 1)) ([] : List (S37)) 0)
def marquetrylaw17_TokenRuns.l0 : Nat → List Int → Int → List (S37) → Int → Option (Bool)
  | 0, _, _, _, _ => none
  | k + 1, x0, x5, x6, x7 => if x7 < (x0.length : Int) then (if 0 ≤ x7 then (if x6.length < 3518437208883 then (marquetrylaw17_TokenRuns.l0 k x0 x5 (x6 ++ [(⟨1, 0, 0, 0, rd x0 x7⟩ : S37)]) (wrap64 (x7 + 1))) else (none)) else (none)) else (if x6.length < 3518437208883 then ((some (x6 ++ [(⟨2, x5, (x0.length : Int), 0, 0⟩ : S37)] : List (S37))).bind fun y178 => ((token_Expand.f y178 (wrap64 ((x0.length : Int) + x5)) 0).bind fun bt181 => (if bt181.2 = 0 then (marquetrylaw17_TokenRuns.j2 k x0 x5 y178 bt181.1 ((bt181.1.length : Int) != (wrap64 ((x0.length : Int) + x5)))) else (marquetrylaw17_TokenRuns.j2 k x0 x5 y178 bt181.1 true)))) else (none))
def marquetrylaw17_TokenRuns.j2 : Nat → List Int → Int → List (S37) → List Int → Bool → Option (Bool)
  | 0, _, _, _, _, _ => none
  | k + 1, x0, x5, x6, x8, x66 => if x66 = true then (some false) else (marquetrylaw17_TokenRuns.l1 k x0 x5 x6 x8 0)
def marquetrylaw17_TokenRuns.l1 : Nat → List Int → Int → List (S37) → List Int → Int → Option (Bool)
  | 0, _, _, _, _, _ => none
  | k + 1, x0, x5, x6, x8, x10 => if x10 < (x8.length : Int) then (if 0 ≤ x10 then (if (x0.length : Int) = 0 then (none) else (if 0 ≤ (Int.tmod x10 (x0.length : Int)) then (if (Int.tmod x10 (x0.length : Int)) < (x0.length : Int) then (if (rd x8 x10) = (rd x0 (Int.tmod x10 (x0.length : Int))) then (marquetrylaw17_TokenRuns.l1 k x0 x5 x6 x8 (wrap64 (x10 + 1))) else (some false)) else (none)) else (none))) else (none)) else ((token_Expand.f x6 (wrap64 ((wrap64 ((x0.length : Int) + x5)) - 1)) 0).bind fun bt187 => ((marquetrylaw17_answers.f).bind fun t191 => (if t191 = true then (some (bt187.2 == 3)) else (some false))))
end
def marquetrylaw17_TokenRuns.f (k : Nat) (l0 : List Int) (a1 : Int) : Option (Bool) := if (l0.length : Int) = 0 then (marquetrylaw17_TokenRuns.j0 k l0 a1 true) else (marquetrylaw17_TokenRuns.j0 k l0 a1 (decide ((l0.length : Int) > 50)))
theorem marquetrylaw17_TokenRuns.mono_l : ∀ k, (∀ y0 y1 y2, LeO (marquetrylaw17_TokenRuns.j0 k y0 y1 y2) (marquetrylaw17_TokenRuns.j0 (k + 1) y0 y1 y2)) ∧ (∀ y0 y1 y2 y3, LeO (marquetrylaw17_TokenRuns.l0 k y0 y1 y2 y3) (marquetrylaw17_TokenRuns.l0 (k + 1) y0 y1 y2 y3)) ∧ (∀ y0 y1 y2 y3 y4, LeO (marquetrylaw17_TokenRuns.j2 k y0 y1 y2 y3 y4) (marquetrylaw17_TokenRuns.j2 (k + 1) y0 y1 y2 y3 y4)) ∧ (∀ y0 y1 y2 y3 y4, LeO (marquetrylaw17_TokenRuns.l1 k y0 y1 y2 y3 y4) (marquetrylaw17_TokenRuns.l1 (k + 1) y0 y1 y2 y3 y4))
  | 0 => ⟨fun _ _ _ r h => by simp [marquetrylaw17_TokenRuns.j0] at h, fun _ _ _ _ r h => by simp [marquetrylaw17_TokenRuns.l0] at h, fun _ _ _ _ _ r h => by simp [marquetrylaw17_TokenRuns.j2] at h, fun _ _ _ _ _ r h => by simp [marquetrylaw17_TokenRuns.l1] at h⟩
  | k + 1 => by
    obtain ⟨ih0, ih1, ih2, ih3⟩ := marquetrylaw17_TokenRuns.mono_l k
    refine ⟨?_, ?_, ?_, ?_⟩
    · intro y0 y1 y2
      unfold marquetrylaw17_TokenRuns.j0
      repeat' first
      | (with_reducible exact ih0 _ _ _)
      | (with_reducible exact ih1 _ _ _ _)
      | (with_reducible exact ih2 _ _ _ _ _)
      | (with_reducible exact ih3 _ _ _ _ _)
      | (with_reducible exact LeO.refl _)
      | (with_reducible exact LeO.none _)
      | (with_reducible refine LeO.ite ?_ ?_)
      | (with_reducible refine LeO.bind ?_ (fun _ => ?_))
      | exact ih0 _ _ _
      | exact ih1 _ _ _ _
      | exact ih2 _ _ _ _ _
      | exact ih3 _ _ _ _ _
      | exact LeO.none _
      | refine LeO.ite ?_ ?_
      | refine LeO.bind ?_ (fun _ => ?_)
    · intro y0 y1 y2 y3
      unfold marquetrylaw17_TokenRuns.l0
      repeat' first
      | (with_reducible exact ih0 _ _ _)
      | (with_reducible exact ih1 _ _ _ _)
      | (with_reducible exact ih2 _ _ _ _ _)
      | (with_reducible exact ih3 _ _ _ _ _)
      | (with_reducible exact LeO.refl _)
      | (with_reducible exact LeO.none _)
      | (with_reducible refine LeO.ite ?_ ?_)
      | (with_reducible refine LeO.bind ?_ (fun _ => ?_))
      | exact ih0 _ _ _
      | exact ih1 _ _ _ _
      | exact ih2 _ _ _ _ _
      | exact ih3 _ _ _ _ _
      | exact LeO.none _
      | refine LeO.ite ?_ ?_
      | refine LeO.bind ?_ (fun _ => ?_)
    · intro y0 y1 y2 y3 y4
      unfold marquetrylaw17_TokenRuns.j2
      repeat' first
      | (with_reducible exact ih0 _ _ _)
      | (with_reducible exact ih1 _ _ _ _)
      | (with_reducible exact ih2 _ _ _ _ _)
      | (with_reducible exact ih3 _ _ _ _ _)
      | (with_reducible exact LeO.refl _)
      | (with_reducible exact LeO.none _)
      | (with_reducible refine LeO.ite ?_ ?_)
      | (with_reducible refine LeO.bind ?_ (fun _ => ?_))
      | exact ih0 _ _ _
      | exact ih1 _ _ _ _
      | exact ih2 _ _ _ _ _
      | exact ih3 _ _ _ _ _
      | exact LeO.none _
      | refine LeO.ite ?_ ?_
      | refine LeO.bind ?_ (fun _ => ?_)
    · intro y0 y1 y2 y3 y4
      unfold marquetrylaw17_TokenRuns.l1
      repeat' first
      | (with_reducible exact ih0 _ _ _)
      | (with_reducible exact ih1 _ _ _ _)
      | (with_reducible exact ih2 _ _ _ _ _)
      | (with_reducible exact ih3 _ _ _ _ _)
      | (with_reducible exact LeO.refl _)
      | (with_reducible exact LeO.none _)
      | (with_reducible refine LeO.ite ?_ ?_)
      | (with_reducible refine LeO.bind ?_ (fun _ => ?_))
      | exact ih0 _ _ _
      | exact ih1 _ _ _ _
      | exact ih2 _ _ _ _ _
      | exact ih3 _ _ _ _ _
      | exact LeO.none _
      | refine LeO.ite ?_ ?_
      | refine LeO.bind ?_ (fun _ => ?_)
theorem marquetrylaw17_TokenRuns.mono : ∀ a0 a1 k, LeO (marquetrylaw17_TokenRuns.f k a0 a1) (marquetrylaw17_TokenRuns.f (k + 1) a0 a1) := by
  intro a0 a1 k
  obtain ⟨ih0, ih1, ih2, ih3⟩ := marquetrylaw17_TokenRuns.mono_l k
  unfold marquetrylaw17_TokenRuns.f
  repeat' first
      | (with_reducible exact ih0 _ _ _)
      | (with_reducible exact ih1 _ _ _ _)
      | (with_reducible exact ih2 _ _ _ _ _)
      | (with_reducible exact ih3 _ _ _ _ _)
      | (with_reducible exact LeO.refl _)
      | (with_reducible exact LeO.none _)
      | (with_reducible refine LeO.ite ?_ ?_)
      | (with_reducible refine LeO.bind ?_ (fun _ => ?_))
      | exact ih0 _ _ _
      | exact ih1 _ _ _ _
      | exact ih2 _ _ _ _ _
      | exact ih3 _ _ _ _ _
      | exact LeO.none _
      | refine LeO.ite ?_ ?_
      | refine LeO.bind ?_ (fun _ => ?_)
set_option maxHeartbeats 8000000 in
set_option maxRecDepth 100000 in
theorem marquetrylaw17_TokenRuns.calls (k : Nat) (A0 : Option Addr) (c0 : Nat) (l0 : List Int) (a1 : Int) (r : Bool) (w : World) (hr0 : Kd.C (Kd.int .u32) w A0 l0.length l0) (hc0 : l0.length ≤ c0) (h : marquetrylaw17_TokenRuns.f k l0 a1 = some r) (hr : r = true) :
    Calls Try.prog 6 #[.slice A0 l0.length c0, .int .u16 a1] w fun e w' => e = .returned (.bool r) ∧ Below w.heap.size w w' := by
  have hu37 := Try.underlying37
  have HR0 := Aside0.mk hr0
  have HC0 := Aside0.mk hc0
  clear hr0 hc0
  have HB := Aside0.mk (Below.refl w.heap.size w)
  have H : (if (l0.length : Int) = 0 then (marquetrylaw17_TokenRuns.j0 k l0 a1 true) else (marquetrylaw17_TokenRuns.j0 k l0 a1 (decide ((l0.length : Int) > 50)))) = some r := h
  clear h
  have Hr := Aside0.mk hr
  clear hr
  have HC3 := Aside0.mk H
  clear H
  go_enter Try.func6, Try.ntmps6
  go_upto_region 1 with (fail)
  repeat (go_quiet (fail); go_upto_region 1 with (fail))
  go_cut [20] (fun v20 wc => ∃ (kq : Nat) (x20_2 : Bool), v20 = .bool x20_2 ∧ Aside0 (marquetrylaw17_TokenRuns.j0 kq l0 a1 x20_2 = some r) ∧ Aside0 (kq ≤ k) ∧ Aside0 (Below w.heap.size w wc))
  case first =>
    have H := HC3.out
    clear HC3
    by_cases c4 : (l0.length : Int) = 0
    · rw [if_pos c4] at H
      have c4b0 : ((l0.length : Int) == 0) = true := beq_iff_eq.mpr c4
      have c4b1 : ((l0.length : Int) != 0) = false := bne_eq_false_iff_eq.mpr c4
      clear c4
      (first | rw [c4b0] | (simp only [i64_w, i32_w]; rw [c4b0]) | skip)
      have H' := Aside0.mk H
      clear H
      go_wp2
      repeat (go_quiet (fail); try go_wp2)
      go_meet
      case rel => exact ⟨_, (true), (by first | rfl | (simp; done) | (simp [*]; done)), H', ⟨by first | omega | exact Nat.le_refl _⟩, ⟨by repeat (first | (with_reducible first | exact HB.out | apply below_alloc | apply pw_below_drewN | apply below_drew1) | exact HB.out)⟩⟩
    · rw [if_neg c4] at H
      have c4b0 : ((l0.length : Int) == 0) = false := beq_eq_false_iff_ne.mpr c4
      have c4b1 : ((l0.length : Int) != 0) = true := bne_iff_ne.mpr c4
      have c4b2 : ¬ (l0 = []) := fun h_ => c4 (by rw [h_]; rfl)
      (first | rw [c4b0] | (simp only [i64_w, i32_w]; rw [c4b0]) | skip)
      have H' := Aside0.mk H
      clear H
      go_wp2
      repeat (go_quiet (fail); try go_wp2)
      go_meet
      case rel => exact ⟨_, (decide ((l0.length : Int) > 50)), (by first | rfl | (simp; done) | (simp [*]; done)), H', ⟨by first | omega | exact Nat.le_refl _⟩, ⟨by repeat (first | (with_reducible first | exact HB.out | apply below_alloc | apply pw_below_drewN | apply below_drew1) | exact HB.out)⟩⟩
  case rest =>
    clear HC3
    try clear p2
    try clear c4
    try clear c4b0
    try clear c4b1
    try clear c4b2
    obtain ⟨kq, x20_2, rfl, HA, HJ2, HB⟩ := hcut
    cases kq with
    | zero => exact absurd HA.out (by simp [marquetrylaw17_TokenRuns.j0])
    | succ kj2 =>
      have H := HA.out
      clear HA
      simp only [marquetrylaw17_TokenRuns.j0] at H
      by_cases c5 : x20_2 = true
      · subst c5
        have H1 : ((marquetrylaw17_answers.f).bind fun t173 => (some t173)) = some r := by rw [if_pos rfl] at H; exact H
        clear H
        have H := H1
        clear H1
        replace H := Option.bind_eq_some_iff.mp H
        obtain ⟨t173, A60, H⟩ := H
        replace H : (some t173) = some r := H
        have A6 := Aside0.mk A60
        clear A60
        obtain rfl := Option.some.inj H
        go_wp2_with (first | (go_at_call 8; (with_reducible refine (marquetrylaw17_answers.calls  t173 _ A6.out).mono ?_); clear A6; rintro e w7 ⟨rfl, hb⟩; have n0_ := Aside0.mk (below_step (by repeat (first | (with_reducible first | exact HB.out | apply below_alloc | apply pw_below_drewN | apply below_drew1) | exact HB.out)) hb); clear HB; have HB := n0_; clear n0_; (try clear hb); (try clear hb2); (try clear hk); (try clear hi)))
        repeat (go_quiet (first | (go_at_call 8; (with_reducible refine (marquetrylaw17_answers.calls  t173 _ A6.out).mono ?_); clear A6; rintro e w7 ⟨rfl, hb⟩; have n0_ := Aside0.mk (below_step (by repeat (first | (with_reducible first | exact HB.out | apply below_alloc | apply pw_below_drewN | apply below_drew1) | exact HB.out)) hb); clear HB; have HB := n0_; clear n0_; (try clear hb); (try clear hb2); (try clear hk); (try clear hi))); try go_wp2_with (first | (go_at_call 8; (with_reducible refine (marquetrylaw17_answers.calls  t173 _ A6.out).mono ?_); clear A6; rintro e w7 ⟨rfl, hb⟩; have n0_ := Aside0.mk (below_step (by repeat (first | (with_reducible first | exact HB.out | apply below_alloc | apply pw_below_drewN | apply below_drew1) | exact HB.out)) hb); clear HB; have HB := n0_; clear n0_; (try clear hb); (try clear hb2); (try clear hk); (try clear hi))))
        go_ret
        exact ⟨by first | rfl | (simp [errW_none, errW_some] <;> rfl) | (simp [*, errW_none, errW_some] <;> rfl), by repeat (first | (with_reducible first | exact HB.out | apply below_alloc | apply pw_below_drewN | apply below_drew1) | exact HB.out)⟩
      · replace c5 := Bool.eq_false_iff.mpr c5
        subst c5
        have H1 : (marquetrylaw17_TokenRuns.l0 kj2 l0 (wrap64 ((wrap64 (Int.tmod a1 4096)) + 1)) ([] : List (S37)) 0) = some r := by rw [if_neg (show ¬ (false = true) by decide)] at H; exact H
        clear H
        have H := H1
        clear H1
        have H' := Aside0.mk H
        clear H
        go_wp2
        repeat (go_quiet (fail); try go_wp2)
        go_loopg [6, 7] kj2 (fun kq v6 v7 w' => ∃ (x6_2 : List (S37)) (x7_2 : Int), v7 = .int .i64 x7_2 ∧ Aside0 (marquetrylaw17_TokenRuns.l0 kq l0 (wrap64 ((wrap64 (Int.tmod a1 4096)) + 1)) x6_2 x7_2 = some r) ∧ Aside0 (kq ≤ kj2) ∧ Aside0 (Kd.R k37 37 w' w.heap.size (fun _ => True) v6 x6_2) ∧ Aside0 (Below w.heap.size w w'))
        case atStart => exact ⟨(([] : List (S37))), (0), (by first | rfl | (simp; done) | (simp [*]; done)), H', ⟨Nat.le_refl _⟩, ⟨by first | exact Kd.R_nil _ _ _ _ _ | exact Kd.N_nil _ _ _ _ _ | exact Kd.V_nil _ _ _ _ _ | exact Kd.Q_nil _ _ _ _ _ | exact Kd.S_nil _ _ _ _ _⟩, ⟨by repeat (first | (with_reducible first | exact HB.out | apply below_alloc | apply pw_below_drewN | apply below_drew1) | exact HB.out)⟩⟩
        case round =>
          clear H'
          try clear p2
          try clear c4
          try clear c4b0
          try clear c4b1
          try clear c4b2
          try clear c5
          try clear c6
          try clear p6
          try clear p2
          obtain ⟨x6_2, x7_2, rfl, HA, HK2, HO_6, HB⟩ := hrel
          cases gk with
          | zero => exact absurd HA.out (by simp [marquetrylaw17_TokenRuns.l0])
          | succ k2 =>
            have H := HA.out
            clear HA
            simp only [marquetrylaw17_TokenRuns.l0] at H
            by_cases c8 : x7_2 < (l0.length : Int)
            · rw [if_pos c8] at H
              have c8b0 : decide (x7_2 < (l0.length : Int)) = true := decide_eq_true c8
              clear c8
              by_cases c9 : 0 ≤ x7_2
              · rw [if_pos c9] at H
                have c9b0 : decide (0 ≤ x7_2) = true := decide_eq_true c9
                clear c9
                by_cases c10 : x6_2.length < 3518437208883
                · rw [if_pos c10] at H
                  have LMc10 := Aside0.mk c10
                  clear c10
                  obtain ⟨y175, hy175⟩ : ∃ y_ : List (S37), y_ = (x6_2 ++ [(⟨1, 0, 0, 0, rd l0 x7_2⟩ : S37)]) := ⟨_, rfl⟩
                  replace H : (marquetrylaw17_TokenRuns.l0 k2 l0 (wrap64 ((wrap64 (Int.tmod a1 4096)) + 1)) y175 (wrap64 (x7_2 + 1))) = some r := by first | (rw [hy175]; with_reducible exact H) | (have H2_ := (Option.bind_some _ _).symm.trans H; rw [hy175]; with_reducible exact H2_) | (have H2_ := (Option.bind_some _ _).symm.trans H; with_reducible exact H2_) | with_reducible exact H | (rw [hy175]; exact H) | exact H
                  have Ny175 := Aside0.mk hy175
                  clear hy175
                  have H' := Aside0.mk H
                  clear H
                  have p174 : 0 ≤ (x7_2 : Int) := of_decide_eq_true (by first | (with_reducible assumption) | assumption)
                  have q174 : x7_2 < (l0.length : Int) := of_decide_eq_true (by first | (with_reducible assumption) | assumption)
                  obtain ⟨ad174, e174, hx174_0⟩ := Kd.at_int HR0.out x7_2 p174 q174
                  cases e174
                  replace hx174_0 := (HB.out.cell (World.block_lt_of_cell? w _ hx174_0)).trans hx174_0
                  replace p174 := eq_true p174
                  replace q174 := eq_true q174
                  go_wp2_with (first | ((with_reducible refine gate_builtin (b := .append) (xs := #[.tmp 32, .tmp 38]) rfl ?_); (try (refine gate_guard (by rfl) ?_; dsimp only)); at_builtin; refine Kd.R_append k37 (w0 := w) w.heap.size rfl (.tmp 32) (.tmp 38) 22 37 (.agg #[(.int .i64 0), (.int .i64 0), (.int .i64 0), (.int .i64 0), (.int .u32 0)]) 40 rfl Try.underlying22 info37 rfl (by decide) (by omega) u6 x6_2 (⟨1, 0, 0, 0, rd l0 x7_2⟩ : S37) [.int .i64 1, .int .i64 0, .int .i64 0, .int .i64 0, .int .u32 (rd l0 x7_2)] (fun _ => True) (fun _ => False) rfl rfl ?aP (fun _ hk => hk.elim) ?aF ?aO ?aB ?aS ?aL ?_; (case aP => exact k37_mkM _ _ _ (⟨1, 0, 0, 0, rd l0 x7_2⟩ : S37)); (case aB => exact (by repeat (first | (with_reducible first | exact HB.out | apply below_alloc | apply pw_below_drewN | apply below_drew1) | exact HB.out))); (case aF => exact (fun _ _ => trivial)); (case aO => exact (by (with_reducible repeat (first | apply Kd.R_alloc | apply Kd.R_drewN | apply Kd.R_drew)); exact HO_6.out)); (case aS => exact (below_size (by repeat (first | (with_reducible first | exact HB.out | apply below_alloc | apply pw_below_drewN | apply below_drew1) | exact HB.out)))); (case aL => have := LMc10.out; omega); intro v176 w11 ho hb hg hat; rw [← Ny175.out] at ho; have n0_ := Aside0.mk (hb); have n1_ := Aside0.mk (ho); clear HB; clear HO_6; have HB := n0_; have HO177 := n1_; clear n0_ n1_; clear ho hb hg hat))
                  repeat (go_quiet (first | ((with_reducible refine gate_builtin (b := .append) (xs := #[.tmp 32, .tmp 38]) rfl ?_); (try (refine gate_guard (by rfl) ?_; dsimp only)); at_builtin; refine Kd.R_append k37 (w0 := w) w.heap.size rfl (.tmp 32) (.tmp 38) 22 37 (.agg #[(.int .i64 0), (.int .i64 0), (.int .i64 0), (.int .i64 0), (.int .u32 0)]) 40 rfl Try.underlying22 info37 rfl (by decide) (by omega) u6 x6_2 (⟨1, 0, 0, 0, rd l0 x7_2⟩ : S37) [.int .i64 1, .int .i64 0, .int .i64 0, .int .i64 0, .int .u32 (rd l0 x7_2)] (fun _ => True) (fun _ => False) rfl rfl ?aP (fun _ hk => hk.elim) ?aF ?aO ?aB ?aS ?aL ?_; (case aP => exact k37_mkM _ _ _ (⟨1, 0, 0, 0, rd l0 x7_2⟩ : S37)); (case aB => exact (by repeat (first | (with_reducible first | exact HB.out | apply below_alloc | apply pw_below_drewN | apply below_drew1) | exact HB.out))); (case aF => exact (fun _ _ => trivial)); (case aO => exact (by (with_reducible repeat (first | apply Kd.R_alloc | apply Kd.R_drewN | apply Kd.R_drew)); exact HO_6.out)); (case aS => exact (below_size (by repeat (first | (with_reducible first | exact HB.out | apply below_alloc | apply pw_below_drewN | apply below_drew1) | exact HB.out)))); (case aL => have := LMc10.out; omega); intro v176 w11 ho hb hg hat; rw [← Ny175.out] at ho; have n0_ := Aside0.mk (hb); have n1_ := Aside0.mk (ho); clear HB; clear HO_6; have HB := n0_; have HO177 := n1_; clear n0_ n1_; clear ho hb hg hat)); try go_wp2_with (first | ((with_reducible refine gate_builtin (b := .append) (xs := #[.tmp 32, .tmp 38]) rfl ?_); (try (refine gate_guard (by rfl) ?_; dsimp only)); at_builtin; refine Kd.R_append k37 (w0 := w) w.heap.size rfl (.tmp 32) (.tmp 38) 22 37 (.agg #[(.int .i64 0), (.int .i64 0), (.int .i64 0), (.int .i64 0), (.int .u32 0)]) 40 rfl Try.underlying22 info37 rfl (by decide) (by omega) u6 x6_2 (⟨1, 0, 0, 0, rd l0 x7_2⟩ : S37) [.int .i64 1, .int .i64 0, .int .i64 0, .int .i64 0, .int .u32 (rd l0 x7_2)] (fun _ => True) (fun _ => False) rfl rfl ?aP (fun _ hk => hk.elim) ?aF ?aO ?aB ?aS ?aL ?_; (case aP => exact k37_mkM _ _ _ (⟨1, 0, 0, 0, rd l0 x7_2⟩ : S37)); (case aB => exact (by repeat (first | (with_reducible first | exact HB.out | apply below_alloc | apply pw_below_drewN | apply below_drew1) | exact HB.out))); (case aF => exact (fun _ _ => trivial)); (case aO => exact (by (with_reducible repeat (first | apply Kd.R_alloc | apply Kd.R_drewN | apply Kd.R_drew)); exact HO_6.out)); (case aS => exact (below_size (by repeat (first | (with_reducible first | exact HB.out | apply below_alloc | apply pw_below_drewN | apply below_drew1) | exact HB.out)))); (case aL => have := LMc10.out; omega); intro v176 w11 ho hb hg hat; rw [← Ny175.out] at ho; have n0_ := Aside0.mk (hb); have n1_ := Aside0.mk (ho); clear HB; clear HO_6; have HB := n0_; have HO177 := n1_; clear n0_ n1_; clear ho hb hg hat)))
                  go_roundg k2
                  case measure => have := HJ2.out; have := HK2.out; omega
                  case rel => exact ⟨(y175), (wrap64 (x7_2 + 1)), (by first | rfl | (simp; done) | (simp [*]; done)), H', ⟨by have := HJ2.out; have := HK2.out; omega⟩, ⟨by (with_reducible repeat (first | apply Kd.R_alloc | apply Kd.R_drewN | apply Kd.R_drew)); exact HO177.out⟩, ⟨by repeat (first | (with_reducible first | exact HB.out | apply below_alloc | apply pw_below_drewN | apply below_drew1) | exact HB.out)⟩⟩
                · rw [if_neg c10] at H
                  exact absurd H (by simp)
              · rw [if_neg c9] at H
                exact absurd H (by simp)
            · rw [if_neg c8] at H
              have c8b0 : decide (x7_2 < (l0.length : Int)) = false := decide_eq_false c8
              clear c8
              by_cases c12 : x6_2.length < 3518437208883
              · rw [if_pos c12] at H
                have LMc12 := Aside0.mk c12
                clear c12
                obtain ⟨y178, hy178⟩ : ∃ y_ : List (S37), y_ = (x6_2 ++ [(⟨2, (wrap64 ((wrap64 (Int.tmod a1 4096)) + 1)), (l0.length : Int), 0, 0⟩ : S37)]) := ⟨_, rfl⟩
                replace H : ((token_Expand.f y178 (wrap64 ((l0.length : Int) + (wrap64 ((wrap64 (Int.tmod a1 4096)) + 1)))) 0).bind fun bt181 => (if bt181.2 = 0 then (marquetrylaw17_TokenRuns.j2 k2 l0 (wrap64 ((wrap64 (Int.tmod a1 4096)) + 1)) y178 bt181.1 ((bt181.1.length : Int) != (wrap64 ((l0.length : Int) + (wrap64 ((wrap64 (Int.tmod a1 4096)) + 1)))))) else (marquetrylaw17_TokenRuns.j2 k2 l0 (wrap64 ((wrap64 (Int.tmod a1 4096)) + 1)) y178 bt181.1 true))) = some r := by first | (rw [hy178]; with_reducible exact H) | (have H2_ := (Option.bind_some _ _).symm.trans H; rw [hy178]; with_reducible exact H2_) | (have H2_ := (Option.bind_some _ _).symm.trans H; with_reducible exact H2_) | with_reducible exact H | (rw [hy178]; exact H) | exact H
                have Ny178 := Aside0.mk hy178
                clear hy178
                replace H := Option.bind_eq_some_iff.mp H
                obtain ⟨⟨t181, t182⟩, A130, H⟩ := H
                replace H : (if t182 = 0 then (marquetrylaw17_TokenRuns.j2 k2 l0 (wrap64 ((wrap64 (Int.tmod a1 4096)) + 1)) y178 t181 ((t181.length : Int) != (wrap64 ((l0.length : Int) + (wrap64 ((wrap64 (Int.tmod a1 4096)) + 1)))))) else (marquetrylaw17_TokenRuns.j2 k2 l0 (wrap64 ((wrap64 (Int.tmod a1 4096)) + 1)) y178 t181 true)) = some r := H
                have A13 := Aside0.mk A130
                clear A130
                have HC14 := Aside0.mk H
                clear H
                go_upto_region 11 with (first | ((with_reducible refine gate_builtin (b := .append) (xs := #[.tmp 40, .tmp 45]) rfl ?_); (try (refine gate_guard (by rfl) ?_; dsimp only)); at_builtin; refine Kd.R_append k37 (w0 := w) w.heap.size rfl (.tmp 40) (.tmp 45) 22 37 (.agg #[(.int .i64 0), (.int .i64 0), (.int .i64 0), (.int .i64 0), (.int .u32 0)]) 40 rfl Try.underlying22 info37 rfl (by decide) (by omega) u6 x6_2 (⟨2, (wrap64 ((wrap64 (Int.tmod a1 4096)) + 1)), (l0.length : Int), 0, 0⟩ : S37) [.int .i64 2, .int .i64 (wrap64 ((wrap64 (Int.tmod a1 4096)) + 1)), .int .i64 (l0.length : Int), .int .i64 0, .int .u32 0] (fun _ => True) (fun _ => False) rfl rfl ?aP (fun _ hk => hk.elim) ?aF ?aO ?aB ?aS ?aL ?_; (case aP => exact k37_mkM _ _ _ (⟨2, (wrap64 ((wrap64 (Int.tmod a1 4096)) + 1)), (l0.length : Int), 0, 0⟩ : S37)); (case aB => exact (by repeat (first | (with_reducible first | exact HB.out | apply below_alloc | apply pw_below_drewN | apply below_drew1) | exact HB.out))); (case aF => exact (fun _ _ => trivial)); (case aO => exact (by (with_reducible repeat (first | apply Kd.R_alloc | apply Kd.R_drewN | apply Kd.R_drew)); exact HO_6.out)); (case aS => exact (below_size (by repeat (first | (with_reducible first | exact HB.out | apply below_alloc | apply pw_below_drewN | apply below_drew1) | exact HB.out)))); (case aL => have := LMc12.out; omega); intro v179 w15 ho hb hg hat; rw [← Ny178.out] at ho; have n0_ := Aside0.mk (hb); have n1_ := Aside0.mk (ho); clear HB; clear HO_6; have HB := n0_; have HO180 := n1_; clear n0_ n1_; clear ho hb hg hat; obtain ⟨Ao16, co16, eo16⟩ := Kd.R_slice HO180.out; subst eo16) | (go_at_call 9; (with_reducible refine (token_Expand.calls _ _ y178 (wrap64 ((l0.length : Int) + (wrap64 ((wrap64 (Int.tmod a1 4096)) + 1)))) 0 t181 t182 _ ?side1 ?side2 A13.out).mono ?_); (case side1 => repeat (first | exact (Kd.R_reads' HO180.out).2.2 | (with_reducible refine Kd.C_alloc ?_ _) | (with_reducible refine Kd.C_drewN ?_ _) | (with_reducible refine Kd.C_drew ?_))); (case side2 => exact (Kd.R_reads' HO180.out).2.1); rintro e w17 ⟨v183, rfl, ho0, hb⟩; have n0_ := Aside0.mk (Kd.R_below (by (with_reducible repeat (first | apply Kd.R_alloc | apply Kd.R_drewN | apply Kd.R_drew)); exact HO180.out) hb); have n1_ := Aside0.mk (Kd.R_lower ho0 (below_size (by repeat (first | (with_reducible first | exact HB.out | apply below_alloc | apply pw_below_drewN | apply below_drew1) | exact HB.out)))); have n2_ := Aside0.mk (below_step (by repeat (first | (with_reducible first | exact HB.out | apply below_alloc | apply pw_below_drewN | apply below_drew1) | exact HB.out)) hb); clear HO180; clear HB; have HO180 := n0_; have HO184 := n1_; have HB := n2_; clear n0_ n1_ n2_; (try clear hb); (try clear hb2); (try clear hk); (try clear hi); (try clear ho0)))
                repeat (go_quiet (first | ((with_reducible refine gate_builtin (b := .append) (xs := #[.tmp 40, .tmp 45]) rfl ?_); (try (refine gate_guard (by rfl) ?_; dsimp only)); at_builtin; refine Kd.R_append k37 (w0 := w) w.heap.size rfl (.tmp 40) (.tmp 45) 22 37 (.agg #[(.int .i64 0), (.int .i64 0), (.int .i64 0), (.int .i64 0), (.int .u32 0)]) 40 rfl Try.underlying22 info37 rfl (by decide) (by omega) u6 x6_2 (⟨2, (wrap64 ((wrap64 (Int.tmod a1 4096)) + 1)), (l0.length : Int), 0, 0⟩ : S37) [.int .i64 2, .int .i64 (wrap64 ((wrap64 (Int.tmod a1 4096)) + 1)), .int .i64 (l0.length : Int), .int .i64 0, .int .u32 0] (fun _ => True) (fun _ => False) rfl rfl ?aP (fun _ hk => hk.elim) ?aF ?aO ?aB ?aS ?aL ?_; (case aP => exact k37_mkM _ _ _ (⟨2, (wrap64 ((wrap64 (Int.tmod a1 4096)) + 1)), (l0.length : Int), 0, 0⟩ : S37)); (case aB => exact (by repeat (first | (with_reducible first | exact HB.out | apply below_alloc | apply pw_below_drewN | apply below_drew1) | exact HB.out))); (case aF => exact (fun _ _ => trivial)); (case aO => exact (by (with_reducible repeat (first | apply Kd.R_alloc | apply Kd.R_drewN | apply Kd.R_drew)); exact HO_6.out)); (case aS => exact (below_size (by repeat (first | (with_reducible first | exact HB.out | apply below_alloc | apply pw_below_drewN | apply below_drew1) | exact HB.out)))); (case aL => have := LMc12.out; omega); intro v179 w15 ho hb hg hat; rw [← Ny178.out] at ho; have n0_ := Aside0.mk (hb); have n1_ := Aside0.mk (ho); clear HB; clear HO_6; have HB := n0_; have HO180 := n1_; clear n0_ n1_; clear ho hb hg hat; obtain ⟨Ao16, co16, eo16⟩ := Kd.R_slice HO180.out; subst eo16) | (go_at_call 9; (with_reducible refine (token_Expand.calls _ _ y178 (wrap64 ((l0.length : Int) + (wrap64 ((wrap64 (Int.tmod a1 4096)) + 1)))) 0 t181 t182 _ ?side1 ?side2 A13.out).mono ?_); (case side1 => repeat (first | exact (Kd.R_reads' HO180.out).2.2 | (with_reducible refine Kd.C_alloc ?_ _) | (with_reducible refine Kd.C_drewN ?_ _) | (with_reducible refine Kd.C_drew ?_))); (case side2 => exact (Kd.R_reads' HO180.out).2.1); rintro e w17 ⟨v183, rfl, ho0, hb⟩; have n0_ := Aside0.mk (Kd.R_below (by (with_reducible repeat (first | apply Kd.R_alloc | apply Kd.R_drewN | apply Kd.R_drew)); exact HO180.out) hb); have n1_ := Aside0.mk (Kd.R_lower ho0 (below_size (by repeat (first | (with_reducible first | exact HB.out | apply below_alloc | apply pw_below_drewN | apply below_drew1) | exact HB.out)))); have n2_ := Aside0.mk (below_step (by repeat (first | (with_reducible first | exact HB.out | apply below_alloc | apply pw_below_drewN | apply below_drew1) | exact HB.out)) hb); clear HO180; clear HB; have HO180 := n0_; have HO184 := n1_; have HB := n2_; clear n0_ n1_ n2_; (try clear hb); (try clear hb2); (try clear hk); (try clear hi); (try clear ho0))); go_upto_region 11 with (first | ((with_reducible refine gate_builtin (b := .append) (xs := #[.tmp 40, .tmp 45]) rfl ?_); (try (refine gate_guard (by rfl) ?_; dsimp only)); at_builtin; refine Kd.R_append k37 (w0 := w) w.heap.size rfl (.tmp 40) (.tmp 45) 22 37 (.agg #[(.int .i64 0), (.int .i64 0), (.int .i64 0), (.int .i64 0), (.int .u32 0)]) 40 rfl Try.underlying22 info37 rfl (by decide) (by omega) u6 x6_2 (⟨2, (wrap64 ((wrap64 (Int.tmod a1 4096)) + 1)), (l0.length : Int), 0, 0⟩ : S37) [.int .i64 2, .int .i64 (wrap64 ((wrap64 (Int.tmod a1 4096)) + 1)), .int .i64 (l0.length : Int), .int .i64 0, .int .u32 0] (fun _ => True) (fun _ => False) rfl rfl ?aP (fun _ hk => hk.elim) ?aF ?aO ?aB ?aS ?aL ?_; (case aP => exact k37_mkM _ _ _ (⟨2, (wrap64 ((wrap64 (Int.tmod a1 4096)) + 1)), (l0.length : Int), 0, 0⟩ : S37)); (case aB => exact (by repeat (first | (with_reducible first | exact HB.out | apply below_alloc | apply pw_below_drewN | apply below_drew1) | exact HB.out))); (case aF => exact (fun _ _ => trivial)); (case aO => exact (by (with_reducible repeat (first | apply Kd.R_alloc | apply Kd.R_drewN | apply Kd.R_drew)); exact HO_6.out)); (case aS => exact (below_size (by repeat (first | (with_reducible first | exact HB.out | apply below_alloc | apply pw_below_drewN | apply below_drew1) | exact HB.out)))); (case aL => have := LMc12.out; omega); intro v179 w15 ho hb hg hat; rw [← Ny178.out] at ho; have n0_ := Aside0.mk (hb); have n1_ := Aside0.mk (ho); clear HB; clear HO_6; have HB := n0_; have HO180 := n1_; clear n0_ n1_; clear ho hb hg hat; obtain ⟨Ao16, co16, eo16⟩ := Kd.R_slice HO180.out; subst eo16) | (go_at_call 9; (with_reducible refine (token_Expand.calls _ _ y178 (wrap64 ((l0.length : Int) + (wrap64 ((wrap64 (Int.tmod a1 4096)) + 1)))) 0 t181 t182 _ ?side1 ?side2 A13.out).mono ?_); (case side1 => repeat (first | exact (Kd.R_reads' HO180.out).2.2 | (with_reducible refine Kd.C_alloc ?_ _) | (with_reducible refine Kd.C_drewN ?_ _) | (with_reducible refine Kd.C_drew ?_))); (case side2 => exact (Kd.R_reads' HO180.out).2.1); rintro e w17 ⟨v183, rfl, ho0, hb⟩; have n0_ := Aside0.mk (Kd.R_below (by (with_reducible repeat (first | apply Kd.R_alloc | apply Kd.R_drewN | apply Kd.R_drew)); exact HO180.out) hb); have n1_ := Aside0.mk (Kd.R_lower ho0 (below_size (by repeat (first | (with_reducible first | exact HB.out | apply below_alloc | apply pw_below_drewN | apply below_drew1) | exact HB.out)))); have n2_ := Aside0.mk (below_step (by repeat (first | (with_reducible first | exact HB.out | apply below_alloc | apply pw_below_drewN | apply below_drew1) | exact HB.out)) hb); clear HO180; clear HB; have HO180 := n0_; have HO184 := n1_; have HB := n2_; clear n0_ n1_ n2_; (try clear hb); (try clear hb2); (try clear hk); (try clear hi); (try clear ho0))))
                (try simp only [Act.put, List.setIfInBounds_toArray, List.set_cons_zero, List.set_cons_succ])
                go_cut [66] (fun v66 wc => ∃ (kq : Nat) (x66_13 : Bool), v66 = .bool x66_13 ∧ Aside0 (marquetrylaw17_TokenRuns.j2 kq l0 (wrap64 ((wrap64 (Int.tmod a1 4096)) + 1)) y178 t181 x66_13 = some r) ∧ Aside0 (kq ≤ k2) ∧ Aside0 (Kd.R k37 37 wc w.heap.size (fun _ => True) (.slice Ao16 y178.length co16) y178) ∧ Aside0 (Kd.R (Kd.int .u32) 35 wc w.heap.size (fun _ => True) v183 t181) ∧ Aside0 (Below w.heap.size w wc))
                case first =>
                  have H := HC14.out
                  clear HC14
                  by_cases c18 : t182 = 0
                  · rw [if_pos c18] at H
                    have c18b0 : (t182 == 0) = true := beq_iff_eq.mpr c18
                    have c18b1 : (t182 != 0) = false := bne_eq_false_iff_eq.mpr c18
                    clear c18
                    (first | rw [c18b0] | (simp only [i64_w, i32_w]; rw [c18b0]) | skip)
                    have H' := Aside0.mk H
                    clear H
                    obtain ⟨Ao19, co19, eo19⟩ := Kd.R_slice HO184.out
                    subst eo19
                    go_wp2
                    repeat (go_quiet (fail); try go_wp2)
                    go_meet
                    case rel => exact ⟨_, (((t181.length : Int) != (wrap64 ((l0.length : Int) + (wrap64 ((wrap64 (Int.tmod a1 4096)) + 1)))))), (by first | rfl | (simp; done) | (simp [*]; done)), H', ⟨by have := HJ2.out; have := HK2.out; first | omega | exact Nat.le_refl _⟩, ⟨by (with_reducible repeat (first | apply Kd.R_alloc | apply Kd.R_drewN | apply Kd.R_drew)); exact HO180.out⟩, ⟨by (with_reducible repeat (first | apply Kd.R_alloc | apply Kd.R_drewN | apply Kd.R_drew)); exact HO184.out⟩, ⟨by repeat (first | (with_reducible first | exact HB.out | apply below_alloc | apply pw_below_drewN | apply below_drew1) | exact HB.out)⟩⟩
                  · rw [if_neg c18] at H
                    have c18b0 : (t182 == 0) = false := beq_eq_false_iff_ne.mpr c18
                    have c18b1 : (t182 != 0) = true := bne_iff_ne.mpr c18
                    (first | rw [c18b0] | (simp only [i64_w, i32_w]; rw [c18b0]) | skip)
                    have H' := Aside0.mk H
                    clear H
                    go_wp2
                    repeat (go_quiet (fail); try go_wp2)
                    go_meet
                    case rel => exact ⟨_, (true), (by first | rfl | (simp; done) | (simp [*]; done)), H', ⟨by have := HJ2.out; have := HK2.out; first | omega | exact Nat.le_refl _⟩, ⟨by (with_reducible repeat (first | apply Kd.R_alloc | apply Kd.R_drewN | apply Kd.R_drew)); exact HO180.out⟩, ⟨by (with_reducible repeat (first | apply Kd.R_alloc | apply Kd.R_drewN | apply Kd.R_drew)); exact HO184.out⟩, ⟨by repeat (first | (with_reducible first | exact HB.out | apply below_alloc | apply pw_below_drewN | apply below_drew1) | exact HB.out)⟩⟩
                case rest =>
                  clear HC14
                  try clear c1
                  try clear p1
                  try clear q1
                  try clear hx1
                  try clear p2
                  try clear c4
                  try clear c4b0
                  try clear c4b1
                  try clear c4b2
                  try clear c5
                  try clear c6
                  try clear p6
                  try clear c8
                  try clear c8b0
                  try clear c9
                  try clear c9b0
                  try clear c10
                  try clear c12
                  try clear p17
                  try clear q17
                  try clear hx17
                  try clear c18
                  try clear c18b0
                  try clear c18b1
                  try clear hx174_0
                  try clear p174
                  try clear p2
                  try clear p6
                  try clear q174
                  obtain ⟨kq, x66_13, rfl, HA, HJ13, HO_6, HO_8, HB⟩ := hcut
                  cases kq with
                  | zero => exact absurd HA.out (by simp [marquetrylaw17_TokenRuns.j2])
                  | succ kj13 =>
                    have H := HA.out
                    clear HA
                    simp only [marquetrylaw17_TokenRuns.j2] at H
                    by_cases c20 : x66_13 = true
                    · subst c20
                      have H1 : (some false) = some r := by rw [if_pos rfl] at H; exact H
                      clear H
                      have H := H1
                      clear H1
                      exact absurd ((Option.some.inj H).trans Hr.out) (by decide)
                    · replace c20 := Bool.eq_false_iff.mpr c20
                      subst c20
                      have H1 : (marquetrylaw17_TokenRuns.l1 kj13 l0 (wrap64 ((wrap64 (Int.tmod a1 4096)) + 1)) y178 t181 0) = some r := by rw [if_neg (show ¬ (false = true) by decide)] at H; exact H
                      clear H
                      have H := H1
                      clear H1
                      have H' := Aside0.mk H
                      clear H
                      go_wp2
                      repeat (go_quiet (fail); try go_wp2)
                      go_loopg [10] kj13 (fun kq v10 w' => ∃ (x10_4 : Int), v10 = .int .i64 x10_4 ∧ Aside0 (marquetrylaw17_TokenRuns.l1 kq l0 (wrap64 ((wrap64 (Int.tmod a1 4096)) + 1)) y178 t181 x10_4 = some r) ∧ Aside0 (kq ≤ kj13) ∧ Aside0 (Kd.R k37 37 w' w.heap.size (fun _ => True) (.slice Ao16 y178.length co16) y178) ∧ Aside0 (Kd.R (Kd.int .u32) 35 w' w.heap.size (fun _ => True) v183 t181) ∧ Aside0 (Below w.heap.size w w'))
                      case atStart => exact ⟨(0), (by first | rfl | (simp; done) | (simp [*]; done)), H', ⟨Nat.le_refl _⟩, ⟨by (with_reducible repeat (first | apply Kd.R_alloc | apply Kd.R_drewN | apply Kd.R_drew)); exact HO_6.out⟩, ⟨by (with_reducible repeat (first | apply Kd.R_alloc | apply Kd.R_drewN | apply Kd.R_drew)); exact HO_8.out⟩, ⟨by repeat (first | (with_reducible first | exact HB.out | apply below_alloc | apply pw_below_drewN | apply below_drew1) | exact HB.out)⟩⟩
                      case round =>
                        clear H'
                        try clear c1
                        try clear p1
                        try clear q1
                        try clear hx1
                        try clear c2
                        try clear p2
                        try clear c4
                        try clear c4b0
                        try clear c4b1
                        try clear c4b2
                        try clear c5
                        try clear c6
                        try clear p6
                        try clear c8
                        try clear c8b0
                        try clear c9
                        try clear c9b0
                        try clear c10
                        try clear c12
                        try clear p17
                        try clear q17
                        try clear hx17
                        try clear c18
                        try clear c18b0
                        try clear c18b1
                        try clear c20
                        try clear hx174_0
                        try clear p1
                        try clear p17
                        try clear p174
                        try clear p2
                        try clear p6
                        try clear q1
                        try clear q17
                        try clear q174
                        obtain ⟨x10_4, rfl, HA, HK4, HO_6, HO_8, HB⟩ := hrel
                        cases gk with
                        | zero => exact absurd HA.out (by simp [marquetrylaw17_TokenRuns.l1])
                        | succ k4 =>
                          have H := HA.out
                          clear HA
                          simp only [marquetrylaw17_TokenRuns.l1] at H
                          by_cases c21 : x10_4 < (t181.length : Int)
                          · rw [if_pos c21] at H
                            have c21b0 : decide (x10_4 < (t181.length : Int)) = true := decide_eq_true c21
                            clear c21
                            by_cases c22 : 0 ≤ x10_4
                            · rw [if_pos c22] at H
                              have c22b0 : decide (0 ≤ x10_4) = true := decide_eq_true c22
                              clear c22
                              by_cases c23 : (l0.length : Int) = 0
                              · rw [if_pos c23] at H
                                exact absurd H (by simp)
                              · rw [if_neg c23] at H
                                have c23b0 : ((l0.length : Int) == 0) = false := beq_eq_false_iff_ne.mpr c23
                                have c23b1 : ((l0.length : Int) != 0) = true := bne_iff_ne.mpr c23
                                have c23b2 : ¬ (l0 = []) := fun h_ => c23 (by rw [h_]; rfl)
                                obtain ⟨ji24, hji24⟩ : ∃ j_ : Int, (Int.tmod x10_4 (l0.length : Int)) = j_ := ⟨_, rfl⟩
                                replace H : (if 0 ≤ (ji24) then (if (ji24) < (l0.length : Int) then (if (rd t181 x10_4) = (rd l0 (ji24)) then (marquetrylaw17_TokenRuns.l1 k4 l0 (wrap64 ((wrap64 (Int.tmod a1 4096)) + 1)) y178 t181 (wrap64 (x10_4 + 1))) else (some false)) else (none)) else (none)) = some r := by first | (rw [hji24] at H; exact H) | (simp only [hji24] at H ⊢; exact H)
                                by_cases c25 : 0 ≤ (ji24)
                                · rw [if_pos c25] at H
                                  have c25b0 : decide (0 ≤ (ji24)) = true := decide_eq_true c25
                                  clear c25
                                  by_cases c26 : (ji24) < (l0.length : Int)
                                  · rw [if_pos c26] at H
                                    have c26b0 : decide ((ji24) < (l0.length : Int)) = true := decide_eq_true c26
                                    clear c26
                                    by_cases c27 : (rd t181 x10_4) = (rd l0 (ji24))
                                    · rw [if_pos c27] at H
                                      have c27b0 : ((rd t181 x10_4) == (rd l0 (ji24))) = true := beq_iff_eq.mpr c27
                                      have c27b1 : ((rd t181 x10_4) != (rd l0 (ji24))) = false := bne_eq_false_iff_eq.mpr c27
                                      clear c27
                                      have H' := Aside0.mk H
                                      clear H
                                      obtain ⟨Ao28, co28, eo28⟩ := Kd.R_slice HO_8.out
                                      subst eo28
                                      have p185 : 0 ≤ (x10_4 : Int) := of_decide_eq_true (by first | (with_reducible assumption) | assumption)
                                      have q185 : x10_4 < (t181.length : Int) := of_decide_eq_true (by first | (with_reducible assumption) | assumption)
                                      obtain ⟨ad185, e185, hx185_0⟩ := Kd.at_int (Kd.R_reads' HO_8.out).2.2 x10_4 p185 q185
                                      cases e185
                                      replace p185 := eq_true p185
                                      replace q185 := eq_true q185
                                      have p186 : 0 ≤ ((ji24) : Int) := of_decide_eq_true (by first | (with_reducible assumption) | assumption)
                                      have q186 : (ji24) < (l0.length : Int) := of_decide_eq_true (by first | (with_reducible assumption) | assumption)
                                      obtain ⟨ad186, e186, hx186_0⟩ := Kd.at_int HR0.out (ji24) p186 q186
                                      cases e186
                                      replace hx186_0 := (HB.out.cell (World.block_lt_of_cell? w _ hx186_0)).trans hx186_0
                                      replace p186 := eq_true p186
                                      replace q186 := eq_true q186
                                      go_wp2
                                      repeat (go_quiet (fail); try go_wp2)
                                      go_roundg k4
                                      case measure => have := HJ2.out; have := HK2.out; have := HJ13.out; have := HK4.out; omega
                                      case rel => exact ⟨(wrap64 (x10_4 + 1)), (by first | rfl | (simp; done) | (simp [*]; done)), H', ⟨by have := HJ2.out; have := HK2.out; have := HJ13.out; have := HK4.out; omega⟩, ⟨by (with_reducible repeat (first | apply Kd.R_alloc | apply Kd.R_drewN | apply Kd.R_drew)); exact HO_6.out⟩, ⟨by (with_reducible repeat (first | apply Kd.R_alloc | apply Kd.R_drewN | apply Kd.R_drew)); exact HO_8.out⟩, ⟨by repeat (first | (with_reducible first | exact HB.out | apply below_alloc | apply pw_below_drewN | apply below_drew1) | exact HB.out)⟩⟩
                                    · rw [if_neg c27] at H
                                      have c27b0 : ((rd t181 x10_4) == (rd l0 (ji24))) = false := beq_eq_false_iff_ne.mpr c27
                                      have c27b1 : ((rd t181 x10_4) != (rd l0 (ji24))) = true := bne_iff_ne.mpr c27
                                      exact absurd ((Option.some.inj H).trans Hr.out) (by decide)
                                  · rw [if_neg c26] at H
                                    exact absurd H (by simp)
                                · rw [if_neg c25] at H
                                  exact absurd H (by simp)
                            · rw [if_neg c22] at H
                              exact absurd H (by simp)
                          · rw [if_neg c21] at H
                            have c21b0 : decide (x10_4 < (t181.length : Int)) = false := decide_eq_false c21
                            clear c21
                            replace H := Option.bind_eq_some_iff.mp H
                            obtain ⟨⟨t187, t188⟩, A290, H⟩ := H
                            replace H : ((marquetrylaw17_answers.f).bind fun t191 => (if t191 = true then (some (t188 == 3)) else (some false))) = some r := H
                            have A29 := Aside0.mk A290
                            clear A290
                            replace H := Option.bind_eq_some_iff.mp H
                            obtain ⟨t191, A300, H⟩ := H
                            replace H : (if t191 = true then (some (t188 == 3)) else (some false)) = some r := H
                            have A30 := Aside0.mk A300
                            clear A300
                            by_cases c31 : t191 = true
                            · subst c31
                              have H1 : (some (t188 == 3)) = some r := by rw [if_pos rfl] at H; exact H
                              clear H
                              have H := H1
                              clear H1
                              obtain rfl := Option.some.inj H
                              obtain ⟨Ao32, co32, eo32⟩ := Kd.R_slice HO_8.out
                              subst eo32
                              go_wp2_with (first | (go_at_call 9; (with_reducible refine (token_Expand.calls _ _ y178 (wrap64 ((wrap64 ((l0.length : Int) + (wrap64 ((wrap64 (Int.tmod a1 4096)) + 1)))) - 1)) 0 t187 t188 _ ?side1 ?side2 A29.out).mono ?_); (case side1 => repeat (first | exact (Kd.R_reads' HO_6.out).2.2 | (with_reducible refine Kd.C_alloc ?_ _) | (with_reducible refine Kd.C_drewN ?_ _) | (with_reducible refine Kd.C_drew ?_))); (case side2 => exact (Kd.R_reads' HO_6.out).2.1); rintro e w33 ⟨v189, rfl, ho0, hb⟩; have n0_ := Aside0.mk (Kd.R_below (by (with_reducible repeat (first | apply Kd.R_alloc | apply Kd.R_drewN | apply Kd.R_drew)); exact HO_6.out) hb); have n1_ := Aside0.mk (Kd.R_elder' (by (with_reducible repeat (first | apply Kd.R_alloc | apply Kd.R_drewN | apply Kd.R_drew)); exact HO_8.out) (Kd.R_base ho0) hb); have n2_ := Aside0.mk (Kd.R_lower (Kd.R_new' ho0 (Kd.R_lt (by (with_reducible repeat (first | apply Kd.R_alloc | apply Kd.R_drewN | apply Kd.R_drew)); exact HO_8.out))) (below_size (by repeat (first | (with_reducible first | exact HB.out | apply below_alloc | apply pw_below_drewN | apply below_drew1) | exact HB.out)))); have n3_ := Aside0.mk (below_step (by repeat (first | (with_reducible first | exact HB.out | apply below_alloc | apply pw_below_drewN | apply below_drew1) | exact HB.out)) hb); clear HO_6; clear HO_8; clear HB; have HO_6 := n0_; have HO_8 := n1_; have HO190 := n2_; have HB := n3_; clear n0_ n1_ n2_ n3_; (try clear hb); (try clear hb2); (try clear hk); (try clear hi); (try clear ho0)) | (go_at_call 8; (with_reducible refine (marquetrylaw17_answers.calls  true _ A30.out).mono ?_); clear A30; rintro e w34 ⟨rfl, hb⟩; have n0_ := Aside0.mk (Kd.R_below (by (with_reducible repeat (first | apply Kd.R_alloc | apply Kd.R_drewN | apply Kd.R_drew)); exact HO_6.out) hb); have n1_ := Aside0.mk (Kd.R_below (by (with_reducible repeat (first | apply Kd.R_alloc | apply Kd.R_drewN | apply Kd.R_drew)); exact HO_8.out) hb); have n2_ := Aside0.mk (Kd.R_below (by (with_reducible repeat (first | apply Kd.R_alloc | apply Kd.R_drewN | apply Kd.R_drew)); exact HO190.out) hb); have n3_ := Aside0.mk (below_step (by repeat (first | (with_reducible first | exact HB.out | apply below_alloc | apply pw_below_drewN | apply below_drew1) | exact HB.out)) hb); clear HO_6; clear HO_8; clear HO190; clear HB; have HO_6 := n0_; have HO_8 := n1_; have HO190 := n2_; have HB := n3_; clear n0_ n1_ n2_ n3_; (try clear hb); (try clear hb2); (try clear hk); (try clear hi)))
                              repeat (go_quiet (first | (go_at_call 9; (with_reducible refine (token_Expand.calls _ _ y178 (wrap64 ((wrap64 ((l0.length : Int) + (wrap64 ((wrap64 (Int.tmod a1 4096)) + 1)))) - 1)) 0 t187 t188 _ ?side1 ?side2 A29.out).mono ?_); (case side1 => repeat (first | exact (Kd.R_reads' HO_6.out).2.2 | (with_reducible refine Kd.C_alloc ?_ _) | (with_reducible refine Kd.C_drewN ?_ _) | (with_reducible refine Kd.C_drew ?_))); (case side2 => exact (Kd.R_reads' HO_6.out).2.1); rintro e w33 ⟨v189, rfl, ho0, hb⟩; have n0_ := Aside0.mk (Kd.R_below (by (with_reducible repeat (first | apply Kd.R_alloc | apply Kd.R_drewN | apply Kd.R_drew)); exact HO_6.out) hb); have n1_ := Aside0.mk (Kd.R_elder' (by (with_reducible repeat (first | apply Kd.R_alloc | apply Kd.R_drewN | apply Kd.R_drew)); exact HO_8.out) (Kd.R_base ho0) hb); have n2_ := Aside0.mk (Kd.R_lower (Kd.R_new' ho0 (Kd.R_lt (by (with_reducible repeat (first | apply Kd.R_alloc | apply Kd.R_drewN | apply Kd.R_drew)); exact HO_8.out))) (below_size (by repeat (first | (with_reducible first | exact HB.out | apply below_alloc | apply pw_below_drewN | apply below_drew1) | exact HB.out)))); have n3_ := Aside0.mk (below_step (by repeat (first | (with_reducible first | exact HB.out | apply below_alloc | apply pw_below_drewN | apply below_drew1) | exact HB.out)) hb); clear HO_6; clear HO_8; clear HB; have HO_6 := n0_; have HO_8 := n1_; have HO190 := n2_; have HB := n3_; clear n0_ n1_ n2_ n3_; (try clear hb); (try clear hb2); (try clear hk); (try clear hi); (try clear ho0)) | (go_at_call 8; (with_reducible refine (marquetrylaw17_answers.calls  true _ A30.out).mono ?_); clear A30; rintro e w34 ⟨rfl, hb⟩; have n0_ := Aside0.mk (Kd.R_below (by (with_reducible repeat (first | apply Kd.R_alloc | apply Kd.R_drewN | apply Kd.R_drew)); exact HO_6.out) hb); have n1_ := Aside0.mk (Kd.R_below (by (with_reducible repeat (first | apply Kd.R_alloc | apply Kd.R_drewN | apply Kd.R_drew)); exact HO_8.out) hb); have n2_ := Aside0.mk (Kd.R_below (by (with_reducible repeat (first | apply Kd.R_alloc | apply Kd.R_drewN | apply Kd.R_drew)); exact HO190.out) hb); have n3_ := Aside0.mk (below_step (by repeat (first | (with_reducible first | exact HB.out | apply below_alloc | apply pw_below_drewN | apply below_drew1) | exact HB.out)) hb); clear HO_6; clear HO_8; clear HO190; clear HB; have HO_6 := n0_; have HO_8 := n1_; have HO190 := n2_; have HB := n3_; clear n0_ n1_ n2_ n3_; (try clear hb); (try clear hb2); (try clear hk); (try clear hi))); try go_wp2_with (first | (go_at_call 9; (with_reducible refine (token_Expand.calls _ _ y178 (wrap64 ((wrap64 ((l0.length : Int) + (wrap64 ((wrap64 (Int.tmod a1 4096)) + 1)))) - 1)) 0 t187 t188 _ ?side1 ?side2 A29.out).mono ?_); (case side1 => repeat (first | exact (Kd.R_reads' HO_6.out).2.2 | (with_reducible refine Kd.C_alloc ?_ _) | (with_reducible refine Kd.C_drewN ?_ _) | (with_reducible refine Kd.C_drew ?_))); (case side2 => exact (Kd.R_reads' HO_6.out).2.1); rintro e w33 ⟨v189, rfl, ho0, hb⟩; have n0_ := Aside0.mk (Kd.R_below (by (with_reducible repeat (first | apply Kd.R_alloc | apply Kd.R_drewN | apply Kd.R_drew)); exact HO_6.out) hb); have n1_ := Aside0.mk (Kd.R_elder' (by (with_reducible repeat (first | apply Kd.R_alloc | apply Kd.R_drewN | apply Kd.R_drew)); exact HO_8.out) (Kd.R_base ho0) hb); have n2_ := Aside0.mk (Kd.R_lower (Kd.R_new' ho0 (Kd.R_lt (by (with_reducible repeat (first | apply Kd.R_alloc | apply Kd.R_drewN | apply Kd.R_drew)); exact HO_8.out))) (below_size (by repeat (first | (with_reducible first | exact HB.out | apply below_alloc | apply pw_below_drewN | apply below_drew1) | exact HB.out)))); have n3_ := Aside0.mk (below_step (by repeat (first | (with_reducible first | exact HB.out | apply below_alloc | apply pw_below_drewN | apply below_drew1) | exact HB.out)) hb); clear HO_6; clear HO_8; clear HB; have HO_6 := n0_; have HO_8 := n1_; have HO190 := n2_; have HB := n3_; clear n0_ n1_ n2_ n3_; (try clear hb); (try clear hb2); (try clear hk); (try clear hi); (try clear ho0)) | (go_at_call 8; (with_reducible refine (marquetrylaw17_answers.calls  true _ A30.out).mono ?_); clear A30; rintro e w34 ⟨rfl, hb⟩; have n0_ := Aside0.mk (Kd.R_below (by (with_reducible repeat (first | apply Kd.R_alloc | apply Kd.R_drewN | apply Kd.R_drew)); exact HO_6.out) hb); have n1_ := Aside0.mk (Kd.R_below (by (with_reducible repeat (first | apply Kd.R_alloc | apply Kd.R_drewN | apply Kd.R_drew)); exact HO_8.out) hb); have n2_ := Aside0.mk (Kd.R_below (by (with_reducible repeat (first | apply Kd.R_alloc | apply Kd.R_drewN | apply Kd.R_drew)); exact HO190.out) hb); have n3_ := Aside0.mk (below_step (by repeat (first | (with_reducible first | exact HB.out | apply below_alloc | apply pw_below_drewN | apply below_drew1) | exact HB.out)) hb); clear HO_6; clear HO_8; clear HO190; clear HB; have HO_6 := n0_; have HO_8 := n1_; have HO190 := n2_; have HB := n3_; clear n0_ n1_ n2_ n3_; (try clear hb); (try clear hb2); (try clear hk); (try clear hi))))
                              go_ret
                              exact ⟨by first | rfl | (simp [errW_none, errW_some] <;> rfl) | (simp [*, errW_none, errW_some] <;> rfl), by repeat (first | (with_reducible first | exact HB.out | apply below_alloc | apply pw_below_drewN | apply below_drew1) | exact HB.out)⟩
                            · replace c31 := Bool.eq_false_iff.mpr c31
                              subst c31
                              have H1 : (some false) = some r := by rw [if_neg (show ¬ (false = true) by decide)] at H; exact H
                              clear H
                              have H := H1
                              clear H1
                              exact absurd ((Option.some.inj H).trans Hr.out) (by decide)
              · rw [if_neg c12] at H
                exact absurd H (by simp)

/-- THE ONE PURE STATEMENT of marquetrylaw17_TokenRuns: yours. -/
def marquetrylaw17_TokenRuns.Pure : Prop := ∀ (l0 : List Int) (a1 : Int), l0.length ≤ maxLen → l0.length * 4 ≤ 140737488351232 → (∀ x ∈ l0, (Lit.int .u32 x).wf = true) → (Lit.int .u16 a1).wf = true → ∃ k, marquetrylaw17_TokenRuns.f k l0 a1 = some true
theorem marquetrylaw17_TokenRuns.walk (P : marquetrylaw17_TokenRuns.Pure) (a0 : Option Addr) (len0 cap0 : Nat) (z0 : List Int) (a1 : Int) (w : World) (w0 : (a0 = none ∧ len0 = 0 ∧ cap0 = 0 ∧ z0 = []) ∨ ∃ x, a0 = some x ∧ len0 ≤ cap0 ∧ cap0 ≤ maxLen ∧ z0.length = cap0 ∧ (∀ i, i < z0.length → w.cell? (x.add i) = some (.int .u32 (z0.getD i 0))) ∧ ∀ n ∈ z0, (Lit.int .u32 n).wf = true) (y0 : len0 * 4 ≤ 140737488351232) (w1 : (Lit.int .u16 a1).wf = true) :
    Calls Try.prog 6 #[.slice a0 len0 cap0, .int .u16 a1] w fun e w' => e = .returned (.bool true) ∧ Below w.heap.size w w' := by
  obtain ⟨l0, rfl, hr0, hm0, hw0, hc0⟩ := ReadsInt.ofRowC w0
  obtain ⟨k, h⟩ := P l0 a1 hm0 y0 hw0 w1
  refine (marquetrylaw17_TokenRuns.calls k _ _ l0 a1 true w (Kd.C_of_reads (d := (0 : Int)) (h1 := fun _ => rfl) hr0) hc0 h rfl).mono ?_
  rintro e w' ⟨rfl, hd⟩
  exact ⟨rfl, hd⟩

-- NOT PRINTED: function 28 (slices_Backward_int_int)

end Go.Proofs.Ytnpmnfhmlnhepaa.P
