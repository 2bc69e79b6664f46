/- The part of our texts, and of the print's, that these laws' proofs use. -/
import Derived.Test.YthkocpcjcpohcaaZD7
set_option linter.unusedVariables false
set_option linter.unusedSimpArgs false
section
namespace Go.Proofs.Ythkocpcjcpohcaa.P
open Go.RowKit Go.Proofs.YthkocpcjcpohcaaW.PrintWords Go.Proofs.YthkocpcjcpohcaaW.PrintLast Go.Proofs.YthkocpcjcpohcaaW.PrintMore
attribute [local go_sem] max2_int min2_int max_two min_two max_three min_three max_four min_four   -- for this text's walks alone
mutual
def marquetryref01_Put.j0 : Nat → Int → Int → Bool → Option (List Int × Bool)
  | 0, _, _, _ => none
  | k + 1, x0, x1, x13 => if x13 = true then (some (([] : List Int), false)) else (marquetryref01_Put.l0 k x0 x1 ([] : List Int) 0)
def marquetryref01_Put.l0 : Nat → Int → Int → List Int → Int → Option (List Int × Bool)
  | 0, _, _, _, _ => none
  | k + 1, x0, x1, x6, x7 => if x7 < x1 then (if x6.length < 140737488355328 then (marquetryref01_Put.l0 k (IntKind.u64.wrap (Int.tdiv x0 256)) x1 (x6 ++ [(Int.tmod x0 256) % 256]) (wrap64 (x7 + 1))) else (none)) else (if x0 = 0 then (some (x6, true)) else (some (([] : List Int), false)))
end
def marquetryref01_Put.f (k : Nat) (a0 : Int) (a1 : Int) : Option (List Int × Bool) := if a1 < 1 then (marquetryref01_Put.j0 k a0 a1 true) else (marquetryref01_Put.j0 k a0 a1 (decide (a1 > 8)))
theorem marquetryref01_Put.mono_l : ∀ k, (∀ y0 y1 y2, LeO (marquetryref01_Put.j0 k y0 y1 y2) (marquetryref01_Put.j0 (k + 1) y0 y1 y2)) ∧ (∀ y0 y1 y2 y3, LeO (marquetryref01_Put.l0 k y0 y1 y2 y3) (marquetryref01_Put.l0 (k + 1) y0 y1 y2 y3))
  | 0 => ⟨fun _ _ _ r h => by simp [marquetryref01_Put.j0] at h, fun _ _ _ _ r h => by simp [marquetryref01_Put.l0] at h⟩
  | k + 1 => by
    obtain ⟨ih0, ih1⟩ := marquetryref01_Put.mono_l k
    refine ⟨?_, ?_⟩
    · intro y0 y1 y2
      unfold marquetryref01_Put.j0
      repeat' first
      | (with_reducible exact ih0 _ _ _)
      | (with_reducible exact ih1 _ _ _ _)
      | (with_reducible exact LeO.refl _)
      | (with_reducible exact LeO.none _)
      | (with_reducible refine LeO.ite ?_ ?_)
      | (with_reducible refine LeO.bind ?_ (fun _ => ?_))
      | exact ih0 _ _ _
      | exact ih1 _ _ _ _
      | exact LeO.none _
      | refine LeO.ite ?_ ?_
      | refine LeO.bind ?_ (fun _ => ?_)
    · intro y0 y1 y2 y3
      unfold marquetryref01_Put.l0
      repeat' first
      | (with_reducible exact ih0 _ _ _)
      | (with_reducible exact ih1 _ _ _ _)
      | (with_reducible exact LeO.refl _)
      | (with_reducible exact LeO.none _)
      | (with_reducible refine LeO.ite ?_ ?_)
      | (with_reducible refine LeO.bind ?_ (fun _ => ?_))
      | exact ih0 _ _ _
      | exact ih1 _ _ _ _
      | exact LeO.none _
      | refine LeO.ite ?_ ?_
      | refine LeO.bind ?_ (fun _ => ?_)
theorem marquetryref01_Put.mono : ∀ a0 a1 k, LeO (marquetryref01_Put.f k a0 a1) (marquetryref01_Put.f (k + 1) a0 a1) := by
  intro a0 a1 k
  obtain ⟨ih0, ih1⟩ := marquetryref01_Put.mono_l k
  unfold marquetryref01_Put.f
  repeat' first
      | (with_reducible exact ih0 _ _ _)
      | (with_reducible exact ih1 _ _ _ _)
      | (with_reducible exact LeO.refl _)
      | (with_reducible exact LeO.none _)
      | (with_reducible refine LeO.ite ?_ ?_)
      | (with_reducible refine LeO.bind ?_ (fun _ => ?_))
      | exact ih0 _ _ _
      | exact ih1 _ _ _ _
      | exact LeO.none _
      | refine LeO.ite ?_ ?_
      | refine LeO.bind ?_ (fun _ => ?_)
set_option maxHeartbeats 8000000 in
set_option maxRecDepth 100000 in
theorem marquetryref01_Put.calls (k : Nat) (a0 : Int) (a1 : Int) (r1 : List Int) (r2 : Bool) (w : World) (h : marquetryref01_Put.f k a0 a1 = some (r1, r2)) :
    Calls Try.prog 75 #[.int .u64 a0, .int .i64 a1] w fun e w' => ∃ v0_ : Value, e = .returned (.tuple #[v0_, .bool r2]) ∧ Kd.R (Kd.int .u8) 5 w' w.heap.size (fun _ => True) v0_ r1 ∧ Below w.heap.size w w' := by
  have HB := asiD (Below.refl w.heap.size w)
  have H : (if a1 < 1 then (marquetryref01_Put.j0 k a0 a1 true) else (marquetryref01_Put.j0 k a0 a1 (decide (a1 > 8)))) = some (r1, r2) := h
  clear h
  have HC3 := asiD H
  clear H
  go_enter Try.func75, Try.ntmps75
  go_upto_region 1 with (fail)
  go_cut [13] (fun v13 wc => ∃ (kq : Nat) (x13_2 : Bool), v13 = .bool x13_2 ∧ Aside0 (marquetryref01_Put.j0 kq a0 a1 x13_2 = some (r1, r2)) ∧ Aside0 (kq ≤ k) ∧ Aside0 (Below w.heap.size w wc))
  case first =>
    have H := HC3.out
    clear HC3
    by_cases c4 : a1 < 1
    · rw [if_pos c4] at H
      have c4b0 : decide (a1 < 1) = true := decide_eq_true c4
      clear c4
      (first | rw [c4b0] | (simp only [i64_w, i32_w]; rw [c4b0]) | skip)
      have H' := asiD H
      clear H
      go_wp2
      go_meet
      case rel => exact ⟨_, (true), (by first | rfl | (simp; done) | (simp [*]; done)), H', ⟨by first | omega | exact Nat.le_refl _⟩, ⟨by repeat (first | (with_reducible first | exact HB.out | apply below_alloc | apply pw_below_drewN | apply below_drew1) | exact HB.out)⟩⟩
    · rw [if_neg c4] at H
      have c4b0 : decide (a1 < 1) = false := decide_eq_false c4
      clear c4
      (first | rw [c4b0] | (simp only [i64_w, i32_w]; rw [c4b0]) | skip)
      have H' := asiD H
      clear H
      go_wp2
      go_meet
      case rel => exact ⟨_, (decide (a1 > 8)), (by first | rfl | (simp; done) | (simp [*]; done)), H', ⟨by first | omega | exact Nat.le_refl _⟩, ⟨by repeat (first | (with_reducible first | exact HB.out | apply below_alloc | apply pw_below_drewN | apply below_drew1) | exact HB.out)⟩⟩
  case rest =>
    clear HC3
    try clear p2
    try clear c4
    try clear c4b0
    obtain ⟨kq, x13_2, rfl, HA, HJ2, HB⟩ := hcut
    cases kq with
    | zero => exact absurd HA.out (by simp [marquetryref01_Put.j0])
    | succ kj2 =>
      have H := HA.out
      clear HA
      simp only [marquetryref01_Put.j0] at H
      by_cases c5 : x13_2 = true
      · subst c5
        have H1 : (some (([] : List Int), false)) = some (r1, r2) := by rw [if_pos rfl] at H; exact H
        clear H
        have H := H1
        clear H1
        simp only [Option.some.injEq, Prod.mk.injEq] at H
        obtain ⟨rfl, rfl⟩ := H
        go_wp2
        go_ret2
        exact ⟨_, by first | rfl | (simp [errW_none, errW_some] <;> rfl) | (simp [*, errW_none, errW_some] <;> rfl), by first | exact Kd.R_nil _ _ _ _ _ | exact Kd.N_nil _ _ _ _ _ | exact Kd.V_nil _ _ _ _ _ | exact Kd.Q_nil _ _ _ _ _ | exact Kd.S_nil _ _ _ _ _, by repeat (first | (with_reducible first | exact HB.out | apply below_alloc | apply pw_below_drewN | apply below_drew1) | exact HB.out)⟩
      · replace c5 := Bool.eq_false_iff.mpr c5
        subst c5
        have H1 : (marquetryref01_Put.l0 kj2 a0 a1 ([] : List Int) 0) = some (r1, r2) := by rw [if_neg (show ¬ (false = true) by decide)] at H; exact H
        clear H
        have H := H1
        clear H1
        have H' := asiD H
        clear H
        go_wp2
        go_loopg [0, 6, 7] kj2 (fun kq v0 v6 v7 w' => ∃ (x0_2 : Int) (x6_2 : List Int) (x7_2 : Int), v0 = .int .u64 x0_2 ∧ v7 = .int .i64 x7_2 ∧ Aside0 (marquetryref01_Put.l0 kq x0_2 a1 x6_2 x7_2 = some (r1, r2)) ∧ Aside0 (kq ≤ kj2) ∧ Aside0 (Kd.R (Kd.int .u8) 5 w' w.heap.size (fun _ => True) v6 x6_2) ∧ Aside0 (Below w.heap.size w w'))
        case atStart => exact ⟨(a0), (([] : List Int)), (0), (by first | rfl | (simp; done) | (simp [*]; done)), (by first | rfl | (simp; done) | (simp [*]; done)), H', ⟨Nat.le_refl _⟩, ⟨by first | exact Kd.R_nil _ _ _ _ _ | exact Kd.N_nil _ _ _ _ _ | exact Kd.V_nil _ _ _ _ _ | exact Kd.Q_nil _ _ _ _ _ | exact Kd.S_nil _ _ _ _ _⟩, ⟨by repeat (first | (with_reducible first | exact HB.out | apply below_alloc | apply pw_below_drewN | apply below_drew1) | exact HB.out)⟩⟩
        case round =>
          clear H'
          try clear p2
          try clear c4
          try clear c4b0
          try clear c5
          try clear p2
          obtain ⟨x0_2, x6_2, x7_2, rfl, rfl, HA, HK2, HO_6, HB⟩ := hrel
          cases gk with
          | zero => exact absurd HA.out (by simp [marquetryref01_Put.l0])
          | succ k2 =>
            have H := HA.out
            clear HA
            simp only [marquetryref01_Put.l0] at H
            by_cases c6 : x7_2 < a1
            · rw [if_pos c6] at H
              have c6b0 : decide (x7_2 < a1) = true := decide_eq_true c6
              clear c6
              by_cases c7 : x6_2.length < 140737488355328
              · rw [if_pos c7] at H
                have LMc7 := asiD c7
                clear c7
                obtain ⟨y219, hy219⟩ : ∃ y_ : List Int, y_ = (x6_2 ++ [(Int.tmod x0_2 256) % 256]) := ⟨_, rfl⟩
                replace H : (marquetryref01_Put.l0 k2 (IntKind.u64.wrap (Int.tdiv x0_2 256)) a1 y219 (wrap64 (x7_2 + 1))) = some (r1, r2) := by first | (rw [hy219]; with_reducible exact H) | (have H2_ := (Option.bind_some _ _).symm.trans H; rw [hy219]; with_reducible exact H2_) | (have H2_ := (Option.bind_some _ _).symm.trans H; with_reducible exact H2_) | with_reducible exact H | (rw [hy219]; exact H) | exact H
                have Ny219 := asiD hy219
                clear hy219
                have H' := asiD H
                clear H
                go_wp2_with (first | ((with_reducible refine gate_builtin (b := .append) (xs := #[.tmp 19, .tmp 23]) rfl ?_); at_builtin; refine Kd.R_append (Kd.int .u8) (w0 := w) w.heap.size rfl (.tmp 19) (.tmp 23) 23 5 (.int .u8 0) 1 rfl Try.underlying23 info5 rfl (by decide) (by omega) u6 x6_2 ((Int.tmod x0_2 256) % 256) [.int .u8 ((Int.tmod x0_2 256) % 256)] (fun _ => True) (fun _ => False) rfl rfl ?aP (fun _ hk => hk.elim) ?aF ?aO ?aB ?aS ?aL ?_; (case aP => exact rfl); (case aB => exact (by repeat (first | (with_reducible first | exact HB.out | apply below_alloc | apply pw_below_drewN | apply below_drew1) | exact HB.out))); (case aF => exact (fun _ _ => trivial)); (case aO => exact (by (with_reducible repeat (first | apply Kd.R_alloc | apply Kd.R_drewN | apply Kd.R_drew)); exact HO_6.out)); (case aS => exact (below_size (by repeat (first | (with_reducible first | exact HB.out | apply below_alloc | apply pw_below_drewN | apply below_drew1) | exact HB.out)))); (case aL => have := LMc7.out; omega); intro v220 w8 ho hb hg hat; rw [← Ny219.out] at ho; have n0_ := asiD (hb); have n1_ := asiD (ho); clear HB; clear HO_6; have HB := n0_; have HO221 := n1_; clear n0_ n1_; clear ho hb hg hat))
                go_roundg k2
                case measure => have := HJ2.out; have := HK2.out; omega
                case rel => exact ⟨(IntKind.u64.wrap (Int.tdiv x0_2 256)), (y219), (wrap64 (x7_2 + 1)), (by first | rfl | (simp; done) | (simp [*]; done)), (by first | rfl | (simp; done) | (simp [*]; done)), H', ⟨by have := HJ2.out; have := HK2.out; omega⟩, ⟨by (with_reducible repeat (first | apply Kd.R_alloc | apply Kd.R_drewN | apply Kd.R_drew)); exact HO221.out⟩, ⟨by repeat (first | (with_reducible first | exact HB.out | apply below_alloc | apply pw_below_drewN | apply below_drew1) | exact HB.out)⟩⟩
              · rw [if_neg c7] at H
                exact absurd H (by simp)
            · rw [if_neg c6] at H
              have c6b0 : decide (x7_2 < a1) = false := decide_eq_false c6
              clear c6
              by_cases c9 : x0_2 = 0
              · rw [if_pos c9] at H
                have c9b0 : (x0_2 == 0) = true := beq_iff_eq.mpr c9
                have c9b1 : (x0_2 != 0) = false := bne_eq_false_iff_eq.mpr c9
                clear c9
                simp only [Option.some.injEq, Prod.mk.injEq] at H
                obtain ⟨rfl, rfl⟩ := H
                go_wp2
                go_ret2
                exact ⟨_, by first | rfl | (simp [errW_none, errW_some] <;> rfl) | (simp [*, errW_none, errW_some] <;> rfl), by (with_reducible repeat (first | apply Kd.R_alloc | apply Kd.R_drewN | apply Kd.R_drew)); exact HO_6.out, by repeat (first | (with_reducible first | exact HB.out | apply below_alloc | apply pw_below_drewN | apply below_drew1) | exact HB.out)⟩
              · rw [if_neg c9] at H
                have c9b0 : (x0_2 == 0) = false := beq_eq_false_iff_ne.mpr c9
                have c9b1 : (x0_2 != 0) = true := bne_iff_ne.mpr c9
                simp only [Option.some.injEq, Prod.mk.injEq] at H
                obtain ⟨rfl, rfl⟩ := H
                go_wp2
                go_ret2
                exact ⟨_, by first | rfl | (simp [errW_none, errW_some] <;> rfl) | (simp [*, errW_none, errW_some] <;> rfl), by first | exact Kd.R_nil _ _ _ _ _ | exact Kd.N_nil _ _ _ _ _ | exact Kd.V_nil _ _ _ _ _ | exact Kd.Q_nil _ _ _ _ _ | exact Kd.S_nil _ _ _ _ _, by repeat (first | (with_reducible first | exact HB.out | apply below_alloc | apply pw_below_drewN | apply below_drew1) | exact HB.out)⟩
def marquetryref24_Num.f (k : Nat) (a0 : Int) (a1 : Int) : Option (List Int) := (marquetryref01_Put.f k a0 a1).bind fun bt222 => (some bt222.1)
theorem marquetryref24_Num.mono : ∀ a0 a1 k, LeO (marquetryref24_Num.f k a0 a1) (marquetryref24_Num.f (k + 1) a0 a1) := by
  intro a0 a1 k
  unfold marquetryref24_Num.f
  repeat' first
      | (with_reducible exact marquetryref01_Put.mono _ _ _)
      | (with_reducible exact LeO.refl _)
      | (with_reducible exact LeO.none _)
      | (with_reducible refine LeO.ite ?_ ?_)
      | (with_reducible refine LeO.bind ?_ (fun _ => ?_))
      | exact marquetryref01_Put.mono _ _ _
      | exact LeO.none _
      | refine LeO.ite ?_ ?_
      | refine LeO.bind ?_ (fun _ => ?_)
set_option maxHeartbeats 8000000 in
set_option maxRecDepth 100000 in
theorem marquetryref24_Num.calls (k : Nat) (a0 : Int) (a1 : Int) (r : List Int) (w : World) (h : marquetryref24_Num.f k a0 a1 = some r) :
    Calls Try.prog 39 #[.int .u64 a0, .int .i64 a1] w fun e w' => ∃ v0_ : Value, e = .returned (v0_) ∧ Kd.R (Kd.int .u8) 5 w' w.heap.size (fun _ => True) v0_ r ∧ Below w.heap.size w w' := by
  have HB := asiD (Below.refl w.heap.size w)
  have H : ((marquetryref01_Put.f k a0 a1).bind fun bt222 => (some bt222.1)) = some r := h
  clear h
  replace H := Option.bind_eq_some_iff.mp H
  obtain ⟨⟨t222, t223⟩, A30, H⟩ := H
  replace H : (some t222) = some r := H
  have A3 := asiD A30
  clear A30
  obtain rfl := Option.some.inj H
  go_enter Try.func39, Try.ntmps39
  go_wp2_with (first | ((with_reducible refine gate_callee (f := 75) rfl ?_); refine goesL_ (some 10) rfl rfl Try.func75 (by kernel_rfl) rfl #[.int .u64 a0, .int .i64 a1] rfl (by (try simp only [List.map_toArray, List.map_cons, List.map_nil]); first | done | rfl | (simp only [List.length_drop, List.length_take]; rfl)) ?_; (with_reducible refine (marquetryref01_Put.calls k a0 a1 t222 t223 _ A3.out).mono ?_); clear A3; rintro e w4 ⟨v224, rfl, ho0, hb⟩; refine ⟨_, rfl, ?_⟩; have n0_ := asiD (Kd.R_lower ho0 (below_size (by repeat (first | (with_reducible first | exact HB.out | apply below_alloc | apply pw_below_drewN | apply below_drew1) | exact HB.out)))); have n1_ := asiD (below_step (by repeat (first | (with_reducible first | exact HB.out | apply below_alloc | apply pw_below_drewN | apply below_drew1) | exact HB.out)) hb); clear HB; have HO225 := n0_; have HB := n1_; clear n0_ n1_; (try clear hb); (try clear hb2); (try clear hk); (try clear hi); (try clear ho0)) | (go_at_call 75; (with_reducible refine (marquetryref01_Put.calls k a0 a1 t222 t223 _ A3.out).mono ?_); clear A3; rintro e w4 ⟨v224, rfl, ho0, hb⟩; have n0_ := asiD (Kd.R_lower ho0 (below_size (by repeat (first | (with_reducible first | exact HB.out | apply below_alloc | apply pw_below_drewN | apply below_drew1) | exact HB.out)))); have n1_ := asiD (below_step (by repeat (first | (with_reducible first | exact HB.out | apply below_alloc | apply pw_below_drewN | apply below_drew1) | exact HB.out)) hb); clear HB; have HO225 := n0_; have HB := n1_; clear n0_ n1_; (try clear hb); (try clear hb2); (try clear hk); (try clear hi); (try clear ho0)))
  go_ret
  exact ⟨_, by first | rfl | (simp [errW_none, errW_some] <;> rfl) | (simp [*, errW_none, errW_some] <;> rfl), by (with_reducible repeat (first | apply Kd.R_alloc | apply Kd.R_drewN | apply Kd.R_drew)); exact HO225.out, by repeat (first | (with_reducible first | exact HB.out | apply below_alloc | apply pw_below_drewN | apply below_drew1) | exact HB.out)⟩
def marquetryref24_Lay.l0 : Nat → List (S42) → List Int → Int → Option (List Int)
  | 0, _, _, _ => none
  | k + 1, x0, x3, x4 => if x4 < (x0.length : Int) then (if 0 ≤ x4 then (if x3.length + ((rd_T42 x0 x4).f0).size < 140737488355328 then ((some (x3 ++ bytesOf ((rd_T42 x0 x4).f0) : List Int)).bind fun y227 => ((marquetryref24_Num.f k (IntKind.u64.wrap ((((rd_T42 x0 x4).f1).length : Int))) 4).bind fun t231 => (if y227.length + t231.length < 140737488355328 then ((some (y227 ++ t231 : List Int)).bind fun y234 => (if y234.length + ((rd_T42 x0 x4).f1).length < 140737488355328 then ((some (y234 ++ ((rd_T42 x0 x4).f1) : List Int)).bind fun y238 => (if ((((rd_T42 x0 x4).f1).length : Int) % 2) = 1 then (if y238.length < 140737488355328 then (marquetryref24_Lay.l0 k x0 (y238 ++ [0]) (wrap64 (x4 + 1))) else (none)) else (marquetryref24_Lay.l0 k x0 y238 (wrap64 (x4 + 1))))) else (none))) else (none)))) else (none)) else (none)) else (some x3)
def marquetryref24_Lay.f (k : Nat) (l0 : List (S42)) : Option (List Int) := marquetryref24_Lay.l0 k l0 ([] : List Int) 0
theorem marquetryref24_Lay.mono_l : ∀ k, (∀ y0 y1 y2, LeO (marquetryref24_Lay.l0 k y0 y1 y2) (marquetryref24_Lay.l0 (k + 1) y0 y1 y2))
  | 0 => fun _ _ _ r h => by simp [marquetryref24_Lay.l0] at h
  | k + 1 => by
    have ih0 := marquetryref24_Lay.mono_l k
    · intro y0 y1 y2
      unfold marquetryref24_Lay.l0
      repeat' first
      | (with_reducible exact ih0 _ _ _)
      | (with_reducible exact marquetryref24_Num.mono _ _ _)
      | (with_reducible exact LeO.refl _)
      | (with_reducible exact LeO.none _)
      | (with_reducible refine LeO.ite ?_ ?_)
      | (with_reducible refine LeO.bind ?_ (fun _ => ?_))
      | exact ih0 _ _ _
      | exact marquetryref24_Num.mono _ _ _
      | exact LeO.none _
      | refine LeO.ite ?_ ?_
      | refine LeO.bind ?_ (fun _ => ?_)
theorem marquetryref24_Lay.mono : ∀ a0 k, LeO (marquetryref24_Lay.f k a0) (marquetryref24_Lay.f (k + 1) a0) := by
  intro a0 k
  have ih0 := marquetryref24_Lay.mono_l k
  unfold marquetryref24_Lay.f
  repeat' first
      | (with_reducible exact ih0 _ _ _)
      | (with_reducible exact marquetryref24_Num.mono _ _ _)
      | (with_reducible exact LeO.refl _)
      | (with_reducible exact LeO.none _)
      | (with_reducible refine LeO.ite ?_ ?_)
      | (with_reducible refine LeO.bind ?_ (fun _ => ?_))
      | exact ih0 _ _ _
      | exact marquetryref24_Num.mono _ _ _
      | exact LeO.none _
      | refine LeO.ite ?_ ?_
      | refine LeO.bind ?_ (fun _ => ?_)
set_option maxHeartbeats 8000000 in
set_option maxRecDepth 100000 in
theorem marquetryref24_Lay.calls (k : Nat) (A0 : Option Addr) (c0 : Nat) (l0 : List (S42)) (r : List Int) (w : World) (hr0 : Kd.C k42 w A0 l0.length l0) (hc0 : l0.length ≤ c0) (h : marquetryref24_Lay.f k l0 = some r) :
    Calls Try.prog 38 #[.slice A0 l0.length c0] w fun e w' => ∃ v0_ : Value, e = .returned (v0_) ∧ Kd.R (Kd.int .u8) 5 w' w.heap.size (fun _ => True) v0_ r ∧ Below w.heap.size w w' := by
  have HR0 := asiD hr0
  have HC0 := asiD hc0
  clear hr0 hc0
  have HB := asiD (Below.refl w.heap.size w)
  have H : (marquetryref24_Lay.l0 k l0 ([] : List Int) 0) = some r := h
  clear h
  have H' := asiD H
  clear H
  go_enter Try.func38, Try.ntmps38
  go_wp2
  go_loopg [3, 4] k (fun kq v3 v4 w' => ∃ (x3_1 : List Int) (x4_1 : Int), v4 = .int .i64 x4_1 ∧ Aside0 (marquetryref24_Lay.l0 kq l0 x3_1 x4_1 = some r) ∧ Aside0 (kq ≤ k) ∧ Aside0 (Kd.R (Kd.int .u8) 5 w' w.heap.size (fun _ => True) v3 x3_1) ∧ Aside0 (Below w.heap.size w w'))
  case atStart => exact ⟨(([] : List Int)), (0), (by first | rfl | (simp; done) | (simp [*]; done)), H', ⟨Nat.le_refl _⟩, ⟨by first | exact Kd.R_nil _ _ _ _ _ | exact Kd.N_nil _ _ _ _ _ | exact Kd.V_nil _ _ _ _ _ | exact Kd.Q_nil _ _ _ _ _ | exact Kd.S_nil _ _ _ _ _⟩, ⟨by repeat (first | (with_reducible first | exact HB.out | apply below_alloc | apply pw_below_drewN | apply below_drew1) | exact HB.out)⟩⟩
  case round =>
    clear H'
    obtain ⟨x3_1, x4_1, rfl, HA, HK1, HO_3, HB⟩ := hrel
    cases gk with
    | zero => exact absurd HA.out (by simp [marquetryref24_Lay.l0])
    | succ k1 =>
      have H := HA.out
      clear HA
      simp only [marquetryref24_Lay.l0] at H
      by_cases c2 : x4_1 < (l0.length : Int)
      · rw [if_pos c2] at H
        have c2b0 : decide (x4_1 < (l0.length : Int)) = true := decide_eq_true c2
        clear c2
        by_cases c3 : 0 ≤ x4_1
        · rw [if_pos c3] at H
          have c3b0 : decide (0 ≤ x4_1) = true := decide_eq_true c3
          clear c3
          by_cases c4 : x3_1.length + ((rd_T42 l0 x4_1).f0).size < 140737488355328
          · rw [if_pos c4] at H
            have LMc4 := asiD c4
            clear c4
            obtain ⟨y227, hy227⟩ : ∃ y_ : List Int, y_ = (x3_1 ++ bytesOf ((rd_T42 l0 x4_1).f0)) := ⟨_, rfl⟩
            replace H : ((marquetryref24_Num.f k1 (IntKind.u64.wrap ((((rd_T42 l0 x4_1).f1).length : Int))) 4).bind fun t231 => (if y227.length + t231.length < 140737488355328 then ((some (y227 ++ t231 : List Int)).bind fun y234 => (if y234.length + ((rd_T42 l0 x4_1).f1).length < 140737488355328 then ((some (y234 ++ ((rd_T42 l0 x4_1).f1) : List Int)).bind fun y238 => (if ((((rd_T42 l0 x4_1).f1).length : Int) % 2) = 1 then (if y238.length < 140737488355328 then (marquetryref24_Lay.l0 k1 l0 (y238 ++ [0]) (wrap64 (x4_1 + 1))) else (none)) else (marquetryref24_Lay.l0 k1 l0 y238 (wrap64 (x4_1 + 1))))) else (none))) else (none))) = some r := by first | (rw [hy227]; with_reducible exact H) | (have H2_ := (Option.bind_some _ _).symm.trans H; rw [hy227]; with_reducible exact H2_) | (have H2_ := (Option.bind_some _ _).symm.trans H; with_reducible exact H2_) | with_reducible exact H | (rw [hy227]; exact H) | exact H
            have Ny227 := asiD hy227
            clear hy227
            replace H := Option.bind_eq_some_iff.mp H
            obtain ⟨t231, A50, H⟩ := H
            replace H : (if y227.length + t231.length < 140737488355328 then ((some (y227 ++ t231 : List Int)).bind fun y234 => (if y234.length + ((rd_T42 l0 x4_1).f1).length < 140737488355328 then ((some (y234 ++ ((rd_T42 l0 x4_1).f1) : List Int)).bind fun y238 => (if ((((rd_T42 l0 x4_1).f1).length : Int) % 2) = 1 then (if y238.length < 140737488355328 then (marquetryref24_Lay.l0 k1 l0 (y238 ++ [0]) (wrap64 (x4_1 + 1))) else (none)) else (marquetryref24_Lay.l0 k1 l0 y238 (wrap64 (x4_1 + 1))))) else (none))) else (none)) = some r := H
            have A5 := asiD A50
            clear A50
            by_cases c6 : y227.length + t231.length < 140737488355328
            · rw [if_pos c6] at H
              have LMc6 := asiD c6
              clear c6
              obtain ⟨y234, hy234⟩ : ∃ y_ : List Int, y_ = (y227 ++ t231) := ⟨_, rfl⟩
              replace H : (if y234.length + ((rd_T42 l0 x4_1).f1).length < 140737488355328 then ((some (y234 ++ ((rd_T42 l0 x4_1).f1) : List Int)).bind fun y238 => (if ((((rd_T42 l0 x4_1).f1).length : Int) % 2) = 1 then (if y238.length < 140737488355328 then (marquetryref24_Lay.l0 k1 l0 (y238 ++ [0]) (wrap64 (x4_1 + 1))) else (none)) else (marquetryref24_Lay.l0 k1 l0 y238 (wrap64 (x4_1 + 1))))) else (none)) = some r := by first | (rw [hy234]; with_reducible exact H) | (have H2_ := (Option.bind_some _ _).symm.trans H; rw [hy234]; with_reducible exact H2_) | (have H2_ := (Option.bind_some _ _).symm.trans H; with_reducible exact H2_) | with_reducible exact H | (rw [hy234]; exact H) | exact H
              have Ny234 := asiD hy234
              clear hy234
              by_cases c7 : y234.length + ((rd_T42 l0 x4_1).f1).length < 140737488355328
              · rw [if_pos c7] at H
                have LMc7 := asiD c7
                clear c7
                obtain ⟨y238, hy238⟩ : ∃ y_ : List Int, y_ = (y234 ++ ((rd_T42 l0 x4_1).f1)) := ⟨_, rfl⟩
                replace H : (if ((((rd_T42 l0 x4_1).f1).length : Int) % 2) = 1 then (if y238.length < 140737488355328 then (marquetryref24_Lay.l0 k1 l0 (y238 ++ [0]) (wrap64 (x4_1 + 1))) else (none)) else (marquetryref24_Lay.l0 k1 l0 y238 (wrap64 (x4_1 + 1)))) = some r := by first | (rw [hy238]; with_reducible exact H) | (have H2_ := (Option.bind_some _ _).symm.trans H; rw [hy238]; with_reducible exact H2_) | (have H2_ := (Option.bind_some _ _).symm.trans H; with_reducible exact H2_) | with_reducible exact H | (rw [hy238]; exact H) | exact H
                have Ny238 := asiD hy238
                clear hy238
                by_cases c8 : ((((rd_T42 l0 x4_1).f1).length : Int) % 2) = 1
                · rw [if_pos c8] at H
                  have c8b0 : (((((rd_T42 l0 x4_1).f1).length : Int) % 2) == 1) = true := beq_iff_eq.mpr c8
                  have c8b1 : (((((rd_T42 l0 x4_1).f1).length : Int) % 2) != 1) = false := bne_eq_false_iff_eq.mpr c8
                  clear c8
                  by_cases c9 : y238.length < 140737488355328
                  · rw [if_pos c9] at H
                    have LMc9 := asiD c9
                    clear c9
                    obtain ⟨y242, hy242⟩ : ∃ y_ : List Int, y_ = (y238 ++ [0]) := ⟨_, rfl⟩
                    replace H : (marquetryref24_Lay.l0 k1 l0 y242 (wrap64 (x4_1 + 1))) = some r := by first | (rw [hy242]; with_reducible exact H) | (have H2_ := (Option.bind_some _ _).symm.trans H; rw [hy242]; with_reducible exact H2_) | (have H2_ := (Option.bind_some _ _).symm.trans H; with_reducible exact H2_) | with_reducible exact H | (rw [hy242]; exact H) | exact H
                    have Ny242 := asiD hy242
                    clear hy242
                    have H' := asiD H
                    clear H
                    have p226 : 0 ≤ (x4_1 : Int) := of_decide_eq_true (by first | (with_reducible assumption) | assumption)
                    have q226 : x4_1 < (l0.length : Int) := of_decide_eq_true (by first | (with_reducible assumption) | assumption)
                    obtain ⟨ad226, A226_1, c226_1, e226, hx226_0, hx226_1, hl226_1, hi226_1⟩ := at_T42 HR0.out x4_1 p226 q226
                    cases e226
                    replace hx226_0 := (cellL HB.out hx226_0)
                    replace hx226_1 := (cellL HB.out hx226_1)
                    have HR226_1 := asiD hi226_1
                    have HC226_1 := asiD hl226_1
                    clear hi226_1 hl226_1
                    replace p226 := eq_true p226
                    replace q226 := eq_true q226
                    go_wp2_with (first | (at_builtin; refine print_append_str (w0 := w) w.heap.size rfl (.tmp 11) _ 23 9 5 rfl Try.underlying23 Try.underlying9 info5 u3 x3_1 ((rd_T42 l0 x4_1).f0) rfl rfl ?aO ?aB ?aS ?aL ?_; (case aB => exact (by repeat (first | (with_reducible first | exact HB.out | apply below_alloc | apply pw_below_drewN | apply below_drew1) | exact HB.out))); (case aO => exact (Kd.own_of_R (by (with_reducible repeat (first | apply Kd.R_alloc | apply Kd.R_drewN | apply Kd.R_drew)); exact HO_3.out))); (case aS => exact (below_size (by repeat (first | (with_reducible first | exact HB.out | apply below_alloc | apply pw_below_drewN | apply below_drew1) | exact HB.out)))); (case aL => have := LMc4.out; omega); intro v228 w10 ho0 hb hg; have ho := Kd.R_of_own (h1 := fun _ => rfl) (ok := fun _ => True) ho0 (fun _ _ => trivial); clear ho0; have hat := True.intro; rw [← Ny227.out] at ho; change Kd.R (Kd.int .u8) 5 w10 w.heap.size (fun _ => True) v228 y227 at ho; have n0_ := asiD (hb); have n1_ := asiD (ho); clear HB; clear HO_3; have HB := n0_; have HO229 := n1_; clear n0_ n1_; clear ho hb hg hat; have p230 : 0 ≤ (x4_1 : Int) := of_decide_eq_true (by first | (with_reducible assumption) | assumption); have q230 : x4_1 < (l0.length : Int) := of_decide_eq_true (by first | (with_reducible assumption) | assumption); obtain ⟨ad230, A230_1, c230_1, e230, hx230_0, hx230_1, hl230_1, hi230_1⟩ := at_T42 HR0.out x4_1 p230 q230; obtain rfl : ad226 = ad230 := (by injection e230); replace hx230_0 := (cellL HB.out hx230_0); replace hx230_1 := (cellL HB.out hx230_1); have HR230_1 := asiD hi230_1; have HC230_1 := asiD hl230_1; clear hi230_1 hl230_1; replace p230 := eq_true p230; replace q230 := eq_true q230) | ((with_reducible refine gate_callee (f := 39) rfl ?_); refine goesL_ (some 26) rfl rfl Try.func39 (by kernel_rfl) rfl #[.int .u64 (IntKind.u64.wrap ((((rd_T42 l0 x4_1).f1).length : Int))), .int .i64 4] rfl (by (try simp only [List.map_toArray, List.map_cons, List.map_nil]); first | done | rfl | (simp only [List.length_drop, List.length_take]; rfl)) ?_; (with_reducible refine (marquetryref24_Num.calls k1 (IntKind.u64.wrap ((((rd_T42 l0 x4_1).f1).length : Int))) 4 t231 _ A5.out).mono ?_); clear A5; rintro e w11 ⟨v232, rfl, ho0, hb⟩; refine ⟨_, rfl, ?_⟩; have n0_ := asiD (Kd.R_elder' (by (with_reducible repeat (first | apply Kd.R_alloc | apply Kd.R_drewN | apply Kd.R_drew)); exact HO229.out) (Kd.R_base ho0) hb); have n1_ := asiD (Kd.R_lower (Kd.R_new' ho0 (Kd.R_lt (by (with_reducible repeat (first | apply Kd.R_alloc | apply Kd.R_drewN | apply Kd.R_drew)); exact HO229.out))) (below_size (by repeat (first | (with_reducible first | exact HB.out | apply below_alloc | apply pw_below_drewN | apply below_drew1) | exact HB.out)))); have n2_ := asiD (below_step (by repeat (first | (with_reducible first | exact HB.out | apply below_alloc | apply pw_below_drewN | apply below_drew1) | exact HB.out)) hb); clear HO229; clear HB; have HO229 := n0_; have HO233 := n1_; have HB := n2_; clear n0_ n1_ n2_; (try clear hb); (try clear hb2); (try clear hk); (try clear hi); (try clear ho0); obtain ⟨Ao13, co13, eo13⟩ := Kd.R_slice HO233.out; subst eo13) | (go_at_call 39; (with_reducible refine (marquetryref24_Num.calls k1 (IntKind.u64.wrap ((((rd_T42 l0 x4_1).f1).length : Int))) 4 t231 _ A5.out).mono ?_); clear A5; rintro e w11 ⟨v232, rfl, ho0, hb⟩; have n0_ := asiD (Kd.R_elder' (by (with_reducible repeat (first | apply Kd.R_alloc | apply Kd.R_drewN | apply Kd.R_drew)); exact HO229.out) (Kd.R_base ho0) hb); have n1_ := asiD (Kd.R_lower (Kd.R_new' ho0 (Kd.R_lt (by (with_reducible repeat (first | apply Kd.R_alloc | apply Kd.R_drewN | apply Kd.R_drew)); exact HO229.out))) (below_size (by repeat (first | (with_reducible first | exact HB.out | apply below_alloc | apply pw_below_drewN | apply below_drew1) | exact HB.out)))); have n2_ := asiD (below_step (by repeat (first | (with_reducible first | exact HB.out | apply below_alloc | apply pw_below_drewN | apply below_drew1) | exact HB.out)) hb); clear HO229; clear HB; have HO229 := n0_; have HO233 := n1_; have HB := n2_; clear n0_ n1_ n2_; (try clear hb); (try clear hb2); (try clear hk); (try clear hi); (try clear ho0); obtain ⟨Ao13, co13, eo13⟩ := Kd.R_slice HO233.out; subst eo13) | ((with_reducible refine gate_builtin (b := .append) (xs := #[.tmp 18, .tmp 26]) rfl ?_); at_builtin; refine Kd.R_append_rows (Kd.int .u8) (w0 := w) w.heap.size rfl (.tmp 18) (.tmp 26) 23 5 (.int .u8 0) 1 rfl Try.underlying23 info5 rfl (by decide) (by omega) v228 y227 t231 _ _ _ (fun k_ => some k_ ≠ (.slice Ao13 t231.length co13 : Value).ownBlock) (fun _ => False) rfl rfl ?aO ?aR (fun _ _ h => h) (fun _ h => h.elim) ?aF ?aB ?aS ?aL ?_; (case aR => repeat (first | exact (Kd.R_reads' HO233.out).2.2 | (with_reducible refine Kd.C_alloc ?_ _) | (with_reducible refine Kd.C_drewN ?_ _) | (with_reducible refine Kd.C_drew ?_))); (case aB => exact (by repeat (first | (with_reducible first | exact HB.out | apply below_alloc | apply pw_below_drewN | apply below_drew1) | exact HB.out))); (case aF => exact (fun k_ hk => Kd.fresh' (Kd.R_lt (by (with_reducible repeat (first | apply Kd.R_alloc | apply Kd.R_drewN | apply Kd.R_drew)); exact HO233.out)) k_ hk)); (case aO => exact (by (with_reducible repeat (first | apply Kd.R_alloc | apply Kd.R_drewN | apply Kd.R_drew)); exact Kd.R_mono HO229.out (fun _ hk => hk.2))); (case aS => exact (below_size (by repeat (first | (with_reducible first | exact HB.out | apply below_alloc | apply pw_below_drewN | apply below_drew1) | exact HB.out)))); (case aL => have := LMc6.out; omega); intro v235 w12 ho hb hg hat; rw [← Ny234.out] at ho; have n0_ := asiD (Kd.R_after (ok := (fun _ => True)) (by (with_reducible repeat (first | apply Kd.R_alloc | apply Kd.R_drewN | apply Kd.R_drew)); exact HO233.out) hg hat); have n1_ := asiD (hb); have n2_ := asiD (ho); clear HO233; clear HB; clear HO229; have HO233 := n0_; have HB := n1_; have HO236 := n2_; clear n0_ n1_ n2_; clear ho hb hg hat; have p237 : 0 ≤ (x4_1 : Int) := of_decide_eq_true (by first | (with_reducible assumption) | assumption); have q237 : x4_1 < (l0.length : Int) := of_decide_eq_true (by first | (with_reducible assumption) | assumption); obtain ⟨ad237, A237_1, c237_1, e237, hx237_0, hx237_1, hl237_1, hi237_1⟩ := at_T42 HR0.out x4_1 p237 q237; obtain rfl : ad226 = ad237 := (by injection e237); replace hx237_0 := (cellL HB.out hx237_0); replace hx237_1 := (cellL HB.out hx237_1); have HR237_1 := asiD hi237_1; have HC237_1 := asiD hl237_1; clear hi237_1 hl237_1; replace p237 := eq_true p237; replace q237 := eq_true q237) | ((with_reducible refine gate_builtin (b := .append) (xs := #[.tmp 28, .tmp 33]) rfl ?_); at_builtin; refine Kd.R_append_rows (Kd.int .u8) (w0 := w) w.heap.size rfl (.tmp 28) (.tmp 33) 23 5 (.int .u8 0) 1 rfl Try.underlying23 info5 rfl (by decide) (by omega) v235 y234 ((rd_T42 l0 x4_1).f1) _ _ _ (fun k_ => some k_ ≠ (.slice Ao13 t231.length co13 : Value).ownBlock) (fun _ => False) rfl rfl ?aO ?aR (fun _ _ h => h) (fun _ h => h.elim) ?aF ?aB ?aS ?aL ?_; (case aR => repeat (first | exact (Kd.C_below HR237_1.out HB.out) | (with_reducible refine Kd.C_alloc ?_ _) | (with_reducible refine Kd.C_drewN ?_ _) | (with_reducible refine Kd.C_drew ?_))); (case aB => exact (by repeat (first | (with_reducible first | exact HB.out | apply below_alloc | apply pw_below_drewN | apply below_drew1) | exact HB.out))); (case aF => exact (fun k_ hk => Kd.fresh' (Kd.R_lt (by (with_reducible repeat (first | apply Kd.R_alloc | apply Kd.R_drewN | apply Kd.R_drew)); exact HO233.out)) k_ hk)); (case aO => exact (by (with_reducible repeat (first | apply Kd.R_alloc | apply Kd.R_drewN | apply Kd.R_drew)); exact HO236.out)); (case aS => exact (below_size (by repeat (first | (with_reducible first | exact HB.out | apply below_alloc | apply pw_below_drewN | apply below_drew1) | exact HB.out)))); (case aL => have := LMc7.out; omega); intro v239 w14 ho hb hg hat; rw [← Ny238.out] at ho; have n0_ := asiD (Kd.R_after (ok := (fun _ => True)) (by (with_reducible repeat (first | apply Kd.R_alloc | apply Kd.R_drewN | apply Kd.R_drew)); exact HO233.out) hg hat); have n1_ := asiD (hb); have n2_ := asiD (ho); clear HO233; clear HB; clear HO236; have HO233 := n0_; have HB := n1_; have HO240 := n2_; clear n0_ n1_ n2_; clear ho hb hg hat; have p241 : 0 ≤ (x4_1 : Int) := of_decide_eq_true (by first | (with_reducible assumption) | assumption); have q241 : x4_1 < (l0.length : Int) := of_decide_eq_true (by first | (with_reducible assumption) | assumption); obtain ⟨ad241, A241_1, c241_1, e241, hx241_0, hx241_1, hl241_1, hi241_1⟩ := at_T42 HR0.out x4_1 p241 q241; obtain rfl : ad226 = ad241 := (by injection e241); replace hx241_0 := (cellL HB.out hx241_0); replace hx241_1 := (cellL HB.out hx241_1); have HR241_1 := asiD hi241_1; have HC241_1 := asiD hl241_1; clear hi241_1 hl241_1; replace p241 := eq_true p241; replace q241 := eq_true q241) | ((with_reducible refine gate_builtin (b := .append) (xs := #[.tmp 43, .tmp 44]) rfl ?_); at_builtin; refine Kd.R_append (Kd.int .u8) (w0 := w) w.heap.size rfl (.tmp 43) (.tmp 44) 23 5 (.int .u8 0) 1 rfl Try.underlying23 info5 rfl (by decide) (by omega) v239 y238 0 [.int .u8 0] (fun k_ => some k_ ≠ (.slice Ao13 t231.length co13 : Value).ownBlock) (fun _ => False) rfl rfl ?aP (fun _ hk => hk.elim) ?aF ?aO ?aB ?aS ?aL ?_; (case aP => exact rfl); (case aB => exact (by repeat (first | (with_reducible first | exact HB.out | apply below_alloc | apply pw_below_drewN | apply below_drew1) | exact HB.out))); (case aF => exact (fun k_ hk => Kd.fresh' (Kd.R_lt (by (with_reducible repeat (first | apply Kd.R_alloc | apply Kd.R_drewN | apply Kd.R_drew)); exact HO233.out)) k_ hk)); (case aO => exact (by (with_reducible repeat (first | apply Kd.R_alloc | apply Kd.R_drewN | apply Kd.R_drew)); exact HO240.out)); (case aS => exact (below_size (by repeat (first | (with_reducible first | exact HB.out | apply below_alloc | apply pw_below_drewN | apply below_drew1) | exact HB.out)))); (case aL => have := LMc9.out; omega); intro v243 w15 ho hb hg hat; rw [← Ny242.out] at ho; have n0_ := asiD (Kd.R_after (ok := (fun _ => True)) (by (with_reducible repeat (first | apply Kd.R_alloc | apply Kd.R_drewN | apply Kd.R_drew)); exact HO233.out) hg hat); have n1_ := asiD (hb); have n2_ := asiD (ho); clear HO233; clear HB; clear HO240; have HO233 := n0_; have HB := n1_; have HO244 := n2_; clear n0_ n1_ n2_; clear ho hb hg hat))
                    go_roundg k1
                    case measure => have := HK1.out; omega
                    case rel => exact ⟨(y242), (wrap64 (x4_1 + 1)), (by first | rfl | (simp; done) | (simp [*]; done)), H', ⟨by have := HK1.out; omega⟩, ⟨by (with_reducible repeat (first | apply Kd.R_alloc | apply Kd.R_drewN | apply Kd.R_drew)); exact Kd.R_mono HO244.out (fun _ hk => trivial)⟩, ⟨by repeat (first | (with_reducible first | exact HB.out | apply below_alloc | apply pw_below_drewN | apply below_drew1) | exact HB.out)⟩⟩
                  · rw [if_neg c9] at H
                    exact absurd H (by simp)
                · rw [if_neg c8] at H
                  have c8b0 : (((((rd_T42 l0 x4_1).f1).length : Int) % 2) == 1) = false := beq_eq_false_iff_ne.mpr c8
                  have c8b1 : (((((rd_T42 l0 x4_1).f1).length : Int) % 2) != 1) = true := bne_iff_ne.mpr c8
                  have H' := asiD H
                  clear H
                  have p226 : 0 ≤ (x4_1 : Int) := of_decide_eq_true (by first | (with_reducible assumption) | assumption)
                  have q226 : x4_1 < (l0.length : Int) := of_decide_eq_true (by first | (with_reducible assumption) | assumption)
                  obtain ⟨ad226, A226_1, c226_1, e226, hx226_0, hx226_1, hl226_1, hi226_1⟩ := at_T42 HR0.out x4_1 p226 q226
                  cases e226
                  replace hx226_0 := (cellL HB.out hx226_0)
                  replace hx226_1 := (cellL HB.out hx226_1)
                  have HR226_1 := asiD hi226_1
                  have HC226_1 := asiD hl226_1
                  clear hi226_1 hl226_1
                  replace p226 := eq_true p226
                  replace q226 := eq_true q226
                  go_wp2_with (first | (at_builtin; refine print_append_str (w0 := w) w.heap.size rfl (.tmp 11) _ 23 9 5 rfl Try.underlying23 Try.underlying9 info5 u3 x3_1 ((rd_T42 l0 x4_1).f0) rfl rfl ?aO ?aB ?aS ?aL ?_; (case aB => exact (by repeat (first | (with_reducible first | exact HB.out | apply below_alloc | apply pw_below_drewN | apply below_drew1) | exact HB.out))); (case aO => exact (Kd.own_of_R (by (with_reducible repeat (first | apply Kd.R_alloc | apply Kd.R_drewN | apply Kd.R_drew)); exact HO_3.out))); (case aS => exact (below_size (by repeat (first | (with_reducible first | exact HB.out | apply below_alloc | apply pw_below_drewN | apply below_drew1) | exact HB.out)))); (case aL => have := LMc4.out; omega); intro v228 w16 ho0 hb hg; have ho := Kd.R_of_own (h1 := fun _ => rfl) (ok := fun _ => True) ho0 (fun _ _ => trivial); clear ho0; have hat := True.intro; rw [← Ny227.out] at ho; change Kd.R (Kd.int .u8) 5 w16 w.heap.size (fun _ => True) v228 y227 at ho; have n0_ := asiD (hb); have n1_ := asiD (ho); clear HB; clear HO_3; have HB := n0_; have HO229 := n1_; clear n0_ n1_; clear ho hb hg hat; have p230 : 0 ≤ (x4_1 : Int) := of_decide_eq_true (by first | (with_reducible assumption) | assumption); have q230 : x4_1 < (l0.length : Int) := of_decide_eq_true (by first | (with_reducible assumption) | assumption); obtain ⟨ad230, A230_1, c230_1, e230, hx230_0, hx230_1, hl230_1, hi230_1⟩ := at_T42 HR0.out x4_1 p230 q230; obtain rfl : ad226 = ad230 := (by injection e230); replace hx230_0 := (cellL HB.out hx230_0); replace hx230_1 := (cellL HB.out hx230_1); have HR230_1 := asiD hi230_1; have HC230_1 := asiD hl230_1; clear hi230_1 hl230_1; replace p230 := eq_true p230; replace q230 := eq_true q230) | ((with_reducible refine gate_callee (f := 39) rfl ?_); refine goesL_ (some 26) rfl rfl Try.func39 (by kernel_rfl) rfl #[.int .u64 (IntKind.u64.wrap ((((rd_T42 l0 x4_1).f1).length : Int))), .int .i64 4] rfl (by (try simp only [List.map_toArray, List.map_cons, List.map_nil]); first | done | rfl | (simp only [List.length_drop, List.length_take]; rfl)) ?_; (with_reducible refine (marquetryref24_Num.calls k1 (IntKind.u64.wrap ((((rd_T42 l0 x4_1).f1).length : Int))) 4 t231 _ A5.out).mono ?_); clear A5; rintro e w17 ⟨v232, rfl, ho0, hb⟩; refine ⟨_, rfl, ?_⟩; have n0_ := asiD (Kd.R_elder' (by (with_reducible repeat (first | apply Kd.R_alloc | apply Kd.R_drewN | apply Kd.R_drew)); exact HO229.out) (Kd.R_base ho0) hb); have n1_ := asiD (Kd.R_lower (Kd.R_new' ho0 (Kd.R_lt (by (with_reducible repeat (first | apply Kd.R_alloc | apply Kd.R_drewN | apply Kd.R_drew)); exact HO229.out))) (below_size (by repeat (first | (with_reducible first | exact HB.out | apply below_alloc | apply pw_below_drewN | apply below_drew1) | exact HB.out)))); have n2_ := asiD (below_step (by repeat (first | (with_reducible first | exact HB.out | apply below_alloc | apply pw_below_drewN | apply below_drew1) | exact HB.out)) hb); clear HO229; clear HB; have HO229 := n0_; have HO233 := n1_; have HB := n2_; clear n0_ n1_ n2_; (try clear hb); (try clear hb2); (try clear hk); (try clear hi); (try clear ho0); obtain ⟨Ao19, co19, eo19⟩ := Kd.R_slice HO233.out; subst eo19) | (go_at_call 39; (with_reducible refine (marquetryref24_Num.calls k1 (IntKind.u64.wrap ((((rd_T42 l0 x4_1).f1).length : Int))) 4 t231 _ A5.out).mono ?_); clear A5; rintro e w17 ⟨v232, rfl, ho0, hb⟩; have n0_ := asiD (Kd.R_elder' (by (with_reducible repeat (first | apply Kd.R_alloc | apply Kd.R_drewN | apply Kd.R_drew)); exact HO229.out) (Kd.R_base ho0) hb); have n1_ := asiD (Kd.R_lower (Kd.R_new' ho0 (Kd.R_lt (by (with_reducible repeat (first | apply Kd.R_alloc | apply Kd.R_drewN | apply Kd.R_drew)); exact HO229.out))) (below_size (by repeat (first | (with_reducible first | exact HB.out | apply below_alloc | apply pw_below_drewN | apply below_drew1) | exact HB.out)))); have n2_ := asiD (below_step (by repeat (first | (with_reducible first | exact HB.out | apply below_alloc | apply pw_below_drewN | apply below_drew1) | exact HB.out)) hb); clear HO229; clear HB; have HO229 := n0_; have HO233 := n1_; have HB := n2_; clear n0_ n1_ n2_; (try clear hb); (try clear hb2); (try clear hk); (try clear hi); (try clear ho0); obtain ⟨Ao19, co19, eo19⟩ := Kd.R_slice HO233.out; subst eo19) | ((with_reducible refine gate_builtin (b := .append) (xs := #[.tmp 18, .tmp 26]) rfl ?_); at_builtin; refine Kd.R_append_rows (Kd.int .u8) (w0 := w) w.heap.size rfl (.tmp 18) (.tmp 26) 23 5 (.int .u8 0) 1 rfl Try.underlying23 info5 rfl (by decide) (by omega) v228 y227 t231 _ _ _ (fun k_ => some k_ ≠ (.slice Ao19 t231.length co19 : Value).ownBlock) (fun _ => False) rfl rfl ?aO ?aR (fun _ _ h => h) (fun _ h => h.elim) ?aF ?aB ?aS ?aL ?_; (case aR => repeat (first | exact (Kd.R_reads' HO233.out).2.2 | (with_reducible refine Kd.C_alloc ?_ _) | (with_reducible refine Kd.C_drewN ?_ _) | (with_reducible refine Kd.C_drew ?_))); (case aB => exact (by repeat (first | (with_reducible first | exact HB.out | apply below_alloc | apply pw_below_drewN | apply below_drew1) | exact HB.out))); (case aF => exact (fun k_ hk => Kd.fresh' (Kd.R_lt (by (with_reducible repeat (first | apply Kd.R_alloc | apply Kd.R_drewN | apply Kd.R_drew)); exact HO233.out)) k_ hk)); (case aO => exact (by (with_reducible repeat (first | apply Kd.R_alloc | apply Kd.R_drewN | apply Kd.R_drew)); exact Kd.R_mono HO229.out (fun _ hk => hk.2))); (case aS => exact (below_size (by repeat (first | (with_reducible first | exact HB.out | apply below_alloc | apply pw_below_drewN | apply below_drew1) | exact HB.out)))); (case aL => have := LMc6.out; omega); intro v235 w18 ho hb hg hat; rw [← Ny234.out] at ho; have n0_ := asiD (Kd.R_after (ok := (fun _ => True)) (by (with_reducible repeat (first | apply Kd.R_alloc | apply Kd.R_drewN | apply Kd.R_drew)); exact HO233.out) hg hat); have n1_ := asiD (hb); have n2_ := asiD (ho); clear HO233; clear HB; clear HO229; have HO233 := n0_; have HB := n1_; have HO236 := n2_; clear n0_ n1_ n2_; clear ho hb hg hat; have p237 : 0 ≤ (x4_1 : Int) := of_decide_eq_true (by first | (with_reducible assumption) | assumption); have q237 : x4_1 < (l0.length : Int) := of_decide_eq_true (by first | (with_reducible assumption) | assumption); obtain ⟨ad237, A237_1, c237_1, e237, hx237_0, hx237_1, hl237_1, hi237_1⟩ := at_T42 HR0.out x4_1 p237 q237; obtain rfl : ad226 = ad237 := (by injection e237); replace hx237_0 := (cellL HB.out hx237_0); replace hx237_1 := (cellL HB.out hx237_1); have HR237_1 := asiD hi237_1; have HC237_1 := asiD hl237_1; clear hi237_1 hl237_1; replace p237 := eq_true p237; replace q237 := eq_true q237) | ((with_reducible refine gate_builtin (b := .append) (xs := #[.tmp 28, .tmp 33]) rfl ?_); at_builtin; refine Kd.R_append_rows (Kd.int .u8) (w0 := w) w.heap.size rfl (.tmp 28) (.tmp 33) 23 5 (.int .u8 0) 1 rfl Try.underlying23 info5 rfl (by decide) (by omega) v235 y234 ((rd_T42 l0 x4_1).f1) _ _ _ (fun k_ => some k_ ≠ (.slice Ao19 t231.length co19 : Value).ownBlock) (fun _ => False) rfl rfl ?aO ?aR (fun _ _ h => h) (fun _ h => h.elim) ?aF ?aB ?aS ?aL ?_; (case aR => repeat (first | exact (Kd.C_below HR237_1.out HB.out) | (with_reducible refine Kd.C_alloc ?_ _) | (with_reducible refine Kd.C_drewN ?_ _) | (with_reducible refine Kd.C_drew ?_))); (case aB => exact (by repeat (first | (with_reducible first | exact HB.out | apply below_alloc | apply pw_below_drewN | apply below_drew1) | exact HB.out))); (case aF => exact (fun k_ hk => Kd.fresh' (Kd.R_lt (by (with_reducible repeat (first | apply Kd.R_alloc | apply Kd.R_drewN | apply Kd.R_drew)); exact HO233.out)) k_ hk)); (case aO => exact (by (with_reducible repeat (first | apply Kd.R_alloc | apply Kd.R_drewN | apply Kd.R_drew)); exact HO236.out)); (case aS => exact (below_size (by repeat (first | (with_reducible first | exact HB.out | apply below_alloc | apply pw_below_drewN | apply below_drew1) | exact HB.out)))); (case aL => have := LMc7.out; omega); intro v239 w20 ho hb hg hat; rw [← Ny238.out] at ho; have n0_ := asiD (Kd.R_after (ok := (fun _ => True)) (by (with_reducible repeat (first | apply Kd.R_alloc | apply Kd.R_drewN | apply Kd.R_drew)); exact HO233.out) hg hat); have n1_ := asiD (hb); have n2_ := asiD (ho); clear HO233; clear HB; clear HO236; have HO233 := n0_; have HB := n1_; have HO240 := n2_; clear n0_ n1_ n2_; clear ho hb hg hat; have p241 : 0 ≤ (x4_1 : Int) := of_decide_eq_true (by first | (with_reducible assumption) | assumption); have q241 : x4_1 < (l0.length : Int) := of_decide_eq_true (by first | (with_reducible assumption) | assumption); obtain ⟨ad241, A241_1, c241_1, e241, hx241_0, hx241_1, hl241_1, hi241_1⟩ := at_T42 HR0.out x4_1 p241 q241; obtain rfl : ad226 = ad241 := (by injection e241); replace hx241_0 := (cellL HB.out hx241_0); replace hx241_1 := (cellL HB.out hx241_1); have HR241_1 := asiD hi241_1; have HC241_1 := asiD hl241_1; clear hi241_1 hl241_1; replace p241 := eq_true p241; replace q241 := eq_true q241))
                  go_roundg k1
                  case measure => have := HK1.out; omega
                  case rel => exact ⟨(y238), (wrap64 (x4_1 + 1)), (by first | rfl | (simp; done) | (simp [*]; done)), H', ⟨by have := HK1.out; omega⟩, ⟨by (with_reducible repeat (first | apply Kd.R_alloc | apply Kd.R_drewN | apply Kd.R_drew)); exact Kd.R_mono HO240.out (fun _ hk => trivial)⟩, ⟨by repeat (first | (with_reducible first | exact HB.out | apply below_alloc | apply pw_below_drewN | apply below_drew1) | exact HB.out)⟩⟩
              · rw [if_neg c7] at H
                exact absurd H (by simp)
            · rw [if_neg c6] at H
              exact absurd H (by simp)
          · rw [if_neg c4] at H
            exact absurd H (by simp)
        · rw [if_neg c3] at H
          exact absurd H (by simp)
      · rw [if_neg c2] at H
        have c2b0 : decide (x4_1 < (l0.length : Int)) = false := decide_eq_false c2
        clear c2
        obtain rfl := Option.some.inj H
        go_wp2
        go_ret
        exact ⟨_, by first | rfl | (simp [errW_none, errW_some] <;> rfl) | (simp [*, errW_none, errW_some] <;> rfl), by (with_reducible repeat (first | apply Kd.R_alloc | apply Kd.R_drewN | apply Kd.R_drew)); exact HO_3.out, by repeat (first | (with_reducible first | exact HB.out | apply below_alloc | apply pw_below_drewN | apply below_drew1) | exact HB.out)⟩
def marquetryref24_File.f (k : Nat) (l0 : List (S42)) : Option (List Int) :=
  (marquetryref24_Lay.f k l0).bind fun b => ((marquetryref24_Num.f k (IntKind.u64.wrap (wrap64 ((b.length : Int) + 4))) 4).bind fun n => if 0 < n.length then (if n.length + b.length + 8 < 140737488355328 then some ([82, 73, 70, 70] ++ n ++ bytesOf ⟨#[87, 69, 66, 80]⟩ ++ b) else none) else none)
theorem marquetryref24_File.mono : ∀ a0 k, LeO (marquetryref24_File.f k a0) (marquetryref24_File.f (k + 1) a0) := by
  intro a0 k
  unfold marquetryref24_File.f
  repeat' first
      | (with_reducible exact marquetryref24_Lay.mono _ _)
      | (with_reducible exact marquetryref24_Num.mono _ _ _)
      | (with_reducible exact LeO.refl _)
      | (with_reducible exact LeO.none _)
      | (with_reducible refine LeO.ite ?_ ?_)
      | (with_reducible refine LeO.bind ?_ (fun _ => ?_))
set_option maxHeartbeats 800000 in
set_option maxRecDepth 100000 in
theorem marquetryref24_File.calls (k : Nat) (A0 : Option Addr) (c0 : Nat) (l0 : List (S42)) (r1 : List Int) (w : World) (hr0 : Kd.C k42 w A0 l0.length l0) (hc0 : l0.length ≤ c0) (h : marquetryref24_File.f k l0 = some r1) :
    Calls Try.prog 16 #[.slice A0 l0.length c0] w fun e w' => ∃ v0_ : Value, e = .returned v0_ ∧ Kd.R (Kd.int .u8) 5 w' w.heap.size (fun _ => True) v0_ r1 ∧ Below w.heap.size w w' := by
  obtain ⟨b, hlay, h⟩ := Option.bind_eq_some_iff.mp h
  have HL := asiD hlay; clear hlay
  have HR0 := asiD hr0; clear hr0
  have HC0 := asiD hc0; clear hc0
  obtain ⟨n, hput, h⟩ := Option.bind_eq_some_iff.mp h
  by_cases c1 : 0 < n.length
  case neg => rw [if_neg c1] at h; cases h
  rw [if_pos c1] at h
  by_cases c2 : n.length + b.length + 8 < 140737488355328
  case neg => rw [if_neg c2] at h; cases h
  rw [if_pos c2] at h
  injection h with h1
  have HP := asiD hput; clear hput
  have HE := asiD h1; clear h1
  have C1 := asiD c1; clear c1
  have C2 := asiD c2; clear c2
  go_enter Try.func16, Try.ntmps16
  go_wp2_with fail
  refine (marquetryref24_Lay.calls k A0 c0 l0 b _ HR0.out HC0.out HL.out).mono ?_; rintro e w1 ⟨v, rfl, ho, hb⟩
  have hs := (St.refl w).newRow hb (Kd.own_of_R ho) (Nat.le_refl _)
  obtain ⟨B, cb, rfl⟩ := Kd.R_slice ho
  have HS1 := asiD hs; clear hs ho hb
  have kc := fun (w : World) (C : Array Value) (n c : Nat) => Lib.run_convert_bytes_const (P := Try.prog) w 23 5 C n c Try.underlying23 Try.underlying5
  go_wp2_with fail
  have HM := asiD (HS1.out.allocMark [82, 73, 70, 70] 5); clear HS1
  refine (marquetryref24_Num.calls k (IntKind.u64.wrap (wrap64 ((b.length : Int) + 4))) 4 n _ HP.out).mono ?_; rintro e w2 ⟨v, rfl, ho, hb⟩
  have hs := HM.out.newRow hb (Kd.own_of_R ho) (Nat.le_refl _)
  obtain ⟨C, cc, rfl⟩ := Kd.R_slice ho
  have HS2 := asiD hs; clear hs ho hb HM kc
  go_wp2_with (first
    | ((with_reducible refine gate_builtin (b := .append) (xs := #[.tmp 8, .tmp 13]) rfl ?_); at_builtin; refine St.append_marked (w0 := w) rfl (.tmp 8) (.tmp 13) 23 5 rfl Try.underlying23 info5 [82, 73, 70, 70] n w1.heap.size C n.length cc rfl rfl HS2.out.swap (rowReads HS2.out) C1.out (by have := C2.out; simp; omega) ?_; intro A1 c1 w3 hs; have HS3 := asiD hs; clear hs)
    | ((with_reducible refine gate_builtin (b := .append) (xs := #[.tmp 15, .const (.string ⟨#[87, 69, 66, 80]⟩)]) rfl ?_); at_builtin; refine St.append_str (w0 := w) rfl (.tmp 15) (.const (.string ⟨#[87, 69, 66, 80]⟩)) 23 9 5 rfl Try.underlying23 Try.underlying9 info5 _ _ ([82, 73, 70, 70] ++ n) ⟨#[87, 69, 66, 80]⟩ rfl rfl HS3.out (by have := C2.out; simp [ByteArray.size]; omega) ?_; intro A2 c2 w4 hs; have HS4 := asiD hs; clear hs)
    | ((with_reducible refine gate_builtin (b := .append) (xs := #[.tmp 16, .tmp 17]) rfl ?_); at_builtin; refine St.append_row (w0 := w) rfl (.tmp 16) (.tmp 17) 23 5 .u8 1 rfl Try.underlying23 info5 (by decide) _ _ ([82, 73, 70, 70] ++ n ++ bytesOf ⟨#[87, 69, 66, 80]⟩) b B b.length cb rfl rfl HS4.out (rowReads HS4.out.rot3) (by have := C2.out; simp [ByteArray.size]; omega) ?_; intro A3 c3 w5 hs; have HS5 := asiD hs; clear hs))
  go_ret
  exact ⟨_, rfl, HE.out ▸ HS5.out.toR, HS5.out.below⟩
def marquetryref01_Same.l0 : Nat → List Int → List Int → Int → Option (Bool)
  | 0, _, _, _ => none
  | k + 1, x0, x1, x5 => if x5 < (x0.length : Int) then (if 0 ≤ x5 then (if x5 < (x1.length : Int) then (if (rd x0 x5) = (rd x1 x5) then (marquetryref01_Same.l0 k x0 x1 (wrap64 (x5 + 1))) else (some false)) else (none)) else (none)) else (some true)
def marquetryref01_Same.f (k : Nat) (l0 : List Int) (l1 : List Int) : Option (Bool) := if (l0.length : Int) = (l1.length : Int) then (marquetryref01_Same.l0 k l0 l1 0) else (some false)
theorem marquetryref01_Same.mono_l : ∀ k, (∀ y0 y1 y2, LeO (marquetryref01_Same.l0 k y0 y1 y2) (marquetryref01_Same.l0 (k + 1) y0 y1 y2))
  | 0 => fun _ _ _ r h => by simp [marquetryref01_Same.l0] at h
  | k + 1 => by
    have ih0 := marquetryref01_Same.mono_l k
    · intro y0 y1 y2
      unfold marquetryref01_Same.l0
      repeat' first
      | (with_reducible exact ih0 _ _ _)
      | (with_reducible exact LeO.refl _)
      | (with_reducible exact LeO.none _)
      | (with_reducible refine LeO.ite ?_ ?_)
      | (with_reducible refine LeO.bind ?_ (fun _ => ?_))
      | exact ih0 _ _ _
      | exact LeO.none _
      | refine LeO.ite ?_ ?_
      | refine LeO.bind ?_ (fun _ => ?_)
theorem marquetryref01_Same.mono : ∀ a0 a1 k, LeO (marquetryref01_Same.f k a0 a1) (marquetryref01_Same.f (k + 1) a0 a1) := by
  intro a0 a1 k
  have ih0 := marquetryref01_Same.mono_l k
  unfold marquetryref01_Same.f
  repeat' first
      | (with_reducible exact ih0 _ _ _)
      | (with_reducible exact LeO.refl _)
      | (with_reducible exact LeO.none _)
      | (with_reducible refine LeO.ite ?_ ?_)
      | (with_reducible refine LeO.bind ?_ (fun _ => ?_))
      | exact ih0 _ _ _
      | exact LeO.none _
      | refine LeO.ite ?_ ?_
      | refine LeO.bind ?_ (fun _ => ?_)
set_option maxHeartbeats 8000000 in
set_option maxRecDepth 100000 in
theorem marquetryref01_Same.calls (k : Nat) (A0 : Option Addr) (c0 : Nat) (l0 : List Int) (A1 : Option Addr) (c1 : Nat) (l1 : List Int) (r : Bool) (w : World) (hr0 : Kd.C (Kd.int .u8) w A0 l0.length l0) (hc0 : l0.length ≤ c0) (hr1 : Kd.C (Kd.int .u8) w A1 l1.length l1) (hc1 : l1.length ≤ c1) (h : marquetryref01_Same.f k l0 l1 = some r) :
    Calls Try.prog 15 #[.slice A0 l0.length c0, .slice A1 l1.length c1] w fun e w' => e = .returned (.bool r) ∧ Drawn0 w w' := by
  have HR0 := asiD hr0
  have HC0 := asiD hc0
  clear hr0 hc0
  have HR1 := asiD hr1
  have HC1 := asiD hc1
  clear hr1 hc1
  have H : (if (l0.length : Int) = (l1.length : Int) then (marquetryref01_Same.l0 k l0 l1 0) else (some false)) = some r := h
  clear h
  by_cases c3 : (l0.length : Int) = (l1.length : Int)
  · rw [if_pos c3] at H
    have c3b0 : ((l0.length : Int) == (l1.length : Int)) = true := beq_iff_eq.mpr c3
    have c3b1 : ((l0.length : Int) != (l1.length : Int)) = false := bne_eq_false_iff_eq.mpr c3
    have c3b2 : (l0.length == l1.length) = true := by first | simpa using c3 | (simp at c3 ⊢; omega)
    clear c3
    have H' := asiD H
    clear H
    go_enter Try.func15, Try.ntmps15
    go_wp2
    repeat (go_quiet (fail); try go_wp2)
    go_loopg [5] k (fun kq v5 w' => ∃ (x5_1 : Int), v5 = .int .i64 x5_1 ∧ Aside0 (marquetryref01_Same.l0 kq l0 l1 x5_1 = some r) ∧ Aside0 (kq ≤ k) ∧ Drawn0 w w')
    case atStart => exact ⟨(0), (by first | rfl | (simp; done) | (simp [*]; done)), H', ⟨Nat.le_refl _⟩, by repeat (first | exact Drawn0.refl _ | apply Drawn0.step)⟩
    case round =>
      clear H'
      try clear c1
      try clear p2
      try clear c3
      try clear c3b0
      try clear c3b1
      try clear c3b2
      obtain ⟨x5_1, rfl, HA, HK1, ⟨m1, rfl⟩⟩ := hrel
      cases gk with
      | zero => exact absurd HA.out (by simp [marquetryref01_Same.l0])
      | succ k1 =>
        have H := HA.out
        clear HA
        simp only [marquetryref01_Same.l0] at H
        by_cases c4 : x5_1 < (l0.length : Int)
        · rw [if_pos c4] at H
          have c4b0 : decide (x5_1 < (l0.length : Int)) = true := decide_eq_true c4
          clear c4
          by_cases c5 : 0 ≤ x5_1
          · rw [if_pos c5] at H
            have c5b0 : decide (0 ≤ x5_1) = true := decide_eq_true c5
            clear c5
            by_cases c6 : x5_1 < (l1.length : Int)
            · rw [if_pos c6] at H
              have c6b0 : decide (x5_1 < (l1.length : Int)) = true := decide_eq_true c6
              clear c6
              by_cases c7 : (rd l0 x5_1) = (rd l1 x5_1)
              · rw [if_pos c7] at H
                have c7b0 : ((rd l0 x5_1) == (rd l1 x5_1)) = true := beq_iff_eq.mpr c7
                have c7b1 : ((rd l0 x5_1) != (rd l1 x5_1)) = false := bne_eq_false_iff_eq.mpr c7
                clear c7
                have H' := asiD H
                clear H
                have p247 : 0 ≤ (x5_1 : Int) := of_decide_eq_true (by first | (with_reducible assumption) | assumption)
                have q247 : x5_1 < (l0.length : Int) := of_decide_eq_true (by first | (with_reducible assumption) | assumption)
                obtain ⟨ad247, e247, hx247_0⟩ := Kd.at_int HR0.out x5_1 p247 q247
                cases e247
                replace p247 := eq_true p247
                replace q247 := eq_true q247
                have p248 : 0 ≤ (x5_1 : Int) := of_decide_eq_true (by first | (with_reducible assumption) | assumption)
                have q248 : x5_1 < (l1.length : Int) := of_decide_eq_true (by first | (with_reducible assumption) | assumption)
                obtain ⟨ad248, e248, hx248_0⟩ := Kd.at_int HR1.out x5_1 p248 q248
                cases e248
                replace p248 := eq_true p248
                replace q248 := eq_true q248
                go_wp2
                repeat (go_quiet (fail); try go_wp2)
                go_roundg k1
                case measure => have := HK1.out; omega
                case rel => exact ⟨(wrap64 (x5_1 + 1)), (by first | rfl | (simp; done) | (simp [*]; done)), H', ⟨by have := HK1.out; omega⟩, by repeat (first | exact Drawn0.refl _ | apply Drawn0.step)⟩
              · rw [if_neg c7] at H
                have c7b0 : ((rd l0 x5_1) == (rd l1 x5_1)) = false := beq_eq_false_iff_ne.mpr c7
                have c7b1 : ((rd l0 x5_1) != (rd l1 x5_1)) = true := bne_iff_ne.mpr c7
                obtain rfl := Option.some.inj H
                have p247 : 0 ≤ (x5_1 : Int) := of_decide_eq_true (by first | (with_reducible assumption) | assumption)
                have q247 : x5_1 < (l0.length : Int) := of_decide_eq_true (by first | (with_reducible assumption) | assumption)
                obtain ⟨ad247, e247, hx247_0⟩ := Kd.at_int HR0.out x5_1 p247 q247
                cases e247
                replace p247 := eq_true p247
                replace q247 := eq_true q247
                have p248 : 0 ≤ (x5_1 : Int) := of_decide_eq_true (by first | (with_reducible assumption) | assumption)
                have q248 : x5_1 < (l1.length : Int) := of_decide_eq_true (by first | (with_reducible assumption) | assumption)
                obtain ⟨ad248, e248, hx248_0⟩ := Kd.at_int HR1.out x5_1 p248 q248
                cases e248
                replace p248 := eq_true p248
                replace q248 := eq_true q248
                go_wp2
                repeat (go_quiet (fail); try go_wp2)
                go_ret
                exact ⟨by first | rfl | (simp; done) | (simp [*]; done), by repeat (first | exact Drawn0.refl _ | apply Drawn0.step)⟩
            · rw [if_neg c6] at H
              exact absurd H (by simp)
          · rw [if_neg c5] at H
            exact absurd H (by simp)
        · rw [if_neg c4] at H
          have c4b0 : decide (x5_1 < (l0.length : Int)) = false := decide_eq_false c4
          clear c4
          obtain rfl := Option.some.inj H
          go_wp2
          repeat (go_quiet (fail); try go_wp2)
          go_ret
          exact ⟨by first | rfl | (simp; done) | (simp [*]; done), by repeat (first | exact Drawn0.refl _ | apply Drawn0.step)⟩
  · rw [if_neg c3] at H
    have c3b0 : ((l0.length : Int) == (l1.length : Int)) = false := beq_eq_false_iff_ne.mpr c3
    have c3b1 : ((l0.length : Int) != (l1.length : Int)) = true := bne_iff_ne.mpr c3
    have c3b2 : (l0.length == l1.length) = false := by first | simpa using c3 | (simp at c3 ⊢; omega)
    obtain rfl := Option.some.inj H
    go_enter Try.func15, Try.ntmps15
    go_wp2
    repeat (go_quiet (fail); try go_wp2)
    go_ret
    exact ⟨by first | rfl | (simp; done) | (simp [*]; done), by repeat (first | exact Drawn0.refl _ | apply Drawn0.step)⟩
def marquetryref24_SameChunks.l0 : Nat → List (S42) → List (S42) → Int → Option (Bool)
  | 0, _, _, _ => none
  | k + 1, x0, x1, x5 => if x5 < (x0.length : Int) then (if 0 ≤ x5 then (if x5 < (x1.length : Int) then (if ((rd_T42 x0 x5).f0).toList = ((rd_T42 x1 x5).f0).toList then ((marquetryref01_Same.f k ((rd_T42 x0 x5).f1) ((rd_T42 x1 x5).f1)).bind fun t253 => (if t253 = true then (marquetryref24_SameChunks.l0 k x0 x1 (wrap64 (x5 + 1))) else (some false))) else (some false)) else (none)) else (none)) else (some true)
def marquetryref24_SameChunks.f (k : Nat) (l0 : List (S42)) (l1 : List (S42)) : Option (Bool) := if (l0.length : Int) = (l1.length : Int) then (marquetryref24_SameChunks.l0 k l0 l1 0) else (some false)
theorem marquetryref24_SameChunks.mono_l : ∀ k, (∀ y0 y1 y2, LeO (marquetryref24_SameChunks.l0 k y0 y1 y2) (marquetryref24_SameChunks.l0 (k + 1) y0 y1 y2))
  | 0 => fun _ _ _ r h => by simp [marquetryref24_SameChunks.l0] at h
  | k + 1 => by
    have ih0 := marquetryref24_SameChunks.mono_l k
    · intro y0 y1 y2
      unfold marquetryref24_SameChunks.l0
      repeat' first
      | (with_reducible exact ih0 _ _ _)
      | (with_reducible exact marquetryref01_Same.mono _ _ _)
      | (with_reducible exact LeO.refl _)
      | (with_reducible exact LeO.none _)
      | (with_reducible refine LeO.ite ?_ ?_)
      | (with_reducible refine LeO.bind ?_ (fun _ => ?_))
      | exact ih0 _ _ _
      | exact marquetryref01_Same.mono _ _ _
      | exact LeO.none _
      | refine LeO.ite ?_ ?_
      | refine LeO.bind ?_ (fun _ => ?_)
theorem marquetryref24_SameChunks.mono : ∀ a0 a1 k, LeO (marquetryref24_SameChunks.f k a0 a1) (marquetryref24_SameChunks.f (k + 1) a0 a1) := by
  intro a0 a1 k
  have ih0 := marquetryref24_SameChunks.mono_l k
  unfold marquetryref24_SameChunks.f
  repeat' first
      | (with_reducible exact ih0 _ _ _)
      | (with_reducible exact marquetryref01_Same.mono _ _ _)
      | (with_reducible exact LeO.refl _)
      | (with_reducible exact LeO.none _)
      | (with_reducible refine LeO.ite ?_ ?_)
      | (with_reducible refine LeO.bind ?_ (fun _ => ?_))
      | exact ih0 _ _ _
      | exact marquetryref01_Same.mono _ _ _
      | exact LeO.none _
      | refine LeO.ite ?_ ?_
      | refine LeO.bind ?_ (fun _ => ?_)
set_option maxHeartbeats 8000000 in
set_option maxRecDepth 100000 in
theorem marquetryref24_SameChunks.calls (k : Nat) (A0 : Option Addr) (c0 : Nat) (l0 : List (S42)) (A1 : Option Addr) (c1 : Nat) (l1 : List (S42)) (r : Bool) (w : World) (hr0 : Kd.C k42 w A0 l0.length l0) (hc0 : l0.length ≤ c0) (hr1 : Kd.C k42 w A1 l1.length l1) (hc1 : l1.length ≤ c1) (h : marquetryref24_SameChunks.f k l0 l1 = some r) :
    Calls Try.prog 41 #[.slice A0 l0.length c0, .slice A1 l1.length c1] w fun e w' => e = .returned (.bool r) ∧ Drawn0 w w' := by
  have HR0 := asiD hr0
  have HC0 := asiD hc0
  clear hr0 hc0
  have HR1 := asiD hr1
  have HC1 := asiD hc1
  clear hr1 hc1
  have H : (if (l0.length : Int) = (l1.length : Int) then (marquetryref24_SameChunks.l0 k l0 l1 0) else (some false)) = some r := h
  clear h
  by_cases c3 : (l0.length : Int) = (l1.length : Int)
  · rw [if_pos c3] at H
    have c3b0 : ((l0.length : Int) == (l1.length : Int)) = true := beq_iff_eq.mpr c3
    have c3b1 : ((l0.length : Int) != (l1.length : Int)) = false := bne_eq_false_iff_eq.mpr c3
    have c3b2 : (l0.length == l1.length) = true := by first | simpa using c3 | (simp at c3 ⊢; omega)
    clear c3
    have H' := asiD H
    clear H
    go_enter Try.func41, Try.ntmps41
    go_wp2
    repeat (go_quiet (fail); try go_wp2)
    go_loopg [5] k (fun kq v5 w' => ∃ (x5_1 : Int), v5 = .int .i64 x5_1 ∧ Aside0 (marquetryref24_SameChunks.l0 kq l0 l1 x5_1 = some r) ∧ Aside0 (kq ≤ k) ∧ Drawn0 w w')
    case atStart => exact ⟨(0), (by first | rfl | (simp; done) | (simp [*]; done)), H', ⟨Nat.le_refl _⟩, by repeat (first | exact Drawn0.refl _ | apply Drawn0.step)⟩
    case round =>
      clear H'
      try clear c1
      try clear p2
      try clear c3
      try clear c3b0
      try clear c3b1
      try clear c3b2
      obtain ⟨x5_1, rfl, HA, HK1, ⟨m1, rfl⟩⟩ := hrel
      cases gk with
      | zero => exact absurd HA.out (by simp [marquetryref24_SameChunks.l0])
      | succ k1 =>
        have H := HA.out
        clear HA
        simp only [marquetryref24_SameChunks.l0] at H
        by_cases c4 : x5_1 < (l0.length : Int)
        · rw [if_pos c4] at H
          have c4b0 : decide (x5_1 < (l0.length : Int)) = true := decide_eq_true c4
          clear c4
          by_cases c5 : 0 ≤ x5_1
          · rw [if_pos c5] at H
            have c5b0 : decide (0 ≤ x5_1) = true := decide_eq_true c5
            clear c5
            by_cases c6 : x5_1 < (l1.length : Int)
            · rw [if_pos c6] at H
              have c6b0 : decide (x5_1 < (l1.length : Int)) = true := decide_eq_true c6
              clear c6
              by_cases c7 : ((rd_T42 l0 x5_1).f0).toList = ((rd_T42 l1 x5_1).f0).toList
              · rw [if_pos c7] at H
                have c7b0 : (((rd_T42 l0 x5_1).f0).toList == ((rd_T42 l1 x5_1).f0).toList) = true := beq_iff_eq.mpr c7
                have c7b1 : (((rd_T42 l0 x5_1).f0).toList != ((rd_T42 l1 x5_1).f0).toList) = false := bne_eq_false_iff_eq.mpr c7
                clear c7
                replace H := Option.bind_eq_some_iff.mp H
                obtain ⟨t253, A80, H⟩ := H
                replace H : (if t253 = true then (marquetryref24_SameChunks.l0 k1 l0 l1 (wrap64 (x5_1 + 1))) else (some false)) = some r := H
                have A8 := asiD A80
                clear A80
                by_cases c9 : t253 = true
                · subst c9
                  have H1 : (marquetryref24_SameChunks.l0 k1 l0 l1 (wrap64 (x5_1 + 1))) = some r := by rw [if_pos rfl] at H; exact H
                  clear H
                  have H := H1
                  clear H1
                  have H' := asiD H
                  clear H
                  have p249 : 0 ≤ (x5_1 : Int) := of_decide_eq_true (by first | (with_reducible assumption) | assumption)
                  have q249 : x5_1 < (l0.length : Int) := of_decide_eq_true (by first | (with_reducible assumption) | assumption)
                  obtain ⟨ad249, A249_1, c249_1, e249, hx249_0, hx249_1, hl249_1, hi249_1⟩ := at_T42 HR0.out x5_1 p249 q249
                  cases e249
                  have HR249_1 := asiD hi249_1
                  have HC249_1 := asiD hl249_1
                  clear hi249_1 hl249_1
                  replace p249 := eq_true p249
                  replace q249 := eq_true q249
                  have p250 : 0 ≤ (x5_1 : Int) := of_decide_eq_true (by first | (with_reducible assumption) | assumption)
                  have q250 : x5_1 < (l1.length : Int) := of_decide_eq_true (by first | (with_reducible assumption) | assumption)
                  obtain ⟨ad250, A250_1, c250_1, e250, hx250_0, hx250_1, hl250_1, hi250_1⟩ := at_T42 HR1.out x5_1 p250 q250
                  cases e250
                  have HR250_1 := asiD hi250_1
                  have HC250_1 := asiD hl250_1
                  clear hi250_1 hl250_1
                  replace p250 := eq_true p250
                  replace q250 := eq_true q250
                  have p251 : 0 ≤ (x5_1 : Int) := of_decide_eq_true (by first | (with_reducible assumption) | assumption)
                  have q251 : x5_1 < (l0.length : Int) := of_decide_eq_true (by first | (with_reducible assumption) | assumption)
                  obtain ⟨ad251, A251_1, c251_1, e251, hx251_0, hx251_1, hl251_1, hi251_1⟩ := at_T42 HR0.out x5_1 p251 q251
                  obtain rfl : ad249 = ad251 := (by injection e251)
                  have HR251_1 := asiD hi251_1
                  have HC251_1 := asiD hl251_1
                  clear hi251_1 hl251_1
                  replace p251 := eq_true p251
                  replace q251 := eq_true q251
                  have ea_ := Option.some.inj (hx249_1.symm.trans hx251_1)
                  injection ea_ with ea_ en_ ec_
                  subst ea_
                  subst ec_
                  clear en_
                  have p252 : 0 ≤ (x5_1 : Int) := of_decide_eq_true (by first | (with_reducible assumption) | assumption)
                  have q252 : x5_1 < (l1.length : Int) := of_decide_eq_true (by first | (with_reducible assumption) | assumption)
                  obtain ⟨ad252, A252_1, c252_1, e252, hx252_0, hx252_1, hl252_1, hi252_1⟩ := at_T42 HR1.out x5_1 p252 q252
                  obtain rfl : ad250 = ad252 := (by injection e252)
                  have HR252_1 := asiD hi252_1
                  have HC252_1 := asiD hl252_1
                  clear hi252_1 hl252_1
                  replace p252 := eq_true p252
                  replace q252 := eq_true q252
                  have ea_ := Option.some.inj (hx250_1.symm.trans hx252_1)
                  injection ea_ with ea_ en_ ec_
                  subst ea_
                  subst ec_
                  clear en_
                  go_wp2_with (first | (go_at_call 15; (with_reducible refine (marquetryref01_Same.calls k1 _ _ ((rd_T42 l0 x5_1).f1) _ _ ((rd_T42 l1 x5_1).f1) true _ ?side1 ?side2 ?side3 ?side4 A8.out).mono ?_); (case side1 => repeat (first | exact HR251_1.out | (with_reducible refine Kd.C_alloc ?_ _) | (with_reducible refine Kd.C_drewN ?_ _) | (with_reducible refine Kd.C_drew ?_))); (case side2 => exact HC251_1.out); (case side3 => repeat (first | exact HR252_1.out | (with_reducible refine Kd.C_alloc ?_ _) | (with_reducible refine Kd.C_drewN ?_ _) | (with_reducible refine Kd.C_drew ?_))); (case side4 => exact HC252_1.out); rintro e w' ⟨rfl, ⟨nd, rfl⟩⟩; (try first | exact ⟨rfl, _, World.drewN_drewN _ _ _⟩ | exact ⟨rfl, _, Eq.trans (World.drewN_drewN _ _ _) (congrArg (World.drewN _) (Nat.add_assoc _ _ _))⟩)))
                  repeat (go_quiet (first | (go_at_call 15; (with_reducible refine (marquetryref01_Same.calls k1 _ _ ((rd_T42 l0 x5_1).f1) _ _ ((rd_T42 l1 x5_1).f1) true _ ?side1 ?side2 ?side3 ?side4 A8.out).mono ?_); (case side1 => repeat (first | exact HR251_1.out | (with_reducible refine Kd.C_alloc ?_ _) | (with_reducible refine Kd.C_drewN ?_ _) | (with_reducible refine Kd.C_drew ?_))); (case side2 => exact HC251_1.out); (case side3 => repeat (first | exact HR252_1.out | (with_reducible refine Kd.C_alloc ?_ _) | (with_reducible refine Kd.C_drewN ?_ _) | (with_reducible refine Kd.C_drew ?_))); (case side4 => exact HC252_1.out); rintro e w' ⟨rfl, ⟨nd, rfl⟩⟩; (try first | exact ⟨rfl, _, World.drewN_drewN _ _ _⟩ | exact ⟨rfl, _, Eq.trans (World.drewN_drewN _ _ _) (congrArg (World.drewN _) (Nat.add_assoc _ _ _))⟩))); try go_wp2_with (first | (go_at_call 15; (with_reducible refine (marquetryref01_Same.calls k1 _ _ ((rd_T42 l0 x5_1).f1) _ _ ((rd_T42 l1 x5_1).f1) true _ ?side1 ?side2 ?side3 ?side4 A8.out).mono ?_); (case side1 => repeat (first | exact HR251_1.out | (with_reducible refine Kd.C_alloc ?_ _) | (with_reducible refine Kd.C_drewN ?_ _) | (with_reducible refine Kd.C_drew ?_))); (case side2 => exact HC251_1.out); (case side3 => repeat (first | exact HR252_1.out | (with_reducible refine Kd.C_alloc ?_ _) | (with_reducible refine Kd.C_drewN ?_ _) | (with_reducible refine Kd.C_drew ?_))); (case side4 => exact HC252_1.out); rintro e w' ⟨rfl, ⟨nd, rfl⟩⟩; (try first | exact ⟨rfl, _, World.drewN_drewN _ _ _⟩ | exact ⟨rfl, _, Eq.trans (World.drewN_drewN _ _ _) (congrArg (World.drewN _) (Nat.add_assoc _ _ _))⟩))))
                  go_roundg k1
                  case measure => have := HK1.out; omega
                  case rel => exact ⟨(wrap64 (x5_1 + 1)), (by first | rfl | (simp; done) | (simp [*]; done)), H', ⟨by have := HK1.out; omega⟩, by repeat (first | exact Drawn0.refl _ | apply Drawn0.step)⟩
                · replace c9 := Bool.eq_false_iff.mpr c9
                  subst c9
                  have H1 : (some false) = some r := by rw [if_neg (show ¬ (false = true) by decide)] at H; exact H
                  clear H
                  have H := H1
                  clear H1
                  obtain rfl := Option.some.inj H
                  have p249 : 0 ≤ (x5_1 : Int) := of_decide_eq_true (by first | (with_reducible assumption) | assumption)
                  have q249 : x5_1 < (l0.length : Int) := of_decide_eq_true (by first | (with_reducible assumption) | assumption)
                  obtain ⟨ad249, A249_1, c249_1, e249, hx249_0, hx249_1, hl249_1, hi249_1⟩ := at_T42 HR0.out x5_1 p249 q249
                  cases e249
                  have HR249_1 := asiD hi249_1
                  have HC249_1 := asiD hl249_1
                  clear hi249_1 hl249_1
                  replace p249 := eq_true p249
                  replace q249 := eq_true q249
                  have p250 : 0 ≤ (x5_1 : Int) := of_decide_eq_true (by first | (with_reducible assumption) | assumption)
                  have q250 : x5_1 < (l1.length : Int) := of_decide_eq_true (by first | (with_reducible assumption) | assumption)
                  obtain ⟨ad250, A250_1, c250_1, e250, hx250_0, hx250_1, hl250_1, hi250_1⟩ := at_T42 HR1.out x5_1 p250 q250
                  cases e250
                  have HR250_1 := asiD hi250_1
                  have HC250_1 := asiD hl250_1
                  clear hi250_1 hl250_1
                  replace p250 := eq_true p250
                  replace q250 := eq_true q250
                  have p251 : 0 ≤ (x5_1 : Int) := of_decide_eq_true (by first | (with_reducible assumption) | assumption)
                  have q251 : x5_1 < (l0.length : Int) := of_decide_eq_true (by first | (with_reducible assumption) | assumption)
                  obtain ⟨ad251, A251_1, c251_1, e251, hx251_0, hx251_1, hl251_1, hi251_1⟩ := at_T42 HR0.out x5_1 p251 q251
                  obtain rfl : ad249 = ad251 := (by injection e251)
                  have HR251_1 := asiD hi251_1
                  have HC251_1 := asiD hl251_1
                  clear hi251_1 hl251_1
                  replace p251 := eq_true p251
                  replace q251 := eq_true q251
                  have ea_ := Option.some.inj (hx249_1.symm.trans hx251_1)
                  injection ea_ with ea_ en_ ec_
                  subst ea_
                  subst ec_
                  clear en_
                  have p252 : 0 ≤ (x5_1 : Int) := of_decide_eq_true (by first | (with_reducible assumption) | assumption)
                  have q252 : x5_1 < (l1.length : Int) := of_decide_eq_true (by first | (with_reducible assumption) | assumption)
                  obtain ⟨ad252, A252_1, c252_1, e252, hx252_0, hx252_1, hl252_1, hi252_1⟩ := at_T42 HR1.out x5_1 p252 q252
                  obtain rfl : ad250 = ad252 := (by injection e252)
                  have HR252_1 := asiD hi252_1
                  have HC252_1 := asiD hl252_1
                  clear hi252_1 hl252_1
                  replace p252 := eq_true p252
                  replace q252 := eq_true q252
                  have ea_ := Option.some.inj (hx250_1.symm.trans hx252_1)
                  injection ea_ with ea_ en_ ec_
                  subst ea_
                  subst ec_
                  clear en_
                  go_wp2_with (first | (go_at_call 15; (with_reducible refine (marquetryref01_Same.calls k1 _ _ ((rd_T42 l0 x5_1).f1) _ _ ((rd_T42 l1 x5_1).f1) false _ ?side1 ?side2 ?side3 ?side4 A8.out).mono ?_); (case side1 => repeat (first | exact HR251_1.out | (with_reducible refine Kd.C_alloc ?_ _) | (with_reducible refine Kd.C_drewN ?_ _) | (with_reducible refine Kd.C_drew ?_))); (case side2 => exact HC251_1.out); (case side3 => repeat (first | exact HR252_1.out | (with_reducible refine Kd.C_alloc ?_ _) | (with_reducible refine Kd.C_drewN ?_ _) | (with_reducible refine Kd.C_drew ?_))); (case side4 => exact HC252_1.out); rintro e w' ⟨rfl, ⟨nd, rfl⟩⟩; (try first | exact ⟨rfl, _, World.drewN_drewN _ _ _⟩ | exact ⟨rfl, _, Eq.trans (World.drewN_drewN _ _ _) (congrArg (World.drewN _) (Nat.add_assoc _ _ _))⟩)))
                  repeat (go_quiet (first | (go_at_call 15; (with_reducible refine (marquetryref01_Same.calls k1 _ _ ((rd_T42 l0 x5_1).f1) _ _ ((rd_T42 l1 x5_1).f1) false _ ?side1 ?side2 ?side3 ?side4 A8.out).mono ?_); (case side1 => repeat (first | exact HR251_1.out | (with_reducible refine Kd.C_alloc ?_ _) | (with_reducible refine Kd.C_drewN ?_ _) | (with_reducible refine Kd.C_drew ?_))); (case side2 => exact HC251_1.out); (case side3 => repeat (first | exact HR252_1.out | (with_reducible refine Kd.C_alloc ?_ _) | (with_reducible refine Kd.C_drewN ?_ _) | (with_reducible refine Kd.C_drew ?_))); (case side4 => exact HC252_1.out); rintro e w' ⟨rfl, ⟨nd, rfl⟩⟩; (try first | exact ⟨rfl, _, World.drewN_drewN _ _ _⟩ | exact ⟨rfl, _, Eq.trans (World.drewN_drewN _ _ _) (congrArg (World.drewN _) (Nat.add_assoc _ _ _))⟩))); try go_wp2_with (first | (go_at_call 15; (with_reducible refine (marquetryref01_Same.calls k1 _ _ ((rd_T42 l0 x5_1).f1) _ _ ((rd_T42 l1 x5_1).f1) false _ ?side1 ?side2 ?side3 ?side4 A8.out).mono ?_); (case side1 => repeat (first | exact HR251_1.out | (with_reducible refine Kd.C_alloc ?_ _) | (with_reducible refine Kd.C_drewN ?_ _) | (with_reducible refine Kd.C_drew ?_))); (case side2 => exact HC251_1.out); (case side3 => repeat (first | exact HR252_1.out | (with_reducible refine Kd.C_alloc ?_ _) | (with_reducible refine Kd.C_drewN ?_ _) | (with_reducible refine Kd.C_drew ?_))); (case side4 => exact HC252_1.out); rintro e w' ⟨rfl, ⟨nd, rfl⟩⟩; (try first | exact ⟨rfl, _, World.drewN_drewN _ _ _⟩ | exact ⟨rfl, _, Eq.trans (World.drewN_drewN _ _ _) (congrArg (World.drewN _) (Nat.add_assoc _ _ _))⟩))))
                  go_ret
                  exact ⟨by first | rfl | (simp; done) | (simp [*]; done), by repeat (first | exact Drawn0.refl _ | apply Drawn0.step)⟩
              · rw [if_neg c7] at H
                have c7b0 : (((rd_T42 l0 x5_1).f0).toList == ((rd_T42 l1 x5_1).f0).toList) = false := beq_eq_false_iff_ne.mpr c7
                have c7b1 : (((rd_T42 l0 x5_1).f0).toList != ((rd_T42 l1 x5_1).f0).toList) = true := bne_iff_ne.mpr c7
                obtain rfl := Option.some.inj H
                have p249 : 0 ≤ (x5_1 : Int) := of_decide_eq_true (by first | (with_reducible assumption) | assumption)
                have q249 : x5_1 < (l0.length : Int) := of_decide_eq_true (by first | (with_reducible assumption) | assumption)
                obtain ⟨ad249, A249_1, c249_1, e249, hx249_0, hx249_1, hl249_1, hi249_1⟩ := at_T42 HR0.out x5_1 p249 q249
                cases e249
                have HR249_1 := asiD hi249_1
                have HC249_1 := asiD hl249_1
                clear hi249_1 hl249_1
                replace p249 := eq_true p249
                replace q249 := eq_true q249
                have p250 : 0 ≤ (x5_1 : Int) := of_decide_eq_true (by first | (with_reducible assumption) | assumption)
                have q250 : x5_1 < (l1.length : Int) := of_decide_eq_true (by first | (with_reducible assumption) | assumption)
                obtain ⟨ad250, A250_1, c250_1, e250, hx250_0, hx250_1, hl250_1, hi250_1⟩ := at_T42 HR1.out x5_1 p250 q250
                cases e250
                have HR250_1 := asiD hi250_1
                have HC250_1 := asiD hl250_1
                clear hi250_1 hl250_1
                replace p250 := eq_true p250
                replace q250 := eq_true q250
                go_wp2
                repeat (go_quiet (fail); try go_wp2)
                go_ret
                exact ⟨by first | rfl | (simp; done) | (simp [*]; done), by repeat (first | exact Drawn0.refl _ | apply Drawn0.step)⟩
            · rw [if_neg c6] at H
              exact absurd H (by simp)
          · rw [if_neg c5] at H
            exact absurd H (by simp)
        · rw [if_neg c4] at H
          have c4b0 : decide (x5_1 < (l0.length : Int)) = false := decide_eq_false c4
          clear c4
          obtain rfl := Option.some.inj H
          go_wp2
          repeat (go_quiet (fail); try go_wp2)
          go_ret
          exact ⟨by first | rfl | (simp; done) | (simp [*]; done), by repeat (first | exact Drawn0.refl _ | apply Drawn0.step)⟩
  · rw [if_neg c3] at H
    have c3b0 : ((l0.length : Int) == (l1.length : Int)) = false := beq_eq_false_iff_ne.mpr c3
    have c3b1 : ((l0.length : Int) != (l1.length : Int)) = true := bne_iff_ne.mpr c3
    have c3b2 : (l0.length == l1.length) = false := by first | simpa using c3 | (simp at c3 ⊢; omega)
    obtain rfl := Option.some.inj H
    go_enter Try.func41, Try.ntmps41
    go_wp2
    repeat (go_quiet (fail); try go_wp2)
    go_ret
    exact ⟨by first | rfl | (simp; done) | (simp [*]; done), by repeat (first | exact Drawn0.refl _ | apply Drawn0.step)⟩
end Go.Proofs.Ythkocpcjcpohcaa.P
end
