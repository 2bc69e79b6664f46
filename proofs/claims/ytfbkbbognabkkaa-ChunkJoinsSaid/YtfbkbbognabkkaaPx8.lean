-- Printed by mp.py (our own program over the kit's printer) out of the translation.
import Derived.Test.YtfbkbbognabkkaaPx0
import Derived.Test.YtfbkbbognabkkaaPx1
import Derived.Test.YtfbkbbognabkkaaPx3
import Derived.Test.YtfbkbbognabkkaaPx4
import Derived.Test.YtfbkbbognabkkaaPx5
import Derived.Test.YtfbkbbognabkkaaPx6
import Derived.Test.YtfbkbbognabkkaaPx7
namespace Go.Proofs.Ytfbkbbognabkkaa.P
open Go.RowKit Go.Proofs.YtfbkbbognabkkaaW.PrintWords Go.Proofs.YtfbkbbognabkkaaW.PrintLast Go.Proofs.YtfbkbbognabkkaaW.PrintMore
attribute [local go_sem] max2_int min2_int max_two min_two max_three min_three max_four min_four   -- for this text's walks alone
set_option linter.unusedVariables false
set_option linter.unusedSimpArgs false

/-! ### marquetryref24_Lay: function 20 -/
def marquetryref24_Lay.l0 : Nat → List (S35) → List Int → Int → Option (List Int)
  | 0, _, _, _ => none
  | k + 1, x0, x3, x4 => if x4 < (x0.length : Int) then (if 0 ≤ x4 then (if x3.length + ((rd_T35 x0 x4).f0).size < 140737488355328 then ((some (x3 ++ bytesOf ((rd_T35 x0 x4).f0) : List Int)).bind fun y233 => ((marquetryref24_Num.f k (IntKind.u64.wrap ((((rd_T35 x0 x4).f1).length : Int))) 4).bind fun t237 => (if y233.length + t237.length < 140737488355328 then ((some (y233 ++ t237 : List Int)).bind fun y240 => (if y240.length + ((rd_T35 x0 x4).f1).length < 140737488355328 then ((some (y240 ++ ((rd_T35 x0 x4).f1) : List Int)).bind fun y244 => (if ((((rd_T35 x0 x4).f1).length : Int) % 2) = 1 then (if y244.length < 140737488355328 then (marquetryref24_Lay.l0 k x0 (y244 ++ [0]) (wrap64 (x4 + 1))) else (none)) else (marquetryref24_Lay.l0 k x0 y244 (wrap64 (x4 + 1))))) else (none))) else (none)))) else (none)) else (none)) else (some x3)
def marquetryref24_Lay.f (k : Nat) (l0 : List (S35)) : Option (List Int) := marquetryref24_Lay.l0 k l0 ([] : List Int) 0
theorem marquetryref24_Lay.mono_l : ∀ k, (∀ y0 y1 y2, LeO (marquetryref24_Lay.l0 k y0 y1 y2) (marquetryref24_Lay.l0 (k + 1) y0 y1 y2))
  | 0 => fun _ _ _ r h => by simp [marquetryref24_Lay.l0] at h
  | k + 1 => by
    have ih0 := marquetryref24_Lay.mono_l k
    · intro y0 y1 y2
      unfold marquetryref24_Lay.l0
      repeat' first
      | (with_reducible exact ih0 _ _ _)
      | (with_reducible exact marquetryref24_Num.mono _ _ _)
      | (with_reducible exact LeO.refl _)
      | (with_reducible exact LeO.none _)
      | (with_reducible refine LeO.ite ?_ ?_)
      | (with_reducible refine LeO.bind ?_ (fun _ => ?_))
      | exact ih0 _ _ _
      | exact marquetryref24_Num.mono _ _ _
      | exact LeO.none _
      | refine LeO.ite ?_ ?_
      | refine LeO.bind ?_ (fun _ => ?_)
theorem marquetryref24_Lay.mono : ∀ a0 k, LeO (marquetryref24_Lay.f k a0) (marquetryref24_Lay.f (k + 1) a0) := by
  intro a0 k
  have ih0 := marquetryref24_Lay.mono_l k
  unfold marquetryref24_Lay.f
  repeat' first
      | (with_reducible exact ih0 _ _ _)
      | (with_reducible exact marquetryref24_Num.mono _ _ _)
      | (with_reducible exact LeO.refl _)
      | (with_reducible exact LeO.none _)
      | (with_reducible refine LeO.ite ?_ ?_)
      | (with_reducible refine LeO.bind ?_ (fun _ => ?_))
      | exact ih0 _ _ _
      | exact marquetryref24_Num.mono _ _ _
      | exact LeO.none _
      | refine LeO.ite ?_ ?_
      | refine LeO.bind ?_ (fun _ => ?_)
set_option maxHeartbeats 8000000 in
set_option maxRecDepth 100000 in
theorem marquetryref24_Lay.calls (k : Nat) (A0 : Option Addr) (c0 : Nat) (l0 : List (S35)) (r : List Int) (w : World) (hr0 : Kd.C k35 w A0 l0.length l0) (hc0 : l0.length ≤ c0) (h : marquetryref24_Lay.f k l0 = some r) :
    Calls Try.prog 20 #[.slice A0 l0.length c0] w fun e w' => ∃ v0_ : Value, e = .returned (v0_) ∧ Kd.R (Kd.int .u8) 5 w' w.heap.size (fun _ => True) v0_ r ∧ Below w.heap.size w w' := by
  have HR0 := Aside0.mk hr0
  have HC0 := Aside0.mk hc0
  clear hr0 hc0
  have HB := Aside0.mk (Below.refl w.heap.size w)
  have H : (marquetryref24_Lay.l0 k l0 ([] : List Int) 0) = some r := h
  clear h
  have H' := Aside0.mk H
  clear H
  go_enter Try.func20, Try.ntmps20
  go_wp2
  go_loopg [3, 4] k (fun kq v3 v4 w' => ∃ (x3_1 : List Int) (x4_1 : Int), v4 = .int .i64 x4_1 ∧ Aside0 (marquetryref24_Lay.l0 kq l0 x3_1 x4_1 = some r) ∧ Aside0 (kq ≤ k) ∧ Aside0 (Kd.R (Kd.int .u8) 5 w' w.heap.size (fun _ => True) v3 x3_1) ∧ Aside0 (Below w.heap.size w w'))
  case atStart => exact ⟨(([] : List Int)), (0), (by first | rfl | (simp; done) | (simp [*]; done)), H', ⟨Nat.le_refl _⟩, ⟨by first | exact Kd.R_nil _ _ _ _ _ | exact Kd.N_nil _ _ _ _ _ | exact Kd.V_nil _ _ _ _ _ | exact Kd.Q_nil _ _ _ _ _ | exact Kd.S_nil _ _ _ _ _⟩, ⟨by repeat (first | (with_reducible first | exact HB.out | apply below_alloc | apply pw_below_drewN | apply below_drew1) | exact HB.out)⟩⟩
  case round =>
    clear H'
    obtain ⟨x3_1, x4_1, rfl, HA, HK1, HO_3, HB⟩ := hrel
    cases gk with
    | zero => exact absurd HA.out (by simp [marquetryref24_Lay.l0])
    | succ k1 =>
      have H := HA.out
      clear HA
      simp only [marquetryref24_Lay.l0] at H
      by_cases c2 : x4_1 < (l0.length : Int)
      · rw [if_pos c2] at H
        have c2b0 : decide (x4_1 < (l0.length : Int)) = true := decide_eq_true c2
        clear c2
        by_cases c3 : 0 ≤ x4_1
        · rw [if_pos c3] at H
          have c3b0 : decide (0 ≤ x4_1) = true := decide_eq_true c3
          clear c3
          by_cases c4 : x3_1.length + ((rd_T35 l0 x4_1).f0).size < 140737488355328
          · rw [if_pos c4] at H
            have LMc4 := Aside0.mk c4
            clear c4
            obtain ⟨y233, hy233⟩ : ∃ y_ : List Int, y_ = (x3_1 ++ bytesOf ((rd_T35 l0 x4_1).f0)) := ⟨_, rfl⟩
            replace H : ((marquetryref24_Num.f k1 (IntKind.u64.wrap ((((rd_T35 l0 x4_1).f1).length : Int))) 4).bind fun t237 => (if y233.length + t237.length < 140737488355328 then ((some (y233 ++ t237 : List Int)).bind fun y240 => (if y240.length + ((rd_T35 l0 x4_1).f1).length < 140737488355328 then ((some (y240 ++ ((rd_T35 l0 x4_1).f1) : List Int)).bind fun y244 => (if ((((rd_T35 l0 x4_1).f1).length : Int) % 2) = 1 then (if y244.length < 140737488355328 then (marquetryref24_Lay.l0 k1 l0 (y244 ++ [0]) (wrap64 (x4_1 + 1))) else (none)) else (marquetryref24_Lay.l0 k1 l0 y244 (wrap64 (x4_1 + 1))))) else (none))) else (none))) = some r := by first | (rw [hy233]; with_reducible exact H) | (have H2_ := (Option.bind_some _ _).symm.trans H; rw [hy233]; with_reducible exact H2_) | (have H2_ := (Option.bind_some _ _).symm.trans H; with_reducible exact H2_) | with_reducible exact H | (rw [hy233]; exact H) | exact H
            have Ny233 := Aside0.mk hy233
            clear hy233
            replace H := Option.bind_eq_some_iff.mp H
            obtain ⟨t237, A50, H⟩ := H
            replace H : (if y233.length + t237.length < 140737488355328 then ((some (y233 ++ t237 : List Int)).bind fun y240 => (if y240.length + ((rd_T35 l0 x4_1).f1).length < 140737488355328 then ((some (y240 ++ ((rd_T35 l0 x4_1).f1) : List Int)).bind fun y244 => (if ((((rd_T35 l0 x4_1).f1).length : Int) % 2) = 1 then (if y244.length < 140737488355328 then (marquetryref24_Lay.l0 k1 l0 (y244 ++ [0]) (wrap64 (x4_1 + 1))) else (none)) else (marquetryref24_Lay.l0 k1 l0 y244 (wrap64 (x4_1 + 1))))) else (none))) else (none)) = some r := H
            have A5 := Aside0.mk A50
            clear A50
            by_cases c6 : y233.length + t237.length < 140737488355328
            · rw [if_pos c6] at H
              have LMc6 := Aside0.mk c6
              clear c6
              obtain ⟨y240, hy240⟩ : ∃ y_ : List Int, y_ = (y233 ++ t237) := ⟨_, rfl⟩
              replace H : (if y240.length + ((rd_T35 l0 x4_1).f1).length < 140737488355328 then ((some (y240 ++ ((rd_T35 l0 x4_1).f1) : List Int)).bind fun y244 => (if ((((rd_T35 l0 x4_1).f1).length : Int) % 2) = 1 then (if y244.length < 140737488355328 then (marquetryref24_Lay.l0 k1 l0 (y244 ++ [0]) (wrap64 (x4_1 + 1))) else (none)) else (marquetryref24_Lay.l0 k1 l0 y244 (wrap64 (x4_1 + 1))))) else (none)) = some r := by first | (rw [hy240]; with_reducible exact H) | (have H2_ := (Option.bind_some _ _).symm.trans H; rw [hy240]; with_reducible exact H2_) | (have H2_ := (Option.bind_some _ _).symm.trans H; with_reducible exact H2_) | with_reducible exact H | (rw [hy240]; exact H) | exact H
              have Ny240 := Aside0.mk hy240
              clear hy240
              by_cases c7 : y240.length + ((rd_T35 l0 x4_1).f1).length < 140737488355328
              · rw [if_pos c7] at H
                have LMc7 := Aside0.mk c7
                clear c7
                obtain ⟨y244, hy244⟩ : ∃ y_ : List Int, y_ = (y240 ++ ((rd_T35 l0 x4_1).f1)) := ⟨_, rfl⟩
                replace H : (if ((((rd_T35 l0 x4_1).f1).length : Int) % 2) = 1 then (if y244.length < 140737488355328 then (marquetryref24_Lay.l0 k1 l0 (y244 ++ [0]) (wrap64 (x4_1 + 1))) else (none)) else (marquetryref24_Lay.l0 k1 l0 y244 (wrap64 (x4_1 + 1)))) = some r := by first | (rw [hy244]; with_reducible exact H) | (have H2_ := (Option.bind_some _ _).symm.trans H; rw [hy244]; with_reducible exact H2_) | (have H2_ := (Option.bind_some _ _).symm.trans H; with_reducible exact H2_) | with_reducible exact H | (rw [hy244]; exact H) | exact H
                have Ny244 := Aside0.mk hy244
                clear hy244
                by_cases c8 : ((((rd_T35 l0 x4_1).f1).length : Int) % 2) = 1
                · rw [if_pos c8] at H
                  have c8b0 : (((((rd_T35 l0 x4_1).f1).length : Int) % 2) == 1) = true := beq_iff_eq.mpr c8
                  have c8b1 : (((((rd_T35 l0 x4_1).f1).length : Int) % 2) != 1) = false := bne_eq_false_iff_eq.mpr c8
                  clear c8
                  by_cases c9 : y244.length < 140737488355328
                  · rw [if_pos c9] at H
                    have LMc9 := Aside0.mk c9
                    clear c9
                    obtain ⟨y248, hy248⟩ : ∃ y_ : List Int, y_ = (y244 ++ [0]) := ⟨_, rfl⟩
                    replace H : (marquetryref24_Lay.l0 k1 l0 y248 (wrap64 (x4_1 + 1))) = some r := by first | (rw [hy248]; with_reducible exact H) | (have H2_ := (Option.bind_some _ _).symm.trans H; rw [hy248]; with_reducible exact H2_) | (have H2_ := (Option.bind_some _ _).symm.trans H; with_reducible exact H2_) | with_reducible exact H | (rw [hy248]; exact H) | exact H
                    have Ny248 := Aside0.mk hy248
                    clear hy248
                    have H' := Aside0.mk H
                    clear H
                    have p232 : 0 ≤ (x4_1 : Int) := of_decide_eq_true (by first | (with_reducible assumption) | assumption)
                    have q232 : x4_1 < (l0.length : Int) := of_decide_eq_true (by first | (with_reducible assumption) | assumption)
                    obtain ⟨ad232, A232_1, c232_1, e232, hx232_0, hx232_1, hl232_1, hi232_1⟩ := at_T35 HR0.out x4_1 p232 q232
                    cases e232
                    replace hx232_0 := (HB.out.cell (World.block_lt_of_cell? w _ hx232_0)).trans hx232_0
                    replace hx232_1 := (HB.out.cell (World.block_lt_of_cell? w _ hx232_1)).trans hx232_1
                    have HR232_1 := Aside0.mk hi232_1
                    have HC232_1 := Aside0.mk hl232_1
                    clear hi232_1 hl232_1
                    replace p232 := eq_true p232
                    replace q232 := eq_true q232
                    go_wp2_with (first | (at_builtin; refine print_append_str (w0 := w) w.heap.size rfl (.tmp 11) _ 22 9 5 rfl Try.underlying22 Try.underlying9 info5 u3 x3_1 ((rd_T35 l0 x4_1).f0) rfl rfl ?aO ?aB ?aS ?aL ?_; (case aB => exact (by repeat (first | (with_reducible first | exact HB.out | apply below_alloc | apply pw_below_drewN | apply below_drew1) | exact HB.out))); (case aO => exact (Kd.own_of_R (by (with_reducible repeat (first | apply Kd.R_alloc | apply Kd.R_drewN | apply Kd.R_drew)); exact HO_3.out))); (case aS => exact (below_size (by repeat (first | (with_reducible first | exact HB.out | apply below_alloc | apply pw_below_drewN | apply below_drew1) | exact HB.out)))); (case aL => have := LMc4.out; omega); intro v234 w10 ho0 hb hg; have ho := Kd.R_of_own (h1 := fun _ => rfl) (ok := fun _ => True) ho0 (fun _ _ => trivial); clear ho0; have hat := True.intro; rw [← Ny233.out] at ho; change Kd.R (Kd.int .u8) 5 w10 w.heap.size (fun _ => True) v234 y233 at ho; have n0_ := Aside0.mk (hb); have n1_ := Aside0.mk (ho); clear HB; clear HO_3; have HB := n0_; have HO235 := n1_; clear n0_ n1_; clear ho hb hg hat; have p236 : 0 ≤ (x4_1 : Int) := of_decide_eq_true (by first | (with_reducible assumption) | assumption); have q236 : x4_1 < (l0.length : Int) := of_decide_eq_true (by first | (with_reducible assumption) | assumption); obtain ⟨ad236, A236_1, c236_1, e236, hx236_0, hx236_1, hl236_1, hi236_1⟩ := at_T35 HR0.out x4_1 p236 q236; obtain rfl : ad232 = ad236 := (by injection e236); replace hx236_0 := (HB.out.cell (World.block_lt_of_cell? w _ hx236_0)).trans hx236_0; replace hx236_1 := (HB.out.cell (World.block_lt_of_cell? w _ hx236_1)).trans hx236_1; have HR236_1 := Aside0.mk hi236_1; have HC236_1 := Aside0.mk hl236_1; clear hi236_1 hl236_1; replace p236 := eq_true p236; replace q236 := eq_true q236) | ((with_reducible refine gate_callee (f := 26) rfl ?_); refine goesL_ (some 26) rfl rfl Try.func26 (by kernel_rfl) rfl #[.int .u64 (IntKind.u64.wrap ((((rd_T35 l0 x4_1).f1).length : Int))), .int .i64 4] rfl (by (try simp only [List.map_toArray, List.map_cons, List.map_nil]); first | done | rfl | (simp only [List.length_drop, List.length_take]; rfl)) ?_; (with_reducible refine (marquetryref24_Num.calls k1 (IntKind.u64.wrap ((((rd_T35 l0 x4_1).f1).length : Int))) 4 t237 _ A5.out).mono ?_); clear A5; rintro e w11 ⟨v238, rfl, ho0, hb⟩; refine ⟨_, rfl, ?_⟩; have n0_ := Aside0.mk (Kd.R_elder' (by (with_reducible repeat (first | apply Kd.R_alloc | apply Kd.R_drewN | apply Kd.R_drew)); exact HO235.out) (Kd.R_base ho0) hb); have n1_ := Aside0.mk (Kd.R_lower (Kd.R_new' ho0 (Kd.R_lt (by (with_reducible repeat (first | apply Kd.R_alloc | apply Kd.R_drewN | apply Kd.R_drew)); exact HO235.out))) (below_size (by repeat (first | (with_reducible first | exact HB.out | apply below_alloc | apply pw_below_drewN | apply below_drew1) | exact HB.out)))); have n2_ := Aside0.mk (below_step (by repeat (first | (with_reducible first | exact HB.out | apply below_alloc | apply pw_below_drewN | apply below_drew1) | exact HB.out)) hb); clear HO235; clear HB; have HO235 := n0_; have HO239 := n1_; have HB := n2_; clear n0_ n1_ n2_; (try clear hb); (try clear hb2); (try clear hk); (try clear hi); (try clear ho0); obtain ⟨Ao13, co13, eo13⟩ := Kd.R_slice HO239.out; subst eo13) | (go_at_call 26; (with_reducible refine (marquetryref24_Num.calls k1 (IntKind.u64.wrap ((((rd_T35 l0 x4_1).f1).length : Int))) 4 t237 _ A5.out).mono ?_); clear A5; rintro e w11 ⟨v238, rfl, ho0, hb⟩; have n0_ := Aside0.mk (Kd.R_elder' (by (with_reducible repeat (first | apply Kd.R_alloc | apply Kd.R_drewN | apply Kd.R_drew)); exact HO235.out) (Kd.R_base ho0) hb); have n1_ := Aside0.mk (Kd.R_lower (Kd.R_new' ho0 (Kd.R_lt (by (with_reducible repeat (first | apply Kd.R_alloc | apply Kd.R_drewN | apply Kd.R_drew)); exact HO235.out))) (below_size (by repeat (first | (with_reducible first | exact HB.out | apply below_alloc | apply pw_below_drewN | apply below_drew1) | exact HB.out)))); have n2_ := Aside0.mk (below_step (by repeat (first | (with_reducible first | exact HB.out | apply below_alloc | apply pw_below_drewN | apply below_drew1) | exact HB.out)) hb); clear HO235; clear HB; have HO235 := n0_; have HO239 := n1_; have HB := n2_; clear n0_ n1_ n2_; (try clear hb); (try clear hb2); (try clear hk); (try clear hi); (try clear ho0); obtain ⟨Ao13, co13, eo13⟩ := Kd.R_slice HO239.out; subst eo13) | ((with_reducible refine gate_builtin (b := .append) (xs := #[.tmp 18, .tmp 26]) rfl ?_); at_builtin; refine Kd.R_append_rows (Kd.int .u8) (w0 := w) w.heap.size rfl (.tmp 18) (.tmp 26) 22 5 (.int .u8 0) 1 rfl Try.underlying22 info5 rfl (by decide) (by omega) v234 y233 t237 _ _ _ (fun k_ => some k_ ≠ (.slice Ao13 t237.length co13 : Value).ownBlock) (fun _ => False) rfl rfl ?aO ?aR (fun _ _ h => h) (fun _ h => h.elim) ?aF ?aB ?aS ?aL ?_; (case aR => repeat (first | exact (Kd.R_reads' HO239.out).2.2 | (with_reducible refine Kd.C_alloc ?_ _) | (with_reducible refine Kd.C_drewN ?_ _) | (with_reducible refine Kd.C_drew ?_))); (case aB => exact (by repeat (first | (with_reducible first | exact HB.out | apply below_alloc | apply pw_below_drewN | apply below_drew1) | exact HB.out))); (case aF => exact (fun k_ hk => Kd.fresh' (Kd.R_lt (by (with_reducible repeat (first | apply Kd.R_alloc | apply Kd.R_drewN | apply Kd.R_drew)); exact HO239.out)) k_ hk)); (case aO => exact (by (with_reducible repeat (first | apply Kd.R_alloc | apply Kd.R_drewN | apply Kd.R_drew)); exact Kd.R_mono HO235.out (fun _ hk => hk.2))); (case aS => exact (below_size (by repeat (first | (with_reducible first | exact HB.out | apply below_alloc | apply pw_below_drewN | apply below_drew1) | exact HB.out)))); (case aL => have := LMc6.out; omega); intro v241 w12 ho hb hg hat; rw [← Ny240.out] at ho; have n0_ := Aside0.mk (Kd.R_after (ok := (fun _ => True)) (by (with_reducible repeat (first | apply Kd.R_alloc | apply Kd.R_drewN | apply Kd.R_drew)); exact HO239.out) hg hat); have n1_ := Aside0.mk (hb); have n2_ := Aside0.mk (ho); clear HO239; clear HB; clear HO235; have HO239 := n0_; have HB := n1_; have HO242 := n2_; clear n0_ n1_ n2_; clear ho hb hg hat; have p243 : 0 ≤ (x4_1 : Int) := of_decide_eq_true (by first | (with_reducible assumption) | assumption); have q243 : x4_1 < (l0.length : Int) := of_decide_eq_true (by first | (with_reducible assumption) | assumption); obtain ⟨ad243, A243_1, c243_1, e243, hx243_0, hx243_1, hl243_1, hi243_1⟩ := at_T35 HR0.out x4_1 p243 q243; obtain rfl : ad232 = ad243 := (by injection e243); replace hx243_0 := (HB.out.cell (World.block_lt_of_cell? w _ hx243_0)).trans hx243_0; replace hx243_1 := (HB.out.cell (World.block_lt_of_cell? w _ hx243_1)).trans hx243_1; have HR243_1 := Aside0.mk hi243_1; have HC243_1 := Aside0.mk hl243_1; clear hi243_1 hl243_1; replace p243 := eq_true p243; replace q243 := eq_true q243) | ((with_reducible refine gate_builtin (b := .append) (xs := #[.tmp 28, .tmp 33]) rfl ?_); at_builtin; refine Kd.R_append_rows (Kd.int .u8) (w0 := w) w.heap.size rfl (.tmp 28) (.tmp 33) 22 5 (.int .u8 0) 1 rfl Try.underlying22 info5 rfl (by decide) (by omega) v241 y240 ((rd_T35 l0 x4_1).f1) _ _ _ (fun k_ => some k_ ≠ (.slice Ao13 t237.length co13 : Value).ownBlock) (fun _ => False) rfl rfl ?aO ?aR (fun _ _ h => h) (fun _ h => h.elim) ?aF ?aB ?aS ?aL ?_; (case aR => repeat (first | exact (Kd.C_below HR243_1.out HB.out) | (with_reducible refine Kd.C_alloc ?_ _) | (with_reducible refine Kd.C_drewN ?_ _) | (with_reducible refine Kd.C_drew ?_))); (case aB => exact (by repeat (first | (with_reducible first | exact HB.out | apply below_alloc | apply pw_below_drewN | apply below_drew1) | exact HB.out))); (case aF => exact (fun k_ hk => Kd.fresh' (Kd.R_lt (by (with_reducible repeat (first | apply Kd.R_alloc | apply Kd.R_drewN | apply Kd.R_drew)); exact HO239.out)) k_ hk)); (case aO => exact (by (with_reducible repeat (first | apply Kd.R_alloc | apply Kd.R_drewN | apply Kd.R_drew)); exact HO242.out)); (case aS => exact (below_size (by repeat (first | (with_reducible first | exact HB.out | apply below_alloc | apply pw_below_drewN | apply below_drew1) | exact HB.out)))); (case aL => have := LMc7.out; omega); intro v245 w14 ho hb hg hat; rw [← Ny244.out] at ho; have n0_ := Aside0.mk (Kd.R_after (ok := (fun _ => True)) (by (with_reducible repeat (first | apply Kd.R_alloc | apply Kd.R_drewN | apply Kd.R_drew)); exact HO239.out) hg hat); have n1_ := Aside0.mk (hb); have n2_ := Aside0.mk (ho); clear HO239; clear HB; clear HO242; have HO239 := n0_; have HB := n1_; have HO246 := n2_; clear n0_ n1_ n2_; clear ho hb hg hat; have p247 : 0 ≤ (x4_1 : Int) := of_decide_eq_true (by first | (with_reducible assumption) | assumption); have q247 : x4_1 < (l0.length : Int) := of_decide_eq_true (by first | (with_reducible assumption) | assumption); obtain ⟨ad247, A247_1, c247_1, e247, hx247_0, hx247_1, hl247_1, hi247_1⟩ := at_T35 HR0.out x4_1 p247 q247; obtain rfl : ad232 = ad247 := (by injection e247); replace hx247_0 := (HB.out.cell (World.block_lt_of_cell? w _ hx247_0)).trans hx247_0; replace hx247_1 := (HB.out.cell (World.block_lt_of_cell? w _ hx247_1)).trans hx247_1; have HR247_1 := Aside0.mk hi247_1; have HC247_1 := Aside0.mk hl247_1; clear hi247_1 hl247_1; replace p247 := eq_true p247; replace q247 := eq_true q247) | ((with_reducible refine gate_builtin (b := .append) (xs := #[.tmp 43, .tmp 44]) rfl ?_); at_builtin; refine Kd.R_append (Kd.int .u8) (w0 := w) w.heap.size rfl (.tmp 43) (.tmp 44) 22 5 (.int .u8 0) 1 rfl Try.underlying22 info5 rfl (by decide) (by omega) v245 y244 0 [.int .u8 0] (fun k_ => some k_ ≠ (.slice Ao13 t237.length co13 : Value).ownBlock) (fun _ => False) rfl rfl ?aP (fun _ hk => hk.elim) ?aF ?aO ?aB ?aS ?aL ?_; (case aP => exact rfl); (case aB => exact (by repeat (first | (with_reducible first | exact HB.out | apply below_alloc | apply pw_below_drewN | apply below_drew1) | exact HB.out))); (case aF => exact (fun k_ hk => Kd.fresh' (Kd.R_lt (by (with_reducible repeat (first | apply Kd.R_alloc | apply Kd.R_drewN | apply Kd.R_drew)); exact HO239.out)) k_ hk)); (case aO => exact (by (with_reducible repeat (first | apply Kd.R_alloc | apply Kd.R_drewN | apply Kd.R_drew)); exact HO246.out)); (case aS => exact (below_size (by repeat (first | (with_reducible first | exact HB.out | apply below_alloc | apply pw_below_drewN | apply below_drew1) | exact HB.out)))); (case aL => have := LMc9.out; omega); intro v249 w15 ho hb hg hat; rw [← Ny248.out] at ho; have n0_ := Aside0.mk (Kd.R_after (ok := (fun _ => True)) (by (with_reducible repeat (first | apply Kd.R_alloc | apply Kd.R_drewN | apply Kd.R_drew)); exact HO239.out) hg hat); have n1_ := Aside0.mk (hb); have n2_ := Aside0.mk (ho); clear HO239; clear HB; clear HO246; have HO239 := n0_; have HB := n1_; have HO250 := n2_; clear n0_ n1_ n2_; clear ho hb hg hat))
                    go_roundg k1
                    case measure => have := HK1.out; omega
                    case rel => exact ⟨(y248), (wrap64 (x4_1 + 1)), (by first | rfl | (simp; done) | (simp [*]; done)), H', ⟨by have := HK1.out; omega⟩, ⟨by (with_reducible repeat (first | apply Kd.R_alloc | apply Kd.R_drewN | apply Kd.R_drew)); exact Kd.R_mono HO250.out (fun _ hk => trivial)⟩, ⟨by repeat (first | (with_reducible first | exact HB.out | apply below_alloc | apply pw_below_drewN | apply below_drew1) | exact HB.out)⟩⟩
                  · rw [if_neg c9] at H
                    exact absurd H (by simp)
                · rw [if_neg c8] at H
                  have c8b0 : (((((rd_T35 l0 x4_1).f1).length : Int) % 2) == 1) = false := beq_eq_false_iff_ne.mpr c8
                  have c8b1 : (((((rd_T35 l0 x4_1).f1).length : Int) % 2) != 1) = true := bne_iff_ne.mpr c8
                  have H' := Aside0.mk H
                  clear H
                  have p232 : 0 ≤ (x4_1 : Int) := of_decide_eq_true (by first | (with_reducible assumption) | assumption)
                  have q232 : x4_1 < (l0.length : Int) := of_decide_eq_true (by first | (with_reducible assumption) | assumption)
                  obtain ⟨ad232, A232_1, c232_1, e232, hx232_0, hx232_1, hl232_1, hi232_1⟩ := at_T35 HR0.out x4_1 p232 q232
                  cases e232
                  replace hx232_0 := (HB.out.cell (World.block_lt_of_cell? w _ hx232_0)).trans hx232_0
                  replace hx232_1 := (HB.out.cell (World.block_lt_of_cell? w _ hx232_1)).trans hx232_1
                  have HR232_1 := Aside0.mk hi232_1
                  have HC232_1 := Aside0.mk hl232_1
                  clear hi232_1 hl232_1
                  replace p232 := eq_true p232
                  replace q232 := eq_true q232
                  go_wp2_with (first | (at_builtin; refine print_append_str (w0 := w) w.heap.size rfl (.tmp 11) _ 22 9 5 rfl Try.underlying22 Try.underlying9 info5 u3 x3_1 ((rd_T35 l0 x4_1).f0) rfl rfl ?aO ?aB ?aS ?aL ?_; (case aB => exact (by repeat (first | (with_reducible first | exact HB.out | apply below_alloc | apply pw_below_drewN | apply below_drew1) | exact HB.out))); (case aO => exact (Kd.own_of_R (by (with_reducible repeat (first | apply Kd.R_alloc | apply Kd.R_drewN | apply Kd.R_drew)); exact HO_3.out))); (case aS => exact (below_size (by repeat (first | (with_reducible first | exact HB.out | apply below_alloc | apply pw_below_drewN | apply below_drew1) | exact HB.out)))); (case aL => have := LMc4.out; omega); intro v234 w16 ho0 hb hg; have ho := Kd.R_of_own (h1 := fun _ => rfl) (ok := fun _ => True) ho0 (fun _ _ => trivial); clear ho0; have hat := True.intro; rw [← Ny233.out] at ho; change Kd.R (Kd.int .u8) 5 w16 w.heap.size (fun _ => True) v234 y233 at ho; have n0_ := Aside0.mk (hb); have n1_ := Aside0.mk (ho); clear HB; clear HO_3; have HB := n0_; have HO235 := n1_; clear n0_ n1_; clear ho hb hg hat; have p236 : 0 ≤ (x4_1 : Int) := of_decide_eq_true (by first | (with_reducible assumption) | assumption); have q236 : x4_1 < (l0.length : Int) := of_decide_eq_true (by first | (with_reducible assumption) | assumption); obtain ⟨ad236, A236_1, c236_1, e236, hx236_0, hx236_1, hl236_1, hi236_1⟩ := at_T35 HR0.out x4_1 p236 q236; obtain rfl : ad232 = ad236 := (by injection e236); replace hx236_0 := (HB.out.cell (World.block_lt_of_cell? w _ hx236_0)).trans hx236_0; replace hx236_1 := (HB.out.cell (World.block_lt_of_cell? w _ hx236_1)).trans hx236_1; have HR236_1 := Aside0.mk hi236_1; have HC236_1 := Aside0.mk hl236_1; clear hi236_1 hl236_1; replace p236 := eq_true p236; replace q236 := eq_true q236) | ((with_reducible refine gate_callee (f := 26) rfl ?_); refine goesL_ (some 26) rfl rfl Try.func26 (by kernel_rfl) rfl #[.int .u64 (IntKind.u64.wrap ((((rd_T35 l0 x4_1).f1).length : Int))), .int .i64 4] rfl (by (try simp only [List.map_toArray, List.map_cons, List.map_nil]); first | done | rfl | (simp only [List.length_drop, List.length_take]; rfl)) ?_; (with_reducible refine (marquetryref24_Num.calls k1 (IntKind.u64.wrap ((((rd_T35 l0 x4_1).f1).length : Int))) 4 t237 _ A5.out).mono ?_); clear A5; rintro e w17 ⟨v238, rfl, ho0, hb⟩; refine ⟨_, rfl, ?_⟩; have n0_ := Aside0.mk (Kd.R_elder' (by (with_reducible repeat (first | apply Kd.R_alloc | apply Kd.R_drewN | apply Kd.R_drew)); exact HO235.out) (Kd.R_base ho0) hb); have n1_ := Aside0.mk (Kd.R_lower (Kd.R_new' ho0 (Kd.R_lt (by (with_reducible repeat (first | apply Kd.R_alloc | apply Kd.R_drewN | apply Kd.R_drew)); exact HO235.out))) (below_size (by repeat (first | (with_reducible first | exact HB.out | apply below_alloc | apply pw_below_drewN | apply below_drew1) | exact HB.out)))); have n2_ := Aside0.mk (below_step (by repeat (first | (with_reducible first | exact HB.out | apply below_alloc | apply pw_below_drewN | apply below_drew1) | exact HB.out)) hb); clear HO235; clear HB; have HO235 := n0_; have HO239 := n1_; have HB := n2_; clear n0_ n1_ n2_; (try clear hb); (try clear hb2); (try clear hk); (try clear hi); (try clear ho0); obtain ⟨Ao19, co19, eo19⟩ := Kd.R_slice HO239.out; subst eo19) | (go_at_call 26; (with_reducible refine (marquetryref24_Num.calls k1 (IntKind.u64.wrap ((((rd_T35 l0 x4_1).f1).length : Int))) 4 t237 _ A5.out).mono ?_); clear A5; rintro e w17 ⟨v238, rfl, ho0, hb⟩; have n0_ := Aside0.mk (Kd.R_elder' (by (with_reducible repeat (first | apply Kd.R_alloc | apply Kd.R_drewN | apply Kd.R_drew)); exact HO235.out) (Kd.R_base ho0) hb); have n1_ := Aside0.mk (Kd.R_lower (Kd.R_new' ho0 (Kd.R_lt (by (with_reducible repeat (first | apply Kd.R_alloc | apply Kd.R_drewN | apply Kd.R_drew)); exact HO235.out))) (below_size (by repeat (first | (with_reducible first | exact HB.out | apply below_alloc | apply pw_below_drewN | apply below_drew1) | exact HB.out)))); have n2_ := Aside0.mk (below_step (by repeat (first | (with_reducible first | exact HB.out | apply below_alloc | apply pw_below_drewN | apply below_drew1) | exact HB.out)) hb); clear HO235; clear HB; have HO235 := n0_; have HO239 := n1_; have HB := n2_; clear n0_ n1_ n2_; (try clear hb); (try clear hb2); (try clear hk); (try clear hi); (try clear ho0); obtain ⟨Ao19, co19, eo19⟩ := Kd.R_slice HO239.out; subst eo19) | ((with_reducible refine gate_builtin (b := .append) (xs := #[.tmp 18, .tmp 26]) rfl ?_); at_builtin; refine Kd.R_append_rows (Kd.int .u8) (w0 := w) w.heap.size rfl (.tmp 18) (.tmp 26) 22 5 (.int .u8 0) 1 rfl Try.underlying22 info5 rfl (by decide) (by omega) v234 y233 t237 _ _ _ (fun k_ => some k_ ≠ (.slice Ao19 t237.length co19 : Value).ownBlock) (fun _ => False) rfl rfl ?aO ?aR (fun _ _ h => h) (fun _ h => h.elim) ?aF ?aB ?aS ?aL ?_; (case aR => repeat (first | exact (Kd.R_reads' HO239.out).2.2 | (with_reducible refine Kd.C_alloc ?_ _) | (with_reducible refine Kd.C_drewN ?_ _) | (with_reducible refine Kd.C_drew ?_))); (case aB => exact (by repeat (first | (with_reducible first | exact HB.out | apply below_alloc | apply pw_below_drewN | apply below_drew1) | exact HB.out))); (case aF => exact (fun k_ hk => Kd.fresh' (Kd.R_lt (by (with_reducible repeat (first | apply Kd.R_alloc | apply Kd.R_drewN | apply Kd.R_drew)); exact HO239.out)) k_ hk)); (case aO => exact (by (with_reducible repeat (first | apply Kd.R_alloc | apply Kd.R_drewN | apply Kd.R_drew)); exact Kd.R_mono HO235.out (fun _ hk => hk.2))); (case aS => exact (below_size (by repeat (first | (with_reducible first | exact HB.out | apply below_alloc | apply pw_below_drewN | apply below_drew1) | exact HB.out)))); (case aL => have := LMc6.out; omega); intro v241 w18 ho hb hg hat; rw [← Ny240.out] at ho; have n0_ := Aside0.mk (Kd.R_after (ok := (fun _ => True)) (by (with_reducible repeat (first | apply Kd.R_alloc | apply Kd.R_drewN | apply Kd.R_drew)); exact HO239.out) hg hat); have n1_ := Aside0.mk (hb); have n2_ := Aside0.mk (ho); clear HO239; clear HB; clear HO235; have HO239 := n0_; have HB := n1_; have HO242 := n2_; clear n0_ n1_ n2_; clear ho hb hg hat; have p243 : 0 ≤ (x4_1 : Int) := of_decide_eq_true (by first | (with_reducible assumption) | assumption); have q243 : x4_1 < (l0.length : Int) := of_decide_eq_true (by first | (with_reducible assumption) | assumption); obtain ⟨ad243, A243_1, c243_1, e243, hx243_0, hx243_1, hl243_1, hi243_1⟩ := at_T35 HR0.out x4_1 p243 q243; obtain rfl : ad232 = ad243 := (by injection e243); replace hx243_0 := (HB.out.cell (World.block_lt_of_cell? w _ hx243_0)).trans hx243_0; replace hx243_1 := (HB.out.cell (World.block_lt_of_cell? w _ hx243_1)).trans hx243_1; have HR243_1 := Aside0.mk hi243_1; have HC243_1 := Aside0.mk hl243_1; clear hi243_1 hl243_1; replace p243 := eq_true p243; replace q243 := eq_true q243) | ((with_reducible refine gate_builtin (b := .append) (xs := #[.tmp 28, .tmp 33]) rfl ?_); at_builtin; refine Kd.R_append_rows (Kd.int .u8) (w0 := w) w.heap.size rfl (.tmp 28) (.tmp 33) 22 5 (.int .u8 0) 1 rfl Try.underlying22 info5 rfl (by decide) (by omega) v241 y240 ((rd_T35 l0 x4_1).f1) _ _ _ (fun k_ => some k_ ≠ (.slice Ao19 t237.length co19 : Value).ownBlock) (fun _ => False) rfl rfl ?aO ?aR (fun _ _ h => h) (fun _ h => h.elim) ?aF ?aB ?aS ?aL ?_; (case aR => repeat (first | exact (Kd.C_below HR243_1.out HB.out) | (with_reducible refine Kd.C_alloc ?_ _) | (with_reducible refine Kd.C_drewN ?_ _) | (with_reducible refine Kd.C_drew ?_))); (case aB => exact (by repeat (first | (with_reducible first | exact HB.out | apply below_alloc | apply pw_below_drewN | apply below_drew1) | exact HB.out))); (case aF => exact (fun k_ hk => Kd.fresh' (Kd.R_lt (by (with_reducible repeat (first | apply Kd.R_alloc | apply Kd.R_drewN | apply Kd.R_drew)); exact HO239.out)) k_ hk)); (case aO => exact (by (with_reducible repeat (first | apply Kd.R_alloc | apply Kd.R_drewN | apply Kd.R_drew)); exact HO242.out)); (case aS => exact (below_size (by repeat (first | (with_reducible first | exact HB.out | apply below_alloc | apply pw_below_drewN | apply below_drew1) | exact HB.out)))); (case aL => have := LMc7.out; omega); intro v245 w20 ho hb hg hat; rw [← Ny244.out] at ho; have n0_ := Aside0.mk (Kd.R_after (ok := (fun _ => True)) (by (with_reducible repeat (first | apply Kd.R_alloc | apply Kd.R_drewN | apply Kd.R_drew)); exact HO239.out) hg hat); have n1_ := Aside0.mk (hb); have n2_ := Aside0.mk (ho); clear HO239; clear HB; clear HO242; have HO239 := n0_; have HB := n1_; have HO246 := n2_; clear n0_ n1_ n2_; clear ho hb hg hat; have p247 : 0 ≤ (x4_1 : Int) := of_decide_eq_true (by first | (with_reducible assumption) | assumption); have q247 : x4_1 < (l0.length : Int) := of_decide_eq_true (by first | (with_reducible assumption) | assumption); obtain ⟨ad247, A247_1, c247_1, e247, hx247_0, hx247_1, hl247_1, hi247_1⟩ := at_T35 HR0.out x4_1 p247 q247; obtain rfl : ad232 = ad247 := (by injection e247); replace hx247_0 := (HB.out.cell (World.block_lt_of_cell? w _ hx247_0)).trans hx247_0; replace hx247_1 := (HB.out.cell (World.block_lt_of_cell? w _ hx247_1)).trans hx247_1; have HR247_1 := Aside0.mk hi247_1; have HC247_1 := Aside0.mk hl247_1; clear hi247_1 hl247_1; replace p247 := eq_true p247; replace q247 := eq_true q247))
                  go_roundg k1
                  case measure => have := HK1.out; omega
                  case rel => exact ⟨(y244), (wrap64 (x4_1 + 1)), (by first | rfl | (simp; done) | (simp [*]; done)), H', ⟨by have := HK1.out; omega⟩, ⟨by (with_reducible repeat (first | apply Kd.R_alloc | apply Kd.R_drewN | apply Kd.R_drew)); exact Kd.R_mono HO246.out (fun _ hk => trivial)⟩, ⟨by repeat (first | (with_reducible first | exact HB.out | apply below_alloc | apply pw_below_drewN | apply below_drew1) | exact HB.out)⟩⟩
              · rw [if_neg c7] at H
                exact absurd H (by simp)
            · rw [if_neg c6] at H
              exact absurd H (by simp)
          · rw [if_neg c4] at H
            exact absurd H (by simp)
        · rw [if_neg c3] at H
          exact absurd H (by simp)
      · rw [if_neg c2] at H
        have c2b0 : decide (x4_1 < (l0.length : Int)) = false := decide_eq_false c2
        clear c2
        obtain rfl := Option.some.inj H
        go_wp2
        go_ret
        exact ⟨_, by first | rfl | (simp [errW_none, errW_some] <;> rfl) | (simp [*, errW_none, errW_some] <;> rfl), by (with_reducible repeat (first | apply Kd.R_alloc | apply Kd.R_drewN | apply Kd.R_drew)); exact HO_3.out, by repeat (first | (with_reducible first | exact HB.out | apply below_alloc | apply pw_below_drewN | apply below_drew1) | exact HB.out)⟩

/-! ### marquetryref24_File: function 19 -/
def marquetryref24_File.f (k : Nat) (l0 : List (S35)) : Option (List Int) :=
  (marquetryref24_Lay.f k l0).bind fun b => ((marquetryref24_Num.f k (IntKind.u64.wrap (wrap64 ((b.length : Int) + 4))) 4).bind fun n => if 0 < n.length then (if n.length + b.length + 8 < 140737488355328 then some ([82, 73, 70, 70] ++ n ++ bytesOf ⟨#[87, 69, 66, 80]⟩ ++ b) else none) else none)
theorem marquetryref24_File.mono : ∀ a0 k, LeO (marquetryref24_File.f k a0) (marquetryref24_File.f (k + 1) a0) := by
  intro a0 k
  unfold marquetryref24_File.f
  repeat' first
      | (with_reducible exact marquetryref24_Lay.mono _ _)
      | (with_reducible exact marquetryref24_Num.mono _ _ _)
      | (with_reducible exact LeO.refl _)
      | (with_reducible exact LeO.none _)
      | (with_reducible refine LeO.ite ?_ ?_)
      | (with_reducible refine LeO.bind ?_ (fun _ => ?_))
set_option maxHeartbeats 800000 in
set_option maxRecDepth 100000 in
theorem marquetryref24_File.calls (k : Nat) (A0 : Option Addr) (c0 : Nat) (l0 : List (S35)) (r1 : List Int) (w : World) (hr0 : Kd.C k35 w A0 l0.length l0) (hc0 : l0.length ≤ c0) (h : marquetryref24_File.f k l0 = some r1) :
    Calls Try.prog 19 #[.slice A0 l0.length c0] w fun e w' => ∃ v0_ : Value, e = .returned v0_ ∧ Kd.R (Kd.int .u8) 5 w' w.heap.size (fun _ => True) v0_ r1 ∧ Below w.heap.size w w' := by
  obtain ⟨b, hlay, h⟩ := Option.bind_eq_some_iff.mp h
  have HL := Aside0.mk hlay; clear hlay
  have HR0 := Aside0.mk hr0; clear hr0
  have HC0 := Aside0.mk hc0; clear hc0
  obtain ⟨n, hput, h⟩ := Option.bind_eq_some_iff.mp h
  by_cases c1 : 0 < n.length
  case neg => rw [if_neg c1] at h; cases h
  rw [if_pos c1] at h
  by_cases c2 : n.length + b.length + 8 < 140737488355328
  case neg => rw [if_neg c2] at h; cases h
  rw [if_pos c2] at h
  injection h with h1
  have HP := Aside0.mk hput; clear hput
  have HE := Aside0.mk h1; clear h1
  have C1 := Aside0.mk c1; clear c1
  have C2 := Aside0.mk c2; clear c2
  go_enter Try.func19, Try.ntmps19
  go_wp2_with fail
  refine (marquetryref24_Lay.calls k A0 c0 l0 b _ HR0.out HC0.out HL.out).mono ?_; rintro e w1 ⟨v, rfl, ho, hb⟩
  have hs := (St.refl w).newRow hb (Kd.own_of_R ho) (Nat.le_refl _)
  obtain ⟨B, cb, rfl⟩ := Kd.R_slice ho
  have HS1 := Aside0.mk hs; clear hs ho hb
  have kc := fun (w : World) (C : Array Value) (n c : Nat) => Lib.run_convert_bytes_const (P := Try.prog) w 22 5 C n c Try.underlying22 Try.underlying5
  go_wp2_with fail
  have HM := Aside0.mk (HS1.out.allocMark [82, 73, 70, 70] 5); clear HS1
  refine (marquetryref24_Num.calls k (IntKind.u64.wrap (wrap64 ((b.length : Int) + 4))) 4 n _ HP.out).mono ?_; rintro e w2 ⟨v, rfl, ho, hb⟩
  have hs := HM.out.newRow hb (Kd.own_of_R ho) (Nat.le_refl _)
  obtain ⟨C, cc, rfl⟩ := Kd.R_slice ho
  have HS2 := Aside0.mk hs; clear hs ho hb HM kc
  go_wp2_with (first
    | ((with_reducible refine gate_builtin (b := .append) (xs := #[.tmp 8, .tmp 13]) rfl ?_); at_builtin; refine St.append_marked (w0 := w) rfl (.tmp 8) (.tmp 13) 22 5 rfl Try.underlying22 info5 [82, 73, 70, 70] n w1.heap.size C n.length cc rfl rfl HS2.out.swap (rowReads HS2.out) C1.out (by have := C2.out; simp; omega) ?_; intro A1 c1 w3 hs; have HS3 := Aside0.mk hs; clear hs)
    | ((with_reducible refine gate_builtin (b := .append) (xs := #[.tmp 15, .const (.string ⟨#[87, 69, 66, 80]⟩)]) rfl ?_); at_builtin; refine St.append_str (w0 := w) rfl (.tmp 15) (.const (.string ⟨#[87, 69, 66, 80]⟩)) 22 9 5 rfl Try.underlying22 Try.underlying9 info5 _ _ ([82, 73, 70, 70] ++ n) ⟨#[87, 69, 66, 80]⟩ rfl rfl HS3.out (by have := C2.out; simp [ByteArray.size]; omega) ?_; intro A2 c2 w4 hs; have HS4 := Aside0.mk hs; clear hs)
    | ((with_reducible refine gate_builtin (b := .append) (xs := #[.tmp 16, .tmp 17]) rfl ?_); at_builtin; refine St.append_row (w0 := w) rfl (.tmp 16) (.tmp 17) 22 5 .u8 1 rfl Try.underlying22 info5 (by decide) _ _ ([82, 73, 70, 70] ++ n ++ bytesOf ⟨#[87, 69, 66, 80]⟩) b B b.length cb rfl rfl HS4.out (rowReads HS4.out.rot3) (by have := C2.out; simp [ByteArray.size]; omega) ?_; intro A3 c3 w5 hs; have HS5 := Aside0.mk hs; clear hs))
  go_ret
  exact ⟨_, rfl, HE.out ▸ HS5.out.toR, HS5.out.below⟩

/-! ### marquetrylaw24_ChunkBack: function 4 -/
mutual
def marquetrylaw24_ChunkBack.j0 : Nat → List (S35) → List Int → Bool → Option (Bool)
  | 0, _, _, _ => none
  | k + 1, x0, x1, x22 => if x22 = true then ((marquetrylaw24_answers.f).bind fun t252 => (some t252)) else ((chunk_Print.f k x0).bind fun bt253 => ((chunk_Lay.f k x0).bind fun bt257 => (marquetrylaw24_ChunkBack.l0 k x0 x1 bt253.1 bt253.2 bt257.1 bt257.2 true 0)))
def marquetrylaw24_ChunkBack.l0 : Nat → List (S35) → List Int → List Int → Int → List Int → Int → Bool → Int → Option (Bool)
  | 0, _, _, _, _, _, _, _, _ => none
  | k + 1, x0, x1, x5, x6, x7, x8, x9, x10 => if x10 < (x0.length : Int) then (if x9 = true then (if 0 ≤ x10 then ((marquetryref24_Name.f k ((rd_T35 x0 x10).f0)).bind fun t262 => (marquetrylaw24_ChunkBack.l0 k x0 x1 x5 x6 x7 x8 t262 (wrap64 (x10 + 1)))) else (none)) else (marquetrylaw24_ChunkBack.l0 k x0 x1 x5 x6 x7 x8 false (wrap64 (x10 + 1)))) else (if x9 = true then ((some (([] : List Int) : List Int)).bind fun y264 => (if y264.length + x5.length < 140737488355328 then ((some (y264 ++ x5 : List Int)).bind fun y267 => (if y267.length + x1.length < 140737488355328 then ((chunk_Scan.f k (y267 ++ x1)).bind fun bt273 => ((chunk_Inner.f k x7).bind fun bt277 => ((marquetrylaw24_answers.f).bind fun t281 => (if t281 = true then (if x6 = 0 then (if x8 = 0 then ((marquetryref24_File.f k x0).bind fun t282 => ((marquetryref01_Same.f k x5 t282).bind fun t285 => (if t285 = true then ((marquetryref24_Lay.f k x0).bind fun t286 => ((marquetryref01_Same.f k x7 t286).bind fun t289 => (if t289 = true then (if bt273.2 = 0 then (if bt277.2 = 0 then ((marquetryref24_SameChunks.f k bt273.1 x0).bind fun t290 => (if t290 = true then ((marquetryref24_SameChunks.f k bt277.1 x0).bind fun t291 => (some t291)) else (some false))) else (some false)) else (some false)) else (some false)))) else (some false)))) else (some false)) else (some false)) else (some false))))) else (none))) else (none))) else ((marquetrylaw24_answers.f).bind fun t263 => (if t263 = true then (if x6 = 7 then (if x8 = 7 then (some ((wrap64 ((x5.length : Int) + (x7.length : Int))) == 0)) else (some false)) else (some false)) else (some false))))
end
def marquetrylaw24_ChunkBack.f (k : Nat) (l0 : List (S35)) (l1 : List Int) : Option (Bool) := (marquetrylaw24_small.f k l0).bind fun t251 => (if t251 = true then (marquetrylaw24_ChunkBack.j0 k l0 l1 (decide ((l1.length : Int) > 100))) else (marquetrylaw24_ChunkBack.j0 k l0 l1 true))
theorem marquetrylaw24_ChunkBack.mono_l : ∀ k, (∀ y0 y1 y2, LeO (marquetrylaw24_ChunkBack.j0 k y0 y1 y2) (marquetrylaw24_ChunkBack.j0 (k + 1) y0 y1 y2)) ∧ (∀ y0 y1 y2 y3 y4 y5 y6 y7, LeO (marquetrylaw24_ChunkBack.l0 k y0 y1 y2 y3 y4 y5 y6 y7) (marquetrylaw24_ChunkBack.l0 (k + 1) y0 y1 y2 y3 y4 y5 y6 y7))
  | 0 => ⟨fun _ _ _ r h => by simp [marquetrylaw24_ChunkBack.j0] at h, fun _ _ _ _ _ _ _ _ r h => by simp [marquetrylaw24_ChunkBack.l0] at h⟩
  | k + 1 => by
    obtain ⟨ih0, ih1⟩ := marquetrylaw24_ChunkBack.mono_l k
    refine ⟨?_, ?_⟩
    · intro y0 y1 y2
      unfold marquetrylaw24_ChunkBack.j0
      repeat' first
      | (with_reducible exact ih0 _ _ _)
      | (with_reducible exact ih1 _ _ _ _ _ _ _ _)
      | (with_reducible exact chunk_Inner.mono _ _)
      | (with_reducible exact chunk_Lay.mono _ _)
      | (with_reducible exact chunk_Print.mono _ _)
      | (with_reducible exact chunk_Scan.mono _ _)
      | (with_reducible exact marquetrylaw24_small.mono _ _)
      | (with_reducible exact marquetryref01_Same.mono _ _ _)
      | (with_reducible exact marquetryref24_File.mono _ _)
      | (with_reducible exact marquetryref24_Lay.mono _ _)
      | (with_reducible exact marquetryref24_Name.mono _ _)
      | (with_reducible exact marquetryref24_SameChunks.mono _ _ _)
      | (with_reducible exact LeO.refl _)
      | (with_reducible exact LeO.none _)
      | (with_reducible refine LeO.ite ?_ ?_)
      | (with_reducible refine LeO.bind ?_ (fun _ => ?_))
      | exact ih0 _ _ _
      | exact ih1 _ _ _ _ _ _ _ _
      | exact chunk_Inner.mono _ _
      | exact chunk_Lay.mono _ _
      | exact chunk_Print.mono _ _
      | exact chunk_Scan.mono _ _
      | exact marquetrylaw24_small.mono _ _
      | exact marquetryref01_Same.mono _ _ _
      | exact marquetryref24_File.mono _ _
      | exact marquetryref24_Lay.mono _ _
      | exact marquetryref24_Name.mono _ _
      | exact marquetryref24_SameChunks.mono _ _ _
      | exact LeO.none _
      | refine LeO.ite ?_ ?_
      | refine LeO.bind ?_ (fun _ => ?_)
    · intro y0 y1 y2 y3 y4 y5 y6 y7
      unfold marquetrylaw24_ChunkBack.l0
      repeat' first
      | (with_reducible exact ih0 _ _ _)
      | (with_reducible exact ih1 _ _ _ _ _ _ _ _)
      | (with_reducible exact chunk_Inner.mono _ _)
      | (with_reducible exact chunk_Lay.mono _ _)
      | (with_reducible exact chunk_Print.mono _ _)
      | (with_reducible exact chunk_Scan.mono _ _)
      | (with_reducible exact marquetrylaw24_small.mono _ _)
      | (with_reducible exact marquetryref01_Same.mono _ _ _)
      | (with_reducible exact marquetryref24_File.mono _ _)
      | (with_reducible exact marquetryref24_Lay.mono _ _)
      | (with_reducible exact marquetryref24_Name.mono _ _)
      | (with_reducible exact marquetryref24_SameChunks.mono _ _ _)
      | (with_reducible exact LeO.refl _)
      | (with_reducible exact LeO.none _)
      | (with_reducible refine LeO.ite ?_ ?_)
      | (with_reducible refine LeO.bind ?_ (fun _ => ?_))
      | exact ih0 _ _ _
      | exact ih1 _ _ _ _ _ _ _ _
      | exact chunk_Inner.mono _ _
      | exact chunk_Lay.mono _ _
      | exact chunk_Print.mono _ _
      | exact chunk_Scan.mono _ _
      | exact marquetrylaw24_small.mono _ _
      | exact marquetryref01_Same.mono _ _ _
      | exact marquetryref24_File.mono _ _
      | exact marquetryref24_Lay.mono _ _
      | exact marquetryref24_Name.mono _ _
      | exact marquetryref24_SameChunks.mono _ _ _
      | exact LeO.none _
      | refine LeO.ite ?_ ?_
      | refine LeO.bind ?_ (fun _ => ?_)
theorem marquetrylaw24_ChunkBack.mono : ∀ a0 a1 k, LeO (marquetrylaw24_ChunkBack.f k a0 a1) (marquetrylaw24_ChunkBack.f (k + 1) a0 a1) := by
  intro a0 a1 k
  obtain ⟨ih0, ih1⟩ := marquetrylaw24_ChunkBack.mono_l k
  unfold marquetrylaw24_ChunkBack.f
  repeat' first
      | (with_reducible exact ih0 _ _ _)
      | (with_reducible exact ih1 _ _ _ _ _ _ _ _)
      | (with_reducible exact chunk_Inner.mono _ _)
      | (with_reducible exact chunk_Lay.mono _ _)
      | (with_reducible exact chunk_Print.mono _ _)
      | (with_reducible exact chunk_Scan.mono _ _)
      | (with_reducible exact marquetrylaw24_small.mono _ _)
      | (with_reducible exact marquetryref01_Same.mono _ _ _)
      | (with_reducible exact marquetryref24_File.mono _ _)
      | (with_reducible exact marquetryref24_Lay.mono _ _)
      | (with_reducible exact marquetryref24_Name.mono _ _)
      | (with_reducible exact marquetryref24_SameChunks.mono _ _ _)
      | (with_reducible exact LeO.refl _)
      | (with_reducible exact LeO.none _)
      | (with_reducible refine LeO.ite ?_ ?_)
      | (with_reducible refine LeO.bind ?_ (fun _ => ?_))
      | exact ih0 _ _ _
      | exact ih1 _ _ _ _ _ _ _ _
      | exact chunk_Inner.mono _ _
      | exact chunk_Lay.mono _ _
      | exact chunk_Print.mono _ _
      | exact chunk_Scan.mono _ _
      | exact marquetrylaw24_small.mono _ _
      | exact marquetryref01_Same.mono _ _ _
      | exact marquetryref24_File.mono _ _
      | exact marquetryref24_Lay.mono _ _
      | exact marquetryref24_Name.mono _ _
      | exact marquetryref24_SameChunks.mono _ _ _
      | exact LeO.none _
      | refine LeO.ite ?_ ?_
      | refine LeO.bind ?_ (fun _ => ?_)
set_option maxHeartbeats 8000000 in
set_option maxRecDepth 100000 in
theorem marquetrylaw24_ChunkBack.calls (k : Nat) (A0 : Option Addr) (c0 : Nat) (l0 : List (S35)) (A1 : Option Addr) (c1 : Nat) (l1 : List Int) (r : Bool) (w : World) (hr0 : Kd.C k35 w A0 l0.length l0) (hc0 : l0.length ≤ c0) (hr1 : Kd.C (Kd.int .u8) w A1 l1.length l1) (hc1 : l1.length ≤ c1) (h : marquetrylaw24_ChunkBack.f k l0 l1 = some r) (hr : r = true) :
    Calls Try.prog 4 #[.slice A0 l0.length c0, .slice A1 l1.length c1] w fun e w' => e = .returned (.bool r) ∧ Below w.heap.size w w' := by
  have HR0 := Aside0.mk hr0
  have HC0 := Aside0.mk hc0
  clear hr0 hc0
  have HR1 := Aside0.mk hr1
  have HC1 := Aside0.mk hc1
  clear hr1 hc1
  have HB := Aside0.mk (Below.refl w.heap.size w)
  have H : ((marquetrylaw24_small.f k l0).bind fun t251 => (if t251 = true then (marquetrylaw24_ChunkBack.j0 k l0 l1 (decide ((l1.length : Int) > 100))) else (marquetrylaw24_ChunkBack.j0 k l0 l1 true))) = some r := h
  clear h
  have Hr := Aside0.mk hr
  clear hr
  have HC3 := Aside0.mk H
  clear H
  go_enter Try.func4, Try.ntmps4
  go_upto_region 1 with (fail)
  go_cut [22] (fun v22 wc => ∃ (kq : Nat) (x22_2 : Bool), v22 = .bool x22_2 ∧ Aside0 (marquetrylaw24_ChunkBack.j0 kq l0 l1 x22_2 = some r) ∧ Aside0 (kq ≤ k) ∧ Aside0 (Below w.heap.size w wc))
  case first =>
    have H := HC3.out
    clear HC3
    replace H := Option.bind_eq_some_iff.mp H
    obtain ⟨t251, A40, H⟩ := H
    replace H : (if t251 = true then (marquetrylaw24_ChunkBack.j0 k l0 l1 (decide ((l1.length : Int) > 100))) else (marquetrylaw24_ChunkBack.j0 k l0 l1 true)) = some r := H
    have A4 := Aside0.mk A40
    clear A40
    by_cases c5 : t251 = true
    · subst c5
      have H1 : (marquetrylaw24_ChunkBack.j0 k l0 l1 (decide ((l1.length : Int) > 100))) = some r := by rw [if_pos rfl] at H; exact H
      clear H
      have H := H1
      clear H1
      have H' := Aside0.mk H
      clear H
      go_wp2_with (first | ((with_reducible refine gate_callee (f := 14) rfl ?_); refine goesL_ (some 16) rfl rfl Try.func14 (by kernel_rfl) rfl #[.slice A0 l0.length c0] rfl (by (try simp only [List.map_toArray, List.map_cons, List.map_nil]); first | done | rfl | (simp only [List.length_drop, List.length_take]; rfl)) ?_; (with_reducible refine (marquetrylaw24_small.calls k _ _ l0 true _ ?side1 ?side2 A4.out).mono ?_); (case side1 => repeat (first | exact (Kd.C_below HR0.out HB.out) | (with_reducible refine Kd.C_alloc ?_ _) | (with_reducible refine Kd.C_drewN ?_ _) | (with_reducible refine Kd.C_drew ?_))); (case side2 => exact HC0.out); rintro e w' ⟨rfl, ⟨nd, rfl⟩⟩; refine ⟨_, rfl, ?_⟩) | (go_at_call 14; (with_reducible refine (marquetrylaw24_small.calls k _ _ l0 true _ ?side1 ?side2 A4.out).mono ?_); (case side1 => repeat (first | exact (Kd.C_below HR0.out HB.out) | (with_reducible refine Kd.C_alloc ?_ _) | (with_reducible refine Kd.C_drewN ?_ _) | (with_reducible refine Kd.C_drew ?_))); (case side2 => exact HC0.out); rintro e w' ⟨rfl, ⟨nd, rfl⟩⟩))
      go_meet
      case rel => exact ⟨_, (decide ((l1.length : Int) > 100)), (by first | rfl | (simp; done) | (simp [*]; done)), H', ⟨by first | omega | exact Nat.le_refl _⟩, ⟨by repeat (first | (with_reducible first | exact HB.out | apply below_alloc | apply pw_below_drewN | apply below_drew1) | exact HB.out)⟩⟩
    · replace c5 := Bool.eq_false_iff.mpr c5
      subst c5
      have H1 : (marquetrylaw24_ChunkBack.j0 k l0 l1 true) = some r := by rw [if_neg (show ¬ (false = true) by decide)] at H; exact H
      clear H
      have H := H1
      clear H1
      have H' := Aside0.mk H
      clear H
      go_wp2_with (first | ((with_reducible refine gate_callee (f := 14) rfl ?_); refine goesL_ (some 16) rfl rfl Try.func14 (by kernel_rfl) rfl #[.slice A0 l0.length c0] rfl (by (try simp only [List.map_toArray, List.map_cons, List.map_nil]); first | done | rfl | (simp only [List.length_drop, List.length_take]; rfl)) ?_; (with_reducible refine (marquetrylaw24_small.calls k _ _ l0 false _ ?side1 ?side2 A4.out).mono ?_); (case side1 => repeat (first | exact (Kd.C_below HR0.out HB.out) | (with_reducible refine Kd.C_alloc ?_ _) | (with_reducible refine Kd.C_drewN ?_ _) | (with_reducible refine Kd.C_drew ?_))); (case side2 => exact HC0.out); rintro e w' ⟨rfl, ⟨nd, rfl⟩⟩; refine ⟨_, rfl, ?_⟩) | (go_at_call 14; (with_reducible refine (marquetrylaw24_small.calls k _ _ l0 false _ ?side1 ?side2 A4.out).mono ?_); (case side1 => repeat (first | exact (Kd.C_below HR0.out HB.out) | (with_reducible refine Kd.C_alloc ?_ _) | (with_reducible refine Kd.C_drewN ?_ _) | (with_reducible refine Kd.C_drew ?_))); (case side2 => exact HC0.out); rintro e w' ⟨rfl, ⟨nd, rfl⟩⟩))
      go_meet
      case rel => exact ⟨_, (true), (by first | rfl | (simp; done) | (simp [*]; done)), H', ⟨by first | omega | exact Nat.le_refl _⟩, ⟨by repeat (first | (with_reducible first | exact HB.out | apply below_alloc | apply pw_below_drewN | apply below_drew1) | exact HB.out)⟩⟩
  case rest =>
    clear HC3
    try clear c1
    try clear p2
    try clear c4
    try clear c5
    obtain ⟨kq, x22_2, rfl, HA, HJ2, HB⟩ := hcut
    cases kq with
    | zero => exact absurd HA.out (by simp [marquetrylaw24_ChunkBack.j0])
    | succ kj2 =>
      have H := HA.out
      clear HA
      simp only [marquetrylaw24_ChunkBack.j0] at H
      by_cases c6 : x22_2 = true
      · subst c6
        have H1 : ((marquetrylaw24_answers.f).bind fun t252 => (some t252)) = some r := by rw [if_pos rfl] at H; exact H
        clear H
        have H := H1
        clear H1
        replace H := Option.bind_eq_some_iff.mp H
        obtain ⟨t252, A70, H⟩ := H
        replace H : (some t252) = some r := H
        have A7 := Aside0.mk A70
        clear A70
        obtain rfl := Option.some.inj H
        go_wp2_with (first | ((with_reducible refine gate_callee (f := 8) rfl ?_); refine goesL_ (some 23) rfl rfl Try.func8 (by kernel_rfl) rfl #[] rfl (by (try simp only [List.map_toArray, List.map_cons, List.map_nil]); first | done | rfl | (simp only [List.length_drop, List.length_take]; rfl)) ?_; (with_reducible refine (marquetrylaw24_answers.calls  t252 _ A7.out).mono ?_); clear A7; rintro e w8 ⟨rfl, hb⟩; refine ⟨_, rfl, ?_⟩; have n0_ := Aside0.mk (below_step (by repeat (first | (with_reducible first | exact HB.out | apply below_alloc | apply pw_below_drewN | apply below_drew1) | exact HB.out)) hb); clear HB; have HB := n0_; clear n0_; (try clear hb); (try clear hb2); (try clear hk); (try clear hi)) | (go_at_call 8; (with_reducible refine (marquetrylaw24_answers.calls  t252 _ A7.out).mono ?_); clear A7; rintro e w8 ⟨rfl, hb⟩; have n0_ := Aside0.mk (below_step (by repeat (first | (with_reducible first | exact HB.out | apply below_alloc | apply pw_below_drewN | apply below_drew1) | exact HB.out)) hb); clear HB; have HB := n0_; clear n0_; (try clear hb); (try clear hb2); (try clear hk); (try clear hi)))
        go_ret
        exact ⟨by first | rfl | (simp [errW_none, errW_some] <;> rfl) | (simp [*, errW_none, errW_some] <;> rfl), by repeat (first | (with_reducible first | exact HB.out | apply below_alloc | apply pw_below_drewN | apply below_drew1) | exact HB.out)⟩
      · replace c6 := Bool.eq_false_iff.mpr c6
        subst c6
        have H1 : ((chunk_Print.f kj2 l0).bind fun bt253 => ((chunk_Lay.f kj2 l0).bind fun bt257 => (marquetrylaw24_ChunkBack.l0 kj2 l0 l1 bt253.1 bt253.2 bt257.1 bt257.2 true 0))) = some r := by rw [if_neg (show ¬ (false = true) by decide)] at H; exact H
        clear H
        have H := H1
        clear H1
        replace H := Option.bind_eq_some_iff.mp H
        obtain ⟨⟨t253, t254⟩, A90, H⟩ := H
        replace H : ((chunk_Lay.f kj2 l0).bind fun bt257 => (marquetrylaw24_ChunkBack.l0 kj2 l0 l1 t253 t254 bt257.1 bt257.2 true 0)) = some r := H
        have A9 := Aside0.mk A90
        clear A90
        replace H := Option.bind_eq_some_iff.mp H
        obtain ⟨⟨t257, t258⟩, A100, H⟩ := H
        replace H : (marquetrylaw24_ChunkBack.l0 kj2 l0 l1 t253 t254 t257 t258 true 0) = some r := H
        have A10 := Aside0.mk A100
        clear A100
        have H' := Aside0.mk H
        clear H
        go_wp2_with (first | ((with_reducible refine gate_callee (f := 15) rfl ?_); refine goesL_ (some 26) rfl rfl Try.func15 (by kernel_rfl) rfl #[.slice A0 l0.length c0] rfl (by (try simp only [List.map_toArray, List.map_cons, List.map_nil]); first | done | rfl | (simp only [List.length_drop, List.length_take]; rfl)) ?_; (with_reducible refine (chunk_Print.calls kj2 _ _ l0 t253 t254 _ ?side1 ?side2 A9.out).mono ?_); (case side1 => repeat (first | exact (Kd.C_below HR0.out HB.out) | (with_reducible refine Kd.C_alloc ?_ _) | (with_reducible refine Kd.C_drewN ?_ _) | (with_reducible refine Kd.C_drew ?_))); (case side2 => exact HC0.out); rintro e w11 ⟨v255, rfl, ho0, hb⟩; refine ⟨_, rfl, ?_⟩; have n0_ := Aside0.mk (Kd.R_lower ho0 (below_size (by repeat (first | (with_reducible first | exact HB.out | apply below_alloc | apply pw_below_drewN | apply below_drew1) | exact HB.out)))); have n1_ := Aside0.mk (below_step (by repeat (first | (with_reducible first | exact HB.out | apply below_alloc | apply pw_below_drewN | apply below_drew1) | exact HB.out)) hb); clear HB; have HO256 := n0_; have HB := n1_; clear n0_ n1_; (try clear hb); (try clear hb2); (try clear hk); (try clear hi); (try clear ho0)) | (go_at_call 15; (with_reducible refine (chunk_Print.calls kj2 _ _ l0 t253 t254 _ ?side1 ?side2 A9.out).mono ?_); (case side1 => repeat (first | exact (Kd.C_below HR0.out HB.out) | (with_reducible refine Kd.C_alloc ?_ _) | (with_reducible refine Kd.C_drewN ?_ _) | (with_reducible refine Kd.C_drew ?_))); (case side2 => exact HC0.out); rintro e w11 ⟨v255, rfl, ho0, hb⟩; have n0_ := Aside0.mk (Kd.R_lower ho0 (below_size (by repeat (first | (with_reducible first | exact HB.out | apply below_alloc | apply pw_below_drewN | apply below_drew1) | exact HB.out)))); have n1_ := Aside0.mk (below_step (by repeat (first | (with_reducible first | exact HB.out | apply below_alloc | apply pw_below_drewN | apply below_drew1) | exact HB.out)) hb); clear HB; have HO256 := n0_; have HB := n1_; clear n0_ n1_; (try clear hb); (try clear hb2); (try clear hk); (try clear hi); (try clear ho0)) | ((with_reducible refine gate_callee (f := 16) rfl ?_); refine goesL_ (some 31) rfl rfl Try.func16 (by kernel_rfl) rfl #[.slice A0 l0.length c0] rfl (by (try simp only [List.map_toArray, List.map_cons, List.map_nil]); first | done | rfl | (simp only [List.length_drop, List.length_take]; rfl)) ?_; (with_reducible refine (chunk_Lay.calls kj2 _ _ l0 t257 t258 _ ?side1 ?side2 A10.out).mono ?_); (case side1 => repeat (first | exact (Kd.C_below HR0.out HB.out) | (with_reducible refine Kd.C_alloc ?_ _) | (with_reducible refine Kd.C_drewN ?_ _) | (with_reducible refine Kd.C_drew ?_))); (case side2 => exact HC0.out); rintro e w12 ⟨v259, rfl, ho0, hb⟩; refine ⟨_, rfl, ?_⟩; have n0_ := Aside0.mk (Kd.R_elder' (by (with_reducible repeat (first | apply Kd.R_alloc | apply Kd.R_drewN | apply Kd.R_drew)); exact HO256.out) (Kd.R_base ho0) hb); have n1_ := Aside0.mk (Kd.R_lower (Kd.R_new' ho0 (Kd.R_lt (by (with_reducible repeat (first | apply Kd.R_alloc | apply Kd.R_drewN | apply Kd.R_drew)); exact HO256.out))) (below_size (by repeat (first | (with_reducible first | exact HB.out | apply below_alloc | apply pw_below_drewN | apply below_drew1) | exact HB.out)))); have n2_ := Aside0.mk (below_step (by repeat (first | (with_reducible first | exact HB.out | apply below_alloc | apply pw_below_drewN | apply below_drew1) | exact HB.out)) hb); clear HO256; clear HB; have HO256 := n0_; have HO260 := n1_; have HB := n2_; clear n0_ n1_ n2_; (try clear hb); (try clear hb2); (try clear hk); (try clear hi); (try clear ho0)) | (go_at_call 16; (with_reducible refine (chunk_Lay.calls kj2 _ _ l0 t257 t258 _ ?side1 ?side2 A10.out).mono ?_); (case side1 => repeat (first | exact (Kd.C_below HR0.out HB.out) | (with_reducible refine Kd.C_alloc ?_ _) | (with_reducible refine Kd.C_drewN ?_ _) | (with_reducible refine Kd.C_drew ?_))); (case side2 => exact HC0.out); rintro e w12 ⟨v259, rfl, ho0, hb⟩; have n0_ := Aside0.mk (Kd.R_elder' (by (with_reducible repeat (first | apply Kd.R_alloc | apply Kd.R_drewN | apply Kd.R_drew)); exact HO256.out) (Kd.R_base ho0) hb); have n1_ := Aside0.mk (Kd.R_lower (Kd.R_new' ho0 (Kd.R_lt (by (with_reducible repeat (first | apply Kd.R_alloc | apply Kd.R_drewN | apply Kd.R_drew)); exact HO256.out))) (below_size (by repeat (first | (with_reducible first | exact HB.out | apply below_alloc | apply pw_below_drewN | apply below_drew1) | exact HB.out)))); have n2_ := Aside0.mk (below_step (by repeat (first | (with_reducible first | exact HB.out | apply below_alloc | apply pw_below_drewN | apply below_drew1) | exact HB.out)) hb); clear HO256; clear HB; have HO256 := n0_; have HO260 := n1_; have HB := n2_; clear n0_ n1_ n2_; (try clear hb); (try clear hb2); (try clear hk); (try clear hi); (try clear ho0)))
        go_loopg [9, 10] kj2 (fun kq v9 v10 w' => ∃ (x9_2 : Bool) (x10_2 : Int), v9 = .bool x9_2 ∧ v10 = .int .i64 x10_2 ∧ Aside0 (marquetrylaw24_ChunkBack.l0 kq l0 l1 t253 t254 t257 t258 x9_2 x10_2 = some r) ∧ Aside0 (kq ≤ kj2) ∧ Aside0 (Kd.R (Kd.int .u8) 5 w' w.heap.size (fun k_ => some k_ ≠ (v259 : Value).ownBlock) v255 t253) ∧ Aside0 (Kd.R (Kd.int .u8) 5 w' w.heap.size (fun k_ => some k_ ≠ (v255 : Value).ownBlock) v259 t257) ∧ Aside0 (Below w.heap.size w w'))
        case atStart => exact ⟨(true), (0), (by first | rfl | (simp; done) | (simp [*]; done)), (by first | rfl | (simp; done) | (simp [*]; done)), H', ⟨Nat.le_refl _⟩, ⟨by (with_reducible repeat (first | apply Kd.R_alloc | apply Kd.R_drewN | apply Kd.R_drew)); exact Kd.R_mono HO256.out (fun _ hk => hk.2)⟩, ⟨by (with_reducible repeat (first | apply Kd.R_alloc | apply Kd.R_drewN | apply Kd.R_drew)); exact Kd.R_mono HO260.out (fun _ hk => hk.2)⟩, ⟨by repeat (first | (with_reducible first | exact HB.out | apply below_alloc | apply pw_below_drewN | apply below_drew1) | exact HB.out)⟩⟩
        case round =>
          clear H'
          try clear c1
          try clear p2
          try clear c4
          try clear c5
          try clear c6
          try clear c8
          try clear p2
          obtain ⟨x9_2, x10_2, rfl, rfl, HA, HK2, HO_5, HO_7, HB⟩ := hrel
          cases gk with
          | zero => exact absurd HA.out (by simp [marquetrylaw24_ChunkBack.l0])
          | succ k2 =>
            have H := HA.out
            clear HA
            simp only [marquetrylaw24_ChunkBack.l0] at H
            by_cases c13 : x10_2 < (l0.length : Int)
            · rw [if_pos c13] at H
              have c13b0 : decide (x10_2 < (l0.length : Int)) = true := decide_eq_true c13
              clear c13
              by_cases c14 : x9_2 = true
              · subst c14
                have H1 : (if 0 ≤ x10_2 then ((marquetryref24_Name.f k2 ((rd_T35 l0 x10_2).f0)).bind fun t262 => (marquetrylaw24_ChunkBack.l0 k2 l0 l1 t253 t254 t257 t258 t262 (wrap64 (x10_2 + 1)))) else (none)) = some r := by rw [if_pos rfl] at H; exact H
                clear H
                have H := H1
                clear H1
                by_cases c15 : 0 ≤ x10_2
                · rw [if_pos c15] at H
                  have c15b0 : decide (0 ≤ x10_2) = true := decide_eq_true c15
                  clear c15
                  replace H := Option.bind_eq_some_iff.mp H
                  obtain ⟨t262, A160, H⟩ := H
                  replace H : (marquetrylaw24_ChunkBack.l0 k2 l0 l1 t253 t254 t257 t258 t262 (wrap64 (x10_2 + 1))) = some r := H
                  have A16 := Aside0.mk A160
                  clear A160
                  have H' := Aside0.mk H
                  clear H
                  have p261 : 0 ≤ (x10_2 : Int) := of_decide_eq_true (by first | (with_reducible assumption) | assumption)
                  have q261 : x10_2 < (l0.length : Int) := of_decide_eq_true (by first | (with_reducible assumption) | assumption)
                  obtain ⟨ad261, A261_1, c261_1, e261, hx261_0, hx261_1, hl261_1, hi261_1⟩ := at_T35 HR0.out x10_2 p261 q261
                  cases e261
                  replace hx261_0 := (HB.out.cell (World.block_lt_of_cell? w _ hx261_0)).trans hx261_0
                  replace hx261_1 := (HB.out.cell (World.block_lt_of_cell? w _ hx261_1)).trans hx261_1
                  have HR261_1 := Aside0.mk hi261_1
                  have HC261_1 := Aside0.mk hl261_1
                  clear hi261_1 hl261_1
                  replace p261 := eq_true p261
                  replace q261 := eq_true q261
                  go_wp2_with (first | (go_at_call 17; (with_reducible refine (marquetryref24_Name.calls k2 ((rd_T35 l0 x10_2).f0) t262 _ A16.out).mono ?_); clear A16; rintro e w' ⟨rfl, ⟨nd, rfl⟩⟩))
                  go_roundg k2
                  case measure => have := HJ2.out; have := HK2.out; omega
                  case rel => exact ⟨(t262), (wrap64 (x10_2 + 1)), (by first | rfl | (simp; done) | (simp [*]; done)), (by first | rfl | (simp; done) | (simp [*]; done)), H', ⟨by have := HJ2.out; have := HK2.out; omega⟩, ⟨by (with_reducible repeat (first | apply Kd.R_alloc | apply Kd.R_drewN | apply Kd.R_drew)); exact HO_5.out⟩, ⟨by (with_reducible repeat (first | apply Kd.R_alloc | apply Kd.R_drewN | apply Kd.R_drew)); exact HO_7.out⟩, ⟨by repeat (first | (with_reducible first | exact HB.out | apply below_alloc | apply pw_below_drewN | apply below_drew1) | exact HB.out)⟩⟩
                · rw [if_neg c15] at H
                  exact absurd H (by simp)
              · replace c14 := Bool.eq_false_iff.mpr c14
                subst c14
                have H1 : (marquetrylaw24_ChunkBack.l0 k2 l0 l1 t253 t254 t257 t258 false (wrap64 (x10_2 + 1))) = some r := by rw [if_neg (show ¬ (false = true) by decide)] at H; exact H
                clear H
                have H := H1
                clear H1
                have H' := Aside0.mk H
                clear H
                go_wp2
                go_roundg k2
                case measure => have := HJ2.out; have := HK2.out; omega
                case rel => exact ⟨(false), (wrap64 (x10_2 + 1)), (by first | rfl | (simp; done) | (simp [*]; done)), (by first | rfl | (simp; done) | (simp [*]; done)), H', ⟨by have := HJ2.out; have := HK2.out; omega⟩, ⟨by (with_reducible repeat (first | apply Kd.R_alloc | apply Kd.R_drewN | apply Kd.R_drew)); exact HO_5.out⟩, ⟨by (with_reducible repeat (first | apply Kd.R_alloc | apply Kd.R_drewN | apply Kd.R_drew)); exact HO_7.out⟩, ⟨by repeat (first | (with_reducible first | exact HB.out | apply below_alloc | apply pw_below_drewN | apply below_drew1) | exact HB.out)⟩⟩
            · rw [if_neg c13] at H
              have c13b0 : decide (x10_2 < (l0.length : Int)) = false := decide_eq_false c13
              clear c13
              by_cases c17 : x9_2 = true
              · subst c17
                have H1 : ((some (([] : List Int) : List Int)).bind fun y264 => (if y264.length + t253.length < 140737488355328 then ((some (y264 ++ t253 : List Int)).bind fun y267 => (if y267.length + l1.length < 140737488355328 then ((chunk_Scan.f k2 (y267 ++ l1)).bind fun bt273 => ((chunk_Inner.f k2 t257).bind fun bt277 => ((marquetrylaw24_answers.f).bind fun t281 => (if t281 = true then (if t254 = 0 then (if t258 = 0 then ((marquetryref24_File.f k2 l0).bind fun t282 => ((marquetryref01_Same.f k2 t253 t282).bind fun t285 => (if t285 = true then ((marquetryref24_Lay.f k2 l0).bind fun t286 => ((marquetryref01_Same.f k2 t257 t286).bind fun t289 => (if t289 = true then (if bt273.2 = 0 then (if bt277.2 = 0 then ((marquetryref24_SameChunks.f k2 bt273.1 l0).bind fun t290 => (if t290 = true then ((marquetryref24_SameChunks.f k2 bt277.1 l0).bind fun t291 => (some t291)) else (some false))) else (some false)) else (some false)) else (some false)))) else (some false)))) else (some false)) else (some false)) else (some false))))) else (none))) else (none))) = some r := by rw [if_pos rfl] at H; exact H
                clear H
                have H := H1
                clear H1
                obtain ⟨y264, hy264⟩ : ∃ y_ : List Int, y_ = (([] : List Int)) := ⟨_, rfl⟩
                replace H : (if y264.length + t253.length < 140737488355328 then ((some (y264 ++ t253 : List Int)).bind fun y267 => (if y267.length + l1.length < 140737488355328 then ((chunk_Scan.f k2 (y267 ++ l1)).bind fun bt273 => ((chunk_Inner.f k2 t257).bind fun bt277 => ((marquetrylaw24_answers.f).bind fun t281 => (if t281 = true then (if t254 = 0 then (if t258 = 0 then ((marquetryref24_File.f k2 l0).bind fun t282 => ((marquetryref01_Same.f k2 t253 t282).bind fun t285 => (if t285 = true then ((marquetryref24_Lay.f k2 l0).bind fun t286 => ((marquetryref01_Same.f k2 t257 t286).bind fun t289 => (if t289 = true then (if bt273.2 = 0 then (if bt277.2 = 0 then ((marquetryref24_SameChunks.f k2 bt273.1 l0).bind fun t290 => (if t290 = true then ((marquetryref24_SameChunks.f k2 bt277.1 l0).bind fun t291 => (some t291)) else (some false))) else (some false)) else (some false)) else (some false)))) else (some false)))) else (some false)) else (some false)) else (some false))))) else (none))) else (none)) = some r := by first | (rw [hy264]; with_reducible exact H) | (have H2_ := (Option.bind_some _ _).symm.trans H; rw [hy264]; with_reducible exact H2_) | (have H2_ := (Option.bind_some _ _).symm.trans H; with_reducible exact H2_) | with_reducible exact H | (rw [hy264]; exact H) | exact H
                have Ny264 := Aside0.mk hy264
                clear hy264
                by_cases c18 : y264.length + t253.length < 140737488355328
                · rw [if_pos c18] at H
                  have LMc18 := Aside0.mk c18
                  clear c18
                  obtain ⟨y267, hy267⟩ : ∃ y_ : List Int, y_ = (y264 ++ t253) := ⟨_, rfl⟩
                  replace H : (if y267.length + l1.length < 140737488355328 then ((chunk_Scan.f k2 (y267 ++ l1)).bind fun bt273 => ((chunk_Inner.f k2 t257).bind fun bt277 => ((marquetrylaw24_answers.f).bind fun t281 => (if t281 = true then (if t254 = 0 then (if t258 = 0 then ((marquetryref24_File.f k2 l0).bind fun t282 => ((marquetryref01_Same.f k2 t253 t282).bind fun t285 => (if t285 = true then ((marquetryref24_Lay.f k2 l0).bind fun t286 => ((marquetryref01_Same.f k2 t257 t286).bind fun t289 => (if t289 = true then (if bt273.2 = 0 then (if bt277.2 = 0 then ((marquetryref24_SameChunks.f k2 bt273.1 l0).bind fun t290 => (if t290 = true then ((marquetryref24_SameChunks.f k2 bt277.1 l0).bind fun t291 => (some t291)) else (some false))) else (some false)) else (some false)) else (some false)))) else (some false)))) else (some false)) else (some false)) else (some false))))) else (none)) = some r := by first | (rw [hy267]; with_reducible exact H) | (have H2_ := (Option.bind_some _ _).symm.trans H; rw [hy267]; with_reducible exact H2_) | (have H2_ := (Option.bind_some _ _).symm.trans H; with_reducible exact H2_) | with_reducible exact H | (rw [hy267]; exact H) | exact H
                  have Ny267 := Aside0.mk hy267
                  clear hy267
                  by_cases c19 : y267.length + l1.length < 140737488355328
                  · rw [if_pos c19] at H
                    have LMc19 := Aside0.mk c19
                    clear c19
                    obtain ⟨y270, hy270⟩ : ∃ y_ : List Int, y_ = (y267 ++ l1) := ⟨_, rfl⟩
                    replace H : ((chunk_Scan.f k2 y270).bind fun bt273 => ((chunk_Inner.f k2 t257).bind fun bt277 => ((marquetrylaw24_answers.f).bind fun t281 => (if t281 = true then (if t254 = 0 then (if t258 = 0 then ((marquetryref24_File.f k2 l0).bind fun t282 => ((marquetryref01_Same.f k2 t253 t282).bind fun t285 => (if t285 = true then ((marquetryref24_Lay.f k2 l0).bind fun t286 => ((marquetryref01_Same.f k2 t257 t286).bind fun t289 => (if t289 = true then (if bt273.2 = 0 then (if bt277.2 = 0 then ((marquetryref24_SameChunks.f k2 bt273.1 l0).bind fun t290 => (if t290 = true then ((marquetryref24_SameChunks.f k2 bt277.1 l0).bind fun t291 => (some t291)) else (some false))) else (some false)) else (some false)) else (some false)))) else (some false)))) else (some false)) else (some false)) else (some false))))) = some r := by first | (rw [hy270]; with_reducible exact H) | (have H2_ := (Option.bind_some _ _).symm.trans H; rw [hy270]; with_reducible exact H2_) | (have H2_ := (Option.bind_some _ _).symm.trans H; with_reducible exact H2_) | with_reducible exact H | (rw [hy270]; exact H) | exact H
                    have Ny270 := Aside0.mk hy270
                    clear hy270
                    replace H := Option.bind_eq_some_iff.mp H
                    obtain ⟨⟨t273, t274⟩, A200, H⟩ := H
                    replace H : ((chunk_Inner.f k2 t257).bind fun bt277 => ((marquetrylaw24_answers.f).bind fun t281 => (if t281 = true then (if t254 = 0 then (if t258 = 0 then ((marquetryref24_File.f k2 l0).bind fun t282 => ((marquetryref01_Same.f k2 t253 t282).bind fun t285 => (if t285 = true then ((marquetryref24_Lay.f k2 l0).bind fun t286 => ((marquetryref01_Same.f k2 t257 t286).bind fun t289 => (if t289 = true then (if t274 = 0 then (if bt277.2 = 0 then ((marquetryref24_SameChunks.f k2 t273 l0).bind fun t290 => (if t290 = true then ((marquetryref24_SameChunks.f k2 bt277.1 l0).bind fun t291 => (some t291)) else (some false))) else (some false)) else (some false)) else (some false)))) else (some false)))) else (some false)) else (some false)) else (some false)))) = some r := H
                    have A20 := Aside0.mk A200
                    clear A200
                    replace H := Option.bind_eq_some_iff.mp H
                    obtain ⟨⟨t277, t280⟩, A210, H⟩ := H
                    replace H : ((marquetrylaw24_answers.f).bind fun t281 => (if t281 = true then (if t254 = 0 then (if t258 = 0 then ((marquetryref24_File.f k2 l0).bind fun t282 => ((marquetryref01_Same.f k2 t253 t282).bind fun t285 => (if t285 = true then ((marquetryref24_Lay.f k2 l0).bind fun t286 => ((marquetryref01_Same.f k2 t257 t286).bind fun t289 => (if t289 = true then (if t274 = 0 then (if t280 = 0 then ((marquetryref24_SameChunks.f k2 t273 l0).bind fun t290 => (if t290 = true then ((marquetryref24_SameChunks.f k2 t277 l0).bind fun t291 => (some t291)) else (some false))) else (some false)) else (some false)) else (some false)))) else (some false)))) else (some false)) else (some false)) else (some false))) = some r := H
                    have A21 := Aside0.mk A210
                    clear A210
                    replace H := Option.bind_eq_some_iff.mp H
                    obtain ⟨t281, A220, H⟩ := H
                    replace H : (if t281 = true then (if t254 = 0 then (if t258 = 0 then ((marquetryref24_File.f k2 l0).bind fun t282 => ((marquetryref01_Same.f k2 t253 t282).bind fun t285 => (if t285 = true then ((marquetryref24_Lay.f k2 l0).bind fun t286 => ((marquetryref01_Same.f k2 t257 t286).bind fun t289 => (if t289 = true then (if t274 = 0 then (if t280 = 0 then ((marquetryref24_SameChunks.f k2 t273 l0).bind fun t290 => (if t290 = true then ((marquetryref24_SameChunks.f k2 t277 l0).bind fun t291 => (some t291)) else (some false))) else (some false)) else (some false)) else (some false)))) else (some false)))) else (some false)) else (some false)) else (some false)) = some r := H
                    have A22 := Aside0.mk A220
                    clear A220
                    by_cases c23 : t281 = true
                    · subst c23
                      have H1 : (if t254 = 0 then (if t258 = 0 then ((marquetryref24_File.f k2 l0).bind fun t282 => ((marquetryref01_Same.f k2 t253 t282).bind fun t285 => (if t285 = true then ((marquetryref24_Lay.f k2 l0).bind fun t286 => ((marquetryref01_Same.f k2 t257 t286).bind fun t289 => (if t289 = true then (if t274 = 0 then (if t280 = 0 then ((marquetryref24_SameChunks.f k2 t273 l0).bind fun t290 => (if t290 = true then ((marquetryref24_SameChunks.f k2 t277 l0).bind fun t291 => (some t291)) else (some false))) else (some false)) else (some false)) else (some false)))) else (some false)))) else (some false)) else (some false)) = some r := by rw [if_pos rfl] at H; exact H
                      clear H
                      have H := H1
                      clear H1
                      by_cases c24 : t254 = 0
                      · rw [if_pos c24] at H
                        have c24b0 : (t254 == 0) = true := beq_iff_eq.mpr c24
                        have c24b1 : (t254 != 0) = false := bne_eq_false_iff_eq.mpr c24
                        clear c24
                        by_cases c25 : t258 = 0
                        · rw [if_pos c25] at H
                          have c25b0 : (t258 == 0) = true := beq_iff_eq.mpr c25
                          have c25b1 : (t258 != 0) = false := bne_eq_false_iff_eq.mpr c25
                          clear c25
                          replace H := Option.bind_eq_some_iff.mp H
                          obtain ⟨t282, A260, H⟩ := H
                          replace H : ((marquetryref01_Same.f k2 t253 t282).bind fun t285 => (if t285 = true then ((marquetryref24_Lay.f k2 l0).bind fun t286 => ((marquetryref01_Same.f k2 t257 t286).bind fun t289 => (if t289 = true then (if t274 = 0 then (if t280 = 0 then ((marquetryref24_SameChunks.f k2 t273 l0).bind fun t290 => (if t290 = true then ((marquetryref24_SameChunks.f k2 t277 l0).bind fun t291 => (some t291)) else (some false))) else (some false)) else (some false)) else (some false)))) else (some false))) = some r := H
                          have A26 := Aside0.mk A260
                          clear A260
                          replace H := Option.bind_eq_some_iff.mp H
                          obtain ⟨t285, A270, H⟩ := H
                          replace H : (if t285 = true then ((marquetryref24_Lay.f k2 l0).bind fun t286 => ((marquetryref01_Same.f k2 t257 t286).bind fun t289 => (if t289 = true then (if t274 = 0 then (if t280 = 0 then ((marquetryref24_SameChunks.f k2 t273 l0).bind fun t290 => (if t290 = true then ((marquetryref24_SameChunks.f k2 t277 l0).bind fun t291 => (some t291)) else (some false))) else (some false)) else (some false)) else (some false)))) else (some false)) = some r := H
                          have A27 := Aside0.mk A270
                          clear A270
                          by_cases c28 : t285 = true
                          · subst c28
                            have H1 : ((marquetryref24_Lay.f k2 l0).bind fun t286 => ((marquetryref01_Same.f k2 t257 t286).bind fun t289 => (if t289 = true then (if t274 = 0 then (if t280 = 0 then ((marquetryref24_SameChunks.f k2 t273 l0).bind fun t290 => (if t290 = true then ((marquetryref24_SameChunks.f k2 t277 l0).bind fun t291 => (some t291)) else (some false))) else (some false)) else (some false)) else (some false)))) = some r := by rw [if_pos rfl] at H; exact H
                            clear H
                            have H := H1
                            clear H1
                            replace H := Option.bind_eq_some_iff.mp H
                            obtain ⟨t286, A290, H⟩ := H
                            replace H : ((marquetryref01_Same.f k2 t257 t286).bind fun t289 => (if t289 = true then (if t274 = 0 then (if t280 = 0 then ((marquetryref24_SameChunks.f k2 t273 l0).bind fun t290 => (if t290 = true then ((marquetryref24_SameChunks.f k2 t277 l0).bind fun t291 => (some t291)) else (some false))) else (some false)) else (some false)) else (some false))) = some r := H
                            have A29 := Aside0.mk A290
                            clear A290
                            replace H := Option.bind_eq_some_iff.mp H
                            obtain ⟨t289, A300, H⟩ := H
                            replace H : (if t289 = true then (if t274 = 0 then (if t280 = 0 then ((marquetryref24_SameChunks.f k2 t273 l0).bind fun t290 => (if t290 = true then ((marquetryref24_SameChunks.f k2 t277 l0).bind fun t291 => (some t291)) else (some false))) else (some false)) else (some false)) else (some false)) = some r := H
                            have A30 := Aside0.mk A300
                            clear A300
                            by_cases c31 : t289 = true
                            · subst c31
                              have H1 : (if t274 = 0 then (if t280 = 0 then ((marquetryref24_SameChunks.f k2 t273 l0).bind fun t290 => (if t290 = true then ((marquetryref24_SameChunks.f k2 t277 l0).bind fun t291 => (some t291)) else (some false))) else (some false)) else (some false)) = some r := by rw [if_pos rfl] at H; exact H
                              clear H
                              have H := H1
                              clear H1
                              by_cases c32 : t274 = 0
                              · rw [if_pos c32] at H
                                have c32b0 : (t274 == 0) = true := beq_iff_eq.mpr c32
                                have c32b1 : (t274 != 0) = false := bne_eq_false_iff_eq.mpr c32
                                clear c32
                                by_cases c33 : t280 = 0
                                · rw [if_pos c33] at H
                                  have c33b0 : (t280 == 0) = true := beq_iff_eq.mpr c33
                                  have c33b1 : (t280 != 0) = false := bne_eq_false_iff_eq.mpr c33
                                  clear c33
                                  replace H := Option.bind_eq_some_iff.mp H
                                  obtain ⟨t290, A340, H⟩ := H
                                  replace H : (if t290 = true then ((marquetryref24_SameChunks.f k2 t277 l0).bind fun t291 => (some t291)) else (some false)) = some r := H
                                  have A34 := Aside0.mk A340
                                  clear A340
                                  by_cases c35 : t290 = true
                                  · subst c35
                                    have H1 : ((marquetryref24_SameChunks.f k2 t277 l0).bind fun t291 => (some t291)) = some r := by rw [if_pos rfl] at H; exact H
                                    clear H
                                    have H := H1
                                    clear H1
                                    replace H := Option.bind_eq_some_iff.mp H
                                    obtain ⟨t291, A360, H⟩ := H
                                    replace H : (some t291) = some r := H
                                    have A36 := Aside0.mk A360
                                    clear A360
                                    obtain rfl := Option.some.inj H
                                    go_wp2_with (first | ((with_reducible refine gate_dst (N := 69) rfl ?_); (try (refine gate_guard (by rfl) ?_; dsimp only)); refine Kd.R_lit (Kd.int .u8) _ 5 ?hg (N := 69) ?hd (xs := ([] : List Int)) (inner := []) (ok := fun _ => True) (okp := fun _ => True) ?hr ?hp (fun _ hk => hk) trivial (Below.refl _ _) (Nat.le_refl _) (by simp) ?_; (case hd => rfl); (case hg => rfl); (case hr => first | (go_simp; done) | (go_simp; rfl)); (case hp => exact (Reps.none _ _)); intro v265 w37 ho38 hb hg_ hnew_; clear hg_ hnew_; (first | rw [← Ny264.out] at ho38 | (simp only [Int.reduceToNat] at ho38; rw [← Ny264.out] at ho38)); have n0_ := Aside0.mk (Kd.R_elder' (by (with_reducible repeat (first | apply Kd.R_alloc | apply Kd.R_drewN | apply Kd.R_drew)); exact HO_5.out) (Kd.R_base ho38) hb); have n1_ := Aside0.mk (Kd.R_elder' (by (with_reducible repeat (first | apply Kd.R_alloc | apply Kd.R_drewN | apply Kd.R_drew)); exact HO_7.out) (Kd.R_base ho38) hb); have n2_ := Aside0.mk (Kd.R_lower (Kd.R_new' (Kd.R_new' ho38 (Kd.R_lt (by (with_reducible repeat (first | apply Kd.R_alloc | apply Kd.R_drewN | apply Kd.R_drew)); exact HO_5.out))) (Kd.R_lt (by (with_reducible repeat (first | apply Kd.R_alloc | apply Kd.R_drewN | apply Kd.R_drew)); exact HO_7.out))) (below_size (by repeat (first | (with_reducible first | exact HB.out | apply below_alloc | apply pw_below_drewN | apply below_drew1) | exact HB.out)))); have n3_ := Aside0.mk (below_step (by repeat (first | (with_reducible first | exact HB.out | apply below_alloc | apply pw_below_drewN | apply below_drew1) | exact HB.out)) hb); clear HO_5; clear HO_7; clear HB; have HO_5 := n0_; have HO_7 := n1_; have HO266 := n2_; have HB := n3_; clear n0_ n1_ n2_ n3_; clear hb ho38; obtain ⟨Ao40, co40, eo40⟩ := Kd.R_slice HO_5.out; subst eo40) | ((with_reducible refine gate_builtin (b := .append) (xs := #[.tmp 69, .tmp 70]) rfl ?_); (try (refine gate_guard (by rfl) ?_; dsimp only)); at_builtin; refine Kd.R_append_rows (Kd.int .u8) (w0 := w) w.heap.size rfl (.tmp 69) (.tmp 70) 22 5 (.int .u8 0) 1 rfl Try.underlying22 info5 rfl (by decide) (by omega) v265 y264 t253 _ _ _ (fun k_ => some k_ ≠ (.slice Ao40 t253.length co40 : Value).ownBlock ∧ some k_ ≠ (v259 : Value).ownBlock) (fun _ => False) rfl rfl ?aO ?aR (fun _ _ h => h) (fun _ h => h.elim) ?aF ?aB ?aS ?aL ?_; (case aR => repeat (first | exact (Kd.R_reads' HO_5.out).2.2 | (with_reducible refine Kd.C_alloc ?_ _) | (with_reducible refine Kd.C_drewN ?_ _) | (with_reducible refine Kd.C_drew ?_))); (case aB => exact (by repeat (first | (with_reducible first | exact HB.out | apply below_alloc | apply pw_below_drewN | apply below_drew1) | exact HB.out))); (case aF => exact (fun k_ hk => ⟨Kd.fresh' (Kd.R_lt (by (with_reducible repeat (first | apply Kd.R_alloc | apply Kd.R_drewN | apply Kd.R_drew)); exact HO_5.out)) k_ hk, Kd.fresh' (Kd.R_lt (by (with_reducible repeat (first | apply Kd.R_alloc | apply Kd.R_drewN | apply Kd.R_drew)); exact HO_7.out)) k_ hk⟩)); (case aO => exact (by (with_reducible repeat (first | apply Kd.R_alloc | apply Kd.R_drewN | apply Kd.R_drew)); exact Kd.R_mono HO266.out (fun _ hk => ⟨hk.1.2, hk.2⟩))); (case aS => exact (below_size (by repeat (first | (with_reducible first | exact HB.out | apply below_alloc | apply pw_below_drewN | apply below_drew1) | exact HB.out)))); (case aL => have := LMc18.out; omega); intro v268 w39 ho hb hg hat; rw [← Ny267.out] at ho; have n0_ := Aside0.mk (Kd.R_after (ok := (fun k_ => some k_ ≠ (v259 : Value).ownBlock)) (by (with_reducible repeat (first | apply Kd.R_alloc | apply Kd.R_drewN | apply Kd.R_drew)); exact HO_5.out) hg hat); have n1_ := Aside0.mk (Kd.R_after (ok := (fun k_ => some k_ ≠ (.slice Ao40 t253.length co40 : Value).ownBlock)) (by (with_reducible repeat (first | apply Kd.R_alloc | apply Kd.R_drewN | apply Kd.R_drew)); exact HO_7.out) hg hat); have n2_ := Aside0.mk (hb); have n3_ := Aside0.mk (ho); clear HO_5; clear HO_7; clear HB; clear HO266; have HO_5 := n0_; have HO_7 := n1_; have HB := n2_; have HO269 := n3_; clear n0_ n1_ n2_ n3_; clear ho hb hg hat) | ((with_reducible refine gate_builtin (b := .append) (xs := #[.tmp 71, .tmp 72]) rfl ?_); (try (refine gate_guard (by rfl) ?_; dsimp only)); at_builtin; refine Kd.R_append_rows (Kd.int .u8) (w0 := w) w.heap.size rfl (.tmp 71) (.tmp 72) 22 5 (.int .u8 0) 1 rfl Try.underlying22 info5 rfl (by decide) (by omega) v268 y267 l1 _ _ _ (fun k_ => some k_ ≠ (.slice Ao40 t253.length co40 : Value).ownBlock ∧ some k_ ≠ (v259 : Value).ownBlock) (fun _ => False) rfl rfl ?aO ?aR (fun _ _ h => h) (fun _ h => h.elim) ?aF ?aB ?aS ?aL ?_; (case aR => repeat (first | exact (Kd.C_below HR1.out HB.out) | (with_reducible refine Kd.C_alloc ?_ _) | (with_reducible refine Kd.C_drewN ?_ _) | (with_reducible refine Kd.C_drew ?_))); (case aB => exact (by repeat (first | (with_reducible first | exact HB.out | apply below_alloc | apply pw_below_drewN | apply below_drew1) | exact HB.out))); (case aF => exact (fun k_ hk => ⟨Kd.fresh' (Kd.R_lt (by (with_reducible repeat (first | apply Kd.R_alloc | apply Kd.R_drewN | apply Kd.R_drew)); exact HO_5.out)) k_ hk, Kd.fresh' (Kd.R_lt (by (with_reducible repeat (first | apply Kd.R_alloc | apply Kd.R_drewN | apply Kd.R_drew)); exact HO_7.out)) k_ hk⟩)); (case aO => exact (by (with_reducible repeat (first | apply Kd.R_alloc | apply Kd.R_drewN | apply Kd.R_drew)); exact HO269.out)); (case aS => exact (below_size (by repeat (first | (with_reducible first | exact HB.out | apply below_alloc | apply pw_below_drewN | apply below_drew1) | exact HB.out)))); (case aL => have := LMc19.out; omega); intro v271 w41 ho hb hg hat; rw [← Ny270.out] at ho; have n0_ := Aside0.mk (Kd.R_after (ok := (fun k_ => some k_ ≠ (v259 : Value).ownBlock)) (by (with_reducible repeat (first | apply Kd.R_alloc | apply Kd.R_drewN | apply Kd.R_drew)); exact HO_5.out) hg hat); have n1_ := Aside0.mk (Kd.R_after (ok := (fun k_ => some k_ ≠ (.slice Ao40 t253.length co40 : Value).ownBlock)) (by (with_reducible repeat (first | apply Kd.R_alloc | apply Kd.R_drewN | apply Kd.R_drew)); exact HO_7.out) hg hat); have n2_ := Aside0.mk (hb); have n3_ := Aside0.mk (ho); clear HO_5; clear HO_7; clear HB; clear HO269; have HO_5 := n0_; have HO_7 := n1_; have HB := n2_; have HO272 := n3_; clear n0_ n1_ n2_ n3_; clear ho hb hg hat; obtain ⟨Ao42, co42, eo42⟩ := Kd.R_slice HO272.out; subst eo42) | ((with_reducible refine gate_callee (f := 9) rfl ?_); refine goesL_ (some 74) rfl rfl Try.func9 (by kernel_rfl) rfl #[.slice Ao42 y270.length co42] rfl (by (try simp only [List.map_toArray, List.map_cons, List.map_nil]); first | done | rfl | (simp only [List.length_drop, List.length_take]; rfl)) ?_; (with_reducible refine (chunk_Scan.calls k2 _ _ y270 t273 t274 _ ?side1 ?side2 A20.out).mono ?_); (case side1 => repeat (first | exact (Kd.R_reads' HO272.out).2.2 | (with_reducible refine Kd.C_alloc ?_ _) | (with_reducible refine Kd.C_drewN ?_ _) | (with_reducible refine Kd.C_drew ?_))); (case side2 => exact (Kd.R_reads' HO272.out).2.1); rintro e w43 ⟨v275, rfl, ho0, hb⟩; refine ⟨_, rfl, ?_⟩; have n0_ := Aside0.mk (Kd.R_below (by (with_reducible repeat (first | apply Kd.R_alloc | apply Kd.R_drewN | apply Kd.R_drew)); exact HO_5.out) hb); have n1_ := Aside0.mk (Kd.R_below (by (with_reducible repeat (first | apply Kd.R_alloc | apply Kd.R_drewN | apply Kd.R_drew)); exact HO_7.out) hb); have n2_ := Aside0.mk (Kd.R_below (by (with_reducible repeat (first | apply Kd.R_alloc | apply Kd.R_drewN | apply Kd.R_drew)); exact HO272.out) hb); have n3_ := Aside0.mk (Kd.S_lower (Kd.S_new' (Kd.S_new' (Kd.S_new' ho0 (Kd.R_lt (by (with_reducible repeat (first | apply Kd.R_alloc | apply Kd.R_drewN | apply Kd.R_drew)); exact HO_5.out))) (Kd.R_lt (by (with_reducible repeat (first | apply Kd.R_alloc | apply Kd.R_drewN | apply Kd.R_drew)); exact HO_7.out))) (Kd.R_lt (by (with_reducible repeat (first | apply Kd.R_alloc | apply Kd.R_drewN | apply Kd.R_drew)); exact HO272.out))) (below_size (by repeat (first | (with_reducible first | exact HB.out | apply below_alloc | apply pw_below_drewN | apply below_drew1) | exact HB.out)))); have n4_ := Aside0.mk (below_step (by repeat (first | (with_reducible first | exact HB.out | apply below_alloc | apply pw_below_drewN | apply below_drew1) | exact HB.out)) hb); clear HO_5; clear HO_7; clear HO272; clear HB; have HO_5 := n0_; have HO_7 := n1_; have HO272 := n2_; have HO276 := n3_; have HB := n4_; clear n0_ n1_ n2_ n3_ n4_; (try clear hb); (try clear hb2); (try clear hk); (try clear hi); (try clear ho0); obtain ⟨Ao44, co44, eo44⟩ := Kd.R_slice HO_7.out; subst eo44) | (go_at_call 9; (with_reducible refine (chunk_Scan.calls k2 _ _ y270 t273 t274 _ ?side1 ?side2 A20.out).mono ?_); (case side1 => repeat (first | exact (Kd.R_reads' HO272.out).2.2 | (with_reducible refine Kd.C_alloc ?_ _) | (with_reducible refine Kd.C_drewN ?_ _) | (with_reducible refine Kd.C_drew ?_))); (case side2 => exact (Kd.R_reads' HO272.out).2.1); rintro e w43 ⟨v275, rfl, ho0, hb⟩; have n0_ := Aside0.mk (Kd.R_below (by (with_reducible repeat (first | apply Kd.R_alloc | apply Kd.R_drewN | apply Kd.R_drew)); exact HO_5.out) hb); have n1_ := Aside0.mk (Kd.R_below (by (with_reducible repeat (first | apply Kd.R_alloc | apply Kd.R_drewN | apply Kd.R_drew)); exact HO_7.out) hb); have n2_ := Aside0.mk (Kd.R_below (by (with_reducible repeat (first | apply Kd.R_alloc | apply Kd.R_drewN | apply Kd.R_drew)); exact HO272.out) hb); have n3_ := Aside0.mk (Kd.S_lower (Kd.S_new' (Kd.S_new' (Kd.S_new' ho0 (Kd.R_lt (by (with_reducible repeat (first | apply Kd.R_alloc | apply Kd.R_drewN | apply Kd.R_drew)); exact HO_5.out))) (Kd.R_lt (by (with_reducible repeat (first | apply Kd.R_alloc | apply Kd.R_drewN | apply Kd.R_drew)); exact HO_7.out))) (Kd.R_lt (by (with_reducible repeat (first | apply Kd.R_alloc | apply Kd.R_drewN | apply Kd.R_drew)); exact HO272.out))) (below_size (by repeat (first | (with_reducible first | exact HB.out | apply below_alloc | apply pw_below_drewN | apply below_drew1) | exact HB.out)))); have n4_ := Aside0.mk (below_step (by repeat (first | (with_reducible first | exact HB.out | apply below_alloc | apply pw_below_drewN | apply below_drew1) | exact HB.out)) hb); clear HO_5; clear HO_7; clear HO272; clear HB; have HO_5 := n0_; have HO_7 := n1_; have HO272 := n2_; have HO276 := n3_; have HB := n4_; clear n0_ n1_ n2_ n3_ n4_; (try clear hb); (try clear hb2); (try clear hk); (try clear hi); (try clear ho0); obtain ⟨Ao44, co44, eo44⟩ := Kd.R_slice HO_7.out; subst eo44) | ((with_reducible refine gate_callee (f := 11) rfl ?_); refine goesL_ (some 79) rfl rfl Try.func11 (by kernel_rfl) rfl #[.slice Ao44 t257.length co44] rfl (by (try simp only [List.map_toArray, List.map_cons, List.map_nil]); first | done | rfl | (simp only [List.length_drop, List.length_take]; rfl)) ?_; (with_reducible refine (chunk_Inner.calls k2 (fun k_ => some k_ = (.slice Ao44 t257.length co44 : Value).ownBlock) _ _ t257 t277 t280 _ ?side1 A21.out).mono ?_); (case side1 => exact Kd.R_V (Kd.R_tight rfl (Kd.R_apart' (HO_7.out) (Kd.S_typed HO276.out) (by decide)))); rintro e w45 ⟨v278, rfl, ho0, hb⟩; refine ⟨_, rfl, ?_⟩; have n0_ := Aside0.mk (Kd.R_below (by (with_reducible repeat (first | apply Kd.R_alloc | apply Kd.R_drewN | apply Kd.R_drew)); exact HO_5.out) hb); have n1_ := Aside0.mk (Kd.R_below (by (with_reducible repeat (first | apply Kd.R_alloc | apply Kd.R_drewN | apply Kd.R_drew)); exact HO_7.out) hb); have n2_ := Aside0.mk (Kd.R_below (by (with_reducible repeat (first | apply Kd.R_alloc | apply Kd.R_drewN | apply Kd.R_drew)); exact HO272.out) hb); have n3_ := Aside0.mk (Kd.S_elder' (by (with_reducible repeat (first | apply Kd.S_alloc | apply Kd.S_drewN | apply Kd.S_drew)); exact HO276.out) (Kd.S_base ho0) hb); have n4_ := Aside0.mk (Kd.S_lower (Kd.S_new' (Kd.S_new' (Kd.S_new' (Kd.S_new' (Kd.S_mono (ok' := fun k_ => True) ho0 (fun _ hk_ => trivial)) (Kd.R_lt (by (with_reducible repeat (first | apply Kd.R_alloc | apply Kd.R_drewN | apply Kd.R_drew)); exact HO_5.out))) (Kd.R_lt (by (with_reducible repeat (first | apply Kd.R_alloc | apply Kd.R_drewN | apply Kd.R_drew)); exact HO_7.out))) (Kd.R_lt (by (with_reducible repeat (first | apply Kd.R_alloc | apply Kd.R_drewN | apply Kd.R_drew)); exact HO272.out))) (Kd.S_lt (by (with_reducible repeat (first | apply Kd.S_alloc | apply Kd.S_drewN | apply Kd.S_drew)); exact HO276.out))) (below_size (by repeat (first | (with_reducible first | exact HB.out | apply below_alloc | apply pw_below_drewN | apply below_drew1) | exact HB.out)))); have n5_ := Aside0.mk (below_step (by repeat (first | (with_reducible first | exact HB.out | apply below_alloc | apply pw_below_drewN | apply below_drew1) | exact HB.out)) hb); clear HO_5; clear HO_7; clear HO272; clear HO276; clear HB; have HO_5 := n0_; have HO_7 := n1_; have HO272 := n2_; have HO276 := n3_; have HO279 := n4_; have HB := n5_; clear n0_ n1_ n2_ n3_ n4_ n5_; (try clear hb); (try clear hb2); (try clear hk); (try clear hi); (try clear ho0)) | (go_at_call 11; (with_reducible refine (chunk_Inner.calls k2 (fun k_ => some k_ = (.slice Ao44 t257.length co44 : Value).ownBlock) _ _ t257 t277 t280 _ ?side1 A21.out).mono ?_); (case side1 => exact Kd.R_V (Kd.R_tight rfl (Kd.R_apart' (HO_7.out) (Kd.S_typed HO276.out) (by decide)))); rintro e w45 ⟨v278, rfl, ho0, hb⟩; have n0_ := Aside0.mk (Kd.R_below (by (with_reducible repeat (first | apply Kd.R_alloc | apply Kd.R_drewN | apply Kd.R_drew)); exact HO_5.out) hb); have n1_ := Aside0.mk (Kd.R_below (by (with_reducible repeat (first | apply Kd.R_alloc | apply Kd.R_drewN | apply Kd.R_drew)); exact HO_7.out) hb); have n2_ := Aside0.mk (Kd.R_below (by (with_reducible repeat (first | apply Kd.R_alloc | apply Kd.R_drewN | apply Kd.R_drew)); exact HO272.out) hb); have n3_ := Aside0.mk (Kd.S_elder' (by (with_reducible repeat (first | apply Kd.S_alloc | apply Kd.S_drewN | apply Kd.S_drew)); exact HO276.out) (Kd.S_base ho0) hb); have n4_ := Aside0.mk (Kd.S_lower (Kd.S_new' (Kd.S_new' (Kd.S_new' (Kd.S_new' (Kd.S_mono (ok' := fun k_ => True) ho0 (fun _ hk_ => trivial)) (Kd.R_lt (by (with_reducible repeat (first | apply Kd.R_alloc | apply Kd.R_drewN | apply Kd.R_drew)); exact HO_5.out))) (Kd.R_lt (by (with_reducible repeat (first | apply Kd.R_alloc | apply Kd.R_drewN | apply Kd.R_drew)); exact HO_7.out))) (Kd.R_lt (by (with_reducible repeat (first | apply Kd.R_alloc | apply Kd.R_drewN | apply Kd.R_drew)); exact HO272.out))) (Kd.S_lt (by (with_reducible repeat (first | apply Kd.S_alloc | apply Kd.S_drewN | apply Kd.S_drew)); exact HO276.out))) (below_size (by repeat (first | (with_reducible first | exact HB.out | apply below_alloc | apply pw_below_drewN | apply below_drew1) | exact HB.out)))); have n5_ := Aside0.mk (below_step (by repeat (first | (with_reducible first | exact HB.out | apply below_alloc | apply pw_below_drewN | apply below_drew1) | exact HB.out)) hb); clear HO_5; clear HO_7; clear HO272; clear HO276; clear HB; have HO_5 := n0_; have HO_7 := n1_; have HO272 := n2_; have HO276 := n3_; have HO279 := n4_; have HB := n5_; clear n0_ n1_ n2_ n3_ n4_ n5_; (try clear hb); (try clear hb2); (try clear hk); (try clear hi); (try clear ho0)) | ((with_reducible refine gate_callee (f := 8) rfl ?_); refine goesL_ (some 82) rfl rfl Try.func8 (by kernel_rfl) rfl #[] rfl (by (try simp only [List.map_toArray, List.map_cons, List.map_nil]); first | done | rfl | (simp only [List.length_drop, List.length_take]; rfl)) ?_; (with_reducible refine (marquetrylaw24_answers.calls  true _ A22.out).mono ?_); clear A22; rintro e w46 ⟨rfl, hb⟩; refine ⟨_, rfl, ?_⟩; have n0_ := Aside0.mk (Kd.R_below (by (with_reducible repeat (first | apply Kd.R_alloc | apply Kd.R_drewN | apply Kd.R_drew)); exact HO_5.out) hb); have n1_ := Aside0.mk (Kd.R_below (by (with_reducible repeat (first | apply Kd.R_alloc | apply Kd.R_drewN | apply Kd.R_drew)); exact HO_7.out) hb); have n2_ := Aside0.mk (Kd.R_below (by (with_reducible repeat (first | apply Kd.R_alloc | apply Kd.R_drewN | apply Kd.R_drew)); exact HO272.out) hb); have n3_ := Aside0.mk (Kd.S_below (by (with_reducible repeat (first | apply Kd.S_alloc | apply Kd.S_drewN | apply Kd.S_drew)); exact HO276.out) hb); have n4_ := Aside0.mk (Kd.S_below (by (with_reducible repeat (first | apply Kd.S_alloc | apply Kd.S_drewN | apply Kd.S_drew)); exact HO279.out) hb); have n5_ := Aside0.mk (below_step (by repeat (first | (with_reducible first | exact HB.out | apply below_alloc | apply pw_below_drewN | apply below_drew1) | exact HB.out)) hb); clear HO_5; clear HO_7; clear HO272; clear HO276; clear HO279; clear HB; have HO_5 := n0_; have HO_7 := n1_; have HO272 := n2_; have HO276 := n3_; have HO279 := n4_; have HB := n5_; clear n0_ n1_ n2_ n3_ n4_ n5_; (try clear hb); (try clear hb2); (try clear hk); (try clear hi)) | (go_at_call 8; (with_reducible refine (marquetrylaw24_answers.calls  true _ A22.out).mono ?_); clear A22; rintro e w46 ⟨rfl, hb⟩; have n0_ := Aside0.mk (Kd.R_below (by (with_reducible repeat (first | apply Kd.R_alloc | apply Kd.R_drewN | apply Kd.R_drew)); exact HO_5.out) hb); have n1_ := Aside0.mk (Kd.R_below (by (with_reducible repeat (first | apply Kd.R_alloc | apply Kd.R_drewN | apply Kd.R_drew)); exact HO_7.out) hb); have n2_ := Aside0.mk (Kd.R_below (by (with_reducible repeat (first | apply Kd.R_alloc | apply Kd.R_drewN | apply Kd.R_drew)); exact HO272.out) hb); have n3_ := Aside0.mk (Kd.S_below (by (with_reducible repeat (first | apply Kd.S_alloc | apply Kd.S_drewN | apply Kd.S_drew)); exact HO276.out) hb); have n4_ := Aside0.mk (Kd.S_below (by (with_reducible repeat (first | apply Kd.S_alloc | apply Kd.S_drewN | apply Kd.S_drew)); exact HO279.out) hb); have n5_ := Aside0.mk (below_step (by repeat (first | (with_reducible first | exact HB.out | apply below_alloc | apply pw_below_drewN | apply below_drew1) | exact HB.out)) hb); clear HO_5; clear HO_7; clear HO272; clear HO276; clear HO279; clear HB; have HO_5 := n0_; have HO_7 := n1_; have HO272 := n2_; have HO276 := n3_; have HO279 := n4_; have HB := n5_; clear n0_ n1_ n2_ n3_ n4_ n5_; (try clear hb); (try clear hb2); (try clear hk); (try clear hi)) | (go_at_call 19; (with_reducible refine (marquetryref24_File.calls k2 _ _ l0 t282 _ ?side1 ?side2 A26.out).mono ?_); (case side1 => repeat (first | exact (Kd.C_below HR0.out HB.out) | (with_reducible refine Kd.C_alloc ?_ _) | (with_reducible refine Kd.C_drewN ?_ _) | (with_reducible refine Kd.C_drew ?_))); (case side2 => exact HC0.out); rintro e w47 ⟨v283, rfl, ho0, hb⟩; have n0_ := Aside0.mk (Kd.R_elder' (by (with_reducible repeat (first | apply Kd.R_alloc | apply Kd.R_drewN | apply Kd.R_drew)); exact HO_5.out) (Kd.R_base ho0) hb); have n1_ := Aside0.mk (Kd.R_elder' (by (with_reducible repeat (first | apply Kd.R_alloc | apply Kd.R_drewN | apply Kd.R_drew)); exact HO_7.out) (Kd.R_base ho0) hb); have n2_ := Aside0.mk (Kd.R_elder' (by (with_reducible repeat (first | apply Kd.R_alloc | apply Kd.R_drewN | apply Kd.R_drew)); exact HO272.out) (Kd.R_base ho0) hb); have n3_ := Aside0.mk (Kd.S_elder' (by (with_reducible repeat (first | apply Kd.S_alloc | apply Kd.S_drewN | apply Kd.S_drew)); exact HO276.out) (Kd.R_base ho0) hb); have n4_ := Aside0.mk (Kd.S_elder' (by (with_reducible repeat (first | apply Kd.S_alloc | apply Kd.S_drewN | apply Kd.S_drew)); exact HO279.out) (Kd.R_base ho0) hb); have n5_ := Aside0.mk (Kd.R_lower (Kd.R_new' (Kd.R_new' (Kd.R_new' ho0 (Kd.R_lt (by (with_reducible repeat (first | apply Kd.R_alloc | apply Kd.R_drewN | apply Kd.R_drew)); exact HO_5.out))) (Kd.R_lt (by (with_reducible repeat (first | apply Kd.R_alloc | apply Kd.R_drewN | apply Kd.R_drew)); exact HO_7.out))) (Kd.R_lt (by (with_reducible repeat (first | apply Kd.R_alloc | apply Kd.R_drewN | apply Kd.R_drew)); exact HO272.out))) (below_size (by repeat (first | (with_reducible first | exact HB.out | apply below_alloc | apply pw_below_drewN | apply below_drew1) | exact HB.out)))); have n6_ := Aside0.mk (below_step (by repeat (first | (with_reducible first | exact HB.out | apply below_alloc | apply pw_below_drewN | apply below_drew1) | exact HB.out)) hb); clear HO_5; clear HO_7; clear HO272; clear HO276; clear HO279; clear HB; have HO_5 := n0_; have HO_7 := n1_; have HO272 := n2_; have HO276 := n3_; have HO279 := n4_; have HO284 := n5_; have HB := n6_; clear n0_ n1_ n2_ n3_ n4_ n5_ n6_; (try clear hb); (try clear hb2); (try clear hk); (try clear hi); (try clear ho0); obtain ⟨Ao48, co48, eo48⟩ := Kd.R_slice HO284.out; subst eo48) | (go_at_call 18; (with_reducible refine (marquetryref01_Same.calls k2 _ _ t253 _ _ t282 true _ ?side1 ?side2 ?side3 ?side4 A27.out).mono ?_); (case side1 => repeat (first | exact (Kd.R_reads' HO_5.out).2.2 | (with_reducible refine Kd.C_alloc ?_ _) | (with_reducible refine Kd.C_drewN ?_ _) | (with_reducible refine Kd.C_drew ?_))); (case side2 => exact (Kd.R_reads' HO_5.out).2.1); (case side3 => repeat (first | exact (Kd.R_reads' HO284.out).2.2 | (with_reducible refine Kd.C_alloc ?_ _) | (with_reducible refine Kd.C_drewN ?_ _) | (with_reducible refine Kd.C_drew ?_))); (case side4 => exact (Kd.R_reads' HO284.out).2.1); rintro e w' ⟨rfl, ⟨nd, rfl⟩⟩) | (go_at_call 20; (with_reducible refine (marquetryref24_Lay.calls k2 _ _ l0 t286 _ ?side1 ?side2 A29.out).mono ?_); (case side1 => repeat (first | exact (Kd.C_below HR0.out (by repeat (first | (with_reducible first | exact HB.out | apply below_alloc | apply pw_below_drewN | apply below_drew1) | exact HB.out))) | (with_reducible refine Kd.C_alloc ?_ _) | (with_reducible refine Kd.C_drewN ?_ _) | (with_reducible refine Kd.C_drew ?_))); (case side2 => exact HC0.out); rintro e w49 ⟨v287, rfl, ho0, hb⟩; have n0_ := Aside0.mk (Kd.R_elder' (by (with_reducible repeat (first | apply Kd.R_alloc | apply Kd.R_drewN | apply Kd.R_drew)); exact HO_5.out) (Kd.R_base ho0) hb); have n1_ := Aside0.mk (Kd.R_elder' (by (with_reducible repeat (first | apply Kd.R_alloc | apply Kd.R_drewN | apply Kd.R_drew)); exact HO_7.out) (Kd.R_base ho0) hb); have n2_ := Aside0.mk (Kd.R_elder' (by (with_reducible repeat (first | apply Kd.R_alloc | apply Kd.R_drewN | apply Kd.R_drew)); exact HO272.out) (Kd.R_base ho0) hb); have n3_ := Aside0.mk (Kd.S_elder' (by (with_reducible repeat (first | apply Kd.S_alloc | apply Kd.S_drewN | apply Kd.S_drew)); exact HO276.out) (Kd.R_base ho0) hb); have n4_ := Aside0.mk (Kd.S_elder' (by (with_reducible repeat (first | apply Kd.S_alloc | apply Kd.S_drewN | apply Kd.S_drew)); exact HO279.out) (Kd.R_base ho0) hb); have n5_ := Aside0.mk (Kd.R_elder' (by (with_reducible repeat (first | apply Kd.R_alloc | apply Kd.R_drewN | apply Kd.R_drew)); exact HO284.out) (Kd.R_base ho0) hb); have n6_ := Aside0.mk (Kd.R_lower (Kd.R_new' (Kd.R_new' (Kd.R_new' (Kd.R_new' ho0 (Kd.R_lt (by (with_reducible repeat (first | apply Kd.R_alloc | apply Kd.R_drewN | apply Kd.R_drew)); exact HO_5.out))) (Kd.R_lt (by (with_reducible repeat (first | apply Kd.R_alloc | apply Kd.R_drewN | apply Kd.R_drew)); exact HO_7.out))) (Kd.R_lt (by (with_reducible repeat (first | apply Kd.R_alloc | apply Kd.R_drewN | apply Kd.R_drew)); exact HO272.out))) (Kd.R_lt (by (with_reducible repeat (first | apply Kd.R_alloc | apply Kd.R_drewN | apply Kd.R_drew)); exact HO284.out))) (below_size (by repeat (first | (with_reducible first | exact HB.out | apply below_alloc | apply pw_below_drewN | apply below_drew1) | exact HB.out)))); have n7_ := Aside0.mk (below_step (by repeat (first | (with_reducible first | exact HB.out | apply below_alloc | apply pw_below_drewN | apply below_drew1) | exact HB.out)) hb); clear HO_5; clear HO_7; clear HO272; clear HO276; clear HO279; clear HO284; clear HB; have HO_5 := n0_; have HO_7 := n1_; have HO272 := n2_; have HO276 := n3_; have HO279 := n4_; have HO284 := n5_; have HO288 := n6_; have HB := n7_; clear n0_ n1_ n2_ n3_ n4_ n5_ n6_ n7_; (try clear hb); (try clear hb2); (try clear hk); (try clear hi); (try clear ho0); obtain ⟨Ao50, co50, eo50⟩ := Kd.R_slice HO288.out; subst eo50) | (go_at_call 18; (with_reducible refine (marquetryref01_Same.calls k2 _ _ t257 _ _ t286 true _ ?side1 ?side2 ?side3 ?side4 A30.out).mono ?_); (case side1 => repeat (first | exact (Kd.R_reads' HO_7.out).2.2 | (with_reducible refine Kd.C_alloc ?_ _) | (with_reducible refine Kd.C_drewN ?_ _) | (with_reducible refine Kd.C_drew ?_))); (case side2 => exact (Kd.R_reads' HO_7.out).2.1); (case side3 => repeat (first | exact (Kd.R_reads' HO288.out).2.2 | (with_reducible refine Kd.C_alloc ?_ _) | (with_reducible refine Kd.C_drewN ?_ _) | (with_reducible refine Kd.C_drew ?_))); (case side4 => exact (Kd.R_reads' HO288.out).2.1); rintro e w' ⟨rfl, ⟨nd, rfl⟩⟩; obtain ⟨Ao51, co51, eo51⟩ := Kd.S_slice HO276.out; subst eo51) | (go_at_call 13; (with_reducible refine (marquetryref24_SameChunks.calls k2 _ _ t273 _ _ l0 true _ ?side1 ?side2 ?side3 ?side4 A34.out).mono ?_); (case side1 => repeat (first | exact (Kd.S_reads' HO276.out).2.2 | (with_reducible refine Kd.C_alloc ?_ _) | (with_reducible refine Kd.C_drewN ?_ _) | (with_reducible refine Kd.C_drew ?_))); (case side2 => exact (Kd.S_reads' HO276.out).2.1); (case side3 => repeat (first | exact (Kd.C_below HR0.out (by repeat (first | (with_reducible first | exact HB.out | apply below_alloc | apply pw_below_drewN | apply below_drew1) | exact HB.out))) | (with_reducible refine Kd.C_alloc ?_ _) | (with_reducible refine Kd.C_drewN ?_ _) | (with_reducible refine Kd.C_drew ?_))); (case side4 => exact HC0.out); rintro e w' ⟨rfl, ⟨nd, rfl⟩⟩; obtain ⟨Ao52, co52, eo52⟩ := Kd.S_slice HO279.out; subst eo52) | (go_at_call 13; (with_reducible refine (marquetryref24_SameChunks.calls k2 _ _ t277 _ _ l0 t291 _ ?side1 ?side2 ?side3 ?side4 A36.out).mono ?_); (case side1 => repeat (first | exact (Kd.S_reads' HO279.out).2.2 | (with_reducible refine Kd.C_alloc ?_ _) | (with_reducible refine Kd.C_drewN ?_ _) | (with_reducible refine Kd.C_drew ?_))); (case side2 => exact (Kd.S_reads' HO279.out).2.1); (case side3 => repeat (first | exact (Kd.C_below HR0.out (by repeat (first | (with_reducible first | exact HB.out | apply below_alloc | apply pw_below_drewN | apply below_drew1) | exact HB.out))) | (with_reducible refine Kd.C_alloc ?_ _) | (with_reducible refine Kd.C_drewN ?_ _) | (with_reducible refine Kd.C_drew ?_))); (case side4 => exact HC0.out); rintro e w' ⟨rfl, ⟨nd, rfl⟩⟩))
                                    go_ret
                                    exact ⟨by first | rfl | (simp [errW_none, errW_some] <;> rfl) | (simp [*, errW_none, errW_some] <;> rfl), by repeat (first | (with_reducible first | exact HB.out | apply below_alloc | apply pw_below_drewN | apply below_drew1) | exact HB.out)⟩
                                  · replace c35 := Bool.eq_false_iff.mpr c35
                                    subst c35
                                    have H1 : (some false) = some r := by rw [if_neg (show ¬ (false = true) by decide)] at H; exact H
                                    clear H
                                    have H := H1
                                    clear H1
                                    exact absurd ((Option.some.inj H).trans Hr.out) (by decide)
                                · rw [if_neg c33] at H
                                  have c33b0 : (t280 == 0) = false := beq_eq_false_iff_ne.mpr c33
                                  have c33b1 : (t280 != 0) = true := bne_iff_ne.mpr c33
                                  exact absurd ((Option.some.inj H).trans Hr.out) (by decide)
                              · rw [if_neg c32] at H
                                have c32b0 : (t274 == 0) = false := beq_eq_false_iff_ne.mpr c32
                                have c32b1 : (t274 != 0) = true := bne_iff_ne.mpr c32
                                exact absurd ((Option.some.inj H).trans Hr.out) (by decide)
                            · replace c31 := Bool.eq_false_iff.mpr c31
                              subst c31
                              have H1 : (some false) = some r := by rw [if_neg (show ¬ (false = true) by decide)] at H; exact H
                              clear H
                              have H := H1
                              clear H1
                              exact absurd ((Option.some.inj H).trans Hr.out) (by decide)
                          · replace c28 := Bool.eq_false_iff.mpr c28
                            subst c28
                            have H1 : (some false) = some r := by rw [if_neg (show ¬ (false = true) by decide)] at H; exact H
                            clear H
                            have H := H1
                            clear H1
                            exact absurd ((Option.some.inj H).trans Hr.out) (by decide)
                        · rw [if_neg c25] at H
                          have c25b0 : (t258 == 0) = false := beq_eq_false_iff_ne.mpr c25
                          have c25b1 : (t258 != 0) = true := bne_iff_ne.mpr c25
                          exact absurd ((Option.some.inj H).trans Hr.out) (by decide)
                      · rw [if_neg c24] at H
                        have c24b0 : (t254 == 0) = false := beq_eq_false_iff_ne.mpr c24
                        have c24b1 : (t254 != 0) = true := bne_iff_ne.mpr c24
                        exact absurd ((Option.some.inj H).trans Hr.out) (by decide)
                    · replace c23 := Bool.eq_false_iff.mpr c23
                      subst c23
                      have H1 : (some false) = some r := by rw [if_neg (show ¬ (false = true) by decide)] at H; exact H
                      clear H
                      have H := H1
                      clear H1
                      exact absurd ((Option.some.inj H).trans Hr.out) (by decide)
                  · rw [if_neg c19] at H
                    exact absurd H (by simp)
                · rw [if_neg c18] at H
                  exact absurd H (by simp)
              · replace c17 := Bool.eq_false_iff.mpr c17
                subst c17
                have H1 : ((marquetrylaw24_answers.f).bind fun t263 => (if t263 = true then (if t254 = 7 then (if t258 = 7 then (some ((wrap64 ((t253.length : Int) + (t257.length : Int))) == 0)) else (some false)) else (some false)) else (some false))) = some r := by rw [if_neg (show ¬ (false = true) by decide)] at H; exact H
                clear H
                have H := H1
                clear H1
                replace H := Option.bind_eq_some_iff.mp H
                obtain ⟨t263, A530, H⟩ := H
                replace H : (if t263 = true then (if t254 = 7 then (if t258 = 7 then (some ((wrap64 ((t253.length : Int) + (t257.length : Int))) == 0)) else (some false)) else (some false)) else (some false)) = some r := H
                have A53 := Aside0.mk A530
                clear A530
                by_cases c54 : t263 = true
                · subst c54
                  have H1 : (if t254 = 7 then (if t258 = 7 then (some ((wrap64 ((t253.length : Int) + (t257.length : Int))) == 0)) else (some false)) else (some false)) = some r := by rw [if_pos rfl] at H; exact H
                  clear H
                  have H := H1
                  clear H1
                  by_cases c55 : t254 = 7
                  · rw [if_pos c55] at H
                    have c55b0 : (t254 == 7) = true := beq_iff_eq.mpr c55
                    have c55b1 : (t254 != 7) = false := bne_eq_false_iff_eq.mpr c55
                    clear c55
                    by_cases c56 : t258 = 7
                    · rw [if_pos c56] at H
                      have c56b0 : (t258 == 7) = true := beq_iff_eq.mpr c56
                      have c56b1 : (t258 != 7) = false := bne_eq_false_iff_eq.mpr c56
                      clear c56
                      obtain rfl := Option.some.inj H
                      go_wp2_with (first | ((with_reducible refine gate_callee (f := 8) rfl ?_); refine goesL_ (some 51) rfl rfl Try.func8 (by kernel_rfl) rfl #[] rfl (by (try simp only [List.map_toArray, List.map_cons, List.map_nil]); first | done | rfl | (simp only [List.length_drop, List.length_take]; rfl)) ?_; (with_reducible refine (marquetrylaw24_answers.calls  true _ A53.out).mono ?_); clear A53; rintro e w57 ⟨rfl, hb⟩; refine ⟨_, rfl, ?_⟩; have n0_ := Aside0.mk (Kd.R_below (by (with_reducible repeat (first | apply Kd.R_alloc | apply Kd.R_drewN | apply Kd.R_drew)); exact HO_5.out) hb); have n1_ := Aside0.mk (Kd.R_below (by (with_reducible repeat (first | apply Kd.R_alloc | apply Kd.R_drewN | apply Kd.R_drew)); exact HO_7.out) hb); have n2_ := Aside0.mk (below_step (by repeat (first | (with_reducible first | exact HB.out | apply below_alloc | apply pw_below_drewN | apply below_drew1) | exact HB.out)) hb); clear HO_5; clear HO_7; clear HB; have HO_5 := n0_; have HO_7 := n1_; have HB := n2_; clear n0_ n1_ n2_; (try clear hb); (try clear hb2); (try clear hk); (try clear hi); obtain ⟨Ao58, co58, eo58⟩ := Kd.R_slice HO_5.out; subst eo58; obtain ⟨Ao59, co59, eo59⟩ := Kd.R_slice HO_7.out; subst eo59) | (go_at_call 8; (with_reducible refine (marquetrylaw24_answers.calls  true _ A53.out).mono ?_); clear A53; rintro e w57 ⟨rfl, hb⟩; have n0_ := Aside0.mk (Kd.R_below (by (with_reducible repeat (first | apply Kd.R_alloc | apply Kd.R_drewN | apply Kd.R_drew)); exact HO_5.out) hb); have n1_ := Aside0.mk (Kd.R_below (by (with_reducible repeat (first | apply Kd.R_alloc | apply Kd.R_drewN | apply Kd.R_drew)); exact HO_7.out) hb); have n2_ := Aside0.mk (below_step (by repeat (first | (with_reducible first | exact HB.out | apply below_alloc | apply pw_below_drewN | apply below_drew1) | exact HB.out)) hb); clear HO_5; clear HO_7; clear HB; have HO_5 := n0_; have HO_7 := n1_; have HB := n2_; clear n0_ n1_ n2_; (try clear hb); (try clear hb2); (try clear hk); (try clear hi); obtain ⟨Ao58, co58, eo58⟩ := Kd.R_slice HO_5.out; subst eo58; obtain ⟨Ao59, co59, eo59⟩ := Kd.R_slice HO_7.out; subst eo59))
                      go_ret
                      exact ⟨by first | rfl | (simp [errW_none, errW_some] <;> rfl) | (simp [*, errW_none, errW_some] <;> rfl), by repeat (first | (with_reducible first | exact HB.out | apply below_alloc | apply pw_below_drewN | apply below_drew1) | exact HB.out)⟩
                    · rw [if_neg c56] at H
                      have c56b0 : (t258 == 7) = false := beq_eq_false_iff_ne.mpr c56
                      have c56b1 : (t258 != 7) = true := bne_iff_ne.mpr c56
                      exact absurd ((Option.some.inj H).trans Hr.out) (by decide)
                  · rw [if_neg c55] at H
                    have c55b0 : (t254 == 7) = false := beq_eq_false_iff_ne.mpr c55
                    have c55b1 : (t254 != 7) = true := bne_iff_ne.mpr c55
                    exact absurd ((Option.some.inj H).trans Hr.out) (by decide)
                · replace c54 := Bool.eq_false_iff.mpr c54
                  subst c54
                  have H1 : (some false) = some r := by rw [if_neg (show ¬ (false = true) by decide)] at H; exact H
                  clear H
                  have H := H1
                  clear H1
                  exact absurd ((Option.some.inj H).trans Hr.out) (by decide)

/-- THE ONE PURE STATEMENT of marquetrylaw24_ChunkBack. -/
def marquetrylaw24_ChunkBack.Pure : Prop := ∀ (l0 : List (S35)) (l1 : List Int), l0.length ≤ maxLen → l0.length * 40 ≤ 140737488351232 → (∀ y ∈ l0, q35 y) → l1.length ≤ maxLen → l1.length * 1 ≤ 140737488351232 → (∀ y ∈ l1, ((Lit.int .u8 y).wf = true)) → ∃ k, marquetrylaw24_ChunkBack.f k l0 l1 = some true

end Go.Proofs.Ytfbkbbognabkkaa.P
