-- Printed by mp.py (our own program over the kit's printer) out of the translation.
import Derived.Test.YtnbocgmlcdcahaaPx0
namespace Go.Proofs.Ytnbocgmlcdcahaa.P
open Go.RowKit Go.Proofs.YtnbocgmlcdcahaaW.PrintWords Go.Proofs.YtnbocgmlcdcahaaW.PrintLast Go.Proofs.YtnbocgmlcdcahaaW.PrintMore
attribute [local go_sem] max2_int min2_int max_two min_two max_three min_three max_four min_four   -- for this text's walks alone
set_option linter.unusedVariables false
set_option linter.unusedSimpArgs false

/-! ### marquetryref11_Around: function 45 -/
mutual
def marquetryref11_Around.j0 : Nat → Int → List Int → Int → Int → Int → Int → Int → Int → Option (Int × Int × Int × Int)
  | 0, _, _, _, _, _, _, _, _ => none
  | k + 1, x0, x1, x2, x3, x163000, x163001, x163002, x163003 => if x3 > 0 then (if 0 ≤ (wrap64 ((wrap64 ((wrap64 (x3 * x0)) - x0)) + x2)) then (if (wrap64 ((wrap64 ((wrap64 (x3 * x0)) - x0)) + x2)) < (x1.length : Int) then (marquetryref11_Around.j1 k x0 x1 x2 x3 x163000 (rd x1 (wrap64 ((wrap64 ((wrap64 (x3 * x0)) - x0)) + x2))) x163002 x163003) else (none)) else (none)) else (marquetryref11_Around.j1 k x0 x1 x2 x3 x163000 x163001 x163002 x163003)
def marquetryref11_Around.j1 : Nat → Int → List Int → Int → Int → Int → Int → Int → Int → Option (Int × Int × Int × Int)
  | 0, _, _, _, _, _, _, _, _ => none
  | k + 1, x0, x1, x2, x3, x163000, x163001, x163002, x163003 => if x2 > 0 then (marquetryref11_Around.j2 k x0 x1 x2 x3 (decide (x3 > 0)) x163000 x163001 x163002 x163003) else (marquetryref11_Around.j2 k x0 x1 x2 x3 false x163000 x163001 x163002 x163003)
def marquetryref11_Around.j2 : Nat → Int → List Int → Int → Int → Bool → Int → Int → Int → Int → Option (Int × Int × Int × Int)
  | 0, _, _, _, _, _, _, _, _, _ => none
  | k + 1, x0, x1, x2, x3, x40, x163000, x163001, x163002, x163003 => if x40 = true then (if 0 ≤ (wrap64 ((wrap64 ((wrap64 ((wrap64 (x3 * x0)) - x0)) + x2)) - 1)) then (if (wrap64 ((wrap64 ((wrap64 ((wrap64 (x3 * x0)) - x0)) + x2)) - 1)) < (x1.length : Int) then (marquetryref11_Around.j3 k x0 x1 x2 x3 x163000 x163001 (rd x1 (wrap64 ((wrap64 ((wrap64 ((wrap64 (x3 * x0)) - x0)) + x2)) - 1))) x163003) else (none)) else (none)) else (marquetryref11_Around.j3 k x0 x1 x2 x3 x163000 x163001 x163002 x163003)
def marquetryref11_Around.j3 : Nat → Int → List Int → Int → Int → Int → Int → Int → Int → Option (Int × Int × Int × Int)
  | 0, _, _, _, _, _, _, _, _ => none
  | k + 1, x0, x1, x2, x3, x163000, x163001, x163002, x163003 => if x2 = (wrap64 (x0 - 1)) then (if 0 ≤ (wrap64 (x3 * x0)) then (if (wrap64 (x3 * x0)) < (x1.length : Int) then (some (x163000, x163001, x163002, rd x1 (wrap64 (x3 * x0)))) else (none)) else (none)) else (if x3 > 0 then (if 0 ≤ (wrap64 ((wrap64 ((wrap64 ((wrap64 (x3 * x0)) - x0)) + x2)) + 1)) then (if (wrap64 ((wrap64 ((wrap64 ((wrap64 (x3 * x0)) - x0)) + x2)) + 1)) < (x1.length : Int) then (some (x163000, x163001, x163002, rd x1 (wrap64 ((wrap64 ((wrap64 ((wrap64 (x3 * x0)) - x0)) + x2)) + 1)))) else (none)) else (none)) else (some (x163000, x163001, x163002, x163003)))
end
def marquetryref11_Around.f (k : Nat) (a0 : Int) (l1 : List Int) (a2 : Int) (a3 : Int) : Option (Int × Int × Int × Int) := if a2 > 0 then (if 0 ≤ (wrap64 ((wrap64 ((wrap64 (a3 * a0)) + a2)) - 1)) then (if (wrap64 ((wrap64 ((wrap64 (a3 * a0)) + a2)) - 1)) < (l1.length : Int) then (marquetryref11_Around.j0 k a0 l1 a2 a3 (rd l1 (wrap64 ((wrap64 ((wrap64 (a3 * a0)) + a2)) - 1))) 0 0 0) else (none)) else (none)) else (marquetryref11_Around.j0 k a0 l1 a2 a3 0 0 0 0)
theorem marquetryref11_Around.mono_l : ∀ k, (∀ y0 y1 y2 y3 y4 y5 y6 y7, LeO (marquetryref11_Around.j0 k y0 y1 y2 y3 y4 y5 y6 y7) (marquetryref11_Around.j0 (k + 1) y0 y1 y2 y3 y4 y5 y6 y7)) ∧ (∀ y0 y1 y2 y3 y4 y5 y6 y7, LeO (marquetryref11_Around.j1 k y0 y1 y2 y3 y4 y5 y6 y7) (marquetryref11_Around.j1 (k + 1) y0 y1 y2 y3 y4 y5 y6 y7)) ∧ (∀ y0 y1 y2 y3 y4 y5 y6 y7 y8, LeO (marquetryref11_Around.j2 k y0 y1 y2 y3 y4 y5 y6 y7 y8) (marquetryref11_Around.j2 (k + 1) y0 y1 y2 y3 y4 y5 y6 y7 y8)) ∧ (∀ y0 y1 y2 y3 y4 y5 y6 y7, LeO (marquetryref11_Around.j3 k y0 y1 y2 y3 y4 y5 y6 y7) (marquetryref11_Around.j3 (k + 1) y0 y1 y2 y3 y4 y5 y6 y7))
  | 0 => ⟨fun _ _ _ _ _ _ _ _ r h => by simp [marquetryref11_Around.j0] at h, fun _ _ _ _ _ _ _ _ r h => by simp [marquetryref11_Around.j1] at h, fun _ _ _ _ _ _ _ _ _ r h => by simp [marquetryref11_Around.j2] at h, fun _ _ _ _ _ _ _ _ r h => by simp [marquetryref11_Around.j3] at h⟩
  | k + 1 => by
    obtain ⟨ih0, ih1, ih2, ih3⟩ := marquetryref11_Around.mono_l k
    refine ⟨?_, ?_, ?_, ?_⟩
    · intro y0 y1 y2 y3 y4 y5 y6 y7
      unfold marquetryref11_Around.j0
      repeat' first
      | (with_reducible exact ih0 _ _ _ _ _ _ _ _)
      | (with_reducible exact ih1 _ _ _ _ _ _ _ _)
      | (with_reducible exact ih2 _ _ _ _ _ _ _ _ _)
      | (with_reducible exact ih3 _ _ _ _ _ _ _ _)
      | (with_reducible exact LeO.refl _)
      | (with_reducible exact LeO.none _)
      | (with_reducible refine LeO.ite ?_ ?_)
      | (with_reducible refine LeO.bind ?_ (fun _ => ?_))
      | exact ih0 _ _ _ _ _ _ _ _
      | exact ih1 _ _ _ _ _ _ _ _
      | exact ih2 _ _ _ _ _ _ _ _ _
      | exact ih3 _ _ _ _ _ _ _ _
      | exact LeO.none _
      | refine LeO.ite ?_ ?_
      | refine LeO.bind ?_ (fun _ => ?_)
    · intro y0 y1 y2 y3 y4 y5 y6 y7
      unfold marquetryref11_Around.j1
      repeat' first
      | (with_reducible exact ih0 _ _ _ _ _ _ _ _)
      | (with_reducible exact ih1 _ _ _ _ _ _ _ _)
      | (with_reducible exact ih2 _ _ _ _ _ _ _ _ _)
      | (with_reducible exact ih3 _ _ _ _ _ _ _ _)
      | (with_reducible exact LeO.refl _)
      | (with_reducible exact LeO.none _)
      | (with_reducible refine LeO.ite ?_ ?_)
      | (with_reducible refine LeO.bind ?_ (fun _ => ?_))
      | exact ih0 _ _ _ _ _ _ _ _
      | exact ih1 _ _ _ _ _ _ _ _
      | exact ih2 _ _ _ _ _ _ _ _ _
      | exact ih3 _ _ _ _ _ _ _ _
      | exact LeO.none _
      | refine LeO.ite ?_ ?_
      | refine LeO.bind ?_ (fun _ => ?_)
    · intro y0 y1 y2 y3 y4 y5 y6 y7 y8
      unfold marquetryref11_Around.j2
      repeat' first
      | (with_reducible exact ih0 _ _ _ _ _ _ _ _)
      | (with_reducible exact ih1 _ _ _ _ _ _ _ _)
      | (with_reducible exact ih2 _ _ _ _ _ _ _ _ _)
      | (with_reducible exact ih3 _ _ _ _ _ _ _ _)
      | (with_reducible exact LeO.refl _)
      | (with_reducible exact LeO.none _)
      | (with_reducible refine LeO.ite ?_ ?_)
      | (with_reducible refine LeO.bind ?_ (fun _ => ?_))
      | exact ih0 _ _ _ _ _ _ _ _
      | exact ih1 _ _ _ _ _ _ _ _
      | exact ih2 _ _ _ _ _ _ _ _ _
      | exact ih3 _ _ _ _ _ _ _ _
      | exact LeO.none _
      | refine LeO.ite ?_ ?_
      | refine LeO.bind ?_ (fun _ => ?_)
    · intro y0 y1 y2 y3 y4 y5 y6 y7
      unfold marquetryref11_Around.j3
      repeat' first
      | (with_reducible exact ih0 _ _ _ _ _ _ _ _)
      | (with_reducible exact ih1 _ _ _ _ _ _ _ _)
      | (with_reducible exact ih2 _ _ _ _ _ _ _ _ _)
      | (with_reducible exact ih3 _ _ _ _ _ _ _ _)
      | (with_reducible exact LeO.refl _)
      | (with_reducible exact LeO.none _)
      | (with_reducible refine LeO.ite ?_ ?_)
      | (with_reducible refine LeO.bind ?_ (fun _ => ?_))
      | exact ih0 _ _ _ _ _ _ _ _
      | exact ih1 _ _ _ _ _ _ _ _
      | exact ih2 _ _ _ _ _ _ _ _ _
      | exact ih3 _ _ _ _ _ _ _ _
      | exact LeO.none _
      | refine LeO.ite ?_ ?_
      | refine LeO.bind ?_ (fun _ => ?_)
theorem marquetryref11_Around.mono : ∀ a0 a1 a2 a3 k, LeO (marquetryref11_Around.f k a0 a1 a2 a3) (marquetryref11_Around.f (k + 1) a0 a1 a2 a3) := by
  intro a0 a1 a2 a3 k
  obtain ⟨ih0, ih1, ih2, ih3⟩ := marquetryref11_Around.mono_l k
  unfold marquetryref11_Around.f
  repeat' first
      | (with_reducible exact ih0 _ _ _ _ _ _ _ _)
      | (with_reducible exact ih1 _ _ _ _ _ _ _ _)
      | (with_reducible exact ih2 _ _ _ _ _ _ _ _ _)
      | (with_reducible exact ih3 _ _ _ _ _ _ _ _)
      | (with_reducible exact LeO.refl _)
      | (with_reducible exact LeO.none _)
      | (with_reducible refine LeO.ite ?_ ?_)
      | (with_reducible refine LeO.bind ?_ (fun _ => ?_))
      | exact ih0 _ _ _ _ _ _ _ _
      | exact ih1 _ _ _ _ _ _ _ _
      | exact ih2 _ _ _ _ _ _ _ _ _
      | exact ih3 _ _ _ _ _ _ _ _
      | exact LeO.none _
      | refine LeO.ite ?_ ?_
      | refine LeO.bind ?_ (fun _ => ?_)
set_option maxHeartbeats 8000000 in
set_option maxRecDepth 100000 in
theorem marquetryref11_Around.calls (k : Nat) (a0 : Int) (A1 : Option Addr) (c1 : Nat) (l1 : List Int) (a2 : Int) (a3 : Int) (r1 : Int) (r2 : Int) (r3 : Int) (r4 : Int) (w : World) (hr1 : Kd.C (Kd.int .u32) w A1 l1.length l1) (hc1 : l1.length ≤ c1) (h : marquetryref11_Around.f k a0 l1 a2 a3 = some (r1, r2, r3, r4)) :
    Calls Try.prog 45 #[.int .i64 a0, .slice A1 l1.length c1, .int .i64 a2, .int .i64 a3] w fun e w' => e = .returned (.agg #[.int .u32 r1, .int .u32 r2, .int .u32 r3, .int .u32 r4]) ∧ Below w.heap.size w w' := by
  have hu64 := Try.underlying64
  have HR1 := Aside0.mk hr1
  have HC1 := Aside0.mk hc1
  clear hr1 hc1
  have HB := Aside0.mk (Below.refl w.heap.size w)
  have H : (if a2 > 0 then (if 0 ≤ (wrap64 ((wrap64 ((wrap64 (a3 * a0)) + a2)) - 1)) then (if (wrap64 ((wrap64 ((wrap64 (a3 * a0)) + a2)) - 1)) < (l1.length : Int) then (marquetryref11_Around.j0 k a0 l1 a2 a3 (rd l1 (wrap64 ((wrap64 ((wrap64 (a3 * a0)) + a2)) - 1))) 0 0 0) else (none)) else (none)) else (marquetryref11_Around.j0 k a0 l1 a2 a3 0 0 0 0)) = some (r1, r2, r3, r4) := h
  clear h
  have HC5 := Aside0.mk H
  clear H
  go_enter Try.func45, Try.ntmps45
  go_upto_if 11 with (first | ((with_reducible refine gate_dst (N := 8) rfl ?_); refine box_event ?hg (N := 8) ?hd (cs := #[.int .u32 0, .int .u32 0, .int .u32 0, .int .u32 0]) (t := 64) ?hr ?_; (case hd => rfl); (case hg => rfl); (case hr => first | (go_simp; done) | (go_simp; rfl)); intro gb161 hg w6 hbox hb; have n0_ := Aside0.mk (below_step (by repeat (first | (with_reducible first | exact HB.out | apply below_alloc | apply pw_below_drewN | apply below_drew1) | exact HB.out)) hb); have n1_ := Aside0.mk (hbox); have n2_ := Aside0.mk ((by rw [hg]; exact (below_size (by repeat (first | (with_reducible first | exact HB.out | apply below_alloc | apply pw_below_drewN | apply below_drew1) | exact HB.out))) : w.heap.size ≤ gb161)); have n3_ := Aside0.mk ((by rw [hg]; exact (below_size (by repeat (first | (with_reducible first | exact HB.out | apply below_alloc | apply pw_below_drewN | apply below_drew1) | exact HB.out))) : w.heap.size ≤ gb161)); clear HB; have HB := n0_; have BK161 := n1_; have GW161 := n2_; have GE161 := n3_; clear n0_ n1_ n2_ n3_; clear hb hbox hg) | ((with_reducible refine gate_dst (N := 9) rfl ?_); refine box_event ?hg (N := 9) ?hd (cs := #[.int .u32 0, .int .u32 0, .int .u32 0, .int .u32 0]) (t := 64) ?hr ?_; (case hd => rfl); (case hg => rfl); (case hr => first | (go_simp; done) | (go_simp; rfl)); intro gb162 hg w7 hbox hb; have n0_ := Aside0.mk (blk_below (g := gb161) (o := .cells #[.int .u32 0, .int .u32 0, .int .u32 0, .int .u32 0] 64 (0, 0)) (by (with_reducible repeat (first | refine blk_drewN ?_ _ | refine blk_drew ?_ | refine blk_alloc ?_ _)); exact BK161.out) hb); have n1_ := Aside0.mk (below_step (by repeat (first | (with_reducible first | exact HB.out | apply below_alloc | apply pw_below_drewN | apply below_drew1 | refine below_set ?_ GE161.out) | exact HB.out)) hb); have n2_ := Aside0.mk (hbox); have n3_ := Aside0.mk ((by rw [hg]; exact (below_size (by repeat (first | (with_reducible first | exact HB.out | apply below_alloc | apply pw_below_drewN | apply below_drew1 | refine below_set ?_ GE161.out) | exact HB.out))) : w.heap.size ≤ gb162)); have n4_ := Aside0.mk ((by rw [hg]; exact (below_size (by repeat (first | (with_reducible first | exact HB.out | apply below_alloc | apply pw_below_drewN | apply below_drew1 | refine below_set ?_ GE161.out) | exact HB.out))) : w.heap.size ≤ gb162)); have n5_ := Aside0.mk ((by rw [hg]; exact Nat.ne_of_lt (blk_lt (g := gb161) (o := .cells #[.int .u32 0, .int .u32 0, .int .u32 0, .int .u32 0] 64 (0, 0)) (by (with_reducible repeat (first | refine blk_drewN ?_ _ | refine blk_drew ?_ | refine blk_alloc ?_ _)); exact BK161.out)) : gb161 ≠ gb162)); have n6_ := Aside0.mk ((by rw [hg]; exact Nat.ne_of_gt (blk_lt (g := gb161) (o := .cells #[.int .u32 0, .int .u32 0, .int .u32 0, .int .u32 0] 64 (0, 0)) (by (with_reducible repeat (first | refine blk_drewN ?_ _ | refine blk_drew ?_ | refine blk_alloc ?_ _)); exact BK161.out)) : gb162 ≠ gb161)); clear BK161; clear HB; have BK161 := n0_; have HB := n1_; have BK162 := n2_; have GW162 := n3_; have GE162 := n4_; have NB161_162 := n5_; have NB162_161 := n6_; clear n0_ n1_ n2_ n3_ n4_ n5_ n6_; clear hb hbox hg))
  (try simp only [Act.put, List.setIfInBounds_toArray, List.set_cons_zero, List.set_cons_succ])
  go_cut [] (fun wc => ∃ (kq : Nat) (x163000_4 : Int), Aside0 (marquetryref11_Around.j0 kq a0 l1 a2 a3 x163000_4 0 0 0 = some (r1, r2, r3, r4)) ∧ Aside0 (kq ≤ k) ∧ Aside0 (wc.heap[gb161]? = some (.cells #[.int .u32 0, .int .u32 0, .int .u32 0, .int .u32 0] 64 (0, 0))) ∧ Aside0 (wc.heap[gb162]? = some (.cells #[.int .u32 x163000_4, .int .u32 0, .int .u32 0, .int .u32 0] 64 (0, 0))) ∧ Aside0 (Below w.heap.size w wc))
  case first =>
    have H := HC5.out
    clear HC5
    by_cases c8 : a2 > 0
    · rw [if_pos c8] at H
      have c8b0 : decide (0 < a2) = true := decide_eq_true c8
      clear c8
      (first | rw [c8b0] | (simp only [i64_w, i32_w]; rw [c8b0]) | skip)
      obtain ⟨ji9, hji9⟩ : ∃ j_ : Int, (wrap64 ((wrap64 ((wrap64 (a3 * a0)) + a2)) - 1)) = j_ := ⟨_, rfl⟩
      replace H : (if 0 ≤ (ji9) then (if (ji9) < (l1.length : Int) then (marquetryref11_Around.j0 k a0 l1 a2 a3 (rd l1 (ji9)) 0 0 0) else (none)) else (none)) = some (r1, r2, r3, r4) := by first | (rw [hji9] at H; exact H) | (simp only [hji9] at H ⊢; exact H)
      have hji9w : (IntKind.i64.wrap ((wrap64 ((wrap64 (a3 * a0)) + a2)) - 1)) = ji9 := (i64_w _).trans hji9
      by_cases c10 : 0 ≤ (ji9)
      · rw [if_pos c10] at H
        have c10b0 : decide (0 ≤ (ji9)) = true := decide_eq_true c10
        clear c10
        by_cases c11 : (ji9) < (l1.length : Int)
        · rw [if_pos c11] at H
          have c11b0 : decide ((ji9) < (l1.length : Int)) = true := decide_eq_true c11
          clear c11
          have H' := Aside0.mk H
          clear H
          have p163 : 0 ≤ ((ji9) : Int) := of_decide_eq_true (by first | (with_reducible assumption) | assumption)
          have q163 : (ji9) < (l1.length : Int) := of_decide_eq_true (by first | (with_reducible assumption) | assumption)
          obtain ⟨ad163, e163, hx163_0⟩ := Kd.at_int HR1.out (ji9) p163 q163
          cases e163
          replace hx163_0 := (HB.out.cell (World.block_lt_of_cell? w _ hx163_0)).trans hx163_0
          replace p163 := eq_true p163
          replace q163 := eq_true q163
          have hnb12 := NB162_161.out
          have hnc12 := NB161_162.out
          have hcz13_0 : w7.cell? ⟨gb162, 0, none⟩ = some (.int .u32 0) := (blk_cell BK162.out 0).trans rfl
          have hcz13_1 : w7.cell? ⟨gb162, 1, none⟩ = some (.int .u32 0) := (blk_cell BK162.out 1).trans rfl
          have hcz13_2 : w7.cell? ⟨gb162, 2, none⟩ = some (.int .u32 0) := (blk_cell BK162.out 2).trans rfl
          have hcz13_3 : w7.cell? ⟨gb162, 3, none⟩ = some (.int .u32 0) := (blk_cell BK162.out 3).trans rfl
          have hfz13_0 := blk_frozen BK162.out 0
          have hfz13_1 := blk_frozen BK162.out 1
          have hfz13_2 := blk_frozen BK162.out 2
          have hfz13_3 := blk_frozen BK162.out 3
          go_wp2
          go_meet
          case rel => exact ⟨_, (rd l1 (ji9)), H', ⟨by first | omega | exact Nat.le_refl _⟩, ⟨by (with_reducible repeat (first | refine blk_drewN ?_ _ | refine blk_drew ?_ | refine blk_alloc ?_ _)); refine blk_far ?_ NB161_162.out _; (with_reducible repeat (first | refine blk_drewN ?_ _ | refine blk_drew ?_ | refine blk_alloc ?_ _)); exact BK161.out⟩, ⟨by (with_reducible repeat (first | refine blk_drewN ?_ _ | refine blk_drew ?_ | refine blk_alloc ?_ _)); refine blk_put (cs := #[.int .u32 0, .int .u32 0, .int .u32 0, .int .u32 0]) ?_ 0 _ rfl; (with_reducible repeat (first | refine blk_drewN ?_ _ | refine blk_drew ?_ | refine blk_alloc ?_ _)); exact BK162.out⟩, ⟨by repeat (first | (with_reducible first | exact HB.out | apply below_alloc | apply pw_below_drewN | apply below_drew1 | refine below_set ?_ GE161.out | refine below_set ?_ GE162.out) | exact HB.out)⟩⟩
        · rw [if_neg c11] at H
          exact absurd H (by simp)
      · rw [if_neg c10] at H
        exact absurd H (by simp)
    · rw [if_neg c8] at H
      have c8b0 : decide (0 < a2) = false := decide_eq_false c8
      clear c8
      (first | rw [c8b0] | (simp only [i64_w, i32_w]; rw [c8b0]) | skip)
      have H' := Aside0.mk H
      clear H
      go_wp2
      go_meet
      case rel => exact ⟨_, (0), H', ⟨by first | omega | exact Nat.le_refl _⟩, ⟨by (with_reducible repeat (first | refine blk_drewN ?_ _ | refine blk_drew ?_ | refine blk_alloc ?_ _)); exact BK161.out⟩, ⟨by (with_reducible repeat (first | refine blk_drewN ?_ _ | refine blk_drew ?_ | refine blk_alloc ?_ _)); exact BK162.out⟩, ⟨by repeat (first | (with_reducible first | exact HB.out | apply below_alloc | apply pw_below_drewN | apply below_drew1 | refine below_set ?_ GE161.out | refine below_set ?_ GE162.out) | exact HB.out)⟩⟩
  case rest =>
    clear HC5
    try clear c1
    try clear p1
    try clear q1
    try clear hx1
    try clear p2
    try clear c4
    try clear p6
    try clear c8
    try clear c8b0
    try clear c10
    try clear c10b0
    try clear c11
    try clear c11b0
    try clear c12
    try clear hcz13_0
    try clear hcz13_1
    try clear hcz13_2
    try clear hcz13_3
    try clear hfz13_0
    try clear hfz13_1
    try clear hfz13_2
    try clear hfz13_3
    try clear hx163_0
    try clear p163
    try clear q163
    obtain ⟨kq, x163000_4, HA, HJ4, BK161, BK162, HB⟩ := hcut
    cases kq with
    | zero => exact absurd HA.out (by simp [marquetryref11_Around.j0])
    | succ kj4 =>
      have H := HA.out
      clear HA
      simp only [marquetryref11_Around.j0] at H
      have HC14 := Aside0.mk H
      clear H
      go_upto_if 23 with (fail)
      go_cut [] (fun wc => ∃ (kq : Nat) (x163001_13 : Int), Aside0 (marquetryref11_Around.j1 kq a0 l1 a2 a3 x163000_4 x163001_13 0 0 = some (r1, r2, r3, r4)) ∧ Aside0 (kq ≤ kj4) ∧ Aside0 (wc.heap[gb161]? = some (.cells #[.int .u32 0, .int .u32 0, .int .u32 0, .int .u32 0] 64 (0, 0))) ∧ Aside0 (wc.heap[gb162]? = some (.cells #[.int .u32 x163000_4, .int .u32 x163001_13, .int .u32 0, .int .u32 0] 64 (0, 0))) ∧ Aside0 (Below w.heap.size w wc))
      case first =>
        have H := HC14.out
        clear HC14
        by_cases c15 : a3 > 0
        · rw [if_pos c15] at H
          have c15b0 : decide (0 < a3) = true := decide_eq_true c15
          clear c15
          (first | rw [c15b0] | (simp only [i64_w, i32_w]; rw [c15b0]) | skip)
          obtain ⟨ji16, hji16⟩ : ∃ j_ : Int, (wrap64 ((wrap64 ((wrap64 (a3 * a0)) - a0)) + a2)) = j_ := ⟨_, rfl⟩
          replace H : (if 0 ≤ (ji16) then (if (ji16) < (l1.length : Int) then (marquetryref11_Around.j1 kj4 a0 l1 a2 a3 x163000_4 (rd l1 (ji16)) 0 0) else (none)) else (none)) = some (r1, r2, r3, r4) := by first | (rw [hji16] at H; exact H) | (simp only [hji16] at H ⊢; exact H)
          have hji16w : (IntKind.i64.wrap ((wrap64 ((wrap64 (a3 * a0)) - a0)) + a2)) = ji16 := (i64_w _).trans hji16
          by_cases c17 : 0 ≤ (ji16)
          · rw [if_pos c17] at H
            have c17b0 : decide (0 ≤ (ji16)) = true := decide_eq_true c17
            clear c17
            by_cases c18 : (ji16) < (l1.length : Int)
            · rw [if_pos c18] at H
              have c18b0 : decide ((ji16) < (l1.length : Int)) = true := decide_eq_true c18
              clear c18
              have H' := Aside0.mk H
              clear H
              have p164 : 0 ≤ ((ji16) : Int) := of_decide_eq_true (by first | (with_reducible assumption) | assumption)
              have q164 : (ji16) < (l1.length : Int) := of_decide_eq_true (by first | (with_reducible assumption) | assumption)
              obtain ⟨ad164, e164, hx164_0⟩ := Kd.at_int HR1.out (ji16) p164 q164
              cases e164
              replace hx164_0 := (HB.out.cell (World.block_lt_of_cell? w _ hx164_0)).trans hx164_0
              replace p164 := eq_true p164
              replace q164 := eq_true q164
              have hnb19 := NB162_161.out
              have hnc19 := NB161_162.out
              have hcz20_0 : wc.cell? ⟨gb162, 0, none⟩ = some (.int .u32 x163000_4) := (blk_cell BK162.out 0).trans rfl
              have hcz20_1 : wc.cell? ⟨gb162, 1, none⟩ = some (.int .u32 0) := (blk_cell BK162.out 1).trans rfl
              have hcz20_2 : wc.cell? ⟨gb162, 2, none⟩ = some (.int .u32 0) := (blk_cell BK162.out 2).trans rfl
              have hcz20_3 : wc.cell? ⟨gb162, 3, none⟩ = some (.int .u32 0) := (blk_cell BK162.out 3).trans rfl
              have hfz20_0 := blk_frozen BK162.out 0
              have hfz20_1 := blk_frozen BK162.out 1
              have hfz20_2 := blk_frozen BK162.out 2
              have hfz20_3 := blk_frozen BK162.out 3
              go_wp2
              go_meet
              case rel => exact ⟨_, (rd l1 (ji16)), H', ⟨by have := HJ4.out; first | omega | exact Nat.le_refl _⟩, ⟨by (with_reducible repeat (first | refine blk_drewN ?_ _ | refine blk_drew ?_ | refine blk_alloc ?_ _)); refine blk_far ?_ NB161_162.out _; (with_reducible repeat (first | refine blk_drewN ?_ _ | refine blk_drew ?_ | refine blk_alloc ?_ _)); exact BK161.out⟩, ⟨by (with_reducible repeat (first | refine blk_drewN ?_ _ | refine blk_drew ?_ | refine blk_alloc ?_ _)); refine blk_put (cs := #[.int .u32 x163000_4, .int .u32 0, .int .u32 0, .int .u32 0]) ?_ 1 _ rfl; (with_reducible repeat (first | refine blk_drewN ?_ _ | refine blk_drew ?_ | refine blk_alloc ?_ _)); exact BK162.out⟩, ⟨by repeat (first | (with_reducible first | exact HB.out | apply below_alloc | apply pw_below_drewN | apply below_drew1 | refine below_set ?_ GE161.out | refine below_set ?_ GE162.out) | exact HB.out)⟩⟩
            · rw [if_neg c18] at H
              exact absurd H (by simp)
          · rw [if_neg c17] at H
            exact absurd H (by simp)
        · rw [if_neg c15] at H
          have c15b0 : decide (0 < a3) = false := decide_eq_false c15
          clear c15
          (first | rw [c15b0] | (simp only [i64_w, i32_w]; rw [c15b0]) | skip)
          have H' := Aside0.mk H
          clear H
          go_wp2
          go_meet
          case rel => exact ⟨_, (0), H', ⟨by have := HJ4.out; first | omega | exact Nat.le_refl _⟩, ⟨by (with_reducible repeat (first | refine blk_drewN ?_ _ | refine blk_drew ?_ | refine blk_alloc ?_ _)); exact BK161.out⟩, ⟨by (with_reducible repeat (first | refine blk_drewN ?_ _ | refine blk_drew ?_ | refine blk_alloc ?_ _)); exact BK162.out⟩, ⟨by repeat (first | (with_reducible first | exact HB.out | apply below_alloc | apply pw_below_drewN | apply below_drew1 | refine below_set ?_ GE161.out | refine below_set ?_ GE162.out) | exact HB.out)⟩⟩
      case rest =>
        clear HC14
        try clear c1
        try clear p1
        try clear q1
        try clear hx1
        try clear p2
        try clear c4
        try clear p6
        try clear c8
        try clear c8b0
        try clear c10
        try clear c10b0
        try clear c11
        try clear c11b0
        try clear c12
        try clear c15
        try clear c15b0
        try clear p16
        try clear q16
        try clear hx16
        try clear c17
        try clear c17b0
        try clear c18
        try clear c18b0
        try clear c19
        try clear hcz13_0
        try clear hcz13_1
        try clear hcz13_2
        try clear hcz13_3
        try clear hcz20_0
        try clear hcz20_1
        try clear hcz20_2
        try clear hcz20_3
        try clear hfz13_0
        try clear hfz13_1
        try clear hfz13_2
        try clear hfz13_3
        try clear hfz20_0
        try clear hfz20_1
        try clear hfz20_2
        try clear hfz20_3
        try clear hx163_0
        try clear hx164_0
        try clear p1
        try clear p163
        try clear p164
        try clear p2
        try clear p6
        try clear q1
        try clear q163
        try clear q164
        obtain ⟨kq, x163001_13, HA, HJ13, BK161, BK162, HB⟩ := hcut
        cases kq with
        | zero => exact absurd HA.out (by simp [marquetryref11_Around.j1])
        | succ kj13 =>
          have H := HA.out
          clear HA
          simp only [marquetryref11_Around.j1] at H
          have HC21 := Aside0.mk H
          clear H
          go_upto_region 6 with (fail)
          go_cut [40] (fun v40 wc => ∃ (kq : Nat) (x40_20 : Bool), v40 = .bool x40_20 ∧ Aside0 (marquetryref11_Around.j2 kq a0 l1 a2 a3 x40_20 x163000_4 x163001_13 0 0 = some (r1, r2, r3, r4)) ∧ Aside0 (kq ≤ kj13) ∧ Aside0 (wc.heap[gb161]? = some (.cells #[.int .u32 0, .int .u32 0, .int .u32 0, .int .u32 0] 64 (0, 0))) ∧ Aside0 (wc.heap[gb162]? = some (.cells #[.int .u32 x163000_4, .int .u32 x163001_13, .int .u32 0, .int .u32 0] 64 (0, 0))) ∧ Aside0 (Below w.heap.size w wc))
          case first =>
            have H := HC21.out
            clear HC21
            by_cases c22 : a2 > 0
            · rw [if_pos c22] at H
              have c22b0 : decide (0 < a2) = true := decide_eq_true c22
              clear c22
              (first | rw [c22b0] | (simp only [i64_w, i32_w]; rw [c22b0]) | skip)
              have H' := Aside0.mk H
              clear H
              go_wp2
              go_meet
              case rel => exact ⟨_, (decide (a3 > 0)), (by first | rfl | (simp; done) | (simp [*]; done)), H', ⟨by have := HJ4.out; have := HJ13.out; first | omega | exact Nat.le_refl _⟩, ⟨by (with_reducible repeat (first | refine blk_drewN ?_ _ | refine blk_drew ?_ | refine blk_alloc ?_ _)); exact BK161.out⟩, ⟨by (with_reducible repeat (first | refine blk_drewN ?_ _ | refine blk_drew ?_ | refine blk_alloc ?_ _)); exact BK162.out⟩, ⟨by repeat (first | (with_reducible first | exact HB.out | apply below_alloc | apply pw_below_drewN | apply below_drew1 | refine below_set ?_ GE161.out | refine below_set ?_ GE162.out) | exact HB.out)⟩⟩
            · rw [if_neg c22] at H
              have c22b0 : decide (0 < a2) = false := decide_eq_false c22
              clear c22
              (first | rw [c22b0] | (simp only [i64_w, i32_w]; rw [c22b0]) | skip)
              have H' := Aside0.mk H
              clear H
              go_wp2
              go_meet
              case rel => exact ⟨_, (false), (by first | rfl | (simp; done) | (simp [*]; done)), H', ⟨by have := HJ4.out; have := HJ13.out; first | omega | exact Nat.le_refl _⟩, ⟨by (with_reducible repeat (first | refine blk_drewN ?_ _ | refine blk_drew ?_ | refine blk_alloc ?_ _)); exact BK161.out⟩, ⟨by (with_reducible repeat (first | refine blk_drewN ?_ _ | refine blk_drew ?_ | refine blk_alloc ?_ _)); exact BK162.out⟩, ⟨by repeat (first | (with_reducible first | exact HB.out | apply below_alloc | apply pw_below_drewN | apply below_drew1 | refine below_set ?_ GE161.out | refine below_set ?_ GE162.out) | exact HB.out)⟩⟩
          case rest =>
            clear HC21
            try clear c1
            try clear p1
            try clear q1
            try clear hx1
            try clear c2
            try clear p2
            try clear c4
            try clear p6
            try clear c8
            try clear c8b0
            try clear c10
            try clear c10b0
            try clear c11
            try clear c11b0
            try clear c12
            try clear c15
            try clear c15b0
            try clear p16
            try clear q16
            try clear hx16
            try clear c17
            try clear c17b0
            try clear c18
            try clear c18b0
            try clear c19
            try clear c22
            try clear c22b0
            try clear hcz13_0
            try clear hcz13_1
            try clear hcz13_2
            try clear hcz13_3
            try clear hcz20_0
            try clear hcz20_1
            try clear hcz20_2
            try clear hcz20_3
            try clear hfz13_0
            try clear hfz13_1
            try clear hfz13_2
            try clear hfz13_3
            try clear hfz20_0
            try clear hfz20_1
            try clear hfz20_2
            try clear hfz20_3
            try clear hx163_0
            try clear hx164_0
            try clear p1
            try clear p16
            try clear p163
            try clear p164
            try clear p2
            try clear p6
            try clear q1
            try clear q16
            try clear q163
            try clear q164
            obtain ⟨kq, x40_20, rfl, HA, HJ20, BK161, BK162, HB⟩ := hcut
            cases kq with
            | zero => exact absurd HA.out (by simp [marquetryref11_Around.j2])
            | succ kj20 =>
              have H := HA.out
              clear HA
              simp only [marquetryref11_Around.j2] at H
              have HC23 := Aside0.mk H
              clear H
              go_upto_if 40 with (fail)
              go_cut [] (fun wc => ∃ (kq : Nat) (x163002_22 : Int), Aside0 (marquetryref11_Around.j3 kq a0 l1 a2 a3 x163000_4 x163001_13 x163002_22 0 = some (r1, r2, r3, r4)) ∧ Aside0 (kq ≤ kj20) ∧ Aside0 (wc.heap[gb161]? = some (.cells #[.int .u32 0, .int .u32 0, .int .u32 0, .int .u32 0] 64 (0, 0))) ∧ Aside0 (wc.heap[gb162]? = some (.cells #[.int .u32 x163000_4, .int .u32 x163001_13, .int .u32 x163002_22, .int .u32 0] 64 (0, 0))) ∧ Aside0 (Below w.heap.size w wc))
              case first =>
                have H := HC23.out
                clear HC23
                by_cases c24 : x40_20 = true
                · subst c24
                  have H1 : (if 0 ≤ (wrap64 ((wrap64 ((wrap64 ((wrap64 (a3 * a0)) - a0)) + a2)) - 1)) then (if (wrap64 ((wrap64 ((wrap64 ((wrap64 (a3 * a0)) - a0)) + a2)) - 1)) < (l1.length : Int) then (marquetryref11_Around.j3 kj20 a0 l1 a2 a3 x163000_4 x163001_13 (rd l1 (wrap64 ((wrap64 ((wrap64 ((wrap64 (a3 * a0)) - a0)) + a2)) - 1))) 0) else (none)) else (none)) = some (r1, r2, r3, r4) := by rw [if_pos rfl] at H; exact H
                  clear H
                  have H := H1
                  clear H1
                  obtain ⟨ji25, hji25⟩ : ∃ j_ : Int, (wrap64 ((wrap64 ((wrap64 ((wrap64 (a3 * a0)) - a0)) + a2)) - 1)) = j_ := ⟨_, rfl⟩
                  replace H : (if 0 ≤ (ji25) then (if (ji25) < (l1.length : Int) then (marquetryref11_Around.j3 kj20 a0 l1 a2 a3 x163000_4 x163001_13 (rd l1 (ji25)) 0) else (none)) else (none)) = some (r1, r2, r3, r4) := by first | (rw [hji25] at H; exact H) | (simp only [hji25] at H ⊢; exact H)
                  have hji25w : (IntKind.i64.wrap ((wrap64 ((wrap64 ((wrap64 (a3 * a0)) - a0)) + a2)) - 1)) = ji25 := (i64_w _).trans hji25
                  by_cases c26 : 0 ≤ (ji25)
                  · rw [if_pos c26] at H
                    have c26b0 : decide (0 ≤ (ji25)) = true := decide_eq_true c26
                    clear c26
                    (first | rw [c26b0] | (simp only [i64_w, i32_w]; rw [c26b0]) | skip)
                    by_cases c27 : (ji25) < (l1.length : Int)
                    · rw [if_pos c27] at H
                      have c27b0 : decide ((ji25) < (l1.length : Int)) = true := decide_eq_true c27
                      clear c27
                      have H' := Aside0.mk H
                      clear H
                      have p165 : 0 ≤ ((ji25) : Int) := of_decide_eq_true (by first | (with_reducible assumption) | assumption)
                      have q165 : (ji25) < (l1.length : Int) := of_decide_eq_true (by first | (with_reducible assumption) | assumption)
                      obtain ⟨ad165, e165, hx165_0⟩ := Kd.at_int HR1.out (ji25) p165 q165
                      cases e165
                      replace hx165_0 := (HB.out.cell (World.block_lt_of_cell? w _ hx165_0)).trans hx165_0
                      replace p165 := eq_true p165
                      replace q165 := eq_true q165
                      have hnb28 := NB162_161.out
                      have hnc28 := NB161_162.out
                      have hcz29_0 : wc.cell? ⟨gb162, 0, none⟩ = some (.int .u32 x163000_4) := (blk_cell BK162.out 0).trans rfl
                      have hcz29_1 : wc.cell? ⟨gb162, 1, none⟩ = some (.int .u32 x163001_13) := (blk_cell BK162.out 1).trans rfl
                      have hcz29_2 : wc.cell? ⟨gb162, 2, none⟩ = some (.int .u32 0) := (blk_cell BK162.out 2).trans rfl
                      have hcz29_3 : wc.cell? ⟨gb162, 3, none⟩ = some (.int .u32 0) := (blk_cell BK162.out 3).trans rfl
                      have hfz29_0 := blk_frozen BK162.out 0
                      have hfz29_1 := blk_frozen BK162.out 1
                      have hfz29_2 := blk_frozen BK162.out 2
                      have hfz29_3 := blk_frozen BK162.out 3
                      go_wp2
                      go_meet
                      case rel => exact ⟨_, (rd l1 (ji25)), H', ⟨by have := HJ4.out; have := HJ13.out; have := HJ20.out; first | omega | exact Nat.le_refl _⟩, ⟨by (with_reducible repeat (first | refine blk_drewN ?_ _ | refine blk_drew ?_ | refine blk_alloc ?_ _)); refine blk_far ?_ NB161_162.out _; (with_reducible repeat (first | refine blk_drewN ?_ _ | refine blk_drew ?_ | refine blk_alloc ?_ _)); exact BK161.out⟩, ⟨by (with_reducible repeat (first | refine blk_drewN ?_ _ | refine blk_drew ?_ | refine blk_alloc ?_ _)); refine blk_put (cs := #[.int .u32 x163000_4, .int .u32 x163001_13, .int .u32 0, .int .u32 0]) ?_ 2 _ rfl; (with_reducible repeat (first | refine blk_drewN ?_ _ | refine blk_drew ?_ | refine blk_alloc ?_ _)); exact BK162.out⟩, ⟨by repeat (first | (with_reducible first | exact HB.out | apply below_alloc | apply pw_below_drewN | apply below_drew1 | refine below_set ?_ GE161.out | refine below_set ?_ GE162.out) | exact HB.out)⟩⟩
                    · rw [if_neg c27] at H
                      exact absurd H (by simp)
                  · rw [if_neg c26] at H
                    exact absurd H (by simp)
                · replace c24 := Bool.eq_false_iff.mpr c24
                  subst c24
                  have H1 : (marquetryref11_Around.j3 kj20 a0 l1 a2 a3 x163000_4 x163001_13 0 0) = some (r1, r2, r3, r4) := by rw [if_neg (show ¬ (false = true) by decide)] at H; exact H
                  clear H
                  have H := H1
                  clear H1
                  have H' := Aside0.mk H
                  clear H
                  go_wp2
                  go_meet
                  case rel => exact ⟨_, (0), H', ⟨by have := HJ4.out; have := HJ13.out; have := HJ20.out; first | omega | exact Nat.le_refl _⟩, ⟨by (with_reducible repeat (first | refine blk_drewN ?_ _ | refine blk_drew ?_ | refine blk_alloc ?_ _)); exact BK161.out⟩, ⟨by (with_reducible repeat (first | refine blk_drewN ?_ _ | refine blk_drew ?_ | refine blk_alloc ?_ _)); exact BK162.out⟩, ⟨by repeat (first | (with_reducible first | exact HB.out | apply below_alloc | apply pw_below_drewN | apply below_drew1 | refine below_set ?_ GE161.out | refine below_set ?_ GE162.out) | exact HB.out)⟩⟩
              case rest =>
                clear HC23
                try clear c1
                try clear p1
                try clear q1
                try clear hx1
                try clear c2
                try clear p2
                try clear c4
                try clear p6
                try clear c8
                try clear c8b0
                try clear c10
                try clear c10b0
                try clear c11
                try clear c11b0
                try clear c12
                try clear c15
                try clear c15b0
                try clear p16
                try clear q16
                try clear hx16
                try clear c17
                try clear c17b0
                try clear c18
                try clear c18b0
                try clear c19
                try clear c22
                try clear c22b0
                try clear c24
                try clear c26
                try clear c26b0
                try clear c27
                try clear c27b0
                try clear c28
                try clear hcz13_0
                try clear hcz13_1
                try clear hcz13_2
                try clear hcz13_3
                try clear hcz20_0
                try clear hcz20_1
                try clear hcz20_2
                try clear hcz20_3
                try clear hcz29_0
                try clear hcz29_1
                try clear hcz29_2
                try clear hcz29_3
                try clear hfz13_0
                try clear hfz13_1
                try clear hfz13_2
                try clear hfz13_3
                try clear hfz20_0
                try clear hfz20_1
                try clear hfz20_2
                try clear hfz20_3
                try clear hfz29_0
                try clear hfz29_1
                try clear hfz29_2
                try clear hfz29_3
                try clear hx163_0
                try clear hx164_0
                try clear hx165_0
                try clear p1
                try clear p16
                try clear p163
                try clear p164
                try clear p165
                try clear p2
                try clear p6
                try clear q1
                try clear q16
                try clear q163
                try clear q164
                try clear q165
                obtain ⟨kq, x163002_22, HA, HJ22, BK161, BK162, HB⟩ := hcut
                cases kq with
                | zero => exact absurd HA.out (by simp [marquetryref11_Around.j3])
                | succ kj22 =>
                  have H := HA.out
                  clear HA
                  simp only [marquetryref11_Around.j3] at H
                  by_cases c30 : a2 = (wrap64 (a0 - 1))
                  · rw [if_pos c30] at H
                    have c30b0 : (a2 == (wrap64 (a0 - 1))) = true := beq_iff_eq.mpr c30
                    have c30b1 : (a2 != (wrap64 (a0 - 1))) = false := bne_eq_false_iff_eq.mpr c30
                    clear c30
                    obtain ⟨ji31, hji31⟩ : ∃ j_ : Int, (wrap64 (a3 * a0)) = j_ := ⟨_, rfl⟩
                    replace H : (if 0 ≤ (ji31) then (if (ji31) < (l1.length : Int) then (some (x163000_4, x163001_13, x163002_22, rd l1 (ji31))) else (none)) else (none)) = some (r1, r2, r3, r4) := by first | (rw [hji31] at H; exact H) | (simp only [hji31] at H ⊢; exact H)
                    have hji31w : (IntKind.i64.wrap (a3 * a0)) = ji31 := (i64_w _).trans hji31
                    by_cases c32 : 0 ≤ (ji31)
                    · rw [if_pos c32] at H
                      have c32b0 : decide (0 ≤ (ji31)) = true := decide_eq_true c32
                      clear c32
                      by_cases c33 : (ji31) < (l1.length : Int)
                      · rw [if_pos c33] at H
                        have c33b0 : decide ((ji31) < (l1.length : Int)) = true := decide_eq_true c33
                        clear c33
                        simp only [Option.some.injEq, Prod.mk.injEq] at H
                        obtain ⟨rfl, rfl, rfl, rfl⟩ := H
                        have p166 : 0 ≤ ((ji31) : Int) := of_decide_eq_true (by first | (with_reducible assumption) | assumption)
                        have q166 : (ji31) < (l1.length : Int) := of_decide_eq_true (by first | (with_reducible assumption) | assumption)
                        obtain ⟨ad166, e166, hx166_0⟩ := Kd.at_int HR1.out (ji31) p166 q166
                        cases e166
                        replace hx166_0 := (HB.out.cell (World.block_lt_of_cell? w _ hx166_0)).trans hx166_0
                        replace p166 := eq_true p166
                        replace q166 := eq_true q166
                        have hnb34 := NB162_161.out
                        have hnc34 := NB161_162.out
                        have hcz35_0 : wc.cell? ⟨gb162, 0, none⟩ = some (.int .u32 x163000_4) := (blk_cell BK162.out 0).trans rfl
                        have hcz35_1 : wc.cell? ⟨gb162, 1, none⟩ = some (.int .u32 x163001_13) := (blk_cell BK162.out 1).trans rfl
                        have hcz35_2 : wc.cell? ⟨gb162, 2, none⟩ = some (.int .u32 x163002_22) := (blk_cell BK162.out 2).trans rfl
                        have hcz35_3 : wc.cell? ⟨gb162, 3, none⟩ = some (.int .u32 0) := (blk_cell BK162.out 3).trans rfl
                        have hfz35_0 := blk_frozen BK162.out 0
                        have hfz35_1 := blk_frozen BK162.out 1
                        have hfz35_2 := blk_frozen BK162.out 2
                        have hfz35_3 := blk_frozen BK162.out 3
                        have hcz36_0 : wc.cell? ⟨gb161, 0, none⟩ = some (.int .u32 0) := (blk_cell BK161.out 0).trans rfl
                        have hcz36_1 : wc.cell? ⟨gb161, 1, none⟩ = some (.int .u32 0) := (blk_cell BK161.out 1).trans rfl
                        have hcz36_2 : wc.cell? ⟨gb161, 2, none⟩ = some (.int .u32 0) := (blk_cell BK161.out 2).trans rfl
                        have hcz36_3 : wc.cell? ⟨gb161, 3, none⟩ = some (.int .u32 0) := (blk_cell BK161.out 3).trans rfl
                        have hfz36_0 := blk_frozen BK161.out 0
                        have hfz36_1 := blk_frozen BK161.out 1
                        have hfz36_2 := blk_frozen BK161.out 2
                        have hfz36_3 := blk_frozen BK161.out 3
                        go_wp2
                        refine bodyPost_ret (results_cell_row rfl _ _ gb161 64 #[.int .u32 x163000_4, .int .u32 x163001_13, .int .u32 x163002_22, .int .u32 (rd l1 (ji31))] (0, 0) _ rfl (by (with_reducible repeat (first | refine blk_drewN ?_ _ | refine blk_drew ?_ | refine blk_alloc ?_ _)); refine blk_put (cs := #[.int .u32 x163000_4, .int .u32 x163001_13, .int .u32 x163002_22, .int .u32 0]) ?_ 3 _ rfl; (with_reducible repeat (first | refine blk_drewN ?_ _ | refine blk_drew ?_ | refine blk_alloc ?_ _)); refine blk_put (cs := #[.int .u32 x163000_4, .int .u32 x163001_13, .int .u32 0, .int .u32 0]) ?_ 2 _ rfl; (with_reducible repeat (first | refine blk_drewN ?_ _ | refine blk_drew ?_ | refine blk_alloc ?_ _)); refine blk_put (cs := #[.int .u32 x163000_4, .int .u32 0, .int .u32 0, .int .u32 0]) ?_ 1 _ rfl; (with_reducible repeat (first | refine blk_drewN ?_ _ | refine blk_drew ?_ | refine blk_alloc ?_ _)); refine blk_put (cs := #[.int .u32 0, .int .u32 0, .int .u32 0, .int .u32 0]) ?_ 0 _ rfl; (with_reducible repeat (first | refine blk_drewN ?_ _ | refine blk_drew ?_ | refine blk_alloc ?_ _)); refine blk_far ?_ NB161_162.out _; (with_reducible repeat (first | refine blk_drewN ?_ _ | refine blk_drew ?_ | refine blk_alloc ?_ _)); exact BK161.out) Try.underlying64 rfl (by kernel_rfl)) rfl ?_
                        exact ⟨by first | rfl | (simp [errW_none, errW_some] <;> rfl) | (simp only [← hji31]; first | rfl | (simp [errW_none, errW_some] <;> rfl)) | (simp [*, errW_none, errW_some] <;> rfl), by repeat (first | (with_reducible first | exact HB.out | apply below_alloc | apply pw_below_drewN | apply below_drew1 | refine below_set ?_ GE161.out | refine below_set ?_ GE162.out) | exact HB.out)⟩
                      · rw [if_neg c33] at H
                        exact absurd H (by simp)
                    · rw [if_neg c32] at H
                      exact absurd H (by simp)
                  · rw [if_neg c30] at H
                    have c30b0 : (a2 == (wrap64 (a0 - 1))) = false := beq_eq_false_iff_ne.mpr c30
                    have c30b1 : (a2 != (wrap64 (a0 - 1))) = true := bne_iff_ne.mpr c30
                    by_cases c37 : a3 > 0
                    · rw [if_pos c37] at H
                      have c37b0 : decide (0 < a3) = true := decide_eq_true c37
                      clear c37
                      obtain ⟨ji38, hji38⟩ : ∃ j_ : Int, (wrap64 ((wrap64 ((wrap64 ((wrap64 (a3 * a0)) - a0)) + a2)) + 1)) = j_ := ⟨_, rfl⟩
                      replace H : (if 0 ≤ (ji38) then (if (ji38) < (l1.length : Int) then (some (x163000_4, x163001_13, x163002_22, rd l1 (ji38))) else (none)) else (none)) = some (r1, r2, r3, r4) := by first | (rw [hji38] at H; exact H) | (simp only [hji38] at H ⊢; exact H)
                      have hji38w : (IntKind.i64.wrap ((wrap64 ((wrap64 ((wrap64 (a3 * a0)) - a0)) + a2)) + 1)) = ji38 := (i64_w _).trans hji38
                      by_cases c39 : 0 ≤ (ji38)
                      · rw [if_pos c39] at H
                        have c39b0 : decide (0 ≤ (ji38)) = true := decide_eq_true c39
                        clear c39
                        by_cases c40 : (ji38) < (l1.length : Int)
                        · rw [if_pos c40] at H
                          have c40b0 : decide ((ji38) < (l1.length : Int)) = true := decide_eq_true c40
                          clear c40
                          simp only [Option.some.injEq, Prod.mk.injEq] at H
                          obtain ⟨rfl, rfl, rfl, rfl⟩ := H
                          have p167 : 0 ≤ ((ji38) : Int) := of_decide_eq_true (by first | (with_reducible assumption) | assumption)
                          have q167 : (ji38) < (l1.length : Int) := of_decide_eq_true (by first | (with_reducible assumption) | assumption)
                          obtain ⟨ad167, e167, hx167_0⟩ := Kd.at_int HR1.out (ji38) p167 q167
                          cases e167
                          replace hx167_0 := (HB.out.cell (World.block_lt_of_cell? w _ hx167_0)).trans hx167_0
                          replace p167 := eq_true p167
                          replace q167 := eq_true q167
                          have hnb41 := NB162_161.out
                          have hnc41 := NB161_162.out
                          have hcz42_0 : wc.cell? ⟨gb162, 0, none⟩ = some (.int .u32 x163000_4) := (blk_cell BK162.out 0).trans rfl
                          have hcz42_1 : wc.cell? ⟨gb162, 1, none⟩ = some (.int .u32 x163001_13) := (blk_cell BK162.out 1).trans rfl
                          have hcz42_2 : wc.cell? ⟨gb162, 2, none⟩ = some (.int .u32 x163002_22) := (blk_cell BK162.out 2).trans rfl
                          have hcz42_3 : wc.cell? ⟨gb162, 3, none⟩ = some (.int .u32 0) := (blk_cell BK162.out 3).trans rfl
                          have hfz42_0 := blk_frozen BK162.out 0
                          have hfz42_1 := blk_frozen BK162.out 1
                          have hfz42_2 := blk_frozen BK162.out 2
                          have hfz42_3 := blk_frozen BK162.out 3
                          have hcz43_0 : wc.cell? ⟨gb161, 0, none⟩ = some (.int .u32 0) := (blk_cell BK161.out 0).trans rfl
                          have hcz43_1 : wc.cell? ⟨gb161, 1, none⟩ = some (.int .u32 0) := (blk_cell BK161.out 1).trans rfl
                          have hcz43_2 : wc.cell? ⟨gb161, 2, none⟩ = some (.int .u32 0) := (blk_cell BK161.out 2).trans rfl
                          have hcz43_3 : wc.cell? ⟨gb161, 3, none⟩ = some (.int .u32 0) := (blk_cell BK161.out 3).trans rfl
                          have hfz43_0 := blk_frozen BK161.out 0
                          have hfz43_1 := blk_frozen BK161.out 1
                          have hfz43_2 := blk_frozen BK161.out 2
                          have hfz43_3 := blk_frozen BK161.out 3
                          go_wp2
                          refine bodyPost_ret (results_cell_row rfl _ _ gb161 64 #[.int .u32 x163000_4, .int .u32 x163001_13, .int .u32 x163002_22, .int .u32 (rd l1 (ji38))] (0, 0) _ rfl (by (with_reducible repeat (first | refine blk_drewN ?_ _ | refine blk_drew ?_ | refine blk_alloc ?_ _)); refine blk_put (cs := #[.int .u32 x163000_4, .int .u32 x163001_13, .int .u32 x163002_22, .int .u32 0]) ?_ 3 _ rfl; (with_reducible repeat (first | refine blk_drewN ?_ _ | refine blk_drew ?_ | refine blk_alloc ?_ _)); refine blk_put (cs := #[.int .u32 x163000_4, .int .u32 x163001_13, .int .u32 0, .int .u32 0]) ?_ 2 _ rfl; (with_reducible repeat (first | refine blk_drewN ?_ _ | refine blk_drew ?_ | refine blk_alloc ?_ _)); refine blk_put (cs := #[.int .u32 x163000_4, .int .u32 0, .int .u32 0, .int .u32 0]) ?_ 1 _ rfl; (with_reducible repeat (first | refine blk_drewN ?_ _ | refine blk_drew ?_ | refine blk_alloc ?_ _)); refine blk_put (cs := #[.int .u32 0, .int .u32 0, .int .u32 0, .int .u32 0]) ?_ 0 _ rfl; (with_reducible repeat (first | refine blk_drewN ?_ _ | refine blk_drew ?_ | refine blk_alloc ?_ _)); refine blk_far ?_ NB161_162.out _; (with_reducible repeat (first | refine blk_drewN ?_ _ | refine blk_drew ?_ | refine blk_alloc ?_ _)); exact BK161.out) Try.underlying64 rfl (by kernel_rfl)) rfl ?_
                          exact ⟨by first | rfl | (simp [errW_none, errW_some] <;> rfl) | (simp only [← hji38]; first | rfl | (simp [errW_none, errW_some] <;> rfl)) | (simp [*, errW_none, errW_some] <;> rfl), by repeat (first | (with_reducible first | exact HB.out | apply below_alloc | apply pw_below_drewN | apply below_drew1 | refine below_set ?_ GE161.out | refine below_set ?_ GE162.out) | exact HB.out)⟩
                        · rw [if_neg c40] at H
                          exact absurd H (by simp)
                      · rw [if_neg c39] at H
                        exact absurd H (by simp)
                    · rw [if_neg c37] at H
                      have c37b0 : decide (0 < a3) = false := decide_eq_false c37
                      clear c37
                      simp only [Option.some.injEq, Prod.mk.injEq] at H
                      obtain ⟨rfl, rfl, rfl, rfl⟩ := H
                      have hnb44 := NB162_161.out
                      have hnc44 := NB161_162.out
                      have hcz45_0 : wc.cell? ⟨gb162, 0, none⟩ = some (.int .u32 x163000_4) := (blk_cell BK162.out 0).trans rfl
                      have hcz45_1 : wc.cell? ⟨gb162, 1, none⟩ = some (.int .u32 x163001_13) := (blk_cell BK162.out 1).trans rfl
                      have hcz45_2 : wc.cell? ⟨gb162, 2, none⟩ = some (.int .u32 x163002_22) := (blk_cell BK162.out 2).trans rfl
                      have hcz45_3 : wc.cell? ⟨gb162, 3, none⟩ = some (.int .u32 0) := (blk_cell BK162.out 3).trans rfl
                      have hfz45_0 := blk_frozen BK162.out 0
                      have hfz45_1 := blk_frozen BK162.out 1
                      have hfz45_2 := blk_frozen BK162.out 2
                      have hfz45_3 := blk_frozen BK162.out 3
                      have hcz46_0 : wc.cell? ⟨gb161, 0, none⟩ = some (.int .u32 0) := (blk_cell BK161.out 0).trans rfl
                      have hcz46_1 : wc.cell? ⟨gb161, 1, none⟩ = some (.int .u32 0) := (blk_cell BK161.out 1).trans rfl
                      have hcz46_2 : wc.cell? ⟨gb161, 2, none⟩ = some (.int .u32 0) := (blk_cell BK161.out 2).trans rfl
                      have hcz46_3 : wc.cell? ⟨gb161, 3, none⟩ = some (.int .u32 0) := (blk_cell BK161.out 3).trans rfl
                      have hfz46_0 := blk_frozen BK161.out 0
                      have hfz46_1 := blk_frozen BK161.out 1
                      have hfz46_2 := blk_frozen BK161.out 2
                      have hfz46_3 := blk_frozen BK161.out 3
                      go_wp2
                      refine bodyPost_ret (results_cell_row rfl _ _ gb161 64 #[.int .u32 x163000_4, .int .u32 x163001_13, .int .u32 x163002_22, .int .u32 0] (0, 0) _ rfl (by (with_reducible repeat (first | refine blk_drewN ?_ _ | refine blk_drew ?_ | refine blk_alloc ?_ _)); refine blk_put (cs := #[.int .u32 x163000_4, .int .u32 x163001_13, .int .u32 x163002_22, .int .u32 0]) ?_ 3 _ rfl; (with_reducible repeat (first | refine blk_drewN ?_ _ | refine blk_drew ?_ | refine blk_alloc ?_ _)); refine blk_put (cs := #[.int .u32 x163000_4, .int .u32 x163001_13, .int .u32 0, .int .u32 0]) ?_ 2 _ rfl; (with_reducible repeat (first | refine blk_drewN ?_ _ | refine blk_drew ?_ | refine blk_alloc ?_ _)); refine blk_put (cs := #[.int .u32 x163000_4, .int .u32 0, .int .u32 0, .int .u32 0]) ?_ 1 _ rfl; (with_reducible repeat (first | refine blk_drewN ?_ _ | refine blk_drew ?_ | refine blk_alloc ?_ _)); refine blk_put (cs := #[.int .u32 0, .int .u32 0, .int .u32 0, .int .u32 0]) ?_ 0 _ rfl; (with_reducible repeat (first | refine blk_drewN ?_ _ | refine blk_drew ?_ | refine blk_alloc ?_ _)); exact BK161.out) Try.underlying64 rfl (by kernel_rfl)) rfl ?_
                      exact ⟨by first | rfl | (simp [errW_none, errW_some] <;> rfl) | (simp [*, errW_none, errW_some] <;> rfl), by repeat (first | (with_reducible first | exact HB.out | apply below_alloc | apply pw_below_drewN | apply below_drew1 | refine below_set ?_ GE161.out | refine below_set ?_ GE162.out) | exact HB.out)⟩

/-! ### marquetryref11_Part: function 23 -/
def marquetryref11_Part.f (a0 : Int) (a1 : Int) : Option (Int) := if 0 ≤ (IntKind.u64.wrap (wrap64 (24 - (wrap64 (8 * a1))))) then (some (wrap64 (Int.tmod (shr .u32 a0 (IntKind.u64.wrap (wrap64 (24 - (wrap64 (8 * a1)))))) 256))) else (none)
set_option maxHeartbeats 8000000 in
set_option maxRecDepth 100000 in
theorem marquetryref11_Part.calls (a0 : Int) (a1 : Int) (r : Int) (w : World) (h : marquetryref11_Part.f a0 a1 = some r) :
    Calls Try.prog 23 #[.int .u32 a0, .int .i64 a1] w fun e w' => e = .returned (.int .i64 r) ∧ Drawn0 w w' := by
  have H : (if 0 ≤ (IntKind.u64.wrap (wrap64 (24 - (wrap64 (8 * a1))))) then (some (wrap64 (Int.tmod (shr .u32 a0 (IntKind.u64.wrap (wrap64 (24 - (wrap64 (8 * a1)))))) 256))) else (none)) = some r := h
  clear h
  obtain ⟨ji3, hji3⟩ : ∃ j_ : Int, (IntKind.u64.wrap (wrap64 (24 - (wrap64 (8 * a1))))) = j_ := ⟨_, rfl⟩
  replace H : (if 0 ≤ (ji3) then (some (wrap64 (Int.tmod (shr .u32 a0 (ji3)) 256))) else (none)) = some r := by first | (rw [hji3] at H; exact H) | (simp only [hji3] at H ⊢; exact H)
  by_cases c4 : 0 ≤ (ji3)
  · rw [if_pos c4] at H
    have c4b0 := eq_true c4
    have c4b1 : decide (0 ≤ (ji3)) = true := decide_eq_true c4
    clear c4
    obtain ⟨ji5, hji5⟩ : ∃ j_ : Int, (shr .u32 a0 (ji3)) = j_ := ⟨_, rfl⟩
    replace H : (some (wrap64 (Int.tmod (ji5) 256))) = some r := by first | (rw [hji5] at H; exact H) | (simp only [hji5] at H ⊢; exact H)
    (try (have hji5k : 0 ≤ (ji3) := by omega))
    (try (have hji5K := eq_true hji5k))
    (try (have hji5D : decide (0 ≤ (ji3)) = true := decide_eq_true hji5k))
    have hji5_ : (a0 / 2 ^ min (ji3).toNat 32) = ji5 := hji5
    have hji5z : (ji3) ≤ 32 → (a0 / 2 ^ (ji3).toNat) = ji5 := shr_small hji5
    obtain rfl := Option.some.inj H
    go_enter Try.func23, Try.ntmps23
    go_wp2
    go_ret
    exact ⟨by first | rfl | (simp; done) | (simp only [← hji3, ← hji5] <;> (first | rfl | simp)) | (simp [*]; done), by repeat (first | exact Drawn0.refl _ | apply Drawn0.step)⟩
  · rw [if_neg c4] at H
    exact absurd H (by simp)

/-! ### marquetryref11_Pick: function 54 -/
def marquetryref11_Pick.l0 : Nat → Int → Int → Int → Int → Int → Int → Option (Int)
  | 0, _, _, _, _, _, _ => none
  | k + 1, x0, x1, x2, x7, x8, x9 => if x9 < 4 then ((marquetryref11_Part.f x1 x9).bind fun t168 => ((marquetryref11_Part.f x2 x9).bind fun t169 => ((marquetryref11_Part.f x0 x9).bind fun t170 => ((marquetryref11_Part.f x2 x9).bind fun t171 => (if (wrap64 (t168 - t169)) < 0 then (if (wrap64 (t170 - t171)) < 0 then (marquetryref11_Pick.l0 k x0 x1 x2 (wrap64 (x7 + (wrap64 (-(wrap64 (t168 - t169)))))) (wrap64 (x8 + (wrap64 (-(wrap64 (t170 - t171)))))) (wrap64 (x9 + 1))) else (marquetryref11_Pick.l0 k x0 x1 x2 (wrap64 (x7 + (wrap64 (-(wrap64 (t168 - t169)))))) (wrap64 (x8 + (wrap64 (t170 - t171)))) (wrap64 (x9 + 1)))) else (if (wrap64 (t170 - t171)) < 0 then (marquetryref11_Pick.l0 k x0 x1 x2 (wrap64 (x7 + (wrap64 (t168 - t169)))) (wrap64 (x8 + (wrap64 (-(wrap64 (t170 - t171)))))) (wrap64 (x9 + 1))) else (marquetryref11_Pick.l0 k x0 x1 x2 (wrap64 (x7 + (wrap64 (t168 - t169)))) (wrap64 (x8 + (wrap64 (t170 - t171)))) (wrap64 (x9 + 1))))))))) else (if x7 < x8 then (some x0) else (some x1))
def marquetryref11_Pick.f (k : Nat) (a0 : Int) (a1 : Int) (a2 : Int) : Option (Int) := marquetryref11_Pick.l0 k a0 a1 a2 0 0 0
theorem marquetryref11_Pick.mono_l : ∀ k, (∀ y0 y1 y2 y3 y4 y5, LeO (marquetryref11_Pick.l0 k y0 y1 y2 y3 y4 y5) (marquetryref11_Pick.l0 (k + 1) y0 y1 y2 y3 y4 y5))
  | 0 => fun _ _ _ _ _ _ r h => by simp [marquetryref11_Pick.l0] at h
  | k + 1 => by
    have ih0 := marquetryref11_Pick.mono_l k
    · intro y0 y1 y2 y3 y4 y5
      unfold marquetryref11_Pick.l0
      repeat' first
      | (with_reducible exact ih0 _ _ _ _ _ _)
      | (with_reducible exact LeO.refl _)
      | (with_reducible exact LeO.none _)
      | (with_reducible refine LeO.ite ?_ ?_)
      | (with_reducible refine LeO.bind ?_ (fun _ => ?_))
      | exact ih0 _ _ _ _ _ _
      | exact LeO.none _
      | refine LeO.ite ?_ ?_
      | refine LeO.bind ?_ (fun _ => ?_)
theorem marquetryref11_Pick.mono : ∀ a0 a1 a2 k, LeO (marquetryref11_Pick.f k a0 a1 a2) (marquetryref11_Pick.f (k + 1) a0 a1 a2) := by
  intro a0 a1 a2 k
  have ih0 := marquetryref11_Pick.mono_l k
  unfold marquetryref11_Pick.f
  repeat' first
      | (with_reducible exact ih0 _ _ _ _ _ _)
      | (with_reducible exact LeO.refl _)
      | (with_reducible exact LeO.none _)
      | (with_reducible refine LeO.ite ?_ ?_)
      | (with_reducible refine LeO.bind ?_ (fun _ => ?_))
      | exact ih0 _ _ _ _ _ _
      | exact LeO.none _
      | refine LeO.ite ?_ ?_
      | refine LeO.bind ?_ (fun _ => ?_)
set_option maxHeartbeats 8000000 in
set_option maxRecDepth 100000 in
theorem marquetryref11_Pick.calls (k : Nat) (a0 : Int) (a1 : Int) (a2 : Int) (r : Int) (w : World) (h : marquetryref11_Pick.f k a0 a1 a2 = some r) :
    Calls Try.prog 54 #[.int .u32 a0, .int .u32 a1, .int .u32 a2] w fun e w' => e = .returned (.int .u32 r) ∧ Drawn0 w w' := by
  have H : (marquetryref11_Pick.l0 k a0 a1 a2 0 0 0) = some r := h
  clear h
  have H' := Aside0.mk H
  clear H
  go_enter Try.func54, Try.ntmps54
  go_wp2
  go_loopg [7, 8, 9] k (fun kq v7 v8 v9 w' => ∃ (x7_1 : Int) (x8_1 : Int) (x9_1 : Int), v7 = .int .i64 x7_1 ∧ v8 = .int .i64 x8_1 ∧ v9 = .int .i64 x9_1 ∧ Aside0 (marquetryref11_Pick.l0 kq a0 a1 a2 x7_1 x8_1 x9_1 = some r) ∧ Aside0 (kq ≤ k) ∧ Drawn0 w w')
  case atStart => exact ⟨(0), (0), (0), (by first | rfl | (simp; done) | (simp [*]; done)), (by first | rfl | (simp; done) | (simp [*]; done)), (by first | rfl | (simp; done) | (simp [*]; done)), H', ⟨Nat.le_refl _⟩, by repeat (first | exact Drawn0.refl _ | apply Drawn0.step)⟩
  case round =>
    clear H'
    try clear p2
    obtain ⟨x7_1, x8_1, x9_1, rfl, rfl, rfl, HA, HK1, ⟨m1, rfl⟩⟩ := hrel
    cases gk with
    | zero => exact absurd HA.out (by simp [marquetryref11_Pick.l0])
    | succ k1 =>
      have H := HA.out
      clear HA
      simp only [marquetryref11_Pick.l0] at H
      by_cases c4 : x9_1 < 4
      · rw [if_pos c4] at H
        have c4b0 : decide (x9_1 < 4) = true := decide_eq_true c4
        clear c4
        replace H := Option.bind_eq_some_iff.mp H
        obtain ⟨t168, A50, H⟩ := H
        replace H : ((marquetryref11_Part.f a2 x9_1).bind fun t169 => ((marquetryref11_Part.f a0 x9_1).bind fun t170 => ((marquetryref11_Part.f a2 x9_1).bind fun t171 => (if (wrap64 (t168 - t169)) < 0 then (if (wrap64 (t170 - t171)) < 0 then (marquetryref11_Pick.l0 k1 a0 a1 a2 (wrap64 (x7_1 + (wrap64 (-(wrap64 (t168 - t169)))))) (wrap64 (x8_1 + (wrap64 (-(wrap64 (t170 - t171)))))) (wrap64 (x9_1 + 1))) else (marquetryref11_Pick.l0 k1 a0 a1 a2 (wrap64 (x7_1 + (wrap64 (-(wrap64 (t168 - t169)))))) (wrap64 (x8_1 + (wrap64 (t170 - t171)))) (wrap64 (x9_1 + 1)))) else (if (wrap64 (t170 - t171)) < 0 then (marquetryref11_Pick.l0 k1 a0 a1 a2 (wrap64 (x7_1 + (wrap64 (t168 - t169)))) (wrap64 (x8_1 + (wrap64 (-(wrap64 (t170 - t171)))))) (wrap64 (x9_1 + 1))) else (marquetryref11_Pick.l0 k1 a0 a1 a2 (wrap64 (x7_1 + (wrap64 (t168 - t169)))) (wrap64 (x8_1 + (wrap64 (t170 - t171)))) (wrap64 (x9_1 + 1)))))))) = some r := H
        have A5 := Aside0.mk A50
        clear A50
        replace H := Option.bind_eq_some_iff.mp H
        obtain ⟨t169, A60, H⟩ := H
        replace H : ((marquetryref11_Part.f a0 x9_1).bind fun t170 => ((marquetryref11_Part.f a2 x9_1).bind fun t171 => (if (wrap64 (t168 - t169)) < 0 then (if (wrap64 (t170 - t171)) < 0 then (marquetryref11_Pick.l0 k1 a0 a1 a2 (wrap64 (x7_1 + (wrap64 (-(wrap64 (t168 - t169)))))) (wrap64 (x8_1 + (wrap64 (-(wrap64 (t170 - t171)))))) (wrap64 (x9_1 + 1))) else (marquetryref11_Pick.l0 k1 a0 a1 a2 (wrap64 (x7_1 + (wrap64 (-(wrap64 (t168 - t169)))))) (wrap64 (x8_1 + (wrap64 (t170 - t171)))) (wrap64 (x9_1 + 1)))) else (if (wrap64 (t170 - t171)) < 0 then (marquetryref11_Pick.l0 k1 a0 a1 a2 (wrap64 (x7_1 + (wrap64 (t168 - t169)))) (wrap64 (x8_1 + (wrap64 (-(wrap64 (t170 - t171)))))) (wrap64 (x9_1 + 1))) else (marquetryref11_Pick.l0 k1 a0 a1 a2 (wrap64 (x7_1 + (wrap64 (t168 - t169)))) (wrap64 (x8_1 + (wrap64 (t170 - t171)))) (wrap64 (x9_1 + 1))))))) = some r := H
        have A6 := Aside0.mk A60
        clear A60
        replace H := Option.bind_eq_some_iff.mp H
        obtain ⟨t170, A70, H⟩ := H
        replace H : ((marquetryref11_Part.f a2 x9_1).bind fun t171 => (if (wrap64 (t168 - t169)) < 0 then (if (wrap64 (t170 - t171)) < 0 then (marquetryref11_Pick.l0 k1 a0 a1 a2 (wrap64 (x7_1 + (wrap64 (-(wrap64 (t168 - t169)))))) (wrap64 (x8_1 + (wrap64 (-(wrap64 (t170 - t171)))))) (wrap64 (x9_1 + 1))) else (marquetryref11_Pick.l0 k1 a0 a1 a2 (wrap64 (x7_1 + (wrap64 (-(wrap64 (t168 - t169)))))) (wrap64 (x8_1 + (wrap64 (t170 - t171)))) (wrap64 (x9_1 + 1)))) else (if (wrap64 (t170 - t171)) < 0 then (marquetryref11_Pick.l0 k1 a0 a1 a2 (wrap64 (x7_1 + (wrap64 (t168 - t169)))) (wrap64 (x8_1 + (wrap64 (-(wrap64 (t170 - t171)))))) (wrap64 (x9_1 + 1))) else (marquetryref11_Pick.l0 k1 a0 a1 a2 (wrap64 (x7_1 + (wrap64 (t168 - t169)))) (wrap64 (x8_1 + (wrap64 (t170 - t171)))) (wrap64 (x9_1 + 1)))))) = some r := H
        have A7 := Aside0.mk A70
        clear A70
        replace H := Option.bind_eq_some_iff.mp H
        obtain ⟨t171, A80, H⟩ := H
        replace H : (if (wrap64 (t168 - t169)) < 0 then (if (wrap64 (t170 - t171)) < 0 then (marquetryref11_Pick.l0 k1 a0 a1 a2 (wrap64 (x7_1 + (wrap64 (-(wrap64 (t168 - t169)))))) (wrap64 (x8_1 + (wrap64 (-(wrap64 (t170 - t171)))))) (wrap64 (x9_1 + 1))) else (marquetryref11_Pick.l0 k1 a0 a1 a2 (wrap64 (x7_1 + (wrap64 (-(wrap64 (t168 - t169)))))) (wrap64 (x8_1 + (wrap64 (t170 - t171)))) (wrap64 (x9_1 + 1)))) else (if (wrap64 (t170 - t171)) < 0 then (marquetryref11_Pick.l0 k1 a0 a1 a2 (wrap64 (x7_1 + (wrap64 (t168 - t169)))) (wrap64 (x8_1 + (wrap64 (-(wrap64 (t170 - t171)))))) (wrap64 (x9_1 + 1))) else (marquetryref11_Pick.l0 k1 a0 a1 a2 (wrap64 (x7_1 + (wrap64 (t168 - t169)))) (wrap64 (x8_1 + (wrap64 (t170 - t171)))) (wrap64 (x9_1 + 1))))) = some r := H
        have A8 := Aside0.mk A80
        clear A80
        by_cases c9 : (wrap64 (t168 - t169)) < 0
        · rw [if_pos c9] at H
          have c9b0 : decide ((wrap64 (t168 - t169)) < 0) = true := decide_eq_true c9
          clear c9
          by_cases c10 : (wrap64 (t170 - t171)) < 0
          · rw [if_pos c10] at H
            have c10b0 : decide ((wrap64 (t170 - t171)) < 0) = true := decide_eq_true c10
            clear c10
            have H' := Aside0.mk H
            clear H
            go_wp2_with (first | ((with_reducible refine gate_callee (f := 23) rfl ?_); refine goesL_ (some 18) rfl rfl Try.func23 (by kernel_rfl) rfl #[.int .u32 a1, .int .i64 x9_1] rfl (by (try simp only [List.map_toArray, List.map_cons, List.map_nil]); first | done | rfl | (simp only [List.length_drop, List.length_take]; rfl)) ?_; (with_reducible refine (marquetryref11_Part.calls a1 x9_1 t168 _ A5.out).mono ?_); clear A5; rintro e w' ⟨rfl, ⟨nd, rfl⟩⟩; refine ⟨_, rfl, ?_⟩) | (go_at_call 23; (with_reducible refine (marquetryref11_Part.calls a1 x9_1 t168 _ A5.out).mono ?_); clear A5; rintro e w' ⟨rfl, ⟨nd, rfl⟩⟩) | ((with_reducible refine gate_callee (f := 23) rfl ?_); refine goesL_ (some 21) rfl rfl Try.func23 (by kernel_rfl) rfl #[.int .u32 a2, .int .i64 x9_1] rfl (by (try simp only [List.map_toArray, List.map_cons, List.map_nil]); first | done | rfl | (simp only [List.length_drop, List.length_take]; rfl)) ?_; (with_reducible refine (marquetryref11_Part.calls a2 x9_1 t169 _ A6.out).mono ?_); clear A6; rintro e w' ⟨rfl, ⟨nd, rfl⟩⟩; refine ⟨_, rfl, ?_⟩) | (go_at_call 23; (with_reducible refine (marquetryref11_Part.calls a2 x9_1 t169 _ A6.out).mono ?_); clear A6; rintro e w' ⟨rfl, ⟨nd, rfl⟩⟩) | ((with_reducible refine gate_callee (f := 23) rfl ?_); refine goesL_ (some 25) rfl rfl Try.func23 (by kernel_rfl) rfl #[.int .u32 a0, .int .i64 x9_1] rfl (by (try simp only [List.map_toArray, List.map_cons, List.map_nil]); first | done | rfl | (simp only [List.length_drop, List.length_take]; rfl)) ?_; (with_reducible refine (marquetryref11_Part.calls a0 x9_1 t170 _ A7.out).mono ?_); clear A7; rintro e w' ⟨rfl, ⟨nd, rfl⟩⟩; refine ⟨_, rfl, ?_⟩) | (go_at_call 23; (with_reducible refine (marquetryref11_Part.calls a0 x9_1 t170 _ A7.out).mono ?_); clear A7; rintro e w' ⟨rfl, ⟨nd, rfl⟩⟩) | ((with_reducible refine gate_callee (f := 23) rfl ?_); refine goesL_ (some 28) rfl rfl Try.func23 (by kernel_rfl) rfl #[.int .u32 a2, .int .i64 x9_1] rfl (by (try simp only [List.map_toArray, List.map_cons, List.map_nil]); first | done | rfl | (simp only [List.length_drop, List.length_take]; rfl)) ?_; (with_reducible refine (marquetryref11_Part.calls a2 x9_1 t171 _ A8.out).mono ?_); clear A8; rintro e w' ⟨rfl, ⟨nd, rfl⟩⟩; refine ⟨_, rfl, ?_⟩) | (go_at_call 23; (with_reducible refine (marquetryref11_Part.calls a2 x9_1 t171 _ A8.out).mono ?_); clear A8; rintro e w' ⟨rfl, ⟨nd, rfl⟩⟩))
            go_roundg k1
            case measure => have := HK1.out; omega
            case rel => exact ⟨(wrap64 (x7_1 + (wrap64 (-(wrap64 (t168 - t169)))))), (wrap64 (x8_1 + (wrap64 (-(wrap64 (t170 - t171)))))), (wrap64 (x9_1 + 1)), (by first | rfl | (simp; done) | (simp [*]; done)), (by first | rfl | (simp; done) | (simp [*]; done)), (by first | rfl | (simp; done) | (simp [*]; done)), H', ⟨by have := HK1.out; omega⟩, by repeat (first | exact Drawn0.refl _ | apply Drawn0.step)⟩
          · rw [if_neg c10] at H
            have c10b0 : decide ((wrap64 (t170 - t171)) < 0) = false := decide_eq_false c10
            clear c10
            have H' := Aside0.mk H
            clear H
            go_wp2_with (first | ((with_reducible refine gate_callee (f := 23) rfl ?_); refine goesL_ (some 18) rfl rfl Try.func23 (by kernel_rfl) rfl #[.int .u32 a1, .int .i64 x9_1] rfl (by (try simp only [List.map_toArray, List.map_cons, List.map_nil]); first | done | rfl | (simp only [List.length_drop, List.length_take]; rfl)) ?_; (with_reducible refine (marquetryref11_Part.calls a1 x9_1 t168 _ A5.out).mono ?_); clear A5; rintro e w' ⟨rfl, ⟨nd, rfl⟩⟩; refine ⟨_, rfl, ?_⟩) | (go_at_call 23; (with_reducible refine (marquetryref11_Part.calls a1 x9_1 t168 _ A5.out).mono ?_); clear A5; rintro e w' ⟨rfl, ⟨nd, rfl⟩⟩) | ((with_reducible refine gate_callee (f := 23) rfl ?_); refine goesL_ (some 21) rfl rfl Try.func23 (by kernel_rfl) rfl #[.int .u32 a2, .int .i64 x9_1] rfl (by (try simp only [List.map_toArray, List.map_cons, List.map_nil]); first | done | rfl | (simp only [List.length_drop, List.length_take]; rfl)) ?_; (with_reducible refine (marquetryref11_Part.calls a2 x9_1 t169 _ A6.out).mono ?_); clear A6; rintro e w' ⟨rfl, ⟨nd, rfl⟩⟩; refine ⟨_, rfl, ?_⟩) | (go_at_call 23; (with_reducible refine (marquetryref11_Part.calls a2 x9_1 t169 _ A6.out).mono ?_); clear A6; rintro e w' ⟨rfl, ⟨nd, rfl⟩⟩) | ((with_reducible refine gate_callee (f := 23) rfl ?_); refine goesL_ (some 25) rfl rfl Try.func23 (by kernel_rfl) rfl #[.int .u32 a0, .int .i64 x9_1] rfl (by (try simp only [List.map_toArray, List.map_cons, List.map_nil]); first | done | rfl | (simp only [List.length_drop, List.length_take]; rfl)) ?_; (with_reducible refine (marquetryref11_Part.calls a0 x9_1 t170 _ A7.out).mono ?_); clear A7; rintro e w' ⟨rfl, ⟨nd, rfl⟩⟩; refine ⟨_, rfl, ?_⟩) | (go_at_call 23; (with_reducible refine (marquetryref11_Part.calls a0 x9_1 t170 _ A7.out).mono ?_); clear A7; rintro e w' ⟨rfl, ⟨nd, rfl⟩⟩) | ((with_reducible refine gate_callee (f := 23) rfl ?_); refine goesL_ (some 28) rfl rfl Try.func23 (by kernel_rfl) rfl #[.int .u32 a2, .int .i64 x9_1] rfl (by (try simp only [List.map_toArray, List.map_cons, List.map_nil]); first | done | rfl | (simp only [List.length_drop, List.length_take]; rfl)) ?_; (with_reducible refine (marquetryref11_Part.calls a2 x9_1 t171 _ A8.out).mono ?_); clear A8; rintro e w' ⟨rfl, ⟨nd, rfl⟩⟩; refine ⟨_, rfl, ?_⟩) | (go_at_call 23; (with_reducible refine (marquetryref11_Part.calls a2 x9_1 t171 _ A8.out).mono ?_); clear A8; rintro e w' ⟨rfl, ⟨nd, rfl⟩⟩))
            go_roundg k1
            case measure => have := HK1.out; omega
            case rel => exact ⟨(wrap64 (x7_1 + (wrap64 (-(wrap64 (t168 - t169)))))), (wrap64 (x8_1 + (wrap64 (t170 - t171)))), (wrap64 (x9_1 + 1)), (by first | rfl | (simp; done) | (simp [*]; done)), (by first | rfl | (simp; done) | (simp [*]; done)), (by first | rfl | (simp; done) | (simp [*]; done)), H', ⟨by have := HK1.out; omega⟩, by repeat (first | exact Drawn0.refl _ | apply Drawn0.step)⟩
        · rw [if_neg c9] at H
          have c9b0 : decide ((wrap64 (t168 - t169)) < 0) = false := decide_eq_false c9
          clear c9
          by_cases c11 : (wrap64 (t170 - t171)) < 0
          · rw [if_pos c11] at H
            have c11b0 : decide ((wrap64 (t170 - t171)) < 0) = true := decide_eq_true c11
            clear c11
            have H' := Aside0.mk H
            clear H
            go_wp2_with (first | ((with_reducible refine gate_callee (f := 23) rfl ?_); refine goesL_ (some 18) rfl rfl Try.func23 (by kernel_rfl) rfl #[.int .u32 a1, .int .i64 x9_1] rfl (by (try simp only [List.map_toArray, List.map_cons, List.map_nil]); first | done | rfl | (simp only [List.length_drop, List.length_take]; rfl)) ?_; (with_reducible refine (marquetryref11_Part.calls a1 x9_1 t168 _ A5.out).mono ?_); clear A5; rintro e w' ⟨rfl, ⟨nd, rfl⟩⟩; refine ⟨_, rfl, ?_⟩) | (go_at_call 23; (with_reducible refine (marquetryref11_Part.calls a1 x9_1 t168 _ A5.out).mono ?_); clear A5; rintro e w' ⟨rfl, ⟨nd, rfl⟩⟩) | ((with_reducible refine gate_callee (f := 23) rfl ?_); refine goesL_ (some 21) rfl rfl Try.func23 (by kernel_rfl) rfl #[.int .u32 a2, .int .i64 x9_1] rfl (by (try simp only [List.map_toArray, List.map_cons, List.map_nil]); first | done | rfl | (simp only [List.length_drop, List.length_take]; rfl)) ?_; (with_reducible refine (marquetryref11_Part.calls a2 x9_1 t169 _ A6.out).mono ?_); clear A6; rintro e w' ⟨rfl, ⟨nd, rfl⟩⟩; refine ⟨_, rfl, ?_⟩) | (go_at_call 23; (with_reducible refine (marquetryref11_Part.calls a2 x9_1 t169 _ A6.out).mono ?_); clear A6; rintro e w' ⟨rfl, ⟨nd, rfl⟩⟩) | ((with_reducible refine gate_callee (f := 23) rfl ?_); refine goesL_ (some 25) rfl rfl Try.func23 (by kernel_rfl) rfl #[.int .u32 a0, .int .i64 x9_1] rfl (by (try simp only [List.map_toArray, List.map_cons, List.map_nil]); first | done | rfl | (simp only [List.length_drop, List.length_take]; rfl)) ?_; (with_reducible refine (marquetryref11_Part.calls a0 x9_1 t170 _ A7.out).mono ?_); clear A7; rintro e w' ⟨rfl, ⟨nd, rfl⟩⟩; refine ⟨_, rfl, ?_⟩) | (go_at_call 23; (with_reducible refine (marquetryref11_Part.calls a0 x9_1 t170 _ A7.out).mono ?_); clear A7; rintro e w' ⟨rfl, ⟨nd, rfl⟩⟩) | ((with_reducible refine gate_callee (f := 23) rfl ?_); refine goesL_ (some 28) rfl rfl Try.func23 (by kernel_rfl) rfl #[.int .u32 a2, .int .i64 x9_1] rfl (by (try simp only [List.map_toArray, List.map_cons, List.map_nil]); first | done | rfl | (simp only [List.length_drop, List.length_take]; rfl)) ?_; (with_reducible refine (marquetryref11_Part.calls a2 x9_1 t171 _ A8.out).mono ?_); clear A8; rintro e w' ⟨rfl, ⟨nd, rfl⟩⟩; refine ⟨_, rfl, ?_⟩) | (go_at_call 23; (with_reducible refine (marquetryref11_Part.calls a2 x9_1 t171 _ A8.out).mono ?_); clear A8; rintro e w' ⟨rfl, ⟨nd, rfl⟩⟩))
            go_roundg k1
            case measure => have := HK1.out; omega
            case rel => exact ⟨(wrap64 (x7_1 + (wrap64 (t168 - t169)))), (wrap64 (x8_1 + (wrap64 (-(wrap64 (t170 - t171)))))), (wrap64 (x9_1 + 1)), (by first | rfl | (simp; done) | (simp [*]; done)), (by first | rfl | (simp; done) | (simp [*]; done)), (by first | rfl | (simp; done) | (simp [*]; done)), H', ⟨by have := HK1.out; omega⟩, by repeat (first | exact Drawn0.refl _ | apply Drawn0.step)⟩
          · rw [if_neg c11] at H
            have c11b0 : decide ((wrap64 (t170 - t171)) < 0) = false := decide_eq_false c11
            clear c11
            have H' := Aside0.mk H
            clear H
            go_wp2_with (first | ((with_reducible refine gate_callee (f := 23) rfl ?_); refine goesL_ (some 18) rfl rfl Try.func23 (by kernel_rfl) rfl #[.int .u32 a1, .int .i64 x9_1] rfl (by (try simp only [List.map_toArray, List.map_cons, List.map_nil]); first | done | rfl | (simp only [List.length_drop, List.length_take]; rfl)) ?_; (with_reducible refine (marquetryref11_Part.calls a1 x9_1 t168 _ A5.out).mono ?_); clear A5; rintro e w' ⟨rfl, ⟨nd, rfl⟩⟩; refine ⟨_, rfl, ?_⟩) | (go_at_call 23; (with_reducible refine (marquetryref11_Part.calls a1 x9_1 t168 _ A5.out).mono ?_); clear A5; rintro e w' ⟨rfl, ⟨nd, rfl⟩⟩) | ((with_reducible refine gate_callee (f := 23) rfl ?_); refine goesL_ (some 21) rfl rfl Try.func23 (by kernel_rfl) rfl #[.int .u32 a2, .int .i64 x9_1] rfl (by (try simp only [List.map_toArray, List.map_cons, List.map_nil]); first | done | rfl | (simp only [List.length_drop, List.length_take]; rfl)) ?_; (with_reducible refine (marquetryref11_Part.calls a2 x9_1 t169 _ A6.out).mono ?_); clear A6; rintro e w' ⟨rfl, ⟨nd, rfl⟩⟩; refine ⟨_, rfl, ?_⟩) | (go_at_call 23; (with_reducible refine (marquetryref11_Part.calls a2 x9_1 t169 _ A6.out).mono ?_); clear A6; rintro e w' ⟨rfl, ⟨nd, rfl⟩⟩) | ((with_reducible refine gate_callee (f := 23) rfl ?_); refine goesL_ (some 25) rfl rfl Try.func23 (by kernel_rfl) rfl #[.int .u32 a0, .int .i64 x9_1] rfl (by (try simp only [List.map_toArray, List.map_cons, List.map_nil]); first | done | rfl | (simp only [List.length_drop, List.length_take]; rfl)) ?_; (with_reducible refine (marquetryref11_Part.calls a0 x9_1 t170 _ A7.out).mono ?_); clear A7; rintro e w' ⟨rfl, ⟨nd, rfl⟩⟩; refine ⟨_, rfl, ?_⟩) | (go_at_call 23; (with_reducible refine (marquetryref11_Part.calls a0 x9_1 t170 _ A7.out).mono ?_); clear A7; rintro e w' ⟨rfl, ⟨nd, rfl⟩⟩) | ((with_reducible refine gate_callee (f := 23) rfl ?_); refine goesL_ (some 28) rfl rfl Try.func23 (by kernel_rfl) rfl #[.int .u32 a2, .int .i64 x9_1] rfl (by (try simp only [List.map_toArray, List.map_cons, List.map_nil]); first | done | rfl | (simp only [List.length_drop, List.length_take]; rfl)) ?_; (with_reducible refine (marquetryref11_Part.calls a2 x9_1 t171 _ A8.out).mono ?_); clear A8; rintro e w' ⟨rfl, ⟨nd, rfl⟩⟩; refine ⟨_, rfl, ?_⟩) | (go_at_call 23; (with_reducible refine (marquetryref11_Part.calls a2 x9_1 t171 _ A8.out).mono ?_); clear A8; rintro e w' ⟨rfl, ⟨nd, rfl⟩⟩))
            go_roundg k1
            case measure => have := HK1.out; omega
            case rel => exact ⟨(wrap64 (x7_1 + (wrap64 (t168 - t169)))), (wrap64 (x8_1 + (wrap64 (t170 - t171)))), (wrap64 (x9_1 + 1)), (by first | rfl | (simp; done) | (simp [*]; done)), (by first | rfl | (simp; done) | (simp [*]; done)), (by first | rfl | (simp; done) | (simp [*]; done)), H', ⟨by have := HK1.out; omega⟩, by repeat (first | exact Drawn0.refl _ | apply Drawn0.step)⟩
      · rw [if_neg c4] at H
        have c4b0 : decide (x9_1 < 4) = false := decide_eq_false c4
        clear c4
        by_cases c12 : x7_1 < x8_1
        · rw [if_pos c12] at H
          have c12b0 : decide (x7_1 < x8_1) = true := decide_eq_true c12
          clear c12
          obtain rfl := Option.some.inj H
          go_wp2
          go_ret
          exact ⟨by first | rfl | (simp; done) | (simp [*]; done), by repeat (first | exact Drawn0.refl _ | apply Drawn0.step)⟩
        · rw [if_neg c12] at H
          have c12b0 : decide (x7_1 < x8_1) = false := decide_eq_false c12
          clear c12
          obtain rfl := Option.some.inj H
          go_wp2
          go_ret
          exact ⟨by first | rfl | (simp; done) | (simp [*]; done), by repeat (first | exact Drawn0.refl _ | apply Drawn0.step)⟩

end Go.Proofs.Ytnbocgmlcdcahaa.P
