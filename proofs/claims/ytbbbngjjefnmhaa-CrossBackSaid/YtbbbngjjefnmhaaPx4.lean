-- Printed by mp.py (our own program over the kit's printer) out of the translation.
import Derived.Test.YtbbbngjjefnmhaaPx0
import Derived.Test.YtbbbngjjefnmhaaPx2
import Derived.Test.YtbbbngjjefnmhaaPx3
namespace Go.Proofs.Ytbbbngjjefnmhaa.P
open Go.RowKit Go.Proofs.YtbbbngjjefnmhaaW.PrintWords Go.Proofs.YtbbbngjjefnmhaaW.PrintLast Go.Proofs.YtbbbngjjefnmhaaW.PrintMore
attribute [local go_sem] max2_int min2_int max_two min_two max_three min_three max_four min_four   -- for this text's walks alone
set_option linter.unusedVariables false
set_option linter.unusedSimpArgs false

attribute [local go_sem high] eqA24
/-! ### cross_way_turn__cross_forth: function 21 -/
mutual
def cross_way_turn__cross_forth.j0 : Nat → Int → List (S24) → Bool → Int → Int → List Int → Option (Int × Int × List Int × Int)
  | 0, _, _, _, _, _, _ => none
  | k + 1, x2, x3, x30, x128000, x128001, x128002 => if x30 = true then (some (0, 0, ([] : List Int), 1)) else (if 0 ≤ (x128002.length : Int) then (if ((x128002.length : Int) : Int).toNat ≤ 70368744177664 then (cross_way_turn__cross_forth.l0 k x128002 (x128002.length : Int) 0 x128000 x128001 x128002 x128000 x128001 (List.replicate ((x128002.length : Int) : Int).toNat 0) x128000 x2 x3) else (none)) else (none))
def cross_way_turn__cross_forth.l0 : Nat → List Int → Int → Int → Int → Int → List Int → Int → Int → List Int → Int → Int → List (S24) → Option (Int × Int × List Int × Int)
  | 0, _, _, _, _, _, _, _, _, _, _, _, _ => none
  | k + 1, x47, x48, x49, x128000, x128001, x128002, x136000, x136001, x136002, x137000, x137001, x137002 => if x49 < x48 then (if 0 ≤ x49 then (if x49 < (x47.length : Int) then (if x128000 = 0 then (none) else ((api_Element_At.f x137000 x137001 x137002 (Int.tmod x49 x128000) (wrap64 (Int.tdiv x49 x128000))).bind fun bt138 => (if (bt138.1 == 0 && (bt138.2.1 == 0 && (bt138.2.2 == 0))) = true then (if x49 < (x136002.length : Int) then (cross_way_turn__cross_forth.l0 k x47 x48 (wrap64 (x49 + 1)) x128000 x128001 x128002 x136000 x136001 (x136002.set (x49 : Int).toNat (rd x47 x49)) x137000 x137001 x137002) else (none)) else ((cross_forth.f (rd x47 x49) bt138.1 bt138.2.1 bt138.2.2).bind fun t143 => (if x49 < (x136002.length : Int) then (cross_way_turn__cross_forth.l0 k x47 x48 (wrap64 (x49 + 1)) x128000 x128001 x128002 x136000 x136001 (x136002.set (x49 : Int).toNat t143) x137000 x137001 x137002) else (none)))))) else (none)) else (none)) else (some (x136000, x136001, x136002, 0))
end
def cross_way_turn__cross_forth.f (k : Nat)  (a1_0 : Int) (a1_1 : Int) (l1_2 : List Int) (a2 : Int) (l3 : List (S24)) : Option (Int × Int × List Int × Int) := (pixel_Good.f a1_0 a1_1 l1_2).bind fun t129 => (if t129 = true then ((lean_Bits.f a2).bind fun t130 => (if t130 = true then ((lean_Many.f a1_0 a1_1 l1_2 a2).bind fun t131 => (cross_way_turn__cross_forth.j0 k a2 l3 ((l3.length : Int) != t131) a1_0 a1_1 l1_2)) else (cross_way_turn__cross_forth.j0 k a2 l3 true a1_0 a1_1 l1_2))) else (cross_way_turn__cross_forth.j0 k a2 l3 true a1_0 a1_1 l1_2))
theorem cross_way_turn__cross_forth.mono_l : ∀ k, (∀ y0 y1 y2 y3 y4 y5, LeO (cross_way_turn__cross_forth.j0 k y0 y1 y2 y3 y4 y5) (cross_way_turn__cross_forth.j0 (k + 1) y0 y1 y2 y3 y4 y5)) ∧ (∀ y0 y1 y2 y3 y4 y5 y6 y7 y8 y9 y10 y11, LeO (cross_way_turn__cross_forth.l0 k y0 y1 y2 y3 y4 y5 y6 y7 y8 y9 y10 y11) (cross_way_turn__cross_forth.l0 (k + 1) y0 y1 y2 y3 y4 y5 y6 y7 y8 y9 y10 y11))
  | 0 => ⟨fun _ _ _ _ _ _ r h => by simp [cross_way_turn__cross_forth.j0] at h, fun _ _ _ _ _ _ _ _ _ _ _ _ r h => by simp [cross_way_turn__cross_forth.l0] at h⟩
  | k + 1 => by
    obtain ⟨ih0, ih1⟩ := cross_way_turn__cross_forth.mono_l k
    refine ⟨?_, ?_⟩
    · intro y0 y1 y2 y3 y4 y5
      unfold cross_way_turn__cross_forth.j0
      repeat' first
      | (with_reducible exact ih0 _ _ _ _ _ _)
      | (with_reducible exact ih1 _ _ _ _ _ _ _ _ _ _ _ _)
      | (with_reducible exact LeO.refl _)
      | (with_reducible exact LeO.none _)
      | (with_reducible refine LeO.ite ?_ ?_)
      | (with_reducible refine LeO.bind ?_ (fun _ => ?_))
      | exact ih0 _ _ _ _ _ _
      | exact ih1 _ _ _ _ _ _ _ _ _ _ _ _
      | exact LeO.none _
      | refine LeO.ite ?_ ?_
      | refine LeO.bind ?_ (fun _ => ?_)
    · intro y0 y1 y2 y3 y4 y5 y6 y7 y8 y9 y10 y11
      unfold cross_way_turn__cross_forth.l0
      repeat' first
      | (with_reducible exact ih0 _ _ _ _ _ _)
      | (with_reducible exact ih1 _ _ _ _ _ _ _ _ _ _ _ _)
      | (with_reducible exact LeO.refl _)
      | (with_reducible exact LeO.none _)
      | (with_reducible refine LeO.ite ?_ ?_)
      | (with_reducible refine LeO.bind ?_ (fun _ => ?_))
      | exact ih0 _ _ _ _ _ _
      | exact ih1 _ _ _ _ _ _ _ _ _ _ _ _
      | exact LeO.none _
      | refine LeO.ite ?_ ?_
      | refine LeO.bind ?_ (fun _ => ?_)
theorem cross_way_turn__cross_forth.mono : ∀ a0 a1 a2 a3 a4 k, LeO (cross_way_turn__cross_forth.f k a0 a1 a2 a3 a4) (cross_way_turn__cross_forth.f (k + 1) a0 a1 a2 a3 a4) := by
  intro a0 a1 a2 a3 a4 k
  obtain ⟨ih0, ih1⟩ := cross_way_turn__cross_forth.mono_l k
  unfold cross_way_turn__cross_forth.f
  repeat' first
      | (with_reducible exact ih0 _ _ _ _ _ _)
      | (with_reducible exact ih1 _ _ _ _ _ _ _ _ _ _ _ _)
      | (with_reducible exact LeO.refl _)
      | (with_reducible exact LeO.none _)
      | (with_reducible refine LeO.ite ?_ ?_)
      | (with_reducible refine LeO.bind ?_ (fun _ => ?_))
      | exact ih0 _ _ _ _ _ _
      | exact ih1 _ _ _ _ _ _ _ _ _ _ _ _
      | exact LeO.none _
      | refine LeO.ite ?_ ?_
      | refine LeO.bind ?_ (fun _ => ?_)
def cross_way_turn__cross_forth.T3 : Bool × List (List Nat × List Nat) := (true, [([], []), ([0], [0]), ([], []), ([2], [2]), ([], []), ([4], [4]), ([5], [5]), ([6, 6], [6]), ([1, 3, 7], [1, 3, 7]), ([], []), ([9, 8, 0, 1, 2, 3, 4, 5, 6, 7, 8, 9], [8, 9])])
def cross_way_turn__cross_forth.B3 : List Nat := [0, 1, 0, 4, 0, 16, 48, 112, 255, 0, 1023]
theorem cross_way_turn__cross_forth.tab3 : rtab .any (opsOf Try.f21 3) = cross_way_turn__cross_forth.T3 := by kernel_rfl
theorem cross_way_turn__cross_forth.bits3 : waitsOk cross_way_turn__cross_forth.T3.2 cross_way_turn__cross_forth.B3 = true := by kernel_rfl
def cross_way_turn__cross_forth.T8 : Bool × List (List Nat × List Nat) := (true, [([], []), ([], []), ([], []), ([2], [2]), ([1, 3], [1, 3]), ([], []), ([], []), ([6], [6]), ([5, 7], [5, 7]), ([0, 4, 8], [0, 4, 8]), ([], []), ([10, 9, 9, 0, 1, 2, 3, 4, 5, 6, 7, 8, 9, 10], [9, 10])])
def cross_way_turn__cross_forth.B8 : List Nat := [0, 0, 0, 4, 14, 0, 0, 64, 224, 511, 0, 2047]
theorem cross_way_turn__cross_forth.tab8 : rtab .any (opsOf Try.f21 8) = cross_way_turn__cross_forth.T8 := by kernel_rfl
theorem cross_way_turn__cross_forth.bits8 : waitsOk cross_way_turn__cross_forth.T8.2 cross_way_turn__cross_forth.B8 = true := by kernel_rfl
def cross_way_turn__cross_forth.T11 : Bool × List (List Nat × List Nat) := (true, [([], []), ([0], [0]), ([], []), ([], []), ([], []), ([], []), ([3, 4, 5], [3, 4, 5]), ([1, 2, 0, 1, 2, 3, 4, 5, 6], [1, 2]), ([7, 6, 6, 0, 1, 2, 3, 4, 5, 6], [6, 7])])
def cross_way_turn__cross_forth.B11 : List Nat := [0, 1, 0, 0, 0, 0, 56, 127, 255]
theorem cross_way_turn__cross_forth.tab11 : rtab .any (opsOf Try.f21 11) = cross_way_turn__cross_forth.T11 := by kernel_rfl
theorem cross_way_turn__cross_forth.bits11 : waitsOk cross_way_turn__cross_forth.T11.2 cross_way_turn__cross_forth.B11 = true := by kernel_rfl
set_option maxHeartbeats 8000000 in
set_option maxRecDepth 100000 in
theorem cross_way_turn__cross_forth.calls (k : Nat)  (a1_0 : Int) (a1_1 : Int) (A1_2 : Option Addr) (c1_2 : Nat) (l1_2 : List Int) (a2 : Int) (A3 : Option Addr) (c3 : Nat) (l3 : List (S24)) (r1 : Int) (r2 : Int) (r3 : List Int) (r4 : Int) (w : World) (hr1_2 : Kd.C (Kd.int .u32) w A1_2 l1_2.length l1_2) (hc1_2 : l1_2.length ≤ c1_2) (hr3 : Kd.C k24 w A3 l3.length l3) (hc3 : l3.length ≤ c3) (h : cross_way_turn__cross_forth.f k a1_0 a1_1 l1_2 a2 l3 = some (r1, r2, r3, r4)) :
    Calls Try.prog 21 #[.func (.func 20) #[] #[], .agg #[.int .i64 a1_0, .int .i64 a1_1, .slice A1_2 l1_2.length c1_2], .int .i64 a2, .slice A3 l3.length c3] w fun e w' => ∃ v2_ : Value, e = .returned (.tuple #[.agg #[.int .i64 r1, .int .i64 r2, v2_], .int .i64 r4]) ∧ Kd.R (Kd.int .u32) 25 w' w.heap.size (fun _ => True) v2_ r3 ∧ Below w.heap.size w w' := by
  have hu35 := Try.underlying35
  have hu54 := Try.underlying54
  have hu24 := Try.underlying24
  have HR1_2 := Aside0.mk hr1_2
  have HC1_2 := Aside0.mk hc1_2
  clear hr1_2 hc1_2
  have HR3 := Aside0.mk hr3
  have HC3 := Aside0.mk hc3
  clear hr3 hc3
  have HB := Aside0.mk (Below.refl w.heap.size w)
  have H : ((pixel_Good.f a1_0 a1_1 l1_2).bind fun t129 => (if t129 = true then ((lean_Bits.f a2).bind fun t130 => (if t130 = true then ((lean_Many.f a1_0 a1_1 l1_2 a2).bind fun t131 => (cross_way_turn__cross_forth.j0 k a2 l3 ((l3.length : Int) != t131) a1_0 a1_1 l1_2)) else (cross_way_turn__cross_forth.j0 k a2 l3 true a1_0 a1_1 l1_2))) else (cross_way_turn__cross_forth.j0 k a2 l3 true a1_0 a1_1 l1_2))) = some (r1, r2, r3, r4) := h
  clear h
  have HC5 := Aside0.mk H
  clear H
  go_enter Try.func21, Try.ntmps21
  go_upto_region 1 with (first | ((with_reducible refine gate_dst (N := 5) rfl ?_); (try (refine gate_guard (by rfl) ?_; dsimp only)); refine box_event ?hg (N := 5) ?hd (cs := #[.int .i64 a1_0, .int .i64 a1_1, .slice A1_2 l1_2.length c1_2]) (t := 35) ?hr ?_; (case hd => rfl); (case hg => rfl); (case hr => first | (go_simp; done) | (go_simp; rfl)); intro gb127 hg w6 hbox hb; have n0_ := Aside0.mk (below_step (by repeat (first | (with_reducible first | exact HB.out | apply below_alloc | apply pw_below_drewN | apply below_drew1) | exact HB.out)) hb); have n1_ := Aside0.mk (hbox); have n2_ := Aside0.mk ((by rw [hg]; exact (below_size (by repeat (first | (with_reducible first | exact HB.out | apply below_alloc | apply pw_below_drewN | apply below_drew1) | exact HB.out))) : w.heap.size ≤ gb127)); have n3_ := Aside0.mk ((by rw [hg]; exact (below_size (by repeat (first | (with_reducible first | exact HB.out | apply below_alloc | apply pw_below_drewN | apply below_drew1) | exact HB.out))) : w.heap.size ≤ gb127)); clear HB; have HB := n0_; have BK127 := n1_; have GW127 := n2_; have GE127 := n3_; clear n0_ n1_ n2_ n3_; clear hb hbox hg) | ((with_reducible refine gate_dst (N := 8) rfl ?_); (try (refine gate_guard (by rfl) ?_; dsimp only)); refine box_event ?hg (N := 8) ?hd (cs := #[.int .i64 0, .int .i64 0, .slice none 0 0]) (t := 35) ?hr ?_; (case hd => rfl); (case hg => rfl); (case hr => first | (go_simp; done) | (go_simp; rfl)); intro gb128 hg w7 hbox hb; have n0_ := Aside0.mk (blk_below (g := gb127) (o := .cells #[.int .i64 a1_0, .int .i64 a1_1, .slice A1_2 l1_2.length c1_2] 35 (0, 0)) (by (with_reducible repeat (first | refine blk_drewN ?_ _ | refine blk_drew ?_ | refine blk_alloc ?_ _)); exact BK127.out) hb); have n1_ := Aside0.mk (below_step (by repeat (first | (with_reducible first | exact HB.out | apply below_alloc | apply pw_below_drewN | apply below_drew1 | refine below_set ?_ GE127.out) | exact HB.out)) hb); have n2_ := Aside0.mk (hbox); have n3_ := Aside0.mk ((by rw [hg]; exact (below_size (by repeat (first | (with_reducible first | exact HB.out | apply below_alloc | apply pw_below_drewN | apply below_drew1 | refine below_set ?_ GE127.out) | exact HB.out))) : w.heap.size ≤ gb128)); have n4_ := Aside0.mk ((by rw [hg]; exact (below_size (by repeat (first | (with_reducible first | exact HB.out | apply below_alloc | apply pw_below_drewN | apply below_drew1 | refine below_set ?_ GE127.out) | exact HB.out))) : w.heap.size ≤ gb128)); have n5_ := Aside0.mk ((by rw [hg]; exact Nat.ne_of_lt (blk_lt (g := gb127) (o := .cells #[.int .i64 a1_0, .int .i64 a1_1, .slice A1_2 l1_2.length c1_2] 35 (0, 0)) (by (with_reducible repeat (first | refine blk_drewN ?_ _ | refine blk_drew ?_ | refine blk_alloc ?_ _)); exact BK127.out)) : gb127 ≠ gb128)); have n6_ := Aside0.mk ((by rw [hg]; exact Nat.ne_of_gt (blk_lt (g := gb127) (o := .cells #[.int .i64 a1_0, .int .i64 a1_1, .slice A1_2 l1_2.length c1_2] 35 (0, 0)) (by (with_reducible repeat (first | refine blk_drewN ?_ _ | refine blk_drew ?_ | refine blk_alloc ?_ _)); exact BK127.out)) : gb128 ≠ gb127)); clear BK127; clear HB; have BK127 := n0_; have HB := n1_; have BK128 := n2_; have GW128 := n3_; have GE128 := n4_; have NB127_128 := n5_; have NB128_127 := n6_; clear n0_ n1_ n2_ n3_ n4_ n5_ n6_; clear hb hbox hg))
  (try simp only [Act.put, List.setIfInBounds_toArray, List.set_cons_zero, List.set_cons_succ])
  go_cut [30] (fun v30 wc => ∃ (kq : Nat) (x30_4 : Bool), v30 = .bool x30_4 ∧ Aside0 (cross_way_turn__cross_forth.j0 kq a2 l3 x30_4 a1_0 a1_1 l1_2 = some (r1, r2, r3, r4)) ∧ Aside0 (kq ≤ k) ∧ Aside0 (wc.heap[gb127]? = some (.cells #[.int .i64 a1_0, .int .i64 a1_1, (.slice A1_2 l1_2.length c1_2)] 35 (0, 0))) ∧ Aside0 (wc.heap[gb128]? = some (.cells #[.int .i64 0, .int .i64 0, (.slice none 0 0)] 35 (0, 0))) ∧ Aside0 (Below w.heap.size w wc))
  case first =>
    have H := HC5.out
    clear HC5
    replace H := Option.bind_eq_some_iff.mp H
    obtain ⟨t129, A80, H⟩ := H
    replace H : (if t129 = true then ((lean_Bits.f a2).bind fun t130 => (if t130 = true then ((lean_Many.f a1_0 a1_1 l1_2 a2).bind fun t131 => (cross_way_turn__cross_forth.j0 k a2 l3 ((l3.length : Int) != t131) a1_0 a1_1 l1_2)) else (cross_way_turn__cross_forth.j0 k a2 l3 true a1_0 a1_1 l1_2))) else (cross_way_turn__cross_forth.j0 k a2 l3 true a1_0 a1_1 l1_2)) = some (r1, r2, r3, r4) := H
    have A8 := Aside0.mk A80
    clear A80
    by_cases c9 : t129 = true
    · subst c9
      have H1 : ((lean_Bits.f a2).bind fun t130 => (if t130 = true then ((lean_Many.f a1_0 a1_1 l1_2 a2).bind fun t131 => (cross_way_turn__cross_forth.j0 k a2 l3 ((l3.length : Int) != t131) a1_0 a1_1 l1_2)) else (cross_way_turn__cross_forth.j0 k a2 l3 true a1_0 a1_1 l1_2))) = some (r1, r2, r3, r4) := by rw [if_pos rfl] at H; exact H
      clear H
      have H := H1
      clear H1
      replace H := Option.bind_eq_some_iff.mp H
      obtain ⟨t130, A100, H⟩ := H
      replace H : (if t130 = true then ((lean_Many.f a1_0 a1_1 l1_2 a2).bind fun t131 => (cross_way_turn__cross_forth.j0 k a2 l3 ((l3.length : Int) != t131) a1_0 a1_1 l1_2)) else (cross_way_turn__cross_forth.j0 k a2 l3 true a1_0 a1_1 l1_2)) = some (r1, r2, r3, r4) := H
      have A10 := Aside0.mk A100
      clear A100
      by_cases c11 : t130 = true
      · subst c11
        have H1 : ((lean_Many.f a1_0 a1_1 l1_2 a2).bind fun t131 => (cross_way_turn__cross_forth.j0 k a2 l3 ((l3.length : Int) != t131) a1_0 a1_1 l1_2)) = some (r1, r2, r3, r4) := by rw [if_pos rfl] at H; exact H
        clear H
        have H := H1
        clear H1
        replace H := Option.bind_eq_some_iff.mp H
        obtain ⟨t131, A120, H⟩ := H
        replace H : (cross_way_turn__cross_forth.j0 k a2 l3 ((l3.length : Int) != t131) a1_0 a1_1 l1_2) = some (r1, r2, r3, r4) := H
        have A12 := Aside0.mk A120
        clear A120
        have H' := Aside0.mk H
        clear H
        have hnb13 := NB127_128.out
        have hnc13 := NB128_127.out
        have hcz14_0 : w7.cell? ⟨gb127, 0, none⟩ = some (.int .i64 a1_0) := (blk_cell BK127.out 0).trans rfl
        have hcz14_1 : w7.cell? ⟨gb127, 1, none⟩ = some (.int .i64 a1_1) := (blk_cell BK127.out 1).trans rfl
        have hcz14_2 : w7.cell? ⟨gb127, 2, none⟩ = some (.slice A1_2 l1_2.length c1_2) := (blk_cell BK127.out 2).trans rfl
        have hfz14_0 := blk_frozen BK127.out 0
        have hfz14_1 := blk_frozen BK127.out 1
        have hfz14_2 := blk_frozen BK127.out 2
        go_wp2_with (first | ((with_reducible refine gate_callee (f := 24) rfl ?_); refine goesL_ (some 16) rfl rfl Try.func24 (by kernel_rfl) rfl #[.agg #[.int .i64 a1_0, .int .i64 a1_1, .slice A1_2 l1_2.length c1_2]] rfl (by (try simp only [List.map_toArray, List.map_cons, List.map_nil]); first | done | rfl | (simp only [List.length_drop, List.length_take]; rfl)) ?_; (with_reducible refine (pixel_Good.calls a1_0 a1_1 _ _ l1_2 true _ ?side1 ?side2 A8.out).mono ?_); (case side1 => repeat (first | exact (Kd.C_below HR1_2.out HB.out) | (with_reducible refine Kd.C_alloc ?_ _) | (with_reducible refine Kd.C_drewN ?_ _) | (with_reducible refine Kd.C_drew ?_))); (case side2 => exact HC1_2.out); rintro e w15 ⟨rfl, hb⟩; refine ⟨_, rfl, ?_⟩; have n0_ := Aside0.mk (blk_below (g := gb127) (o := .cells #[.int .i64 a1_0, .int .i64 a1_1, .slice A1_2 l1_2.length c1_2] 35 (0, 0)) (by (with_reducible repeat (first | refine blk_drewN ?_ _ | refine blk_drew ?_ | refine blk_alloc ?_ _)); exact BK127.out) hb); have n1_ := Aside0.mk (blk_below (g := gb128) (o := .cells #[.int .i64 0, .int .i64 0, .slice none 0 0] 35 (0, 0)) (by (with_reducible repeat (first | refine blk_drewN ?_ _ | refine blk_drew ?_ | refine blk_alloc ?_ _)); exact BK128.out) hb); have n2_ := Aside0.mk (below_step (by repeat (first | (with_reducible first | exact HB.out | apply below_alloc | apply pw_below_drewN | apply below_drew1 | refine below_set ?_ GE127.out | refine below_set ?_ GE128.out) | exact HB.out)) hb); clear BK127; clear BK128; clear HB; have BK127 := n0_; have BK128 := n1_; have HB := n2_; clear n0_ n1_ n2_; (try clear hb); (try clear hb2); (try clear hk); (try clear hi)) | (go_at_call 24; (with_reducible refine (pixel_Good.calls a1_0 a1_1 _ _ l1_2 true _ ?side1 ?side2 A8.out).mono ?_); (case side1 => repeat (first | exact (Kd.C_below HR1_2.out HB.out) | (with_reducible refine Kd.C_alloc ?_ _) | (with_reducible refine Kd.C_drewN ?_ _) | (with_reducible refine Kd.C_drew ?_))); (case side2 => exact HC1_2.out); rintro e w15 ⟨rfl, hb⟩; have n0_ := Aside0.mk (blk_below (g := gb127) (o := .cells #[.int .i64 a1_0, .int .i64 a1_1, .slice A1_2 l1_2.length c1_2] 35 (0, 0)) (by (with_reducible repeat (first | refine blk_drewN ?_ _ | refine blk_drew ?_ | refine blk_alloc ?_ _)); exact BK127.out) hb); have n1_ := Aside0.mk (blk_below (g := gb128) (o := .cells #[.int .i64 0, .int .i64 0, .slice none 0 0] 35 (0, 0)) (by (with_reducible repeat (first | refine blk_drewN ?_ _ | refine blk_drew ?_ | refine blk_alloc ?_ _)); exact BK128.out) hb); have n2_ := Aside0.mk (below_step (by repeat (first | (with_reducible first | exact HB.out | apply below_alloc | apply pw_below_drewN | apply below_drew1 | refine below_set ?_ GE127.out | refine below_set ?_ GE128.out) | exact HB.out)) hb); clear BK127; clear BK128; clear HB; have BK127 := n0_; have BK128 := n1_; have HB := n2_; clear n0_ n1_ n2_; (try clear hb); (try clear hb2); (try clear hk); (try clear hi)) | (go_at_call 25; (with_reducible refine (lean_Bits.calls a2 true _ A10.out).mono ?_); clear A10; rintro e w' ⟨rfl, ⟨nd, rfl⟩⟩; have hcz16_0 : w15.cell? ⟨gb127, 0, none⟩ = some (.int .i64 a1_0) := (blk_cell BK127.out 0).trans rfl; have hcz16_1 : w15.cell? ⟨gb127, 1, none⟩ = some (.int .i64 a1_1) := (blk_cell BK127.out 1).trans rfl; have hcz16_2 : w15.cell? ⟨gb127, 2, none⟩ = some (.slice A1_2 l1_2.length c1_2) := (blk_cell BK127.out 2).trans rfl; have hfz16_0 := blk_frozen BK127.out 0; have hfz16_1 := blk_frozen BK127.out 1; have hfz16_2 := blk_frozen BK127.out 2) | (go_at_call 26; (with_reducible refine (lean_Many.calls a1_0 a1_1 _ _ l1_2 a2 t131 _ ?side1 ?side2 A12.out).mono ?_); (case side1 => repeat (first | exact (Kd.C_below HR1_2.out (by repeat (first | (with_reducible first | exact HB.out | apply below_alloc | apply pw_below_drewN | apply below_drew1 | refine below_set ?_ GE127.out | refine below_set ?_ GE128.out) | exact HB.out))) | (with_reducible refine Kd.C_alloc ?_ _) | (with_reducible refine Kd.C_drewN ?_ _) | (with_reducible refine Kd.C_drew ?_))); (case side2 => exact HC1_2.out); rintro e w17 ⟨rfl, hb⟩; have n0_ := Aside0.mk (blk_below (g := gb127) (o := .cells #[.int .i64 a1_0, .int .i64 a1_1, .slice A1_2 l1_2.length c1_2] 35 (0, 0)) (by (with_reducible repeat (first | refine blk_drewN ?_ _ | refine blk_drew ?_ | refine blk_alloc ?_ _)); exact BK127.out) hb); have n1_ := Aside0.mk (blk_below (g := gb128) (o := .cells #[.int .i64 0, .int .i64 0, .slice none 0 0] 35 (0, 0)) (by (with_reducible repeat (first | refine blk_drewN ?_ _ | refine blk_drew ?_ | refine blk_alloc ?_ _)); exact BK128.out) hb); have n2_ := Aside0.mk (below_step (by repeat (first | (with_reducible first | exact HB.out | apply below_alloc | apply pw_below_drewN | apply below_drew1 | refine below_set ?_ GE127.out | refine below_set ?_ GE128.out) | exact HB.out)) hb); clear BK127; clear BK128; clear HB; have BK127 := n0_; have BK128 := n1_; have HB := n2_; clear n0_ n1_ n2_; (try clear hb); (try clear hb2); (try clear hk); (try clear hi)))
        go_meet
        case rel => exact ⟨_, (((l3.length : Int) != t131)), (by first | rfl | (simp; done) | (simp [*]; done)), H', ⟨by first | omega | exact Nat.le_refl _⟩, ⟨by (with_reducible repeat (first | refine blk_drewN ?_ _ | refine blk_drew ?_ | refine blk_alloc ?_ _)); exact BK127.out⟩, ⟨by (with_reducible repeat (first | refine blk_drewN ?_ _ | refine blk_drew ?_ | refine blk_alloc ?_ _)); exact BK128.out⟩, ⟨by repeat (first | (with_reducible first | exact HB.out | apply below_alloc | apply pw_below_drewN | apply below_drew1 | refine below_set ?_ GE127.out | refine below_set ?_ GE128.out) | exact HB.out)⟩⟩
      · replace c11 := Bool.eq_false_iff.mpr c11
        subst c11
        have H1 : (cross_way_turn__cross_forth.j0 k a2 l3 true a1_0 a1_1 l1_2) = some (r1, r2, r3, r4) := by rw [if_neg (show ¬ (false = true) by decide)] at H; exact H
        clear H
        have H := H1
        clear H1
        have H' := Aside0.mk H
        clear H
        have hnb18 := NB127_128.out
        have hnc18 := NB128_127.out
        have hcz19_0 : w7.cell? ⟨gb127, 0, none⟩ = some (.int .i64 a1_0) := (blk_cell BK127.out 0).trans rfl
        have hcz19_1 : w7.cell? ⟨gb127, 1, none⟩ = some (.int .i64 a1_1) := (blk_cell BK127.out 1).trans rfl
        have hcz19_2 : w7.cell? ⟨gb127, 2, none⟩ = some (.slice A1_2 l1_2.length c1_2) := (blk_cell BK127.out 2).trans rfl
        have hfz19_0 := blk_frozen BK127.out 0
        have hfz19_1 := blk_frozen BK127.out 1
        have hfz19_2 := blk_frozen BK127.out 2
        go_wp2_with (first | ((with_reducible refine gate_callee (f := 24) rfl ?_); refine goesL_ (some 16) rfl rfl Try.func24 (by kernel_rfl) rfl #[.agg #[.int .i64 a1_0, .int .i64 a1_1, .slice A1_2 l1_2.length c1_2]] rfl (by (try simp only [List.map_toArray, List.map_cons, List.map_nil]); first | done | rfl | (simp only [List.length_drop, List.length_take]; rfl)) ?_; (with_reducible refine (pixel_Good.calls a1_0 a1_1 _ _ l1_2 true _ ?side1 ?side2 A8.out).mono ?_); (case side1 => repeat (first | exact (Kd.C_below HR1_2.out HB.out) | (with_reducible refine Kd.C_alloc ?_ _) | (with_reducible refine Kd.C_drewN ?_ _) | (with_reducible refine Kd.C_drew ?_))); (case side2 => exact HC1_2.out); rintro e w20 ⟨rfl, hb⟩; refine ⟨_, rfl, ?_⟩; have n0_ := Aside0.mk (blk_below (g := gb127) (o := .cells #[.int .i64 a1_0, .int .i64 a1_1, .slice A1_2 l1_2.length c1_2] 35 (0, 0)) (by (with_reducible repeat (first | refine blk_drewN ?_ _ | refine blk_drew ?_ | refine blk_alloc ?_ _)); exact BK127.out) hb); have n1_ := Aside0.mk (blk_below (g := gb128) (o := .cells #[.int .i64 0, .int .i64 0, .slice none 0 0] 35 (0, 0)) (by (with_reducible repeat (first | refine blk_drewN ?_ _ | refine blk_drew ?_ | refine blk_alloc ?_ _)); exact BK128.out) hb); have n2_ := Aside0.mk (below_step (by repeat (first | (with_reducible first | exact HB.out | apply below_alloc | apply pw_below_drewN | apply below_drew1 | refine below_set ?_ GE127.out | refine below_set ?_ GE128.out) | exact HB.out)) hb); clear BK127; clear BK128; clear HB; have BK127 := n0_; have BK128 := n1_; have HB := n2_; clear n0_ n1_ n2_; (try clear hb); (try clear hb2); (try clear hk); (try clear hi)) | (go_at_call 24; (with_reducible refine (pixel_Good.calls a1_0 a1_1 _ _ l1_2 true _ ?side1 ?side2 A8.out).mono ?_); (case side1 => repeat (first | exact (Kd.C_below HR1_2.out HB.out) | (with_reducible refine Kd.C_alloc ?_ _) | (with_reducible refine Kd.C_drewN ?_ _) | (with_reducible refine Kd.C_drew ?_))); (case side2 => exact HC1_2.out); rintro e w20 ⟨rfl, hb⟩; have n0_ := Aside0.mk (blk_below (g := gb127) (o := .cells #[.int .i64 a1_0, .int .i64 a1_1, .slice A1_2 l1_2.length c1_2] 35 (0, 0)) (by (with_reducible repeat (first | refine blk_drewN ?_ _ | refine blk_drew ?_ | refine blk_alloc ?_ _)); exact BK127.out) hb); have n1_ := Aside0.mk (blk_below (g := gb128) (o := .cells #[.int .i64 0, .int .i64 0, .slice none 0 0] 35 (0, 0)) (by (with_reducible repeat (first | refine blk_drewN ?_ _ | refine blk_drew ?_ | refine blk_alloc ?_ _)); exact BK128.out) hb); have n2_ := Aside0.mk (below_step (by repeat (first | (with_reducible first | exact HB.out | apply below_alloc | apply pw_below_drewN | apply below_drew1 | refine below_set ?_ GE127.out | refine below_set ?_ GE128.out) | exact HB.out)) hb); clear BK127; clear BK128; clear HB; have BK127 := n0_; have BK128 := n1_; have HB := n2_; clear n0_ n1_ n2_; (try clear hb); (try clear hb2); (try clear hk); (try clear hi)) | (go_at_call 25; (with_reducible refine (lean_Bits.calls a2 false _ A10.out).mono ?_); clear A10; rintro e w' ⟨rfl, ⟨nd, rfl⟩⟩))
        go_meet
        case rel => exact ⟨_, (true), (by first | rfl | (simp; done) | (simp [*]; done)), H', ⟨by first | omega | exact Nat.le_refl _⟩, ⟨by (with_reducible repeat (first | refine blk_drewN ?_ _ | refine blk_drew ?_ | refine blk_alloc ?_ _)); exact BK127.out⟩, ⟨by (with_reducible repeat (first | refine blk_drewN ?_ _ | refine blk_drew ?_ | refine blk_alloc ?_ _)); exact BK128.out⟩, ⟨by repeat (first | (with_reducible first | exact HB.out | apply below_alloc | apply pw_below_drewN | apply below_drew1 | refine below_set ?_ GE127.out | refine below_set ?_ GE128.out) | exact HB.out)⟩⟩
    · replace c9 := Bool.eq_false_iff.mpr c9
      subst c9
      have H1 : (cross_way_turn__cross_forth.j0 k a2 l3 true a1_0 a1_1 l1_2) = some (r1, r2, r3, r4) := by rw [if_neg (show ¬ (false = true) by decide)] at H; exact H
      clear H
      have H := H1
      clear H1
      have H' := Aside0.mk H
      clear H
      have hnb21 := NB127_128.out
      have hnc21 := NB128_127.out
      have hcz22_0 : w7.cell? ⟨gb127, 0, none⟩ = some (.int .i64 a1_0) := (blk_cell BK127.out 0).trans rfl
      have hcz22_1 : w7.cell? ⟨gb127, 1, none⟩ = some (.int .i64 a1_1) := (blk_cell BK127.out 1).trans rfl
      have hcz22_2 : w7.cell? ⟨gb127, 2, none⟩ = some (.slice A1_2 l1_2.length c1_2) := (blk_cell BK127.out 2).trans rfl
      have hfz22_0 := blk_frozen BK127.out 0
      have hfz22_1 := blk_frozen BK127.out 1
      have hfz22_2 := blk_frozen BK127.out 2
      go_wp2_with (first | ((with_reducible refine gate_callee (f := 24) rfl ?_); refine goesL_ (some 16) rfl rfl Try.func24 (by kernel_rfl) rfl #[.agg #[.int .i64 a1_0, .int .i64 a1_1, .slice A1_2 l1_2.length c1_2]] rfl (by (try simp only [List.map_toArray, List.map_cons, List.map_nil]); first | done | rfl | (simp only [List.length_drop, List.length_take]; rfl)) ?_; (with_reducible refine (pixel_Good.calls a1_0 a1_1 _ _ l1_2 false _ ?side1 ?side2 A8.out).mono ?_); (case side1 => repeat (first | exact (Kd.C_below HR1_2.out HB.out) | (with_reducible refine Kd.C_alloc ?_ _) | (with_reducible refine Kd.C_drewN ?_ _) | (with_reducible refine Kd.C_drew ?_))); (case side2 => exact HC1_2.out); rintro e w23 ⟨rfl, hb⟩; refine ⟨_, rfl, ?_⟩; have n0_ := Aside0.mk (blk_below (g := gb127) (o := .cells #[.int .i64 a1_0, .int .i64 a1_1, .slice A1_2 l1_2.length c1_2] 35 (0, 0)) (by (with_reducible repeat (first | refine blk_drewN ?_ _ | refine blk_drew ?_ | refine blk_alloc ?_ _)); exact BK127.out) hb); have n1_ := Aside0.mk (blk_below (g := gb128) (o := .cells #[.int .i64 0, .int .i64 0, .slice none 0 0] 35 (0, 0)) (by (with_reducible repeat (first | refine blk_drewN ?_ _ | refine blk_drew ?_ | refine blk_alloc ?_ _)); exact BK128.out) hb); have n2_ := Aside0.mk (below_step (by repeat (first | (with_reducible first | exact HB.out | apply below_alloc | apply pw_below_drewN | apply below_drew1 | refine below_set ?_ GE127.out | refine below_set ?_ GE128.out) | exact HB.out)) hb); clear BK127; clear BK128; clear HB; have BK127 := n0_; have BK128 := n1_; have HB := n2_; clear n0_ n1_ n2_; (try clear hb); (try clear hb2); (try clear hk); (try clear hi)) | (go_at_call 24; (with_reducible refine (pixel_Good.calls a1_0 a1_1 _ _ l1_2 false _ ?side1 ?side2 A8.out).mono ?_); (case side1 => repeat (first | exact (Kd.C_below HR1_2.out HB.out) | (with_reducible refine Kd.C_alloc ?_ _) | (with_reducible refine Kd.C_drewN ?_ _) | (with_reducible refine Kd.C_drew ?_))); (case side2 => exact HC1_2.out); rintro e w23 ⟨rfl, hb⟩; have n0_ := Aside0.mk (blk_below (g := gb127) (o := .cells #[.int .i64 a1_0, .int .i64 a1_1, .slice A1_2 l1_2.length c1_2] 35 (0, 0)) (by (with_reducible repeat (first | refine blk_drewN ?_ _ | refine blk_drew ?_ | refine blk_alloc ?_ _)); exact BK127.out) hb); have n1_ := Aside0.mk (blk_below (g := gb128) (o := .cells #[.int .i64 0, .int .i64 0, .slice none 0 0] 35 (0, 0)) (by (with_reducible repeat (first | refine blk_drewN ?_ _ | refine blk_drew ?_ | refine blk_alloc ?_ _)); exact BK128.out) hb); have n2_ := Aside0.mk (below_step (by repeat (first | (with_reducible first | exact HB.out | apply below_alloc | apply pw_below_drewN | apply below_drew1 | refine below_set ?_ GE127.out | refine below_set ?_ GE128.out) | exact HB.out)) hb); clear BK127; clear BK128; clear HB; have BK127 := n0_; have BK128 := n1_; have HB := n2_; clear n0_ n1_ n2_; (try clear hb); (try clear hb2); (try clear hk); (try clear hi)))
      go_meet
      case rel => exact ⟨_, (true), (by first | rfl | (simp; done) | (simp [*]; done)), H', ⟨by first | omega | exact Nat.le_refl _⟩, ⟨by (with_reducible repeat (first | refine blk_drewN ?_ _ | refine blk_drew ?_ | refine blk_alloc ?_ _)); exact BK127.out⟩, ⟨by (with_reducible repeat (first | refine blk_drewN ?_ _ | refine blk_drew ?_ | refine blk_alloc ?_ _)); exact BK128.out⟩, ⟨by repeat (first | (with_reducible first | exact HB.out | apply below_alloc | apply pw_below_drewN | apply below_drew1 | refine below_set ?_ GE127.out | refine below_set ?_ GE128.out) | exact HB.out)⟩⟩
  case rest =>
    clear HC5
    try clear c1
    try clear c2
    try clear p2
    try clear c3
    try clear c9
    try clear c11
    try clear c13
    try clear c18
    try clear c21
    try clear hcz14_0
    try clear hcz14_1
    try clear hcz14_2
    try clear hcz16_0
    try clear hcz16_1
    try clear hcz16_2
    try clear hcz19_0
    try clear hcz19_1
    try clear hcz19_2
    try clear hcz22_0
    try clear hcz22_1
    try clear hcz22_2
    try clear hfz14_0
    try clear hfz14_1
    try clear hfz14_2
    try clear hfz16_0
    try clear hfz16_1
    try clear hfz16_2
    try clear hfz19_0
    try clear hfz19_1
    try clear hfz19_2
    try clear hfz22_0
    try clear hfz22_1
    try clear hfz22_2
    obtain ⟨kq, x30_4, rfl, HA, HJ4, BK127, BK128, HB⟩ := hcut
    cases kq with
    | zero => exact absurd HA.out (by simp [cross_way_turn__cross_forth.j0])
    | succ kj4 =>
      have H := HA.out
      clear HA
      simp only [cross_way_turn__cross_forth.j0] at H
      by_cases c24 : x30_4 = true
      · subst c24
        have H1 : (some (0, 0, ([] : List Int), 1)) = some (r1, r2, r3, r4) := by rw [if_pos rfl] at H; exact H
        clear H
        have H := H1
        clear H1
        simp only [Option.some.injEq, Prod.mk.injEq] at H
        obtain ⟨rfl, rfl, rfl, rfl⟩ := H
        have hnb25 := NB128_127.out
        have hnc25 := NB127_128.out
        have hcz26_0 : wc.cell? ⟨gb128, 0, none⟩ = some (.int .i64 0) := (blk_cell BK128.out 0).trans rfl
        have hcz26_1 : wc.cell? ⟨gb128, 1, none⟩ = some (.int .i64 0) := (blk_cell BK128.out 1).trans rfl
        have hcz26_2 : wc.cell? ⟨gb128, 2, none⟩ = some (.slice none 0 0) := (blk_cell BK128.out 2).trans rfl
        have hfz26_0 := blk_frozen BK128.out 0
        have hfz26_1 := blk_frozen BK128.out 1
        have hfz26_2 := blk_frozen BK128.out 2
        go_wp2
        refine bodyPost_ret (results_ct rfl _ _ gb128 35 #[.int .i64 0, .int .i64 0, .slice none 0 0] (0, 0) _ rfl (by (with_reducible repeat (first | refine blk_drewN ?_ _ | refine blk_drew ?_ | refine blk_alloc ?_ _)); refine blk_put (cs := #[.int .i64 0, .int .i64 0, .slice none 0 0]) ?_ 2 _ rfl; (with_reducible repeat (first | refine blk_drewN ?_ _ | refine blk_drew ?_ | refine blk_alloc ?_ _)); refine blk_put (cs := #[.int .i64 0, .int .i64 0, .slice none 0 0]) ?_ 1 _ rfl; (with_reducible repeat (first | refine blk_drewN ?_ _ | refine blk_drew ?_ | refine blk_alloc ?_ _)); refine blk_put (cs := #[.int .i64 0, .int .i64 0, .slice none 0 0]) ?_ 0 _ rfl; (with_reducible repeat (first | refine blk_drewN ?_ _ | refine blk_drew ?_ | refine blk_alloc ?_ _)); exact BK128.out) Try.underlying35 rfl (by kernel_rfl)) rfl ?_
        exact ⟨_, by first | rfl | (simp [errW_none, errW_some] <;> rfl) | (simp [*, errW_none, errW_some] <;> rfl), by first | exact Kd.R_nil _ _ _ _ _ | exact Kd.N_nil _ _ _ _ _ | exact Kd.V_nil _ _ _ _ _ | exact Kd.Q_nil _ _ _ _ _ | exact Kd.S_nil _ _ _ _ _, by repeat (first | (with_reducible first | exact HB.out | apply below_alloc | apply pw_below_drewN | apply below_drew1 | refine below_set ?_ GE127.out | refine below_set ?_ GE128.out) | exact HB.out)⟩
      · replace c24 := Bool.eq_false_iff.mpr c24
        subst c24
        have H1 : (if 0 ≤ (l1_2.length : Int) then (if ((l1_2.length : Int) : Int).toNat ≤ 70368744177664 then (cross_way_turn__cross_forth.l0 kj4 l1_2 (l1_2.length : Int) 0 a1_0 a1_1 l1_2 a1_0 a1_1 (List.replicate ((l1_2.length : Int) : Int).toNat 0) a1_0 a2 l3) else (none)) else (none)) = some (r1, r2, r3, r4) := by rw [if_neg (show ¬ (false = true) by decide)] at H; exact H
        clear H
        have H := H1
        clear H1
        by_cases c27 : 0 ≤ (l1_2.length : Int)
        · rw [if_pos c27] at H
          have c27b0 := eq_true c27
          have c27b1 : decide (0 ≤ (l1_2.length : Int)) = true := decide_eq_true c27
          clear c27
          by_cases c28 : ((l1_2.length : Int) : Int).toNat ≤ 70368744177664
          · rw [if_pos c28] at H
            have c28b0 := eq_true c28
            have c28b1 : decide (((l1_2.length : Int) : Int).toNat ≤ 70368744177664) = true := decide_eq_true c28
            clear c28
            obtain ⟨y132, hy132⟩ : ∃ y_ : List Int, y_ = (List.replicate ((l1_2.length : Int) : Int).toNat 0) := ⟨_, rfl⟩
            replace H : (cross_way_turn__cross_forth.l0 kj4 l1_2 (l1_2.length : Int) 0 a1_0 a1_1 l1_2 a1_0 a1_1 y132 a1_0 a2 l3) = some (r1, r2, r3, r4) := by first | (rw [hy132]; with_reducible exact H) | (have H2_ := (Option.bind_some _ _).symm.trans H; rw [hy132]; with_reducible exact H2_) | (have H2_ := (Option.bind_some _ _).symm.trans H; with_reducible exact H2_) | with_reducible exact H | (rw [hy132]; exact H) | exact H
            have Ny132 := Aside0.mk hy132
            clear hy132
            have H' := Aside0.mk H
            clear H
            try go_wp2
            have n0_ := Aside0.mk (blk_drew BK127.out)
            have n1_ := Aside0.mk (blk_drew BK128.out)
            have n2_ := Aside0.mk (below_drew1 HB.out)
            clear BK127
            clear BK128
            clear HB
            have BK127 := n0_
            have BK128 := n1_
            have HB := n2_
            clear n0_ n1_ n2_
            refine start_ (n := 11) (S := fun w' => w'.cell? ⟨gb127, 0, none⟩ = some (.int .i64 a1_0) ∧ w'.cell? ⟨gb127, 1, none⟩ = some (.int .i64 a1_1) ∧ w'.cell? ⟨gb127, 2, none⟩ = some (.slice A1_2 l1_2.length c1_2)) (ds := []) #[false, false, false, false, false, false, false, false, false, false, false] (by kernel_rfl) rfl rfl ⟨(blk_cell BK127.out 0).trans rfl, (blk_cell BK127.out 1).trans rfl, (blk_cell BK127.out 2).trans rfl⟩ (fun hHeld => ?_); refine with_tabW cross_way_turn__cross_forth.tab3 cross_way_turn__cross_forth.bits3 (fun HT_ HW_ => ?_)
            generalize wc.drew = w29 at BK127 BK128 HB hHeld ⊢
            refine pure_ (i := 0) (N := some 32) (v := ?_) (a' := ?_) #[true, false, false, false, false, false, false, false, false, false, false] rfl rfl (any_of HT_.out (by kernel_rfl)) (fun _ _ _ h => h) (Or.inl ⟨by rfl, ?_⟩) ?_ ?_
            rotate_left
            · intro w'
              go_simp
              with_reducible rfl
            rotate_left
            · simp only [Act.put, List.setIfInBounds_toArray, List.set_cons_zero, List.set_cons_succ, i64_w, i32_w]
              rfl
            refine pure_ (i := 2) (N := some 34) (v := ?_) (a' := ?_) #[true, false, true, false, false, false, false, false, false, false, false] rfl rfl (any_of HT_.out (by kernel_rfl)) (fun _ _ _ h => h) (Or.inl ⟨by rfl, ?_⟩) ?_ ?_
            rotate_left
            · intro w'
              go_simp
              with_reducible rfl
            rotate_left
            · simp only [Act.put, List.setIfInBounds_toArray, List.set_cons_zero, List.set_cons_succ, i64_w, i32_w]
              rfl
            refine pure_ (i := 4) (N := some 36) (v := ?_) (a' := ?_) #[true, false, true, false, true, false, false, false, false, false, false] rfl rfl (any_of HT_.out (by kernel_rfl)) (fun _ _ _ h => h) (Or.inl ⟨by rfl, ?_⟩) ?_ ?_
            rotate_left
            · intro w'
              go_simp
              with_reducible rfl
            rotate_left
            · simp only [Act.put, List.setIfInBounds_toArray, List.set_cons_zero, List.set_cons_succ, i64_w, i32_w]
              rfl
            refine take_ (i := 1) (N := some 33) (v := ?_) (a' := ?_) #[true, true, true, false, true, false, false, false, false, false, false] rfl rfl (take_ofW HT_.out HW_.out (by kernel_rfl)) (fun _ _ _ h => h) (Or.inl ⟨by rfl, ?_⟩) hHeld ?_ ?_
            rotate_left
            · rintro w' ⟨s0, s1, s2⟩
              go_simp
              with_reducible rfl
            rotate_left
            · simp only [Act.put, List.setIfInBounds_toArray, List.set_cons_zero, List.set_cons_succ, i64_w, i32_w]
              rfl
            refine take_ (i := 3) (N := some 35) (v := ?_) (a' := ?_) #[true, true, true, true, true, false, false, false, false, false, false] rfl rfl (take_ofW HT_.out HW_.out (by kernel_rfl)) (fun _ _ _ h => h) (Or.inl ⟨by rfl, ?_⟩) hHeld ?_ ?_
            rotate_left
            · rintro w' ⟨s0, s1, s2⟩
              go_simp
              with_reducible rfl
            rotate_left
            · simp only [Act.put, List.setIfInBounds_toArray, List.set_cons_zero, List.set_cons_succ, i64_w, i32_w]
              rfl
            refine take_ (i := 5) (N := some 37) (v := ?_) (a' := ?_) #[true, true, true, true, true, true, false, false, false, false, false] rfl rfl (take_ofW HT_.out HW_.out (by kernel_rfl)) (fun _ _ _ h => h) (Or.inl ⟨by rfl, ?_⟩) hHeld ?_ ?_
            rotate_left
            · rintro w' ⟨s0, s1, s2⟩
              go_simp
              with_reducible rfl
            rotate_left
            · simp only [Act.put, List.setIfInBounds_toArray, List.set_cons_zero, List.set_cons_succ, i64_w, i32_w]
              rfl
            refine pure_ (i := 6) (N := some 38) (v := ?_) (a' := ?_) #[true, true, true, true, true, true, true, false, false, false, false] rfl rfl (any_of HT_.out (by kernel_rfl)) (fun _ _ _ h => h) (Or.inl ⟨by rfl, ?_⟩) ?_ ?_
            rotate_left
            · intro w'
              go_simp
              with_reducible rfl
            rotate_left
            · simp only [Act.put, List.setIfInBounds_toArray, List.set_cons_zero, List.set_cons_succ, i64_w, i32_w]
              rfl
            refine join_ (σ := Value × Nat) 1 #[true, true, true, true, true, true, true, true, true, true, false] (fun s_ => [(39, s_.1), (10, .pointer (some ⟨s_.2, 0, none⟩)), (40, .agg #[.int .i64 a1_0, .int .i64 a1_1, s_.1])]) (fun s_ w' => (w'.cell? ⟨gb127, 0, none⟩ = some (.int .i64 a1_0) ∧ w'.cell? ⟨gb127, 1, none⟩ = some (.int .i64 a1_1) ∧ w'.cell? ⟨gb127, 2, none⟩ = some (.slice A1_2 l1_2.length c1_2)) ∧ (Kd.R (Kd.int .u32) 25 w' w.heap.size (fun _ => True) s_.1 y132) ∧ (w'.heap[gb127]? = some (.cells #[.int .i64 a1_0, .int .i64 a1_1, .slice A1_2 l1_2.length c1_2] 35 (0, 0))) ∧ (w'.heap[gb128]? = some (.cells #[.int .i64 0, .int .i64 0, .slice none 0 0] 35 (0, 0))) ∧ (w'.heap[s_.2]? = some (.cells #[.int .i64 0, .int .i64 0, .slice none 0 0] 35 (0, 0))) ∧ (w.heap.size ≤ s_.2) ∧ (w.heap.size ≤ s_.2) ∧ (gb127 ≠ s_.2) ∧ (s_.2 ≠ gb127) ∧ (gb128 ≠ s_.2) ∧ (s_.2 ≠ gb128) ∧ (Below w.heap.size w w')) ?_ ?_
            rotate_left
            · intro hCont
              refine two_ (i := 7) (j := 9) (Ni := some 39) (Nj := some 10) #[true, true, true, true, true, true, true, true, false, false, false] #[true, true, true, true, true, true, true, false, false, true, false] rfl rfl rfl rfl (two_of HT_.out (by kernel_rfl)) (by decide) (by decide) (fun K hK => ?_) (fun K hK => ?_)
              · skip
                refine Kd.R_make_step (Kd.int .u32) _ 25 (by rfl) (N := 39) rfl 33 _ _ rfl (l1_2.length : Int) rfl rfl Try.underlying33 (.int .u32 0) 4 info25 rfl (by decide) (by omega) 0 (ok := fun _ => True) (okp := fun _ => True) rfl (fun _ hk => hk) trivial (of_decide_eq_true (by first | (with_reducible assumption) | assumption)) (Nat.le_trans (Nat.mul_le_mul_right _ (of_decide_eq_true (by first | (with_reducible assumption) | assumption) : (l1_2.length : Int).toNat ≤ 70368744177664)) (by omega)) (Below.refl _ _) (Nat.le_refl _) ?_
                intro v133 w30 ho31 hb hg_ hnew_
                clear hg_ hnew_
                (first | rw [← Ny132.out] at ho31 | (simp only [Int.reduceToNat] at ho31; rw [← Ny132.out] at ho31))
                have n0_ := Aside0.mk (Kd.R_lower ho31 (below_size (by repeat (first | (with_reducible first | exact HB.out | apply below_alloc | apply pw_below_drewN | apply below_drew1 | refine below_set ?_ GE127.out | refine below_set ?_ GE128.out) | exact HB.out))))
                have n1_ := Aside0.mk (blk_below (g := gb127) (o := .cells #[.int .i64 a1_0, .int .i64 a1_1, .slice A1_2 l1_2.length c1_2] 35 (0, 0)) (by (with_reducible repeat (first | refine blk_drewN ?_ _ | refine blk_drew ?_ | refine blk_alloc ?_ _)); exact BK127.out) hb)
                have n2_ := Aside0.mk (blk_below (g := gb128) (o := .cells #[.int .i64 0, .int .i64 0, .slice none 0 0] 35 (0, 0)) (by (with_reducible repeat (first | refine blk_drewN ?_ _ | refine blk_drew ?_ | refine blk_alloc ?_ _)); exact BK128.out) hb)
                have n3_ := Aside0.mk (below_step (by repeat (first | (with_reducible first | exact HB.out | apply below_alloc | apply pw_below_drewN | apply below_drew1 | refine below_set ?_ GE127.out | refine below_set ?_ GE128.out) | exact HB.out)) hb)
                clear BK127
                clear BK128
                clear HB
                have HO134 := n0_
                have BK127 := n1_
                have BK128 := n2_
                have HB := n3_
                clear n0_ n1_ n2_ n3_
                clear hb ho31
                obtain ⟨Ao32, co32, eo32⟩ := Kd.R_slice HO134.out
                (first | subst eo32 | (injection eo32 with f1_ f2_ f3_; have f4_ := f1_.symm; have f5_ := f3_.symm; clear f1_ f2_ f3_; subst f4_; subst f5_))
                refine hK.out _ _ ⟨(blk_cell BK127.out 0).trans rfl, (blk_cell BK127.out 1).trans rfl, (blk_cell BK127.out 2).trans rfl⟩ (fun hHeld => ?_)
                clear hK K
                refine norm_ (a' := ?_) ?_ ?_
                rotate_left
                · show Act.put _ (some 39) _ = _
                  simp only [Act.put, List.setIfInBounds_toArray, List.set_cons_zero, List.set_cons_succ, i64_w, i32_w]
                  rfl
                refine pure_ (i := 8) (N := some 40) (v := ?_) (a' := ?_) #[true, true, true, true, true, true, true, true, true, false, false] rfl rfl (any_of HT_.out (by kernel_rfl)) (fun _ _ _ h => h) (Or.inl ⟨by rfl, ?_⟩) ?_ ?_
                rotate_left
                · intro w'
                  go_simp
                  with_reducible rfl
                rotate_left
                · simp only [Act.put, List.setIfInBounds_toArray, List.set_cons_zero, List.set_cons_succ, i64_w, i32_w]
                  rfl
                refine one_ (i := 9) (N := some 10) #[true, true, true, true, true, true, true, true, true, true, false] rfl rfl (one_of HT_.out (by kernel_rfl)) (by decide) (fun K hK => ?_)
                refine box_step ?hg (N := 10) ?hd (cs := #[.int .i64 0, .int .i64 0, .slice none 0 0]) (t := 35) ?hr ?_; (case hd => rfl); (case hg => rfl); (case hr => first | (go_simp; done) | (go_simp; rfl))
                intro gb135 hg w33 hbox hb
                have n0_ := Aside0.mk (Kd.R_below (by (with_reducible repeat (first | apply Kd.R_alloc | apply Kd.R_drewN | apply Kd.R_drew)); exact HO134.out) hb)
                have n1_ := Aside0.mk (blk_below (g := gb127) (o := .cells #[.int .i64 a1_0, .int .i64 a1_1, .slice A1_2 l1_2.length c1_2] 35 (0, 0)) (by (with_reducible repeat (first | refine blk_drewN ?_ _ | refine blk_drew ?_ | refine blk_alloc ?_ _)); exact BK127.out) hb)
                have n2_ := Aside0.mk (blk_below (g := gb128) (o := .cells #[.int .i64 0, .int .i64 0, .slice none 0 0] 35 (0, 0)) (by (with_reducible repeat (first | refine blk_drewN ?_ _ | refine blk_drew ?_ | refine blk_alloc ?_ _)); exact BK128.out) hb)
                have n3_ := Aside0.mk (below_step (by repeat (first | (with_reducible first | exact HB.out | apply below_alloc | apply pw_below_drewN | apply below_drew1 | refine below_set ?_ GE127.out | refine below_set ?_ GE128.out) | exact HB.out)) hb)
                have n4_ := Aside0.mk (hbox)
                have n5_ := Aside0.mk ((by rw [hg]; exact (below_size (by repeat (first | (with_reducible first | exact HB.out | apply below_alloc | apply pw_below_drewN | apply below_drew1 | refine below_set ?_ GE127.out | refine below_set ?_ GE128.out) | exact HB.out))) : w.heap.size ≤ gb135))
                have n6_ := Aside0.mk ((by rw [hg]; exact (below_size (by repeat (first | (with_reducible first | exact HB.out | apply below_alloc | apply pw_below_drewN | apply below_drew1 | refine below_set ?_ GE127.out | refine below_set ?_ GE128.out) | exact HB.out))) : w.heap.size ≤ gb135))
                have n7_ := Aside0.mk ((by rw [hg]; exact Nat.ne_of_lt (blk_lt (g := gb127) (o := .cells #[.int .i64 a1_0, .int .i64 a1_1, .slice A1_2 l1_2.length c1_2] 35 (0, 0)) (by (with_reducible repeat (first | refine blk_drewN ?_ _ | refine blk_drew ?_ | refine blk_alloc ?_ _)); exact BK127.out)) : gb127 ≠ gb135))
                have n8_ := Aside0.mk ((by rw [hg]; exact Nat.ne_of_gt (blk_lt (g := gb127) (o := .cells #[.int .i64 a1_0, .int .i64 a1_1, .slice A1_2 l1_2.length c1_2] 35 (0, 0)) (by (with_reducible repeat (first | refine blk_drewN ?_ _ | refine blk_drew ?_ | refine blk_alloc ?_ _)); exact BK127.out)) : gb135 ≠ gb127))
                have n9_ := Aside0.mk ((by rw [hg]; exact Nat.ne_of_lt (blk_lt (g := gb128) (o := .cells #[.int .i64 0, .int .i64 0, .slice none 0 0] 35 (0, 0)) (by (with_reducible repeat (first | refine blk_drewN ?_ _ | refine blk_drew ?_ | refine blk_alloc ?_ _)); exact BK128.out)) : gb128 ≠ gb135))
                have n10_ := Aside0.mk ((by rw [hg]; exact Nat.ne_of_gt (blk_lt (g := gb128) (o := .cells #[.int .i64 0, .int .i64 0, .slice none 0 0] 35 (0, 0)) (by (with_reducible repeat (first | refine blk_drewN ?_ _ | refine blk_drew ?_ | refine blk_alloc ?_ _)); exact BK128.out)) : gb135 ≠ gb128))
                clear HO134
                clear BK127
                clear BK128
                clear HB
                have HO134 := n0_
                have BK127 := n1_
                have BK128 := n2_
                have HB := n3_
                have BK135 := n4_
                have GW135 := n5_
                have GE135 := n6_
                have NB127_135 := n7_
                have NB135_127 := n8_
                have NB128_135 := n9_
                have NB135_128 := n10_
                clear n0_ n1_ n2_ n3_ n4_ n5_ n6_ n7_ n8_ n9_ n10_
                clear hb hbox hg
                refine hK.out _ _ ⟨(blk_cell BK127.out 0).trans rfl, (blk_cell BK127.out 1).trans rfl, (blk_cell BK127.out 2).trans rfl⟩ (fun hHeld => ?_)
                clear hK K
                refine norm_ (a' := ?_) ?_ ?_
                rotate_left
                · show Act.put _ (some 10) _ = _
                  simp only [Act.put, List.setIfInBounds_toArray, List.set_cons_zero, List.set_cons_succ, i64_w, i32_w]
                  rfl
                exact norm_ (by simp only [putAll, Act.put, List.setIfInBounds_toArray, List.set_cons_zero, List.set_cons_succ]) (hCont (.slice Ao32 y132.length co32, gb135) _ ⟨hHeld, (by (with_reducible repeat (first | apply Kd.R_alloc | apply Kd.R_drewN | apply Kd.R_drew)); exact HO134.out), (by (with_reducible repeat (first | refine blk_drewN ?_ _ | refine blk_drew ?_ | refine blk_alloc ?_ _)); exact BK127.out), (by (with_reducible repeat (first | refine blk_drewN ?_ _ | refine blk_drew ?_ | refine blk_alloc ?_ _)); exact BK128.out), (by (with_reducible repeat (first | refine blk_drewN ?_ _ | refine blk_drew ?_ | refine blk_alloc ?_ _)); exact BK135.out), GW135.out, GE135.out, NB127_135.out, NB135_127.out, NB128_135.out, NB135_128.out, (by repeat (first | (with_reducible first | exact HB.out | apply below_alloc | apply pw_below_drewN | apply below_drew1 | refine below_set ?_ GE127.out | refine below_set ?_ GE128.out | refine below_set ?_ GE135.out) | exact HB.out))⟩)
              · skip
                refine box_step ?hg (N := 10) ?hd (cs := #[.int .i64 0, .int .i64 0, .slice none 0 0]) (t := 35) ?hr ?_; (case hd => rfl); (case hg => rfl); (case hr => first | (go_simp; done) | (go_simp; rfl))
                intro gb135 hg w30 hbox hb
                have n0_ := Aside0.mk (blk_below (g := gb127) (o := .cells #[.int .i64 a1_0, .int .i64 a1_1, .slice A1_2 l1_2.length c1_2] 35 (0, 0)) (by (with_reducible repeat (first | refine blk_drewN ?_ _ | refine blk_drew ?_ | refine blk_alloc ?_ _)); exact BK127.out) hb)
                have n1_ := Aside0.mk (blk_below (g := gb128) (o := .cells #[.int .i64 0, .int .i64 0, .slice none 0 0] 35 (0, 0)) (by (with_reducible repeat (first | refine blk_drewN ?_ _ | refine blk_drew ?_ | refine blk_alloc ?_ _)); exact BK128.out) hb)
                have n2_ := Aside0.mk (below_step (by repeat (first | (with_reducible first | exact HB.out | apply below_alloc | apply pw_below_drewN | apply below_drew1 | refine below_set ?_ GE127.out | refine below_set ?_ GE128.out) | exact HB.out)) hb)
                have n3_ := Aside0.mk (hbox)
                have n4_ := Aside0.mk ((by rw [hg]; exact (below_size (by repeat (first | (with_reducible first | exact HB.out | apply below_alloc | apply pw_below_drewN | apply below_drew1 | refine below_set ?_ GE127.out | refine below_set ?_ GE128.out) | exact HB.out))) : w.heap.size ≤ gb135))
                have n5_ := Aside0.mk ((by rw [hg]; exact (below_size (by repeat (first | (with_reducible first | exact HB.out | apply below_alloc | apply pw_below_drewN | apply below_drew1 | refine below_set ?_ GE127.out | refine below_set ?_ GE128.out) | exact HB.out))) : w.heap.size ≤ gb135))
                have n6_ := Aside0.mk ((by rw [hg]; exact Nat.ne_of_lt (blk_lt (g := gb127) (o := .cells #[.int .i64 a1_0, .int .i64 a1_1, .slice A1_2 l1_2.length c1_2] 35 (0, 0)) (by (with_reducible repeat (first | refine blk_drewN ?_ _ | refine blk_drew ?_ | refine blk_alloc ?_ _)); exact BK127.out)) : gb127 ≠ gb135))
                have n7_ := Aside0.mk ((by rw [hg]; exact Nat.ne_of_gt (blk_lt (g := gb127) (o := .cells #[.int .i64 a1_0, .int .i64 a1_1, .slice A1_2 l1_2.length c1_2] 35 (0, 0)) (by (with_reducible repeat (first | refine blk_drewN ?_ _ | refine blk_drew ?_ | refine blk_alloc ?_ _)); exact BK127.out)) : gb135 ≠ gb127))
                have n8_ := Aside0.mk ((by rw [hg]; exact Nat.ne_of_lt (blk_lt (g := gb128) (o := .cells #[.int .i64 0, .int .i64 0, .slice none 0 0] 35 (0, 0)) (by (with_reducible repeat (first | refine blk_drewN ?_ _ | refine blk_drew ?_ | refine blk_alloc ?_ _)); exact BK128.out)) : gb128 ≠ gb135))
                have n9_ := Aside0.mk ((by rw [hg]; exact Nat.ne_of_gt (blk_lt (g := gb128) (o := .cells #[.int .i64 0, .int .i64 0, .slice none 0 0] 35 (0, 0)) (by (with_reducible repeat (first | refine blk_drewN ?_ _ | refine blk_drew ?_ | refine blk_alloc ?_ _)); exact BK128.out)) : gb135 ≠ gb128))
                clear BK127
                clear BK128
                clear HB
                have BK127 := n0_
                have BK128 := n1_
                have HB := n2_
                have BK135 := n3_
                have GW135 := n4_
                have GE135 := n5_
                have NB127_135 := n6_
                have NB135_127 := n7_
                have NB128_135 := n8_
                have NB135_128 := n9_
                clear n0_ n1_ n2_ n3_ n4_ n5_ n6_ n7_ n8_ n9_
                clear hb hbox hg
                refine hK.out _ _ ⟨(blk_cell BK127.out 0).trans rfl, (blk_cell BK127.out 1).trans rfl, (blk_cell BK127.out 2).trans rfl⟩ (fun hHeld => ?_)
                clear hK K
                refine norm_ (a' := ?_) ?_ ?_
                rotate_left
                · show Act.put _ (some 10) _ = _
                  simp only [Act.put, List.setIfInBounds_toArray, List.set_cons_zero, List.set_cons_succ, i64_w, i32_w]
                  rfl
                refine one_ (i := 7) (N := some 39) #[true, true, true, true, true, true, true, true, false, true, false] rfl rfl (one_of HT_.out (by kernel_rfl)) (by decide) (fun K hK => ?_)
                refine Kd.R_make_step (Kd.int .u32) _ 25 (by rfl) (N := 39) rfl 33 _ _ rfl (l1_2.length : Int) rfl rfl Try.underlying33 (.int .u32 0) 4 info25 rfl (by decide) (by omega) 0 (ok := fun _ => True) (okp := fun _ => True) rfl (fun _ hk => hk) trivial (of_decide_eq_true (by first | (with_reducible assumption) | assumption)) (Nat.le_trans (Nat.mul_le_mul_right _ (of_decide_eq_true (by first | (with_reducible assumption) | assumption) : (l1_2.length : Int).toNat ≤ 70368744177664)) (by omega)) (Below.refl _ _) (Nat.le_refl _) ?_
                intro v133 w31 ho32 hb hg_ hnew_
                clear hg_ hnew_
                (first | rw [← Ny132.out] at ho32 | (simp only [Int.reduceToNat] at ho32; rw [← Ny132.out] at ho32))
                have n0_ := Aside0.mk (Kd.R_lower ho32 (below_size (by repeat (first | (with_reducible first | exact HB.out | apply below_alloc | apply pw_below_drewN | apply below_drew1 | refine below_set ?_ GE127.out | refine below_set ?_ GE128.out | refine below_set ?_ GE135.out) | exact HB.out))))
                have n1_ := Aside0.mk (blk_below (g := gb127) (o := .cells #[.int .i64 a1_0, .int .i64 a1_1, .slice A1_2 l1_2.length c1_2] 35 (0, 0)) (by (with_reducible repeat (first | refine blk_drewN ?_ _ | refine blk_drew ?_ | refine blk_alloc ?_ _)); exact BK127.out) hb)
                have n2_ := Aside0.mk (blk_below (g := gb128) (o := .cells #[.int .i64 0, .int .i64 0, .slice none 0 0] 35 (0, 0)) (by (with_reducible repeat (first | refine blk_drewN ?_ _ | refine blk_drew ?_ | refine blk_alloc ?_ _)); exact BK128.out) hb)
                have n3_ := Aside0.mk (blk_below (g := gb135) (o := .cells #[.int .i64 0, .int .i64 0, .slice none 0 0] 35 (0, 0)) (by (with_reducible repeat (first | refine blk_drewN ?_ _ | refine blk_drew ?_ | refine blk_alloc ?_ _)); exact BK135.out) hb)
                have n4_ := Aside0.mk (below_step (by repeat (first | (with_reducible first | exact HB.out | apply below_alloc | apply pw_below_drewN | apply below_drew1 | refine below_set ?_ GE127.out | refine below_set ?_ GE128.out | refine below_set ?_ GE135.out) | exact HB.out)) hb)
                clear BK127
                clear BK128
                clear BK135
                clear HB
                have HO134 := n0_
                have BK127 := n1_
                have BK128 := n2_
                have BK135 := n3_
                have HB := n4_
                clear n0_ n1_ n2_ n3_ n4_
                clear hb ho32
                obtain ⟨Ao33, co33, eo33⟩ := Kd.R_slice HO134.out
                (first | subst eo33 | (injection eo33 with f1_ f2_ f3_; have f4_ := f1_.symm; have f5_ := f3_.symm; clear f1_ f2_ f3_; subst f4_; subst f5_))
                refine hK.out _ _ ⟨(blk_cell BK127.out 0).trans rfl, (blk_cell BK127.out 1).trans rfl, (blk_cell BK127.out 2).trans rfl⟩ (fun hHeld => ?_)
                clear hK K
                refine norm_ (a' := ?_) ?_ ?_
                rotate_left
                · show Act.put _ (some 39) _ = _
                  simp only [Act.put, List.setIfInBounds_toArray, List.set_cons_zero, List.set_cons_succ, i64_w, i32_w]
                  rfl
                refine pure_ (i := 8) (N := some 40) (v := ?_) (a' := ?_) #[true, true, true, true, true, true, true, true, true, true, false] rfl rfl (any_of HT_.out (by kernel_rfl)) (fun _ _ _ h => h) (Or.inl ⟨by rfl, ?_⟩) ?_ ?_
                rotate_left
                · intro w'
                  go_simp
                  with_reducible rfl
                rotate_left
                · simp only [Act.put, List.setIfInBounds_toArray, List.set_cons_zero, List.set_cons_succ, i64_w, i32_w]
                  rfl
                exact norm_ (by simp only [putAll, Act.put, List.setIfInBounds_toArray, List.set_cons_zero, List.set_cons_succ]) (hCont (.slice Ao33 y132.length co33, gb135) _ ⟨hHeld, (by (with_reducible repeat (first | apply Kd.R_alloc | apply Kd.R_drewN | apply Kd.R_drew)); exact HO134.out), (by (with_reducible repeat (first | refine blk_drewN ?_ _ | refine blk_drew ?_ | refine blk_alloc ?_ _)); exact BK127.out), (by (with_reducible repeat (first | refine blk_drewN ?_ _ | refine blk_drew ?_ | refine blk_alloc ?_ _)); exact BK128.out), (by (with_reducible repeat (first | refine blk_drewN ?_ _ | refine blk_drew ?_ | refine blk_alloc ?_ _)); exact BK135.out), GW135.out, GE135.out, NB127_135.out, NB135_127.out, NB128_135.out, NB135_128.out, (by repeat (first | (with_reducible first | exact HB.out | apply below_alloc | apply pw_below_drewN | apply below_drew1 | refine below_set ?_ GE127.out | refine below_set ?_ GE128.out | refine below_set ?_ GE135.out) | exact HB.out))⟩)
            rintro ⟨v133, gb135⟩ w34 ⟨hS_, h0_, h1_, h2_, h3_, h4_, h5_, h6_, h7_, h8_, h9_, h10_⟩
            have n0_ : Aside0 (Kd.R (Kd.int .u32) 25 w34 w.heap.size (fun _ => True) v133 y132) := ⟨h0_⟩
            have n1_ : Aside0 (w34.heap[gb127]? = some (.cells #[.int .i64 a1_0, .int .i64 a1_1, .slice A1_2 l1_2.length c1_2] 35 (0, 0))) := ⟨h1_⟩
            have n2_ : Aside0 (w34.heap[gb128]? = some (.cells #[.int .i64 0, .int .i64 0, .slice none 0 0] 35 (0, 0))) := ⟨h2_⟩
            have n3_ : Aside0 (w34.heap[gb135]? = some (.cells #[.int .i64 0, .int .i64 0, .slice none 0 0] 35 (0, 0))) := ⟨h3_⟩
            have n4_ : Aside0 (w.heap.size ≤ gb135) := ⟨h4_⟩
            have n5_ : Aside0 (w.heap.size ≤ gb135) := ⟨h5_⟩
            have n6_ : Aside0 (gb127 ≠ gb135) := ⟨h6_⟩
            have n7_ : Aside0 (gb135 ≠ gb127) := ⟨h7_⟩
            have n8_ : Aside0 (gb128 ≠ gb135) := ⟨h8_⟩
            have n9_ : Aside0 (gb135 ≠ gb128) := ⟨h9_⟩
            have n10_ : Aside0 (Below w.heap.size w w34) := ⟨h10_⟩
            clear BK127
            clear BK128
            clear HB
            clear h0_ h1_ h2_ h3_ h4_ h5_ h6_ h7_ h8_ h9_ h10_
            have HO134 := n0_
            have BK127 := n1_
            have BK128 := n2_
            have BK135 := n3_
            have GW135 := n4_
            have GE135 := n5_
            have NB127_135 := n6_
            have NB135_127 := n7_
            have NB128_135 := n8_
            have NB135_128 := n9_
            have HB := n10_
            clear n0_ n1_ n2_ n3_ n4_ n5_ n6_ n7_ n8_ n9_ n10_
            have hHeld : w34.cell? ⟨gb127, 0, none⟩ = some (.int .i64 a1_0) ∧ w34.cell? ⟨gb127, 1, none⟩ = some (.int .i64 a1_1) ∧ w34.cell? ⟨gb127, 2, none⟩ = some (.slice A1_2 l1_2.length c1_2) := hS_
            obtain ⟨Ao35, co35, eo35⟩ := Kd.R_slice HO134.out
            (first | subst eo35 | (injection eo35 with f1_ f2_ f3_; have f4_ := f1_.symm; have f5_ := f3_.symm; clear f1_ f2_ f3_; subst f4_; subst f5_))
            refine norm_ (a' := ?_) ?_ ?_
            rotate_left
            · simp only [putAll, Act.put, List.setIfInBounds_toArray, List.set_cons_zero, List.set_cons_succ]
              rfl
            refine one_ (i := 10) (N := none) #[true, true, true, true, true, true, true, true, true, true, true] rfl rfl (one_of HT_.out (by kernel_rfl)) (by decide) (fun K hK => ?_)
            have hs36 : w34.cell? ⟨gb135, 0, none⟩ = some (.int .i64 0) := (blk_cell BK135.out 0).trans rfl
            have hfs36 := blk_frozen BK135.out 0
            have hns36_0 := NB127_135.out
            have hns36_1 := NB128_135.out
            have hms36_0 := NB135_127.out
            have hms36_1 := NB135_128.out
            have hs37 : w34.cell? ⟨gb135, 1, none⟩ = some (.int .i64 0) := (blk_cell BK135.out 1).trans rfl
            have hfs37 := blk_frozen BK135.out 1
            have hns37_0 := NB127_135.out
            have hns37_1 := NB128_135.out
            have hms37_0 := NB135_127.out
            have hms37_1 := NB135_128.out
            have hs38 : w34.cell? ⟨gb135, 2, none⟩ = some (.slice none 0 0) := (blk_cell BK135.out 2).trans rfl
            have hfs38 := blk_frozen BK135.out 2
            have hns38_0 := NB127_135.out
            have hns38_1 := NB128_135.out
            have hms38_0 := NB135_127.out
            have hms38_1 := NB135_128.out
            refine skip_ (w1 := ?_) (by rfl) rfl ?_ ?_
            rotate_left
            · go_simp
              rfl
            refine hK.out _ _ ⟨((cell_far (p := ⟨gb135, _, none⟩) NB127_135.out _).trans (((cell_far (p := ⟨gb135, _, none⟩) NB127_135.out _).trans (((cell_far (p := ⟨gb135, _, none⟩) NB127_135.out _).trans (hHeld.1)))))), ((cell_far (p := ⟨gb135, _, none⟩) NB127_135.out _).trans (((cell_far (p := ⟨gb135, _, none⟩) NB127_135.out _).trans (((cell_far (p := ⟨gb135, _, none⟩) NB127_135.out _).trans (hHeld.2.1)))))), ((cell_far (p := ⟨gb135, _, none⟩) NB127_135.out _).trans (((cell_far (p := ⟨gb135, _, none⟩) NB127_135.out _).trans (((cell_far (p := ⟨gb135, _, none⟩) NB127_135.out _).trans (hHeld.2.2))))))⟩ (fun hHeld => ?_)
            clear hK K
            refine done_ (done_of HT_.out (by kernel_rfl)) ?_
            have hnb39 := NB127_128.out
            have hnc39 := NB128_127.out
            have hnb40 := NB127_135.out
            have hnc40 := NB135_127.out
            have hcz41_0 : w34.cell? ⟨gb127, 0, none⟩ = some (.int .i64 a1_0) := (blk_cell BK127.out 0).trans rfl
            have hcz41_1 : w34.cell? ⟨gb127, 1, none⟩ = some (.int .i64 a1_1) := (blk_cell BK127.out 1).trans rfl
            have hcz41_2 : w34.cell? ⟨gb127, 2, none⟩ = some (.slice A1_2 l1_2.length c1_2) := (blk_cell BK127.out 2).trans rfl
            have hfz41_0 := blk_frozen BK127.out 0
            have hfz41_1 := blk_frozen BK127.out 1
            have hfz41_2 := blk_frozen BK127.out 2
            try go_wp2_with (first | ((with_reducible refine gate_dst (N := 11) rfl ?_); (try (refine gate_guard (by rfl) ?_; dsimp only)); refine box_event ?hg (N := 11) ?hd (cs := #[.int .i64 0, .int .i64 0, .slice none 0 0]) (t := 54) ?hr ?_; (case hd => rfl); (case hg => rfl); (case hr => first | (go_simp; done) | (go_simp; rfl)); intro gb136 hg w42 hbox hb; have n0_ := Aside0.mk (Kd.R_below (by (with_reducible repeat (first | apply Kd.R_alloc | apply Kd.R_drewN | apply Kd.R_drew)); exact (Kd.R_mono (Kd.R_far (p := ⟨gb135, 2, none⟩) (Kd.R_far (p := ⟨gb135, 1, none⟩) (Kd.R_far (p := ⟨gb135, 0, none⟩) (Kd.R_types HO134.out BK135.out (by decide)) (fun _ hk => hk.2) (.int .i64 a1_0)) (fun _ hk => hk.2) (.int .i64 a1_1)) (fun _ hk => hk.2) (.slice Ao35 y132.length co35)) (fun _ h_ => h_.1))) hb); have n1_ := Aside0.mk (blk_below (g := gb127) (o := .cells #[.int .i64 a1_0, .int .i64 a1_1, .slice A1_2 l1_2.length c1_2] 35 (0, 0)) (by (with_reducible repeat (first | refine blk_drewN ?_ _ | refine blk_drew ?_ | refine blk_alloc ?_ _)); refine blk_far ?_ NB127_135.out _; (with_reducible repeat (first | refine blk_drewN ?_ _ | refine blk_drew ?_ | refine blk_alloc ?_ _)); refine blk_far ?_ NB127_135.out _; (with_reducible repeat (first | refine blk_drewN ?_ _ | refine blk_drew ?_ | refine blk_alloc ?_ _)); refine blk_far ?_ NB127_135.out _; (with_reducible repeat (first | refine blk_drewN ?_ _ | refine blk_drew ?_ | refine blk_alloc ?_ _)); exact BK127.out) hb); have n2_ := Aside0.mk (blk_below (g := gb128) (o := .cells #[.int .i64 0, .int .i64 0, .slice none 0 0] 35 (0, 0)) (by (with_reducible repeat (first | refine blk_drewN ?_ _ | refine blk_drew ?_ | refine blk_alloc ?_ _)); refine blk_far ?_ NB128_135.out _; (with_reducible repeat (first | refine blk_drewN ?_ _ | refine blk_drew ?_ | refine blk_alloc ?_ _)); refine blk_far ?_ NB128_135.out _; (with_reducible repeat (first | refine blk_drewN ?_ _ | refine blk_drew ?_ | refine blk_alloc ?_ _)); refine blk_far ?_ NB128_135.out _; (with_reducible repeat (first | refine blk_drewN ?_ _ | refine blk_drew ?_ | refine blk_alloc ?_ _)); exact BK128.out) hb); have n3_ := Aside0.mk (blk_below (g := gb135) (o := .cells #[.int .i64 a1_0, .int .i64 a1_1, .slice Ao35 y132.length co35] 35 (0, 0)) (by (with_reducible repeat (first | refine blk_drewN ?_ _ | refine blk_drew ?_ | refine blk_alloc ?_ _)); refine blk_put (cs := #[.int .i64 a1_0, .int .i64 a1_1, .slice none 0 0]) ?_ 2 _ rfl; (with_reducible repeat (first | refine blk_drewN ?_ _ | refine blk_drew ?_ | refine blk_alloc ?_ _)); refine blk_put (cs := #[.int .i64 a1_0, .int .i64 0, .slice none 0 0]) ?_ 1 _ rfl; (with_reducible repeat (first | refine blk_drewN ?_ _ | refine blk_drew ?_ | refine blk_alloc ?_ _)); refine blk_put (cs := #[.int .i64 0, .int .i64 0, .slice none 0 0]) ?_ 0 _ rfl; (with_reducible repeat (first | refine blk_drewN ?_ _ | refine blk_drew ?_ | refine blk_alloc ?_ _)); exact BK135.out) hb); have n4_ := Aside0.mk (below_step (by repeat (first | (with_reducible first | exact HB.out | apply below_alloc | apply pw_below_drewN | apply below_drew1 | refine below_set ?_ GE127.out | refine below_set ?_ GE128.out | refine below_set ?_ GE135.out) | exact HB.out)) hb); have n5_ := Aside0.mk (hbox); have n6_ := Aside0.mk ((by rw [hg]; exact (below_size (by repeat (first | (with_reducible first | exact HB.out | apply below_alloc | apply pw_below_drewN | apply below_drew1 | refine below_set ?_ GE127.out | refine below_set ?_ GE128.out | refine below_set ?_ GE135.out) | exact HB.out))) : w.heap.size ≤ gb136)); have n7_ := Aside0.mk ((by rw [hg]; exact (below_size (by repeat (first | (with_reducible first | exact HB.out | apply below_alloc | apply pw_below_drewN | apply below_drew1 | refine below_set ?_ GE127.out | refine below_set ?_ GE128.out | refine below_set ?_ GE135.out) | exact HB.out))) : w.heap.size ≤ gb136)); have n8_ := Aside0.mk ((by rw [hg]; exact Nat.ne_of_lt (blk_lt (g := gb127) (o := .cells #[.int .i64 a1_0, .int .i64 a1_1, .slice A1_2 l1_2.length c1_2] 35 (0, 0)) (by (with_reducible repeat (first | refine blk_drewN ?_ _ | refine blk_drew ?_ | refine blk_alloc ?_ _)); refine blk_far ?_ NB127_135.out _; (with_reducible repeat (first | refine blk_drewN ?_ _ | refine blk_drew ?_ | refine blk_alloc ?_ _)); refine blk_far ?_ NB127_135.out _; (with_reducible repeat (first | refine blk_drewN ?_ _ | refine blk_drew ?_ | refine blk_alloc ?_ _)); refine blk_far ?_ NB127_135.out _; (with_reducible repeat (first | refine blk_drewN ?_ _ | refine blk_drew ?_ | refine blk_alloc ?_ _)); exact BK127.out)) : gb127 ≠ gb136)); have n9_ := Aside0.mk ((by rw [hg]; exact Nat.ne_of_gt (blk_lt (g := gb127) (o := .cells #[.int .i64 a1_0, .int .i64 a1_1, .slice A1_2 l1_2.length c1_2] 35 (0, 0)) (by (with_reducible repeat (first | refine blk_drewN ?_ _ | refine blk_drew ?_ | refine blk_alloc ?_ _)); refine blk_far ?_ NB127_135.out _; (with_reducible repeat (first | refine blk_drewN ?_ _ | refine blk_drew ?_ | refine blk_alloc ?_ _)); refine blk_far ?_ NB127_135.out _; (with_reducible repeat (first | refine blk_drewN ?_ _ | refine blk_drew ?_ | refine blk_alloc ?_ _)); refine blk_far ?_ NB127_135.out _; (with_reducible repeat (first | refine blk_drewN ?_ _ | refine blk_drew ?_ | refine blk_alloc ?_ _)); exact BK127.out)) : gb136 ≠ gb127)); have n10_ := Aside0.mk ((by rw [hg]; exact Nat.ne_of_lt (blk_lt (g := gb128) (o := .cells #[.int .i64 0, .int .i64 0, .slice none 0 0] 35 (0, 0)) (by (with_reducible repeat (first | refine blk_drewN ?_ _ | refine blk_drew ?_ | refine blk_alloc ?_ _)); refine blk_far ?_ NB128_135.out _; (with_reducible repeat (first | refine blk_drewN ?_ _ | refine blk_drew ?_ | refine blk_alloc ?_ _)); refine blk_far ?_ NB128_135.out _; (with_reducible repeat (first | refine blk_drewN ?_ _ | refine blk_drew ?_ | refine blk_alloc ?_ _)); refine blk_far ?_ NB128_135.out _; (with_reducible repeat (first | refine blk_drewN ?_ _ | refine blk_drew ?_ | refine blk_alloc ?_ _)); exact BK128.out)) : gb128 ≠ gb136)); have n11_ := Aside0.mk ((by rw [hg]; exact Nat.ne_of_gt (blk_lt (g := gb128) (o := .cells #[.int .i64 0, .int .i64 0, .slice none 0 0] 35 (0, 0)) (by (with_reducible repeat (first | refine blk_drewN ?_ _ | refine blk_drew ?_ | refine blk_alloc ?_ _)); refine blk_far ?_ NB128_135.out _; (with_reducible repeat (first | refine blk_drewN ?_ _ | refine blk_drew ?_ | refine blk_alloc ?_ _)); refine blk_far ?_ NB128_135.out _; (with_reducible repeat (first | refine blk_drewN ?_ _ | refine blk_drew ?_ | refine blk_alloc ?_ _)); refine blk_far ?_ NB128_135.out _; (with_reducible repeat (first | refine blk_drewN ?_ _ | refine blk_drew ?_ | refine blk_alloc ?_ _)); exact BK128.out)) : gb136 ≠ gb128)); have n12_ := Aside0.mk ((by rw [hg]; exact Nat.ne_of_lt (blk_lt (g := gb135) (o := .cells #[.int .i64 a1_0, .int .i64 a1_1, .slice Ao35 y132.length co35] 35 (0, 0)) (by (with_reducible repeat (first | refine blk_drewN ?_ _ | refine blk_drew ?_ | refine blk_alloc ?_ _)); refine blk_put (cs := #[.int .i64 a1_0, .int .i64 a1_1, .slice none 0 0]) ?_ 2 _ rfl; (with_reducible repeat (first | refine blk_drewN ?_ _ | refine blk_drew ?_ | refine blk_alloc ?_ _)); refine blk_put (cs := #[.int .i64 a1_0, .int .i64 0, .slice none 0 0]) ?_ 1 _ rfl; (with_reducible repeat (first | refine blk_drewN ?_ _ | refine blk_drew ?_ | refine blk_alloc ?_ _)); refine blk_put (cs := #[.int .i64 0, .int .i64 0, .slice none 0 0]) ?_ 0 _ rfl; (with_reducible repeat (first | refine blk_drewN ?_ _ | refine blk_drew ?_ | refine blk_alloc ?_ _)); exact BK135.out)) : gb135 ≠ gb136)); have n13_ := Aside0.mk ((by rw [hg]; exact Nat.ne_of_gt (blk_lt (g := gb135) (o := .cells #[.int .i64 a1_0, .int .i64 a1_1, .slice Ao35 y132.length co35] 35 (0, 0)) (by (with_reducible repeat (first | refine blk_drewN ?_ _ | refine blk_drew ?_ | refine blk_alloc ?_ _)); refine blk_put (cs := #[.int .i64 a1_0, .int .i64 a1_1, .slice none 0 0]) ?_ 2 _ rfl; (with_reducible repeat (first | refine blk_drewN ?_ _ | refine blk_drew ?_ | refine blk_alloc ?_ _)); refine blk_put (cs := #[.int .i64 a1_0, .int .i64 0, .slice none 0 0]) ?_ 1 _ rfl; (with_reducible repeat (first | refine blk_drewN ?_ _ | refine blk_drew ?_ | refine blk_alloc ?_ _)); refine blk_put (cs := #[.int .i64 0, .int .i64 0, .slice none 0 0]) ?_ 0 _ rfl; (with_reducible repeat (first | refine blk_drewN ?_ _ | refine blk_drew ?_ | refine blk_alloc ?_ _)); exact BK135.out)) : gb136 ≠ gb135)); clear HO134; clear BK127; clear BK128; clear BK135; clear HB; have HO134 := n0_; have BK127 := n1_; have BK128 := n2_; have BK135 := n3_; have HB := n4_; have BK136 := n5_; have GW136 := n6_; have GE136 := n7_; have NB127_136 := n8_; have NB136_127 := n9_; have NB128_136 := n10_; have NB136_128 := n11_; have NB135_136 := n12_; have NB136_135 := n13_; clear n0_ n1_ n2_ n3_ n4_ n5_ n6_ n7_ n8_ n9_ n10_ n11_ n12_ n13_; clear hb hbox hg; have hnb43 := NB136_127.out; have hnc43 := NB127_136.out; have hnb44 := NB136_128.out; have hnc44 := NB128_136.out; have hnb45 := NB136_135.out; have hnc45 := NB135_136.out; have hcz46_0 : w42.cell? ⟨gb136, 0, none⟩ = some (.int .i64 0) := (blk_cell BK136.out 0).trans rfl; have hcz46_1 : w42.cell? ⟨gb136, 1, none⟩ = some (.int .i64 0) := (blk_cell BK136.out 1).trans rfl; have hcz46_2 : w42.cell? ⟨gb136, 2, none⟩ = some (.slice none 0 0) := (blk_cell BK136.out 2).trans rfl; have hfz46_0 := blk_frozen BK136.out 0; have hfz46_1 := blk_frozen BK136.out 1; have hfz46_2 := blk_frozen BK136.out 2; have hcz47_0 : w42.cell? ⟨gb127, 0, none⟩ = some (.int .i64 a1_0) := (blk_cell BK127.out 0).trans rfl; have hcz47_1 : w42.cell? ⟨gb127, 1, none⟩ = some (.int .i64 a1_1) := (blk_cell BK127.out 1).trans rfl; have hcz47_2 : w42.cell? ⟨gb127, 2, none⟩ = some (.slice A1_2 l1_2.length c1_2) := (blk_cell BK127.out 2).trans rfl; have hfz47_0 := blk_frozen BK127.out 0; have hfz47_1 := blk_frozen BK127.out 1; have hfz47_2 := blk_frozen BK127.out 2))
            go_loopg [49] kj4 (fun kq v49 w' => ∃ (x49_2 : Int) (x136002_2 : List Int) (u136002 : Value), v49 = .int .i64 x49_2 ∧ Aside0 (cross_way_turn__cross_forth.l0 kq l1_2 (l1_2.length : Int) x49_2 a1_0 a1_1 l1_2 a1_0 a1_1 x136002_2 a1_0 a2 l3 = some (r1, r2, r3, r4)) ∧ Aside0 (kq ≤ kj4) ∧ Aside0 (Kd.R (Kd.int .u32) 25 w' w.heap.size (fun _ => True) u136002 x136002_2) ∧ Aside0 (w'.heap[gb127]? = some (.cells #[.int .i64 a1_0, .int .i64 a1_1, (.slice A1_2 l1_2.length c1_2)] 35 (0, 0))) ∧ Aside0 (w'.heap[gb128]? = some (.cells #[.int .i64 0, .int .i64 0, (.slice none 0 0)] 35 (0, 0))) ∧ Aside0 (w'.heap[gb135]? = some (.cells #[.int .i64 a1_0, .int .i64 a1_1, u136002] 35 (0, 0))) ∧ Aside0 (w'.heap[gb136]? = some (.cells #[.int .i64 a1_0, .int .i64 a2, (.slice A3 l3.length c3)] 54 (0, 0))) ∧ Aside0 (Below w.heap.size w w'))
            case atStart => exact ⟨(0), (y132), (.slice Ao35 y132.length co35), (by first | rfl | (simp; done) | (simp [*]; done)), H', ⟨Nat.le_refl _⟩, ⟨by (with_reducible repeat (first | apply Kd.R_alloc | apply Kd.R_drewN | apply Kd.R_drew)); exact Kd.R_mono (Kd.R_far (p := ⟨gb136, 2, none⟩) (Kd.R_far (p := ⟨gb136, 1, none⟩) (Kd.R_far (p := ⟨gb136, 0, none⟩) (Kd.R_types HO134.out BK136.out (by decide)) (fun _ hk => hk.2) (.int .i64 a1_0)) (fun _ hk => hk.2) (.int .i64 a2)) (fun _ hk => hk.2) (.slice A3 l3.length c3)) (fun _ hk => trivial)⟩, ⟨by (with_reducible repeat (first | refine blk_drewN ?_ _ | refine blk_drew ?_ | refine blk_alloc ?_ _)); refine blk_far ?_ NB127_136.out _; (with_reducible repeat (first | refine blk_drewN ?_ _ | refine blk_drew ?_ | refine blk_alloc ?_ _)); refine blk_far ?_ NB127_136.out _; (with_reducible repeat (first | refine blk_drewN ?_ _ | refine blk_drew ?_ | refine blk_alloc ?_ _)); refine blk_far ?_ NB127_136.out _; (with_reducible repeat (first | refine blk_drewN ?_ _ | refine blk_drew ?_ | refine blk_alloc ?_ _)); exact BK127.out⟩, ⟨by (with_reducible repeat (first | refine blk_drewN ?_ _ | refine blk_drew ?_ | refine blk_alloc ?_ _)); refine blk_far ?_ NB128_136.out _; (with_reducible repeat (first | refine blk_drewN ?_ _ | refine blk_drew ?_ | refine blk_alloc ?_ _)); refine blk_far ?_ NB128_136.out _; (with_reducible repeat (first | refine blk_drewN ?_ _ | refine blk_drew ?_ | refine blk_alloc ?_ _)); refine blk_far ?_ NB128_136.out _; (with_reducible repeat (first | refine blk_drewN ?_ _ | refine blk_drew ?_ | refine blk_alloc ?_ _)); exact BK128.out⟩, ⟨by (with_reducible repeat (first | refine blk_drewN ?_ _ | refine blk_drew ?_ | refine blk_alloc ?_ _)); refine blk_far ?_ NB135_136.out _; (with_reducible repeat (first | refine blk_drewN ?_ _ | refine blk_drew ?_ | refine blk_alloc ?_ _)); refine blk_far ?_ NB135_136.out _; (with_reducible repeat (first | refine blk_drewN ?_ _ | refine blk_drew ?_ | refine blk_alloc ?_ _)); refine blk_far ?_ NB135_136.out _; (with_reducible repeat (first | refine blk_drewN ?_ _ | refine blk_drew ?_ | refine blk_alloc ?_ _)); exact BK135.out⟩, ⟨by (with_reducible repeat (first | refine blk_drewN ?_ _ | refine blk_drew ?_ | refine blk_alloc ?_ _)); refine blk_put (cs := #[.int .i64 a1_0, .int .i64 a2, .slice none 0 0]) ?_ 2 _ rfl; (with_reducible repeat (first | refine blk_drewN ?_ _ | refine blk_drew ?_ | refine blk_alloc ?_ _)); refine blk_put (cs := #[.int .i64 a1_0, .int .i64 0, .slice none 0 0]) ?_ 1 _ rfl; (with_reducible repeat (first | refine blk_drewN ?_ _ | refine blk_drew ?_ | refine blk_alloc ?_ _)); refine blk_put (cs := #[.int .i64 0, .int .i64 0, .slice none 0 0]) ?_ 0 _ rfl; (with_reducible repeat (first | refine blk_drewN ?_ _ | refine blk_drew ?_ | refine blk_alloc ?_ _)); exact BK136.out⟩, ⟨by repeat (first | (with_reducible first | exact HB.out | apply below_alloc | apply pw_below_drewN | apply below_drew1 | refine below_set ?_ GE127.out | refine below_set ?_ GE128.out | refine below_set ?_ GE135.out | refine below_set ?_ GE136.out) | exact HB.out)⟩⟩
            case round =>
              clear H'
              try clear c1
              try clear c2
              try clear p2
              try clear c3
              try clear c4
              try clear c9
              try clear c11
              try clear c13
              try clear c18
              try clear c21
              try clear c24
              try clear c25
              try clear c27
              try clear c27b0
              try clear c27b1
              try clear c28
              try clear c28b0
              try clear c28b1
              try clear c39
              try clear c40
              try clear c43
              try clear c44
              try clear c45
              try clear hcz14_0
              try clear hcz14_1
              try clear hcz14_2
              try clear hcz16_0
              try clear hcz16_1
              try clear hcz16_2
              try clear hcz19_0
              try clear hcz19_1
              try clear hcz19_2
              try clear hcz22_0
              try clear hcz22_1
              try clear hcz22_2
              try clear hcz26_0
              try clear hcz26_1
              try clear hcz26_2
              try clear hcz41_0
              try clear hcz41_1
              try clear hcz41_2
              try clear hcz46_0
              try clear hcz46_1
              try clear hcz46_2
              try clear hcz47_0
              try clear hcz47_1
              try clear hcz47_2
              try clear hfz14_0
              try clear hfz14_1
              try clear hfz14_2
              try clear hfz16_0
              try clear hfz16_1
              try clear hfz16_2
              try clear hfz19_0
              try clear hfz19_1
              try clear hfz19_2
              try clear hfz22_0
              try clear hfz22_1
              try clear hfz22_2
              try clear hfz26_0
              try clear hfz26_1
              try clear hfz26_2
              try clear hfz41_0
              try clear hfz41_1
              try clear hfz41_2
              try clear hfz46_0
              try clear hfz46_1
              try clear hfz46_2
              try clear hfz47_0
              try clear hfz47_1
              try clear hfz47_2
              try clear p2
              obtain ⟨x49_2, x136002_2, u136002, rfl, HA, HK2, HO_136002, BK127, BK128, BK135, BK136, HB⟩ := hrel
              cases gk with
              | zero => exact absurd HA.out (by simp [cross_way_turn__cross_forth.l0])
              | succ k2 =>
                have H := HA.out
                clear HA
                simp only [cross_way_turn__cross_forth.l0] at H
                by_cases c48 : x49_2 < (l1_2.length : Int)
                · rw [if_pos c48] at H
                  have c48b0 : decide (x49_2 < (l1_2.length : Int)) = true := decide_eq_true c48
                  clear c48
                  by_cases c49 : 0 ≤ x49_2
                  · rw [if_pos c49] at H
                    have c49b0 : decide (0 ≤ x49_2) = true := decide_eq_true c49
                    clear c49
                    by_cases c50 : x49_2 < (l1_2.length : Int)
                    · rw [if_pos c50] at H
                      have c50b0 : decide (x49_2 < (l1_2.length : Int)) = true := decide_eq_true c50
                      clear c50
                      by_cases c51 : a1_0 = 0
                      · rw [if_pos c51] at H
                        exact absurd H (by simp)
                      · rw [if_neg c51] at H
                        have c51b0 : (a1_0 == 0) = false := beq_eq_false_iff_ne.mpr c51
                        have c51b1 : (a1_0 != 0) = true := bne_iff_ne.mpr c51
                        replace H := Option.bind_eq_some_iff.mp H
                        obtain ⟨⟨t138, t139, t140⟩, A520, H⟩ := H
                        replace H : (if (t138 == 0 && (t139 == 0 && (t140 == 0))) = true then (if x49_2 < (x136002_2.length : Int) then (cross_way_turn__cross_forth.l0 k2 l1_2 (l1_2.length : Int) (wrap64 (x49_2 + 1)) a1_0 a1_1 l1_2 a1_0 a1_1 (x136002_2.set (x49_2 : Int).toNat (rd l1_2 x49_2)) a1_0 a2 l3) else (none)) else ((cross_forth.f (rd l1_2 x49_2) t138 t139 t140).bind fun t143 => (if x49_2 < (x136002_2.length : Int) then (cross_way_turn__cross_forth.l0 k2 l1_2 (l1_2.length : Int) (wrap64 (x49_2 + 1)) a1_0 a1_1 l1_2 a1_0 a1_1 (x136002_2.set (x49_2 : Int).toNat t143) a1_0 a2 l3) else (none)))) = some (r1, r2, r3, r4) := H
                        have A52 := Aside0.mk A520
                        clear A520
                        by_cases c53 : (t138 == 0 && (t139 == 0 && (t140 == 0))) = true
                        · rw [if_pos c53] at H
                          have c53b0 : (t138 == 0 && (t139 == 0 && (t140 == 0))) = true := c53
                          (try (have c53b1 : decide (t138 = 0 && (t139 == 0 && (t140 == 0))) = true := by simpa using c53))
                          (try (have c53b2 : (t138 == 0 && (t139 == 0 && (t140 == 0))) = true := by simpa using c53))
                          clear c53
                          by_cases c54 : x49_2 < (x136002_2.length : Int)
                          · rw [if_pos c54] at H
                            have c54b0 : decide (x49_2 < (x136002_2.length : Int)) = true := decide_eq_true c54
                            clear c54
                            obtain ⟨y142, hy142⟩ : ∃ y_ : List Int, y_ = (x136002_2.set (x49_2 : Int).toNat (rd l1_2 x49_2)) := ⟨_, rfl⟩
                            replace H : (cross_way_turn__cross_forth.l0 k2 l1_2 (l1_2.length : Int) (wrap64 (x49_2 + 1)) a1_0 a1_1 l1_2 a1_0 a1_1 y142 a1_0 a2 l3) = some (r1, r2, r3, r4) := by first | (rw [hy142]; with_reducible exact H) | (have H2_ := (Option.bind_some _ _).symm.trans H; rw [hy142]; with_reducible exact H2_) | (have H2_ := (Option.bind_some _ _).symm.trans H; with_reducible exact H2_) | with_reducible exact H | (rw [hy142]; exact H) | exact H
                            have Ny142 := Aside0.mk hy142
                            clear hy142
                            have H' := Aside0.mk H
                            clear H
                            have p137 : 0 ≤ (x49_2 : Int) := of_decide_eq_true (by first | (with_reducible assumption) | assumption)
                            have q137 : x49_2 < (l1_2.length : Int) := of_decide_eq_true (by first | (with_reducible assumption) | assumption)
                            obtain ⟨ad137, e137, hx137_0⟩ := Kd.at_int HR1_2.out x49_2 p137 q137
                            cases e137
                            replace hx137_0 := (HB.out.cell (World.block_lt_of_cell? w _ hx137_0)).trans hx137_0
                            replace p137 := eq_true p137
                            replace q137 := eq_true q137
                            try go_wp2
                            have n0_ := Aside0.mk (Kd.R_drew HO_136002.out)
                            have n1_ := Aside0.mk (blk_drew BK127.out)
                            have n2_ := Aside0.mk (blk_drew BK128.out)
                            have n3_ := Aside0.mk (blk_drew BK135.out)
                            have n4_ := Aside0.mk (blk_drew BK136.out)
                            have n5_ := Aside0.mk (below_drew1 HB.out)
                            clear HO_136002
                            clear BK127
                            clear BK128
                            clear BK135
                            clear BK136
                            clear HB
                            have HO_136002 := n0_
                            have BK127 := n1_
                            have BK128 := n2_
                            have BK135 := n3_
                            have BK136 := n4_
                            have HB := n5_
                            clear n0_ n1_ n2_ n3_ n4_ n5_
                            refine start_ (n := 12) (S := fun w' => w'.cell? ⟨gb136, 0, none⟩ = some (.int .i64 a1_0) ∧ w'.cell? ⟨gb136, 1, none⟩ = some (.int .i64 a2) ∧ w'.cell? ⟨gb136, 2, none⟩ = some (.slice A3 l3.length c3) ∧ w'.cell? ⟨gb127, 0, none⟩ = some (.int .i64 a1_0) ∧ w'.cell? ⟨gb127, 1, none⟩ = some (.int .i64 a1_1) ∧ w'.cell? ⟨gb127, 2, none⟩ = some (.slice (some ad137) l1_2.length c1_2)) (ds := []) #[false, false, false, false, false, false, false, false, false, false, false, false] (by kernel_rfl) rfl rfl ⟨(blk_cell BK136.out 0).trans rfl, (blk_cell BK136.out 1).trans rfl, (blk_cell BK136.out 2).trans rfl, (blk_cell BK127.out 0).trans rfl, (blk_cell BK127.out 1).trans rfl, (blk_cell BK127.out 2).trans rfl⟩ (fun hHeld => ?_); refine with_tabW cross_way_turn__cross_forth.tab8 cross_way_turn__cross_forth.bits8 (fun HT_ HW_ => ?_)
                            generalize wr.drew = w56 at HO_136002 BK127 BK128 BK135 BK136 HB hHeld ⊢
                            refine pure_ (i := 1) (N := some 55) (v := ?_) (a' := ?_) #[false, true, false, false, false, false, false, false, false, false, false, false] rfl rfl (any_of HT_.out (by kernel_rfl)) (fun _ _ _ h => h) (Or.inl ⟨by rfl, ?_⟩) ?_ ?_
                            rotate_left
                            · intro w'
                              go_simp
                              with_reducible rfl
                            rotate_left
                            · simp only [Act.put, List.setIfInBounds_toArray, List.set_cons_zero, List.set_cons_succ, i64_w, i32_w]
                              rfl
                            refine pure_ (i := 2) (N := some 56) (v := ?_) (a' := ?_) #[false, true, true, false, false, false, false, false, false, false, false, false] rfl rfl (any_of HT_.out (by kernel_rfl)) (fun _ _ _ h => h) (Or.inl ⟨by rfl, ?_⟩) ?_ ?_
                            rotate_left
                            · intro w'
                              go_simp
                              with_reducible rfl
                            rotate_left
                            · simp only [Act.put, List.setIfInBounds_toArray, List.set_cons_zero, List.set_cons_succ, i64_w, i32_w]
                              rfl
                            refine pure_ (i := 5) (N := some 59) (v := ?_) (a' := ?_) #[false, true, true, false, false, true, false, false, false, false, false, false] rfl rfl (any_of HT_.out (by kernel_rfl)) (fun _ _ _ h => h) (Or.inl ⟨by rfl, ?_⟩) ?_ ?_
                            rotate_left
                            · intro w'
                              go_simp
                              with_reducible rfl
                            rotate_left
                            · simp only [Act.put, List.setIfInBounds_toArray, List.set_cons_zero, List.set_cons_succ, i64_w, i32_w]
                              rfl
                            refine pure_ (i := 6) (N := some 60) (v := ?_) (a' := ?_) #[false, true, true, false, false, true, true, false, false, false, false, false] rfl rfl (any_of HT_.out (by kernel_rfl)) (fun _ _ _ h => h) (Or.inl ⟨by rfl, ?_⟩) ?_ ?_
                            rotate_left
                            · intro w'
                              go_simp
                              with_reducible rfl
                            rotate_left
                            · simp only [Act.put, List.setIfInBounds_toArray, List.set_cons_zero, List.set_cons_succ, i64_w, i32_w]
                              rfl
                            refine take_ (i := 0) (N := some 54) (v := ?_) (a' := ?_) #[true, true, true, false, false, true, true, false, false, false, false, false] rfl rfl (take_ofW HT_.out HW_.out (by kernel_rfl)) (fun _ _ _ h => h) (Or.inl ⟨by rfl, ?_⟩) hHeld ?_ ?_
                            rotate_left
                            · rintro w' ⟨s0, s1, s2, s3, s4, s5⟩
                              go_simp
                              with_reducible rfl
                            rotate_left
                            · simp only [Act.put, List.setIfInBounds_toArray, List.set_cons_zero, List.set_cons_succ, i64_w, i32_w]
                              rfl
                            refine take_ (i := 3) (N := some 57) (v := ?_) (a' := ?_) #[true, true, true, true, false, true, true, false, false, false, false, false] rfl rfl (take_ofW HT_.out HW_.out (by kernel_rfl)) (fun _ _ _ h => h) (Or.inl ⟨by rfl, ?_⟩) hHeld ?_ ?_
                            rotate_left
                            · rintro w' ⟨s0, s1, s2, s3, s4, s5⟩
                              go_simp
                              with_reducible rfl
                            rotate_left
                            · simp only [Act.put, List.setIfInBounds_toArray, List.set_cons_zero, List.set_cons_succ, i64_w, i32_w]
                              rfl
                            refine pure_ (i := 4) (N := some 58) (v := ?_) (a' := ?_) #[true, true, true, true, true, true, true, false, false, false, false, false] rfl rfl (any_of HT_.out (by kernel_rfl)) (fun _ _ _ h => h) (Or.inl ⟨by rfl, ?_⟩) ?_ ?_
                            rotate_left
                            · intro w'
                              go_simp
                              with_reducible rfl
                            rotate_left
                            · simp only [Act.put, List.setIfInBounds_toArray, List.set_cons_zero, List.set_cons_succ, i64_w, i32_w]
                              rfl
                            refine take_ (i := 7) (N := some 61) (v := ?_) (a' := ?_) #[true, true, true, true, true, true, true, true, false, false, false, false] rfl rfl (take_ofW HT_.out HW_.out (by kernel_rfl)) (fun _ _ _ h => h) (Or.inl ⟨by rfl, ?_⟩) hHeld ?_ ?_
                            rotate_left
                            · rintro w' ⟨s0, s1, s2, s3, s4, s5⟩
                              go_simp
                              with_reducible rfl
                            rotate_left
                            · simp only [Act.put, List.setIfInBounds_toArray, List.set_cons_zero, List.set_cons_succ, i64_w, i32_w]
                              rfl
                            refine pure_ (i := 8) (N := some 62) (v := ?_) (a' := ?_) #[true, true, true, true, true, true, true, true, true, false, false, false] rfl rfl (any_of HT_.out (by kernel_rfl)) (fun _ _ _ h => h) (Or.inl ⟨by rfl, ?_⟩) ?_ ?_
                            rotate_left
                            · intro w'
                              go_simp
                              with_reducible rfl
                            rotate_left
                            · simp only [Act.put, List.setIfInBounds_toArray, List.set_cons_zero, List.set_cons_succ, i64_w, i32_w]
                              rfl
                            refine join_ (σ := Nat) 1 #[true, true, true, true, true, true, true, true, true, true, true, false] (fun s_ => [(63, .agg #[.int .i8 t138, .int .i8 t139, .int .i8 t140]), (14, .pointer (some ⟨s_, 0, none⟩))]) (fun s_ w' => (w'.cell? ⟨gb136, 0, none⟩ = some (.int .i64 a1_0) ∧ w'.cell? ⟨gb136, 1, none⟩ = some (.int .i64 a2) ∧ w'.cell? ⟨gb136, 2, none⟩ = some (.slice A3 l3.length c3) ∧ w'.cell? ⟨gb127, 0, none⟩ = some (.int .i64 a1_0) ∧ w'.cell? ⟨gb127, 1, none⟩ = some (.int .i64 a1_1) ∧ w'.cell? ⟨gb127, 2, none⟩ = some (.slice (some ad137) l1_2.length c1_2)) ∧ (Kd.R (Kd.int .u32) 25 w' w.heap.size (fun _ => True) u136002 x136002_2) ∧ (w'.heap[gb127]? = some (.cells #[.int .i64 a1_0, .int .i64 a1_1, .slice (some ad137) l1_2.length c1_2] 35 (0, 0))) ∧ (w'.heap[gb128]? = some (.cells #[.int .i64 0, .int .i64 0, .slice none 0 0] 35 (0, 0))) ∧ (w'.heap[gb135]? = some (.cells #[.int .i64 a1_0, .int .i64 a1_1, u136002] 35 (0, 0))) ∧ (w'.heap[gb136]? = some (.cells #[.int .i64 a1_0, .int .i64 a2, .slice A3 l3.length c3] 54 (0, 0))) ∧ (w'.heap[s_]? = some (.cells #[.int .i8 0, .int .i8 0, .int .i8 0] 24 (0, 0))) ∧ (w.heap.size ≤ s_) ∧ (w.heap.size ≤ s_) ∧ (gb127 ≠ s_) ∧ (s_ ≠ gb127) ∧ (gb128 ≠ s_) ∧ (s_ ≠ gb128) ∧ (gb135 ≠ s_) ∧ (s_ ≠ gb135) ∧ (gb136 ≠ s_) ∧ (s_ ≠ gb136) ∧ (Below w.heap.size w w')) ?_ ?_
                            rotate_left
                            · intro hCont
                              refine two_ (i := 9) (j := 10) (Ni := some 63) (Nj := some 14) #[true, true, true, true, true, true, true, true, true, true, false, false] #[true, true, true, true, true, true, true, true, true, false, true, false] rfl rfl rfl rfl (two_of HT_.out (by kernel_rfl)) (by decide) (by decide) (fun K hK => ?_) (fun K hK => ?_)
                              · skip
                                first | (refine goes_ Try.func27 (by kernel_rfl) rfl #[.agg #[.int .i64 a1_0, .int .i64 a2, .slice A3 l3.length c3], .int .i64 (Int.tmod x49_2 a1_0), .int .i64 (wrap64 (Int.tdiv x49_2 a1_0))] (by rfl) rfl rfl (by (try simp only [List.map_toArray, List.map_cons, List.map_nil]); first | done | rfl | (simp only [List.length_drop, List.length_take]; rfl)) ?_) | (refine goesT_ Try.func27 (by kernel_rfl) rfl #[.agg #[.int .i64 a1_0, .int .i64 a2, .slice A3 l3.length c3], .int .i64 (Int.tmod x49_2 a1_0), .int .i64 (wrap64 (Int.tdiv x49_2 a1_0))] (by rfl) rfl rfl (by rfl) (by (try simp only [List.map_toArray, List.map_cons, List.map_nil]); first | done | rfl | (simp only [List.length_drop, List.length_take]; rfl)) ?_)
                                with_reducible refine (api_Element_At.calls a1_0 a2 _ _ l3 (Int.tmod x49_2 a1_0) (wrap64 (Int.tdiv x49_2 a1_0)) t138 t139 t140 _ ?side1 ?side2 A52.out).mono ?_
                                (case side1 => repeat (first | exact (Kd.C_below HR3.out HB.out) | (with_reducible refine Kd.C_alloc ?_ _) | (with_reducible refine Kd.C_drewN ?_ _) | (with_reducible refine Kd.C_drew ?_)))
                                (case side2 => exact HC3.out)
                                rintro e w57 ⟨rfl, hb⟩
                                refine ⟨_, rfl, ?_⟩
                                have n0_ := Aside0.mk (Kd.R_below (by (with_reducible repeat (first | apply Kd.R_alloc | apply Kd.R_drewN | apply Kd.R_drew)); exact HO_136002.out) hb)
                                have n1_ := Aside0.mk (blk_below (g := gb127) (o := .cells #[.int .i64 a1_0, .int .i64 a1_1, .slice (some ad137) l1_2.length c1_2] 35 (0, 0)) (by (with_reducible repeat (first | refine blk_drewN ?_ _ | refine blk_drew ?_ | refine blk_alloc ?_ _)); exact BK127.out) hb)
                                have n2_ := Aside0.mk (blk_below (g := gb128) (o := .cells #[.int .i64 0, .int .i64 0, .slice none 0 0] 35 (0, 0)) (by (with_reducible repeat (first | refine blk_drewN ?_ _ | refine blk_drew ?_ | refine blk_alloc ?_ _)); exact BK128.out) hb)
                                have n3_ := Aside0.mk (blk_below (g := gb135) (o := .cells #[.int .i64 a1_0, .int .i64 a1_1, u136002] 35 (0, 0)) (by (with_reducible repeat (first | refine blk_drewN ?_ _ | refine blk_drew ?_ | refine blk_alloc ?_ _)); exact BK135.out) hb)
                                have n4_ := Aside0.mk (blk_below (g := gb136) (o := .cells #[.int .i64 a1_0, .int .i64 a2, .slice A3 l3.length c3] 54 (0, 0)) (by (with_reducible repeat (first | refine blk_drewN ?_ _ | refine blk_drew ?_ | refine blk_alloc ?_ _)); exact BK136.out) hb)
                                have n5_ := Aside0.mk (below_step (by repeat (first | (with_reducible first | exact HB.out | apply below_alloc | apply pw_below_drewN | apply below_drew1 | refine below_set ?_ GE127.out | refine below_set ?_ GE128.out | refine below_set ?_ GE135.out | refine below_set ?_ GE136.out) | exact HB.out)) hb)
                                clear HO_136002
                                clear BK127
                                clear BK128
                                clear BK135
                                clear BK136
                                clear HB
                                have HO_136002 := n0_
                                have BK127 := n1_
                                have BK128 := n2_
                                have BK135 := n3_
                                have BK136 := n4_
                                have HB := n5_
                                clear n0_ n1_ n2_ n3_ n4_ n5_
                                (try clear hb)
                                (try clear hb2)
                                (try clear hk)
                                (try clear hi)
                                refine hK.out _ _ ⟨(blk_cell BK136.out 0).trans rfl, (blk_cell BK136.out 1).trans rfl, (blk_cell BK136.out 2).trans rfl, (blk_cell BK127.out 0).trans rfl, (blk_cell BK127.out 1).trans rfl, (blk_cell BK127.out 2).trans rfl⟩ (fun hHeld => ?_)
                                clear hK K
                                refine norm_ (a' := ?_) ?_ ?_
                                rotate_left
                                · show Act.put _ (some 63) _ = _
                                  simp only [Act.put, List.setIfInBounds_toArray, List.set_cons_zero, List.set_cons_succ, i64_w, i32_w]
                                  rfl
                                refine one_ (i := 10) (N := some 14) #[true, true, true, true, true, true, true, true, true, true, true, false] rfl rfl (one_of HT_.out (by kernel_rfl)) (by decide) (fun K hK => ?_)
                                refine box_step ?hg (N := 14) ?hd (cs := #[.int .i8 0, .int .i8 0, .int .i8 0]) (t := 24) ?hr ?_; (case hd => rfl); (case hg => rfl); (case hr => first | (go_simp; done) | (go_simp; rfl))
                                intro gb141 hg w58 hbox hb
                                have n0_ := Aside0.mk (Kd.R_below (by (with_reducible repeat (first | apply Kd.R_alloc | apply Kd.R_drewN | apply Kd.R_drew)); exact HO_136002.out) hb)
                                have n1_ := Aside0.mk (blk_below (g := gb127) (o := .cells #[.int .i64 a1_0, .int .i64 a1_1, .slice (some ad137) l1_2.length c1_2] 35 (0, 0)) (by (with_reducible repeat (first | refine blk_drewN ?_ _ | refine blk_drew ?_ | refine blk_alloc ?_ _)); exact BK127.out) hb)
                                have n2_ := Aside0.mk (blk_below (g := gb128) (o := .cells #[.int .i64 0, .int .i64 0, .slice none 0 0] 35 (0, 0)) (by (with_reducible repeat (first | refine blk_drewN ?_ _ | refine blk_drew ?_ | refine blk_alloc ?_ _)); exact BK128.out) hb)
                                have n3_ := Aside0.mk (blk_below (g := gb135) (o := .cells #[.int .i64 a1_0, .int .i64 a1_1, u136002] 35 (0, 0)) (by (with_reducible repeat (first | refine blk_drewN ?_ _ | refine blk_drew ?_ | refine blk_alloc ?_ _)); exact BK135.out) hb)
                                have n4_ := Aside0.mk (blk_below (g := gb136) (o := .cells #[.int .i64 a1_0, .int .i64 a2, .slice A3 l3.length c3] 54 (0, 0)) (by (with_reducible repeat (first | refine blk_drewN ?_ _ | refine blk_drew ?_ | refine blk_alloc ?_ _)); exact BK136.out) hb)
                                have n5_ := Aside0.mk (below_step (by repeat (first | (with_reducible first | exact HB.out | apply below_alloc | apply pw_below_drewN | apply below_drew1 | refine below_set ?_ GE127.out | refine below_set ?_ GE128.out | refine below_set ?_ GE135.out | refine below_set ?_ GE136.out) | exact HB.out)) hb)
                                have n6_ := Aside0.mk (hbox)
                                have n7_ := Aside0.mk ((by rw [hg]; exact (below_size (by repeat (first | (with_reducible first | exact HB.out | apply below_alloc | apply pw_below_drewN | apply below_drew1 | refine below_set ?_ GE127.out | refine below_set ?_ GE128.out | refine below_set ?_ GE135.out | refine below_set ?_ GE136.out) | exact HB.out))) : w.heap.size ≤ gb141))
                                have n8_ := Aside0.mk ((by rw [hg]; exact (below_size (by repeat (first | (with_reducible first | exact HB.out | apply below_alloc | apply pw_below_drewN | apply below_drew1 | refine below_set ?_ GE127.out | refine below_set ?_ GE128.out | refine below_set ?_ GE135.out | refine below_set ?_ GE136.out) | exact HB.out))) : w.heap.size ≤ gb141))
                                have n9_ := Aside0.mk ((by rw [hg]; exact Nat.ne_of_lt (blk_lt (g := gb127) (o := .cells #[.int .i64 a1_0, .int .i64 a1_1, .slice (some ad137) l1_2.length c1_2] 35 (0, 0)) (by (with_reducible repeat (first | refine blk_drewN ?_ _ | refine blk_drew ?_ | refine blk_alloc ?_ _)); exact BK127.out)) : gb127 ≠ gb141))
                                have n10_ := Aside0.mk ((by rw [hg]; exact Nat.ne_of_gt (blk_lt (g := gb127) (o := .cells #[.int .i64 a1_0, .int .i64 a1_1, .slice (some ad137) l1_2.length c1_2] 35 (0, 0)) (by (with_reducible repeat (first | refine blk_drewN ?_ _ | refine blk_drew ?_ | refine blk_alloc ?_ _)); exact BK127.out)) : gb141 ≠ gb127))
                                have n11_ := Aside0.mk ((by rw [hg]; exact Nat.ne_of_lt (blk_lt (g := gb128) (o := .cells #[.int .i64 0, .int .i64 0, .slice none 0 0] 35 (0, 0)) (by (with_reducible repeat (first | refine blk_drewN ?_ _ | refine blk_drew ?_ | refine blk_alloc ?_ _)); exact BK128.out)) : gb128 ≠ gb141))
                                have n12_ := Aside0.mk ((by rw [hg]; exact Nat.ne_of_gt (blk_lt (g := gb128) (o := .cells #[.int .i64 0, .int .i64 0, .slice none 0 0] 35 (0, 0)) (by (with_reducible repeat (first | refine blk_drewN ?_ _ | refine blk_drew ?_ | refine blk_alloc ?_ _)); exact BK128.out)) : gb141 ≠ gb128))
                                have n13_ := Aside0.mk ((by rw [hg]; exact Nat.ne_of_lt (blk_lt (g := gb135) (o := .cells #[.int .i64 a1_0, .int .i64 a1_1, u136002] 35 (0, 0)) (by (with_reducible repeat (first | refine blk_drewN ?_ _ | refine blk_drew ?_ | refine blk_alloc ?_ _)); exact BK135.out)) : gb135 ≠ gb141))
                                have n14_ := Aside0.mk ((by rw [hg]; exact Nat.ne_of_gt (blk_lt (g := gb135) (o := .cells #[.int .i64 a1_0, .int .i64 a1_1, u136002] 35 (0, 0)) (by (with_reducible repeat (first | refine blk_drewN ?_ _ | refine blk_drew ?_ | refine blk_alloc ?_ _)); exact BK135.out)) : gb141 ≠ gb135))
                                have n15_ := Aside0.mk ((by rw [hg]; exact Nat.ne_of_lt (blk_lt (g := gb136) (o := .cells #[.int .i64 a1_0, .int .i64 a2, .slice A3 l3.length c3] 54 (0, 0)) (by (with_reducible repeat (first | refine blk_drewN ?_ _ | refine blk_drew ?_ | refine blk_alloc ?_ _)); exact BK136.out)) : gb136 ≠ gb141))
                                have n16_ := Aside0.mk ((by rw [hg]; exact Nat.ne_of_gt (blk_lt (g := gb136) (o := .cells #[.int .i64 a1_0, .int .i64 a2, .slice A3 l3.length c3] 54 (0, 0)) (by (with_reducible repeat (first | refine blk_drewN ?_ _ | refine blk_drew ?_ | refine blk_alloc ?_ _)); exact BK136.out)) : gb141 ≠ gb136))
                                clear HO_136002
                                clear BK127
                                clear BK128
                                clear BK135
                                clear BK136
                                clear HB
                                have HO_136002 := n0_
                                have BK127 := n1_
                                have BK128 := n2_
                                have BK135 := n3_
                                have BK136 := n4_
                                have HB := n5_
                                have BK141 := n6_
                                have GW141 := n7_
                                have GE141 := n8_
                                have NB127_141 := n9_
                                have NB141_127 := n10_
                                have NB128_141 := n11_
                                have NB141_128 := n12_
                                have NB135_141 := n13_
                                have NB141_135 := n14_
                                have NB136_141 := n15_
                                have NB141_136 := n16_
                                clear n0_ n1_ n2_ n3_ n4_ n5_ n6_ n7_ n8_ n9_ n10_ n11_ n12_ n13_ n14_ n15_ n16_
                                clear hb hbox hg
                                refine hK.out _ _ ⟨(blk_cell BK136.out 0).trans rfl, (blk_cell BK136.out 1).trans rfl, (blk_cell BK136.out 2).trans rfl, (blk_cell BK127.out 0).trans rfl, (blk_cell BK127.out 1).trans rfl, (blk_cell BK127.out 2).trans rfl⟩ (fun hHeld => ?_)
                                clear hK K
                                refine norm_ (a' := ?_) ?_ ?_
                                rotate_left
                                · show Act.put _ (some 14) _ = _
                                  simp only [Act.put, List.setIfInBounds_toArray, List.set_cons_zero, List.set_cons_succ, i64_w, i32_w]
                                  rfl
                                exact norm_ (by simp only [putAll, Act.put, List.setIfInBounds_toArray, List.set_cons_zero, List.set_cons_succ]) (hCont (gb141) _ ⟨hHeld, (by (with_reducible repeat (first | apply Kd.R_alloc | apply Kd.R_drewN | apply Kd.R_drew)); exact HO_136002.out), (by (with_reducible repeat (first | refine blk_drewN ?_ _ | refine blk_drew ?_ | refine blk_alloc ?_ _)); exact BK127.out), (by (with_reducible repeat (first | refine blk_drewN ?_ _ | refine blk_drew ?_ | refine blk_alloc ?_ _)); exact BK128.out), (by (with_reducible repeat (first | refine blk_drewN ?_ _ | refine blk_drew ?_ | refine blk_alloc ?_ _)); exact BK135.out), (by (with_reducible repeat (first | refine blk_drewN ?_ _ | refine blk_drew ?_ | refine blk_alloc ?_ _)); exact BK136.out), (by (with_reducible repeat (first | refine blk_drewN ?_ _ | refine blk_drew ?_ | refine blk_alloc ?_ _)); exact BK141.out), GW141.out, GE141.out, NB127_141.out, NB141_127.out, NB128_141.out, NB141_128.out, NB135_141.out, NB141_135.out, NB136_141.out, NB141_136.out, (by repeat (first | (with_reducible first | exact HB.out | apply below_alloc | apply pw_below_drewN | apply below_drew1 | refine below_set ?_ GE127.out | refine below_set ?_ GE128.out | refine below_set ?_ GE135.out | refine below_set ?_ GE136.out | refine below_set ?_ GE141.out) | exact HB.out))⟩)
                              · skip
                                refine box_step ?hg (N := 14) ?hd (cs := #[.int .i8 0, .int .i8 0, .int .i8 0]) (t := 24) ?hr ?_; (case hd => rfl); (case hg => rfl); (case hr => first | (go_simp; done) | (go_simp; rfl))
                                intro gb141 hg w57 hbox hb
                                have n0_ := Aside0.mk (Kd.R_below (by (with_reducible repeat (first | apply Kd.R_alloc | apply Kd.R_drewN | apply Kd.R_drew)); exact HO_136002.out) hb)
                                have n1_ := Aside0.mk (blk_below (g := gb127) (o := .cells #[.int .i64 a1_0, .int .i64 a1_1, .slice (some ad137) l1_2.length c1_2] 35 (0, 0)) (by (with_reducible repeat (first | refine blk_drewN ?_ _ | refine blk_drew ?_ | refine blk_alloc ?_ _)); exact BK127.out) hb)
                                have n2_ := Aside0.mk (blk_below (g := gb128) (o := .cells #[.int .i64 0, .int .i64 0, .slice none 0 0] 35 (0, 0)) (by (with_reducible repeat (first | refine blk_drewN ?_ _ | refine blk_drew ?_ | refine blk_alloc ?_ _)); exact BK128.out) hb)
                                have n3_ := Aside0.mk (blk_below (g := gb135) (o := .cells #[.int .i64 a1_0, .int .i64 a1_1, u136002] 35 (0, 0)) (by (with_reducible repeat (first | refine blk_drewN ?_ _ | refine blk_drew ?_ | refine blk_alloc ?_ _)); exact BK135.out) hb)
                                have n4_ := Aside0.mk (blk_below (g := gb136) (o := .cells #[.int .i64 a1_0, .int .i64 a2, .slice A3 l3.length c3] 54 (0, 0)) (by (with_reducible repeat (first | refine blk_drewN ?_ _ | refine blk_drew ?_ | refine blk_alloc ?_ _)); exact BK136.out) hb)
                                have n5_ := Aside0.mk (below_step (by repeat (first | (with_reducible first | exact HB.out | apply below_alloc | apply pw_below_drewN | apply below_drew1 | refine below_set ?_ GE127.out | refine below_set ?_ GE128.out | refine below_set ?_ GE135.out | refine below_set ?_ GE136.out) | exact HB.out)) hb)
                                have n6_ := Aside0.mk (hbox)
                                have n7_ := Aside0.mk ((by rw [hg]; exact (below_size (by repeat (first | (with_reducible first | exact HB.out | apply below_alloc | apply pw_below_drewN | apply below_drew1 | refine below_set ?_ GE127.out | refine below_set ?_ GE128.out | refine below_set ?_ GE135.out | refine below_set ?_ GE136.out) | exact HB.out))) : w.heap.size ≤ gb141))
                                have n8_ := Aside0.mk ((by rw [hg]; exact (below_size (by repeat (first | (with_reducible first | exact HB.out | apply below_alloc | apply pw_below_drewN | apply below_drew1 | refine below_set ?_ GE127.out | refine below_set ?_ GE128.out | refine below_set ?_ GE135.out | refine below_set ?_ GE136.out) | exact HB.out))) : w.heap.size ≤ gb141))
                                have n9_ := Aside0.mk ((by rw [hg]; exact Nat.ne_of_lt (blk_lt (g := gb127) (o := .cells #[.int .i64 a1_0, .int .i64 a1_1, .slice (some ad137) l1_2.length c1_2] 35 (0, 0)) (by (with_reducible repeat (first | refine blk_drewN ?_ _ | refine blk_drew ?_ | refine blk_alloc ?_ _)); exact BK127.out)) : gb127 ≠ gb141))
                                have n10_ := Aside0.mk ((by rw [hg]; exact Nat.ne_of_gt (blk_lt (g := gb127) (o := .cells #[.int .i64 a1_0, .int .i64 a1_1, .slice (some ad137) l1_2.length c1_2] 35 (0, 0)) (by (with_reducible repeat (first | refine blk_drewN ?_ _ | refine blk_drew ?_ | refine blk_alloc ?_ _)); exact BK127.out)) : gb141 ≠ gb127))
                                have n11_ := Aside0.mk ((by rw [hg]; exact Nat.ne_of_lt (blk_lt (g := gb128) (o := .cells #[.int .i64 0, .int .i64 0, .slice none 0 0] 35 (0, 0)) (by (with_reducible repeat (first | refine blk_drewN ?_ _ | refine blk_drew ?_ | refine blk_alloc ?_ _)); exact BK128.out)) : gb128 ≠ gb141))
                                have n12_ := Aside0.mk ((by rw [hg]; exact Nat.ne_of_gt (blk_lt (g := gb128) (o := .cells #[.int .i64 0, .int .i64 0, .slice none 0 0] 35 (0, 0)) (by (with_reducible repeat (first | refine blk_drewN ?_ _ | refine blk_drew ?_ | refine blk_alloc ?_ _)); exact BK128.out)) : gb141 ≠ gb128))
                                have n13_ := Aside0.mk ((by rw [hg]; exact Nat.ne_of_lt (blk_lt (g := gb135) (o := .cells #[.int .i64 a1_0, .int .i64 a1_1, u136002] 35 (0, 0)) (by (with_reducible repeat (first | refine blk_drewN ?_ _ | refine blk_drew ?_ | refine blk_alloc ?_ _)); exact BK135.out)) : gb135 ≠ gb141))
                                have n14_ := Aside0.mk ((by rw [hg]; exact Nat.ne_of_gt (blk_lt (g := gb135) (o := .cells #[.int .i64 a1_0, .int .i64 a1_1, u136002] 35 (0, 0)) (by (with_reducible repeat (first | refine blk_drewN ?_ _ | refine blk_drew ?_ | refine blk_alloc ?_ _)); exact BK135.out)) : gb141 ≠ gb135))
                                have n15_ := Aside0.mk ((by rw [hg]; exact Nat.ne_of_lt (blk_lt (g := gb136) (o := .cells #[.int .i64 a1_0, .int .i64 a2, .slice A3 l3.length c3] 54 (0, 0)) (by (with_reducible repeat (first | refine blk_drewN ?_ _ | refine blk_drew ?_ | refine blk_alloc ?_ _)); exact BK136.out)) : gb136 ≠ gb141))
                                have n16_ := Aside0.mk ((by rw [hg]; exact Nat.ne_of_gt (blk_lt (g := gb136) (o := .cells #[.int .i64 a1_0, .int .i64 a2, .slice A3 l3.length c3] 54 (0, 0)) (by (with_reducible repeat (first | refine blk_drewN ?_ _ | refine blk_drew ?_ | refine blk_alloc ?_ _)); exact BK136.out)) : gb141 ≠ gb136))
                                clear HO_136002
                                clear BK127
                                clear BK128
                                clear BK135
                                clear BK136
                                clear HB
                                have HO_136002 := n0_
                                have BK127 := n1_
                                have BK128 := n2_
                                have BK135 := n3_
                                have BK136 := n4_
                                have HB := n5_
                                have BK141 := n6_
                                have GW141 := n7_
                                have GE141 := n8_
                                have NB127_141 := n9_
                                have NB141_127 := n10_
                                have NB128_141 := n11_
                                have NB141_128 := n12_
                                have NB135_141 := n13_
                                have NB141_135 := n14_
                                have NB136_141 := n15_
                                have NB141_136 := n16_
                                clear n0_ n1_ n2_ n3_ n4_ n5_ n6_ n7_ n8_ n9_ n10_ n11_ n12_ n13_ n14_ n15_ n16_
                                clear hb hbox hg
                                refine hK.out _ _ ⟨(blk_cell BK136.out 0).trans rfl, (blk_cell BK136.out 1).trans rfl, (blk_cell BK136.out 2).trans rfl, (blk_cell BK127.out 0).trans rfl, (blk_cell BK127.out 1).trans rfl, (blk_cell BK127.out 2).trans rfl⟩ (fun hHeld => ?_)
                                clear hK K
                                refine norm_ (a' := ?_) ?_ ?_
                                rotate_left
                                · show Act.put _ (some 14) _ = _
                                  simp only [Act.put, List.setIfInBounds_toArray, List.set_cons_zero, List.set_cons_succ, i64_w, i32_w]
                                  rfl
                                refine one_ (i := 9) (N := some 63) #[true, true, true, true, true, true, true, true, true, true, true, false] rfl rfl (one_of HT_.out (by kernel_rfl)) (by decide) (fun K hK => ?_)
                                first | (refine goes_ Try.func27 (by kernel_rfl) rfl #[.agg #[.int .i64 a1_0, .int .i64 a2, .slice A3 l3.length c3], .int .i64 (Int.tmod x49_2 a1_0), .int .i64 (wrap64 (Int.tdiv x49_2 a1_0))] (by rfl) rfl rfl (by (try simp only [List.map_toArray, List.map_cons, List.map_nil]); first | done | rfl | (simp only [List.length_drop, List.length_take]; rfl)) ?_) | (refine goesT_ Try.func27 (by kernel_rfl) rfl #[.agg #[.int .i64 a1_0, .int .i64 a2, .slice A3 l3.length c3], .int .i64 (Int.tmod x49_2 a1_0), .int .i64 (wrap64 (Int.tdiv x49_2 a1_0))] (by rfl) rfl rfl (by rfl) (by (try simp only [List.map_toArray, List.map_cons, List.map_nil]); first | done | rfl | (simp only [List.length_drop, List.length_take]; rfl)) ?_)
                                with_reducible refine (api_Element_At.calls a1_0 a2 _ _ l3 (Int.tmod x49_2 a1_0) (wrap64 (Int.tdiv x49_2 a1_0)) t138 t139 t140 _ ?side1 ?side2 A52.out).mono ?_
                                (case side1 => repeat (first | exact (Kd.C_below HR3.out HB.out) | (with_reducible refine Kd.C_alloc ?_ _) | (with_reducible refine Kd.C_drewN ?_ _) | (with_reducible refine Kd.C_drew ?_)))
                                (case side2 => exact HC3.out)
                                rintro e w58 ⟨rfl, hb⟩
                                refine ⟨_, rfl, ?_⟩
                                have n0_ := Aside0.mk (Kd.R_below (by (with_reducible repeat (first | apply Kd.R_alloc | apply Kd.R_drewN | apply Kd.R_drew)); exact HO_136002.out) hb)
                                have n1_ := Aside0.mk (blk_below (g := gb127) (o := .cells #[.int .i64 a1_0, .int .i64 a1_1, .slice (some ad137) l1_2.length c1_2] 35 (0, 0)) (by (with_reducible repeat (first | refine blk_drewN ?_ _ | refine blk_drew ?_ | refine blk_alloc ?_ _)); exact BK127.out) hb)
                                have n2_ := Aside0.mk (blk_below (g := gb128) (o := .cells #[.int .i64 0, .int .i64 0, .slice none 0 0] 35 (0, 0)) (by (with_reducible repeat (first | refine blk_drewN ?_ _ | refine blk_drew ?_ | refine blk_alloc ?_ _)); exact BK128.out) hb)
                                have n3_ := Aside0.mk (blk_below (g := gb135) (o := .cells #[.int .i64 a1_0, .int .i64 a1_1, u136002] 35 (0, 0)) (by (with_reducible repeat (first | refine blk_drewN ?_ _ | refine blk_drew ?_ | refine blk_alloc ?_ _)); exact BK135.out) hb)
                                have n4_ := Aside0.mk (blk_below (g := gb136) (o := .cells #[.int .i64 a1_0, .int .i64 a2, .slice A3 l3.length c3] 54 (0, 0)) (by (with_reducible repeat (first | refine blk_drewN ?_ _ | refine blk_drew ?_ | refine blk_alloc ?_ _)); exact BK136.out) hb)
                                have n5_ := Aside0.mk (blk_below (g := gb141) (o := .cells #[.int .i8 0, .int .i8 0, .int .i8 0] 24 (0, 0)) (by (with_reducible repeat (first | refine blk_drewN ?_ _ | refine blk_drew ?_ | refine blk_alloc ?_ _)); exact BK141.out) hb)
                                have n6_ := Aside0.mk (below_step (by repeat (first | (with_reducible first | exact HB.out | apply below_alloc | apply pw_below_drewN | apply below_drew1 | refine below_set ?_ GE127.out | refine below_set ?_ GE128.out | refine below_set ?_ GE135.out | refine below_set ?_ GE136.out | refine below_set ?_ GE141.out) | exact HB.out)) hb)
                                clear HO_136002
                                clear BK127
                                clear BK128
                                clear BK135
                                clear BK136
                                clear BK141
                                clear HB
                                have HO_136002 := n0_
                                have BK127 := n1_
                                have BK128 := n2_
                                have BK135 := n3_
                                have BK136 := n4_
                                have BK141 := n5_
                                have HB := n6_
                                clear n0_ n1_ n2_ n3_ n4_ n5_ n6_
                                (try clear hb)
                                (try clear hb2)
                                (try clear hk)
                                (try clear hi)
                                refine hK.out _ _ ⟨(blk_cell BK136.out 0).trans rfl, (blk_cell BK136.out 1).trans rfl, (blk_cell BK136.out 2).trans rfl, (blk_cell BK127.out 0).trans rfl, (blk_cell BK127.out 1).trans rfl, (blk_cell BK127.out 2).trans rfl⟩ (fun hHeld => ?_)
                                clear hK K
                                refine norm_ (a' := ?_) ?_ ?_
                                rotate_left
                                · show Act.put _ (some 63) _ = _
                                  simp only [Act.put, List.setIfInBounds_toArray, List.set_cons_zero, List.set_cons_succ, i64_w, i32_w]
                                  rfl
                                exact norm_ (by simp only [putAll, Act.put, List.setIfInBounds_toArray, List.set_cons_zero, List.set_cons_succ]) (hCont (gb141) _ ⟨hHeld, (by (with_reducible repeat (first | apply Kd.R_alloc | apply Kd.R_drewN | apply Kd.R_drew)); exact HO_136002.out), (by (with_reducible repeat (first | refine blk_drewN ?_ _ | refine blk_drew ?_ | refine blk_alloc ?_ _)); exact BK127.out), (by (with_reducible repeat (first | refine blk_drewN ?_ _ | refine blk_drew ?_ | refine blk_alloc ?_ _)); exact BK128.out), (by (with_reducible repeat (first | refine blk_drewN ?_ _ | refine blk_drew ?_ | refine blk_alloc ?_ _)); exact BK135.out), (by (with_reducible repeat (first | refine blk_drewN ?_ _ | refine blk_drew ?_ | refine blk_alloc ?_ _)); exact BK136.out), (by (with_reducible repeat (first | refine blk_drewN ?_ _ | refine blk_drew ?_ | refine blk_alloc ?_ _)); exact BK141.out), GW141.out, GE141.out, NB127_141.out, NB141_127.out, NB128_141.out, NB141_128.out, NB135_141.out, NB141_135.out, NB136_141.out, NB141_136.out, (by repeat (first | (with_reducible first | exact HB.out | apply below_alloc | apply pw_below_drewN | apply below_drew1 | refine below_set ?_ GE127.out | refine below_set ?_ GE128.out | refine below_set ?_ GE135.out | refine below_set ?_ GE136.out | refine below_set ?_ GE141.out) | exact HB.out))⟩)
                            rintro gb141 w59 ⟨hS_, h0_, h1_, h2_, h3_, h4_, h5_, h6_, h7_, h8_, h9_, h10_, h11_, h12_, h13_, h14_, h15_, h16_⟩
                            have n0_ : Aside0 (Kd.R (Kd.int .u32) 25 w59 w.heap.size (fun _ => True) u136002 x136002_2) := ⟨h0_⟩
                            have n1_ : Aside0 (w59.heap[gb127]? = some (.cells #[.int .i64 a1_0, .int .i64 a1_1, .slice (some ad137) l1_2.length c1_2] 35 (0, 0))) := ⟨h1_⟩
                            have n2_ : Aside0 (w59.heap[gb128]? = some (.cells #[.int .i64 0, .int .i64 0, .slice none 0 0] 35 (0, 0))) := ⟨h2_⟩
                            have n3_ : Aside0 (w59.heap[gb135]? = some (.cells #[.int .i64 a1_0, .int .i64 a1_1, u136002] 35 (0, 0))) := ⟨h3_⟩
                            have n4_ : Aside0 (w59.heap[gb136]? = some (.cells #[.int .i64 a1_0, .int .i64 a2, .slice A3 l3.length c3] 54 (0, 0))) := ⟨h4_⟩
                            have n5_ : Aside0 (w59.heap[gb141]? = some (.cells #[.int .i8 0, .int .i8 0, .int .i8 0] 24 (0, 0))) := ⟨h5_⟩
                            have n6_ : Aside0 (w.heap.size ≤ gb141) := ⟨h6_⟩
                            have n7_ : Aside0 (w.heap.size ≤ gb141) := ⟨h7_⟩
                            have n8_ : Aside0 (gb127 ≠ gb141) := ⟨h8_⟩
                            have n9_ : Aside0 (gb141 ≠ gb127) := ⟨h9_⟩
                            have n10_ : Aside0 (gb128 ≠ gb141) := ⟨h10_⟩
                            have n11_ : Aside0 (gb141 ≠ gb128) := ⟨h11_⟩
                            have n12_ : Aside0 (gb135 ≠ gb141) := ⟨h12_⟩
                            have n13_ : Aside0 (gb141 ≠ gb135) := ⟨h13_⟩
                            have n14_ : Aside0 (gb136 ≠ gb141) := ⟨h14_⟩
                            have n15_ : Aside0 (gb141 ≠ gb136) := ⟨h15_⟩
                            have n16_ : Aside0 (Below w.heap.size w w59) := ⟨h16_⟩
                            clear HO_136002
                            clear BK127
                            clear BK128
                            clear BK135
                            clear BK136
                            clear HB
                            clear h0_ h1_ h2_ h3_ h4_ h5_ h6_ h7_ h8_ h9_ h10_ h11_ h12_ h13_ h14_ h15_ h16_
                            have HO_136002 := n0_
                            have BK127 := n1_
                            have BK128 := n2_
                            have BK135 := n3_
                            have BK136 := n4_
                            have BK141 := n5_
                            have GW141 := n6_
                            have GE141 := n7_
                            have NB127_141 := n8_
                            have NB141_127 := n9_
                            have NB128_141 := n10_
                            have NB141_128 := n11_
                            have NB135_141 := n12_
                            have NB141_135 := n13_
                            have NB136_141 := n14_
                            have NB141_136 := n15_
                            have HB := n16_
                            clear n0_ n1_ n2_ n3_ n4_ n5_ n6_ n7_ n8_ n9_ n10_ n11_ n12_ n13_ n14_ n15_ n16_
                            have hHeld : w59.cell? ⟨gb136, 0, none⟩ = some (.int .i64 a1_0) ∧ w59.cell? ⟨gb136, 1, none⟩ = some (.int .i64 a2) ∧ w59.cell? ⟨gb136, 2, none⟩ = some (.slice A3 l3.length c3) ∧ w59.cell? ⟨gb127, 0, none⟩ = some (.int .i64 a1_0) ∧ w59.cell? ⟨gb127, 1, none⟩ = some (.int .i64 a1_1) ∧ w59.cell? ⟨gb127, 2, none⟩ = some (.slice (some ad137) l1_2.length c1_2) := hS_
                            refine norm_ (a' := ?_) ?_ ?_
                            rotate_left
                            · simp only [putAll, Act.put, List.setIfInBounds_toArray, List.set_cons_zero, List.set_cons_succ]
                              rfl
                            refine one_ (i := 11) (N := none) #[true, true, true, true, true, true, true, true, true, true, true, true] rfl rfl (one_of HT_.out (by kernel_rfl)) (by decide) (fun K hK => ?_)
                            have hs60 : w59.cell? ⟨gb141, 0, none⟩ = some (.int .i8 0) := (blk_cell BK141.out 0).trans rfl
                            have hfs60 := blk_frozen BK141.out 0
                            have hns60_0 := NB127_141.out
                            have hns60_1 := NB128_141.out
                            have hns60_2 := NB135_141.out
                            have hns60_3 := NB136_141.out
                            have hms60_0 := NB141_127.out
                            have hms60_1 := NB141_128.out
                            have hms60_2 := NB141_135.out
                            have hms60_3 := NB141_136.out
                            have hs61 : w59.cell? ⟨gb141, 1, none⟩ = some (.int .i8 0) := (blk_cell BK141.out 1).trans rfl
                            have hfs61 := blk_frozen BK141.out 1
                            have hns61_0 := NB127_141.out
                            have hns61_1 := NB128_141.out
                            have hns61_2 := NB135_141.out
                            have hns61_3 := NB136_141.out
                            have hms61_0 := NB141_127.out
                            have hms61_1 := NB141_128.out
                            have hms61_2 := NB141_135.out
                            have hms61_3 := NB141_136.out
                            have hs62 : w59.cell? ⟨gb141, 2, none⟩ = some (.int .i8 0) := (blk_cell BK141.out 2).trans rfl
                            have hfs62 := blk_frozen BK141.out 2
                            have hns62_0 := NB127_141.out
                            have hns62_1 := NB128_141.out
                            have hns62_2 := NB135_141.out
                            have hns62_3 := NB136_141.out
                            have hms62_0 := NB141_127.out
                            have hms62_1 := NB141_128.out
                            have hms62_2 := NB141_135.out
                            have hms62_3 := NB141_136.out
                            refine skip_ (w1 := ?_) (by rfl) rfl ?_ ?_
                            rotate_left
                            · go_simp
                              rfl
                            refine hK.out _ _ ⟨((cell_far (p := ⟨gb141, _, none⟩) NB136_141.out _).trans (((cell_far (p := ⟨gb141, _, none⟩) NB136_141.out _).trans (((cell_far (p := ⟨gb141, _, none⟩) NB136_141.out _).trans (hHeld.1)))))), ((cell_far (p := ⟨gb141, _, none⟩) NB136_141.out _).trans (((cell_far (p := ⟨gb141, _, none⟩) NB136_141.out _).trans (((cell_far (p := ⟨gb141, _, none⟩) NB136_141.out _).trans (hHeld.2.1)))))), ((cell_far (p := ⟨gb141, _, none⟩) NB136_141.out _).trans (((cell_far (p := ⟨gb141, _, none⟩) NB136_141.out _).trans (((cell_far (p := ⟨gb141, _, none⟩) NB136_141.out _).trans (hHeld.2.2.1)))))), ((cell_far (p := ⟨gb141, _, none⟩) NB127_141.out _).trans (((cell_far (p := ⟨gb141, _, none⟩) NB127_141.out _).trans (((cell_far (p := ⟨gb141, _, none⟩) NB127_141.out _).trans (hHeld.2.2.2.1)))))), ((cell_far (p := ⟨gb141, _, none⟩) NB127_141.out _).trans (((cell_far (p := ⟨gb141, _, none⟩) NB127_141.out _).trans (((cell_far (p := ⟨gb141, _, none⟩) NB127_141.out _).trans (hHeld.2.2.2.2.1)))))), ((cell_far (p := ⟨gb141, _, none⟩) NB127_141.out _).trans (((cell_far (p := ⟨gb141, _, none⟩) NB127_141.out _).trans (((cell_far (p := ⟨gb141, _, none⟩) NB127_141.out _).trans (hHeld.2.2.2.2.2))))))⟩ (fun hHeld => ?_)
                            clear hK K
                            refine done_ (done_of HT_.out (by kernel_rfl)) ?_
                            have n0_ : Aside0 (Kd.R (Kd.int .u32) 25 (((w59.setCell ⟨gb141, 0, none⟩ (.int .i8 t138)).setCell ⟨gb141, 1, none⟩ (.int .i8 t139)).setCell ⟨gb141, 2, none⟩ (.int .i8 t140)) w.heap.size (fun _ => True) u136002 x136002_2) := ⟨by (with_reducible repeat (first | apply Kd.R_alloc | apply Kd.R_drewN | apply Kd.R_drew)); exact Kd.R_mono (Kd.R_far (p := ⟨gb141, 2, none⟩) (Kd.R_far (p := ⟨gb141, 1, none⟩) (Kd.R_far (p := ⟨gb141, 0, none⟩) (Kd.R_types HO_136002.out BK141.out (by decide)) (fun _ hk => hk.2) (.int .i8 t138)) (fun _ hk => hk.2) (.int .i8 t139)) (fun _ hk => hk.2) (.int .i8 t140)) (fun _ hk => trivial)⟩
                            have n1_ : Aside0 ((((w59.setCell ⟨gb141, 0, none⟩ (.int .i8 t138)).setCell ⟨gb141, 1, none⟩ (.int .i8 t139)).setCell ⟨gb141, 2, none⟩ (.int .i8 t140)).heap[gb127]? = some (.cells #[.int .i64 a1_0, .int .i64 a1_1, .slice (some ad137) l1_2.length c1_2] 35 (0, 0))) := ⟨by (with_reducible repeat (first | refine blk_drewN ?_ _ | refine blk_drew ?_ | refine blk_alloc ?_ _)); refine blk_far ?_ NB127_141.out _; (with_reducible repeat (first | refine blk_drewN ?_ _ | refine blk_drew ?_ | refine blk_alloc ?_ _)); refine blk_far ?_ NB127_141.out _; (with_reducible repeat (first | refine blk_drewN ?_ _ | refine blk_drew ?_ | refine blk_alloc ?_ _)); refine blk_far ?_ NB127_141.out _; (with_reducible repeat (first | refine blk_drewN ?_ _ | refine blk_drew ?_ | refine blk_alloc ?_ _)); exact BK127.out⟩
                            have n2_ : Aside0 ((((w59.setCell ⟨gb141, 0, none⟩ (.int .i8 t138)).setCell ⟨gb141, 1, none⟩ (.int .i8 t139)).setCell ⟨gb141, 2, none⟩ (.int .i8 t140)).heap[gb128]? = some (.cells #[.int .i64 0, .int .i64 0, .slice none 0 0] 35 (0, 0))) := ⟨by (with_reducible repeat (first | refine blk_drewN ?_ _ | refine blk_drew ?_ | refine blk_alloc ?_ _)); refine blk_far ?_ NB128_141.out _; (with_reducible repeat (first | refine blk_drewN ?_ _ | refine blk_drew ?_ | refine blk_alloc ?_ _)); refine blk_far ?_ NB128_141.out _; (with_reducible repeat (first | refine blk_drewN ?_ _ | refine blk_drew ?_ | refine blk_alloc ?_ _)); refine blk_far ?_ NB128_141.out _; (with_reducible repeat (first | refine blk_drewN ?_ _ | refine blk_drew ?_ | refine blk_alloc ?_ _)); exact BK128.out⟩
                            have n3_ : Aside0 ((((w59.setCell ⟨gb141, 0, none⟩ (.int .i8 t138)).setCell ⟨gb141, 1, none⟩ (.int .i8 t139)).setCell ⟨gb141, 2, none⟩ (.int .i8 t140)).heap[gb135]? = some (.cells #[.int .i64 a1_0, .int .i64 a1_1, u136002] 35 (0, 0))) := ⟨by (with_reducible repeat (first | refine blk_drewN ?_ _ | refine blk_drew ?_ | refine blk_alloc ?_ _)); refine blk_far ?_ NB135_141.out _; (with_reducible repeat (first | refine blk_drewN ?_ _ | refine blk_drew ?_ | refine blk_alloc ?_ _)); refine blk_far ?_ NB135_141.out _; (with_reducible repeat (first | refine blk_drewN ?_ _ | refine blk_drew ?_ | refine blk_alloc ?_ _)); refine blk_far ?_ NB135_141.out _; (with_reducible repeat (first | refine blk_drewN ?_ _ | refine blk_drew ?_ | refine blk_alloc ?_ _)); exact BK135.out⟩
                            have n4_ : Aside0 ((((w59.setCell ⟨gb141, 0, none⟩ (.int .i8 t138)).setCell ⟨gb141, 1, none⟩ (.int .i8 t139)).setCell ⟨gb141, 2, none⟩ (.int .i8 t140)).heap[gb136]? = some (.cells #[.int .i64 a1_0, .int .i64 a2, .slice A3 l3.length c3] 54 (0, 0))) := ⟨by (with_reducible repeat (first | refine blk_drewN ?_ _ | refine blk_drew ?_ | refine blk_alloc ?_ _)); refine blk_far ?_ NB136_141.out _; (with_reducible repeat (first | refine blk_drewN ?_ _ | refine blk_drew ?_ | refine blk_alloc ?_ _)); refine blk_far ?_ NB136_141.out _; (with_reducible repeat (first | refine blk_drewN ?_ _ | refine blk_drew ?_ | refine blk_alloc ?_ _)); refine blk_far ?_ NB136_141.out _; (with_reducible repeat (first | refine blk_drewN ?_ _ | refine blk_drew ?_ | refine blk_alloc ?_ _)); exact BK136.out⟩
                            have n5_ : Aside0 ((((w59.setCell ⟨gb141, 0, none⟩ (.int .i8 t138)).setCell ⟨gb141, 1, none⟩ (.int .i8 t139)).setCell ⟨gb141, 2, none⟩ (.int .i8 t140)).heap[gb141]? = some (.cells #[.int .i8 t138, .int .i8 t139, .int .i8 t140] 24 (0, 0))) := ⟨by (with_reducible repeat (first | refine blk_drewN ?_ _ | refine blk_drew ?_ | refine blk_alloc ?_ _)); refine blk_put (cs := #[.int .i8 t138, .int .i8 t139, .int .i8 0]) ?_ 2 _ rfl; (with_reducible repeat (first | refine blk_drewN ?_ _ | refine blk_drew ?_ | refine blk_alloc ?_ _)); refine blk_put (cs := #[.int .i8 t138, .int .i8 0, .int .i8 0]) ?_ 1 _ rfl; (with_reducible repeat (first | refine blk_drewN ?_ _ | refine blk_drew ?_ | refine blk_alloc ?_ _)); refine blk_put (cs := #[.int .i8 0, .int .i8 0, .int .i8 0]) ?_ 0 _ rfl; (with_reducible repeat (first | refine blk_drewN ?_ _ | refine blk_drew ?_ | refine blk_alloc ?_ _)); exact BK141.out⟩
                            have n6_ : Aside0 (Below w.heap.size w (((w59.setCell ⟨gb141, 0, none⟩ (.int .i8 t138)).setCell ⟨gb141, 1, none⟩ (.int .i8 t139)).setCell ⟨gb141, 2, none⟩ (.int .i8 t140))) := ⟨by repeat (first | (with_reducible first | exact HB.out | apply below_alloc | apply pw_below_drewN | apply below_drew1 | refine below_set ?_ GE127.out | refine below_set ?_ GE128.out | refine below_set ?_ GE135.out | refine below_set ?_ GE136.out | refine below_set ?_ GE141.out) | exact HB.out)⟩
                            (try clear HO_136002)
                            (try clear BK127)
                            (try clear BK128)
                            (try clear BK135)
                            (try clear BK136)
                            (try clear BK141)
                            (try clear HB)
                            generalize (((w59.setCell ⟨gb141, 0, none⟩ (.int .i8 t138)).setCell ⟨gb141, 1, none⟩ (.int .i8 t139)).setCell ⟨gb141, 2, none⟩ (.int .i8 t140)) = w63 at n0_ n1_ n2_ n3_ n4_ n5_ n6_ ⊢
                            have HO_136002 := n0_
                            have BK127 := n1_
                            have BK128 := n2_
                            have BK135 := n3_
                            have BK136 := n4_
                            have BK141 := n5_
                            have HB := n6_
                            clear n0_ n1_ n2_ n3_ n4_ n5_ n6_
                            have hnb64 := NB141_127.out
                            have hnc64 := NB127_141.out
                            have hnb65 := NB141_128.out
                            have hnc65 := NB128_141.out
                            have hnb66 := NB141_135.out
                            have hnc66 := NB135_141.out
                            have hnb67 := NB141_136.out
                            have hnc67 := NB136_141.out
                            have hcz68_0 : w63.cell? ⟨gb141, 0, none⟩ = some (.int .i8 t138) := (blk_cell BK141.out 0).trans rfl
                            have hcz68_1 : w63.cell? ⟨gb141, 1, none⟩ = some (.int .i8 t139) := (blk_cell BK141.out 1).trans rfl
                            have hcz68_2 : w63.cell? ⟨gb141, 2, none⟩ = some (.int .i8 t140) := (blk_cell BK141.out 2).trans rfl
                            have hfz68_0 := blk_frozen BK141.out 0
                            have hfz68_1 := blk_frozen BK141.out 1
                            have hfz68_2 := blk_frozen BK141.out 2
                            have hnb69 := NB135_127.out
                            have hnc69 := NB127_135.out
                            have hnb70 := NB135_128.out
                            have hnc70 := NB128_135.out
                            have hnb71 := NB135_136.out
                            have hnc71 := NB136_135.out
                            have hcz72_0 : w63.cell? ⟨gb135, 0, none⟩ = some (.int .i64 a1_0) := (blk_cell BK135.out 0).trans rfl
                            have hcz72_1 : w63.cell? ⟨gb135, 1, none⟩ = some (.int .i64 a1_1) := (blk_cell BK135.out 1).trans rfl
                            have hcz72_2 : w63.cell? ⟨gb135, 2, none⟩ = some (u136002) := (blk_cell BK135.out 2).trans rfl
                            have hfz72_0 := blk_frozen BK135.out 0
                            have hfz72_1 := blk_frozen BK135.out 1
                            have hfz72_2 := blk_frozen BK135.out 2
                            have p55 : 0 ≤ (x49_2 : Int) := of_decide_eq_true (by first | (with_reducible assumption) | assumption)
                            have q55 : (x49_2 : Int) < ((x136002_2.length : Int) : Int) := of_decide_eq_true (by first | (with_reducible assumption) | assumption)
                            obtain ⟨go55, co55, eo55, gb55, gl55, cl55, HG55⟩ := Kd.R_form HO_136002.out (by omega)
                            (first | cases eo55 | (injection eo55 with ea_ en_ ec_; (first | subst ea_ | (injection ea_ with ea_; subst ea_)); subst ec_; clear en_))
                            have GB55 := Aside0.mk gb55
                            have GG55 := Aside0.mk HG55
                            clear gb55 gl55 HG55
                            obtain ⟨hx55_0, hf55_0⟩ := Kd.R_celln 0 HO_136002.out (x49_2 : Int) p55 q55
                            replace p55 := eq_true p55
                            replace q55 := eq_true q55
                            obtain ⟨hy73_, hz73_⟩ := Kd.R_celln 0 HO_136002.out (x49_2 : Int) (of_decide_eq_true (by first | (with_reducible assumption) | assumption)) (of_decide_eq_true (by first | (with_reducible assumption) | assumption))
                            have HP73 := Kd.R_putg HO_136002.out (x49_2 : Int) (rd l1_2 x49_2)
                            try go_wp2_with (first | ((with_reducible refine gate_store (t := 25) (p := 71) rfl ?_); refine store_event (t := 25) (p := 71) (v := ?vo_w74) (w1 := (w63.setCell ⟨go55, (x49_2 : Int).toNat, none⟩ (.int .u32 (rd l1_2 x49_2)))) ?hg ?ho ?hn ?hr ?_; (case ho => rfl); (case hg => rfl); (case hn => rfl); (case hr => first | (go_simp; done) | (go_simp; rfl)); intro w74 hw; have hg : w63.grownBy w74 (some go55) := (by rw [hw]; exact HP73.2); have hp_ : Kd.R (Kd.int .u32) 25 w74 w.heap.size (fun _ => True) (.slice (some ⟨go55, 0, none⟩) x136002_2.length co55) y142 := (by rw [hw, Ny142.out]; exact HP73.1); clear HP73; have n0_ := Aside0.mk (hp_); have n1_ := Aside0.mk (blk_grown (g := gb127) (o := .cells #[.int .i64 a1_0, .int .i64 a1_1, .slice (some ad137) l1_2.length c1_2] 35 (0, 0)) (by (with_reducible repeat (first | refine blk_drewN ?_ _ | refine blk_drew ?_ | refine blk_alloc ?_ _)); exact BK127.out) hg (Kd.R_ne HO_136002.out BK127.out (by decide))); have n2_ := Aside0.mk (blk_grown (g := gb128) (o := .cells #[.int .i64 0, .int .i64 0, .slice none 0 0] 35 (0, 0)) (by (with_reducible repeat (first | refine blk_drewN ?_ _ | refine blk_drew ?_ | refine blk_alloc ?_ _)); exact BK128.out) hg (Kd.R_ne HO_136002.out BK128.out (by decide))); have n3_ := Aside0.mk (blk_grown (g := gb135) (o := .cells #[.int .i64 a1_0, .int .i64 a1_1, .slice (some ⟨go55, 0, none⟩) x136002_2.length co55] 35 (0, 0)) (by (with_reducible repeat (first | refine blk_drewN ?_ _ | refine blk_drew ?_ | refine blk_alloc ?_ _)); exact BK135.out) hg (Kd.R_ne HO_136002.out BK135.out (by decide))); have n4_ := Aside0.mk (blk_grown (g := gb136) (o := .cells #[.int .i64 a1_0, .int .i64 a2, .slice A3 l3.length c3] 54 (0, 0)) (by (with_reducible repeat (first | refine blk_drewN ?_ _ | refine blk_drew ?_ | refine blk_alloc ?_ _)); exact BK136.out) hg (Kd.R_ne HO_136002.out BK136.out (by decide))); have n5_ := Aside0.mk (blk_grown (g := gb141) (o := .cells #[.int .i8 t138, .int .i8 t139, .int .i8 t140] 24 (0, 0)) (by (with_reducible repeat (first | refine blk_drewN ?_ _ | refine blk_drew ?_ | refine blk_alloc ?_ _)); exact BK141.out) hg (Kd.R_ne HO_136002.out BK141.out (by decide))); have n6_ := Aside0.mk ((by rw [hw]; exact below_set (HB.out) GB55.out : Below w.heap.size w w74)); clear HO_136002; clear BK127; clear BK128; clear BK135; clear BK136; clear BK141; clear HB; have HO_136002 := n0_; have BK127 := n1_; have BK128 := n2_; have BK135 := n3_; have BK136 := n4_; have BK141 := n5_; have HB := n6_; clear n0_ n1_ n2_ n3_ n4_ n5_ n6_; clear hg hw hp_))
                            go_roundg k2
                            case measure => have := HJ4.out; have := HK2.out; omega
                            case rel => exact ⟨(wrap64 (x49_2 + 1)), (y142), (.slice (some ⟨go55, 0, none⟩) x136002_2.length co55), (by first | rfl | (simp; done) | (simp [*]; done)), H', ⟨by have := HJ4.out; have := HK2.out; omega⟩, ⟨by (with_reducible repeat (first | apply Kd.R_alloc | apply Kd.R_drewN | apply Kd.R_drew)); exact HO_136002.out⟩, ⟨by (with_reducible repeat (first | refine blk_drewN ?_ _ | refine blk_drew ?_ | refine blk_alloc ?_ _)); exact BK127.out⟩, ⟨by (with_reducible repeat (first | refine blk_drewN ?_ _ | refine blk_drew ?_ | refine blk_alloc ?_ _)); exact BK128.out⟩, ⟨by (with_reducible repeat (first | refine blk_drewN ?_ _ | refine blk_drew ?_ | refine blk_alloc ?_ _)); exact BK135.out⟩, ⟨by (with_reducible repeat (first | refine blk_drewN ?_ _ | refine blk_drew ?_ | refine blk_alloc ?_ _)); exact BK136.out⟩, ⟨by repeat (first | (with_reducible first | exact HB.out | apply below_alloc | apply pw_below_drewN | apply below_drew1 | refine below_set ?_ GE127.out | refine below_set ?_ GE128.out | refine below_set ?_ GE135.out | refine below_set ?_ GE136.out | refine below_set ?_ GE141.out) | exact HB.out)⟩⟩
                          · rw [if_neg c54] at H
                            exact absurd H (by simp)
                        · rw [if_neg c53] at H
                          have c53b0 : (t138 == 0 && (t139 == 0 && (t140 == 0))) = false := by simpa using c53
                          (try (have c53b1 : decide (t138 = 0 && (t139 == 0 && (t140 == 0))) = false := by simpa using c53))
                          (try (have c53b2 : (t138 == 0 && (t139 == 0 && (t140 == 0))) = false := by simpa using c53))
                          (try (have c53b3 : ¬ (t138 = 0 && (t139 == 0 && (t140 == 0))) := by simpa using c53))
                          clear c53
                          replace H := Option.bind_eq_some_iff.mp H
                          obtain ⟨t143, A750, H⟩ := H
                          replace H : (if x49_2 < (x136002_2.length : Int) then (cross_way_turn__cross_forth.l0 k2 l1_2 (l1_2.length : Int) (wrap64 (x49_2 + 1)) a1_0 a1_1 l1_2 a1_0 a1_1 (x136002_2.set (x49_2 : Int).toNat t143) a1_0 a2 l3) else (none)) = some (r1, r2, r3, r4) := H
                          have A75 := Aside0.mk A750
                          clear A750
                          by_cases c76 : x49_2 < (x136002_2.length : Int)
                          · rw [if_pos c76] at H
                            have c76b0 : decide (x49_2 < (x136002_2.length : Int)) = true := decide_eq_true c76
                            clear c76
                            obtain ⟨y144, hy144⟩ : ∃ y_ : List Int, y_ = (x136002_2.set (x49_2 : Int).toNat t143) := ⟨_, rfl⟩
                            replace H : (cross_way_turn__cross_forth.l0 k2 l1_2 (l1_2.length : Int) (wrap64 (x49_2 + 1)) a1_0 a1_1 l1_2 a1_0 a1_1 y144 a1_0 a2 l3) = some (r1, r2, r3, r4) := by first | (rw [hy144]; with_reducible exact H) | (have H2_ := (Option.bind_some _ _).symm.trans H; rw [hy144]; with_reducible exact H2_) | (have H2_ := (Option.bind_some _ _).symm.trans H; with_reducible exact H2_) | with_reducible exact H | (rw [hy144]; exact H) | exact H
                            have Ny144 := Aside0.mk hy144
                            clear hy144
                            have H' := Aside0.mk H
                            clear H
                            have p137 : 0 ≤ (x49_2 : Int) := of_decide_eq_true (by first | (with_reducible assumption) | assumption)
                            have q137 : x49_2 < (l1_2.length : Int) := of_decide_eq_true (by first | (with_reducible assumption) | assumption)
                            obtain ⟨ad137, e137, hx137_0⟩ := Kd.at_int HR1_2.out x49_2 p137 q137
                            cases e137
                            replace hx137_0 := (HB.out.cell (World.block_lt_of_cell? w _ hx137_0)).trans hx137_0
                            replace p137 := eq_true p137
                            replace q137 := eq_true q137
                            try go_wp2
                            have n0_ := Aside0.mk (Kd.R_drew HO_136002.out)
                            have n1_ := Aside0.mk (blk_drew BK127.out)
                            have n2_ := Aside0.mk (blk_drew BK128.out)
                            have n3_ := Aside0.mk (blk_drew BK135.out)
                            have n4_ := Aside0.mk (blk_drew BK136.out)
                            have n5_ := Aside0.mk (below_drew1 HB.out)
                            clear HO_136002
                            clear BK127
                            clear BK128
                            clear BK135
                            clear BK136
                            clear HB
                            have HO_136002 := n0_
                            have BK127 := n1_
                            have BK128 := n2_
                            have BK135 := n3_
                            have BK136 := n4_
                            have HB := n5_
                            clear n0_ n1_ n2_ n3_ n4_ n5_
                            refine start_ (n := 12) (S := fun w' => w'.cell? ⟨gb136, 0, none⟩ = some (.int .i64 a1_0) ∧ w'.cell? ⟨gb136, 1, none⟩ = some (.int .i64 a2) ∧ w'.cell? ⟨gb136, 2, none⟩ = some (.slice A3 l3.length c3) ∧ w'.cell? ⟨gb127, 0, none⟩ = some (.int .i64 a1_0) ∧ w'.cell? ⟨gb127, 1, none⟩ = some (.int .i64 a1_1) ∧ w'.cell? ⟨gb127, 2, none⟩ = some (.slice (some ad137) l1_2.length c1_2)) (ds := []) #[false, false, false, false, false, false, false, false, false, false, false, false] (by kernel_rfl) rfl rfl ⟨(blk_cell BK136.out 0).trans rfl, (blk_cell BK136.out 1).trans rfl, (blk_cell BK136.out 2).trans rfl, (blk_cell BK127.out 0).trans rfl, (blk_cell BK127.out 1).trans rfl, (blk_cell BK127.out 2).trans rfl⟩ (fun hHeld => ?_); refine with_tabW cross_way_turn__cross_forth.tab8 cross_way_turn__cross_forth.bits8 (fun HT_ HW_ => ?_)
                            generalize wr.drew = w78 at HO_136002 BK127 BK128 BK135 BK136 HB hHeld ⊢
                            refine pure_ (i := 1) (N := some 55) (v := ?_) (a' := ?_) #[false, true, false, false, false, false, false, false, false, false, false, false] rfl rfl (any_of HT_.out (by kernel_rfl)) (fun _ _ _ h => h) (Or.inl ⟨by rfl, ?_⟩) ?_ ?_
                            rotate_left
                            · intro w'
                              go_simp
                              with_reducible rfl
                            rotate_left
                            · simp only [Act.put, List.setIfInBounds_toArray, List.set_cons_zero, List.set_cons_succ, i64_w, i32_w]
                              rfl
                            refine pure_ (i := 2) (N := some 56) (v := ?_) (a' := ?_) #[false, true, true, false, false, false, false, false, false, false, false, false] rfl rfl (any_of HT_.out (by kernel_rfl)) (fun _ _ _ h => h) (Or.inl ⟨by rfl, ?_⟩) ?_ ?_
                            rotate_left
                            · intro w'
                              go_simp
                              with_reducible rfl
                            rotate_left
                            · simp only [Act.put, List.setIfInBounds_toArray, List.set_cons_zero, List.set_cons_succ, i64_w, i32_w]
                              rfl
                            refine pure_ (i := 5) (N := some 59) (v := ?_) (a' := ?_) #[false, true, true, false, false, true, false, false, false, false, false, false] rfl rfl (any_of HT_.out (by kernel_rfl)) (fun _ _ _ h => h) (Or.inl ⟨by rfl, ?_⟩) ?_ ?_
                            rotate_left
                            · intro w'
                              go_simp
                              with_reducible rfl
                            rotate_left
                            · simp only [Act.put, List.setIfInBounds_toArray, List.set_cons_zero, List.set_cons_succ, i64_w, i32_w]
                              rfl
                            refine pure_ (i := 6) (N := some 60) (v := ?_) (a' := ?_) #[false, true, true, false, false, true, true, false, false, false, false, false] rfl rfl (any_of HT_.out (by kernel_rfl)) (fun _ _ _ h => h) (Or.inl ⟨by rfl, ?_⟩) ?_ ?_
                            rotate_left
                            · intro w'
                              go_simp
                              with_reducible rfl
                            rotate_left
                            · simp only [Act.put, List.setIfInBounds_toArray, List.set_cons_zero, List.set_cons_succ, i64_w, i32_w]
                              rfl
                            refine take_ (i := 0) (N := some 54) (v := ?_) (a' := ?_) #[true, true, true, false, false, true, true, false, false, false, false, false] rfl rfl (take_ofW HT_.out HW_.out (by kernel_rfl)) (fun _ _ _ h => h) (Or.inl ⟨by rfl, ?_⟩) hHeld ?_ ?_
                            rotate_left
                            · rintro w' ⟨s0, s1, s2, s3, s4, s5⟩
                              go_simp
                              with_reducible rfl
                            rotate_left
                            · simp only [Act.put, List.setIfInBounds_toArray, List.set_cons_zero, List.set_cons_succ, i64_w, i32_w]
                              rfl
                            refine take_ (i := 3) (N := some 57) (v := ?_) (a' := ?_) #[true, true, true, true, false, true, true, false, false, false, false, false] rfl rfl (take_ofW HT_.out HW_.out (by kernel_rfl)) (fun _ _ _ h => h) (Or.inl ⟨by rfl, ?_⟩) hHeld ?_ ?_
                            rotate_left
                            · rintro w' ⟨s0, s1, s2, s3, s4, s5⟩
                              go_simp
                              with_reducible rfl
                            rotate_left
                            · simp only [Act.put, List.setIfInBounds_toArray, List.set_cons_zero, List.set_cons_succ, i64_w, i32_w]
                              rfl
                            refine pure_ (i := 4) (N := some 58) (v := ?_) (a' := ?_) #[true, true, true, true, true, true, true, false, false, false, false, false] rfl rfl (any_of HT_.out (by kernel_rfl)) (fun _ _ _ h => h) (Or.inl ⟨by rfl, ?_⟩) ?_ ?_
                            rotate_left
                            · intro w'
                              go_simp
                              with_reducible rfl
                            rotate_left
                            · simp only [Act.put, List.setIfInBounds_toArray, List.set_cons_zero, List.set_cons_succ, i64_w, i32_w]
                              rfl
                            refine take_ (i := 7) (N := some 61) (v := ?_) (a' := ?_) #[true, true, true, true, true, true, true, true, false, false, false, false] rfl rfl (take_ofW HT_.out HW_.out (by kernel_rfl)) (fun _ _ _ h => h) (Or.inl ⟨by rfl, ?_⟩) hHeld ?_ ?_
                            rotate_left
                            · rintro w' ⟨s0, s1, s2, s3, s4, s5⟩
                              go_simp
                              with_reducible rfl
                            rotate_left
                            · simp only [Act.put, List.setIfInBounds_toArray, List.set_cons_zero, List.set_cons_succ, i64_w, i32_w]
                              rfl
                            refine pure_ (i := 8) (N := some 62) (v := ?_) (a' := ?_) #[true, true, true, true, true, true, true, true, true, false, false, false] rfl rfl (any_of HT_.out (by kernel_rfl)) (fun _ _ _ h => h) (Or.inl ⟨by rfl, ?_⟩) ?_ ?_
                            rotate_left
                            · intro w'
                              go_simp
                              with_reducible rfl
                            rotate_left
                            · simp only [Act.put, List.setIfInBounds_toArray, List.set_cons_zero, List.set_cons_succ, i64_w, i32_w]
                              rfl
                            refine join_ (σ := Nat) 1 #[true, true, true, true, true, true, true, true, true, true, true, false] (fun s_ => [(63, .agg #[.int .i8 t138, .int .i8 t139, .int .i8 t140]), (14, .pointer (some ⟨s_, 0, none⟩))]) (fun s_ w' => (w'.cell? ⟨gb136, 0, none⟩ = some (.int .i64 a1_0) ∧ w'.cell? ⟨gb136, 1, none⟩ = some (.int .i64 a2) ∧ w'.cell? ⟨gb136, 2, none⟩ = some (.slice A3 l3.length c3) ∧ w'.cell? ⟨gb127, 0, none⟩ = some (.int .i64 a1_0) ∧ w'.cell? ⟨gb127, 1, none⟩ = some (.int .i64 a1_1) ∧ w'.cell? ⟨gb127, 2, none⟩ = some (.slice (some ad137) l1_2.length c1_2)) ∧ (Kd.R (Kd.int .u32) 25 w' w.heap.size (fun _ => True) u136002 x136002_2) ∧ (w'.heap[gb127]? = some (.cells #[.int .i64 a1_0, .int .i64 a1_1, .slice (some ad137) l1_2.length c1_2] 35 (0, 0))) ∧ (w'.heap[gb128]? = some (.cells #[.int .i64 0, .int .i64 0, .slice none 0 0] 35 (0, 0))) ∧ (w'.heap[gb135]? = some (.cells #[.int .i64 a1_0, .int .i64 a1_1, u136002] 35 (0, 0))) ∧ (w'.heap[gb136]? = some (.cells #[.int .i64 a1_0, .int .i64 a2, .slice A3 l3.length c3] 54 (0, 0))) ∧ (w'.heap[s_]? = some (.cells #[.int .i8 0, .int .i8 0, .int .i8 0] 24 (0, 0))) ∧ (w.heap.size ≤ s_) ∧ (w.heap.size ≤ s_) ∧ (gb127 ≠ s_) ∧ (s_ ≠ gb127) ∧ (gb128 ≠ s_) ∧ (s_ ≠ gb128) ∧ (gb135 ≠ s_) ∧ (s_ ≠ gb135) ∧ (gb136 ≠ s_) ∧ (s_ ≠ gb136) ∧ (Below w.heap.size w w')) ?_ ?_
                            rotate_left
                            · intro hCont
                              refine two_ (i := 9) (j := 10) (Ni := some 63) (Nj := some 14) #[true, true, true, true, true, true, true, true, true, true, false, false] #[true, true, true, true, true, true, true, true, true, false, true, false] rfl rfl rfl rfl (two_of HT_.out (by kernel_rfl)) (by decide) (by decide) (fun K hK => ?_) (fun K hK => ?_)
                              · skip
                                first | (refine goes_ Try.func27 (by kernel_rfl) rfl #[.agg #[.int .i64 a1_0, .int .i64 a2, .slice A3 l3.length c3], .int .i64 (Int.tmod x49_2 a1_0), .int .i64 (wrap64 (Int.tdiv x49_2 a1_0))] (by rfl) rfl rfl (by (try simp only [List.map_toArray, List.map_cons, List.map_nil]); first | done | rfl | (simp only [List.length_drop, List.length_take]; rfl)) ?_) | (refine goesT_ Try.func27 (by kernel_rfl) rfl #[.agg #[.int .i64 a1_0, .int .i64 a2, .slice A3 l3.length c3], .int .i64 (Int.tmod x49_2 a1_0), .int .i64 (wrap64 (Int.tdiv x49_2 a1_0))] (by rfl) rfl rfl (by rfl) (by (try simp only [List.map_toArray, List.map_cons, List.map_nil]); first | done | rfl | (simp only [List.length_drop, List.length_take]; rfl)) ?_)
                                with_reducible refine (api_Element_At.calls a1_0 a2 _ _ l3 (Int.tmod x49_2 a1_0) (wrap64 (Int.tdiv x49_2 a1_0)) t138 t139 t140 _ ?side1 ?side2 A52.out).mono ?_
                                (case side1 => repeat (first | exact (Kd.C_below HR3.out HB.out) | (with_reducible refine Kd.C_alloc ?_ _) | (with_reducible refine Kd.C_drewN ?_ _) | (with_reducible refine Kd.C_drew ?_)))
                                (case side2 => exact HC3.out)
                                rintro e w79 ⟨rfl, hb⟩
                                refine ⟨_, rfl, ?_⟩
                                have n0_ := Aside0.mk (Kd.R_below (by (with_reducible repeat (first | apply Kd.R_alloc | apply Kd.R_drewN | apply Kd.R_drew)); exact HO_136002.out) hb)
                                have n1_ := Aside0.mk (blk_below (g := gb127) (o := .cells #[.int .i64 a1_0, .int .i64 a1_1, .slice (some ad137) l1_2.length c1_2] 35 (0, 0)) (by (with_reducible repeat (first | refine blk_drewN ?_ _ | refine blk_drew ?_ | refine blk_alloc ?_ _)); exact BK127.out) hb)
                                have n2_ := Aside0.mk (blk_below (g := gb128) (o := .cells #[.int .i64 0, .int .i64 0, .slice none 0 0] 35 (0, 0)) (by (with_reducible repeat (first | refine blk_drewN ?_ _ | refine blk_drew ?_ | refine blk_alloc ?_ _)); exact BK128.out) hb)
                                have n3_ := Aside0.mk (blk_below (g := gb135) (o := .cells #[.int .i64 a1_0, .int .i64 a1_1, u136002] 35 (0, 0)) (by (with_reducible repeat (first | refine blk_drewN ?_ _ | refine blk_drew ?_ | refine blk_alloc ?_ _)); exact BK135.out) hb)
                                have n4_ := Aside0.mk (blk_below (g := gb136) (o := .cells #[.int .i64 a1_0, .int .i64 a2, .slice A3 l3.length c3] 54 (0, 0)) (by (with_reducible repeat (first | refine blk_drewN ?_ _ | refine blk_drew ?_ | refine blk_alloc ?_ _)); exact BK136.out) hb)
                                have n5_ := Aside0.mk (below_step (by repeat (first | (with_reducible first | exact HB.out | apply below_alloc | apply pw_below_drewN | apply below_drew1 | refine below_set ?_ GE127.out | refine below_set ?_ GE128.out | refine below_set ?_ GE135.out | refine below_set ?_ GE136.out) | exact HB.out)) hb)
                                clear HO_136002
                                clear BK127
                                clear BK128
                                clear BK135
                                clear BK136
                                clear HB
                                have HO_136002 := n0_
                                have BK127 := n1_
                                have BK128 := n2_
                                have BK135 := n3_
                                have BK136 := n4_
                                have HB := n5_
                                clear n0_ n1_ n2_ n3_ n4_ n5_
                                (try clear hb)
                                (try clear hb2)
                                (try clear hk)
                                (try clear hi)
                                refine hK.out _ _ ⟨(blk_cell BK136.out 0).trans rfl, (blk_cell BK136.out 1).trans rfl, (blk_cell BK136.out 2).trans rfl, (blk_cell BK127.out 0).trans rfl, (blk_cell BK127.out 1).trans rfl, (blk_cell BK127.out 2).trans rfl⟩ (fun hHeld => ?_)
                                clear hK K
                                refine norm_ (a' := ?_) ?_ ?_
                                rotate_left
                                · show Act.put _ (some 63) _ = _
                                  simp only [Act.put, List.setIfInBounds_toArray, List.set_cons_zero, List.set_cons_succ, i64_w, i32_w]
                                  rfl
                                refine one_ (i := 10) (N := some 14) #[true, true, true, true, true, true, true, true, true, true, true, false] rfl rfl (one_of HT_.out (by kernel_rfl)) (by decide) (fun K hK => ?_)
                                refine box_step ?hg (N := 14) ?hd (cs := #[.int .i8 0, .int .i8 0, .int .i8 0]) (t := 24) ?hr ?_; (case hd => rfl); (case hg => rfl); (case hr => first | (go_simp; done) | (go_simp; rfl))
                                intro gb141 hg w80 hbox hb
                                have n0_ := Aside0.mk (Kd.R_below (by (with_reducible repeat (first | apply Kd.R_alloc | apply Kd.R_drewN | apply Kd.R_drew)); exact HO_136002.out) hb)
                                have n1_ := Aside0.mk (blk_below (g := gb127) (o := .cells #[.int .i64 a1_0, .int .i64 a1_1, .slice (some ad137) l1_2.length c1_2] 35 (0, 0)) (by (with_reducible repeat (first | refine blk_drewN ?_ _ | refine blk_drew ?_ | refine blk_alloc ?_ _)); exact BK127.out) hb)
                                have n2_ := Aside0.mk (blk_below (g := gb128) (o := .cells #[.int .i64 0, .int .i64 0, .slice none 0 0] 35 (0, 0)) (by (with_reducible repeat (first | refine blk_drewN ?_ _ | refine blk_drew ?_ | refine blk_alloc ?_ _)); exact BK128.out) hb)
                                have n3_ := Aside0.mk (blk_below (g := gb135) (o := .cells #[.int .i64 a1_0, .int .i64 a1_1, u136002] 35 (0, 0)) (by (with_reducible repeat (first | refine blk_drewN ?_ _ | refine blk_drew ?_ | refine blk_alloc ?_ _)); exact BK135.out) hb)
                                have n4_ := Aside0.mk (blk_below (g := gb136) (o := .cells #[.int .i64 a1_0, .int .i64 a2, .slice A3 l3.length c3] 54 (0, 0)) (by (with_reducible repeat (first | refine blk_drewN ?_ _ | refine blk_drew ?_ | refine blk_alloc ?_ _)); exact BK136.out) hb)
                                have n5_ := Aside0.mk (below_step (by repeat (first | (with_reducible first | exact HB.out | apply below_alloc | apply pw_below_drewN | apply below_drew1 | refine below_set ?_ GE127.out | refine below_set ?_ GE128.out | refine below_set ?_ GE135.out | refine below_set ?_ GE136.out) | exact HB.out)) hb)
                                have n6_ := Aside0.mk (hbox)
                                have n7_ := Aside0.mk ((by rw [hg]; exact (below_size (by repeat (first | (with_reducible first | exact HB.out | apply below_alloc | apply pw_below_drewN | apply below_drew1 | refine below_set ?_ GE127.out | refine below_set ?_ GE128.out | refine below_set ?_ GE135.out | refine below_set ?_ GE136.out) | exact HB.out))) : w.heap.size ≤ gb141))
                                have n8_ := Aside0.mk ((by rw [hg]; exact (below_size (by repeat (first | (with_reducible first | exact HB.out | apply below_alloc | apply pw_below_drewN | apply below_drew1 | refine below_set ?_ GE127.out | refine below_set ?_ GE128.out | refine below_set ?_ GE135.out | refine below_set ?_ GE136.out) | exact HB.out))) : w.heap.size ≤ gb141))
                                have n9_ := Aside0.mk ((by rw [hg]; exact Nat.ne_of_lt (blk_lt (g := gb127) (o := .cells #[.int .i64 a1_0, .int .i64 a1_1, .slice (some ad137) l1_2.length c1_2] 35 (0, 0)) (by (with_reducible repeat (first | refine blk_drewN ?_ _ | refine blk_drew ?_ | refine blk_alloc ?_ _)); exact BK127.out)) : gb127 ≠ gb141))
                                have n10_ := Aside0.mk ((by rw [hg]; exact Nat.ne_of_gt (blk_lt (g := gb127) (o := .cells #[.int .i64 a1_0, .int .i64 a1_1, .slice (some ad137) l1_2.length c1_2] 35 (0, 0)) (by (with_reducible repeat (first | refine blk_drewN ?_ _ | refine blk_drew ?_ | refine blk_alloc ?_ _)); exact BK127.out)) : gb141 ≠ gb127))
                                have n11_ := Aside0.mk ((by rw [hg]; exact Nat.ne_of_lt (blk_lt (g := gb128) (o := .cells #[.int .i64 0, .int .i64 0, .slice none 0 0] 35 (0, 0)) (by (with_reducible repeat (first | refine blk_drewN ?_ _ | refine blk_drew ?_ | refine blk_alloc ?_ _)); exact BK128.out)) : gb128 ≠ gb141))
                                have n12_ := Aside0.mk ((by rw [hg]; exact Nat.ne_of_gt (blk_lt (g := gb128) (o := .cells #[.int .i64 0, .int .i64 0, .slice none 0 0] 35 (0, 0)) (by (with_reducible repeat (first | refine blk_drewN ?_ _ | refine blk_drew ?_ | refine blk_alloc ?_ _)); exact BK128.out)) : gb141 ≠ gb128))
                                have n13_ := Aside0.mk ((by rw [hg]; exact Nat.ne_of_lt (blk_lt (g := gb135) (o := .cells #[.int .i64 a1_0, .int .i64 a1_1, u136002] 35 (0, 0)) (by (with_reducible repeat (first | refine blk_drewN ?_ _ | refine blk_drew ?_ | refine blk_alloc ?_ _)); exact BK135.out)) : gb135 ≠ gb141))
                                have n14_ := Aside0.mk ((by rw [hg]; exact Nat.ne_of_gt (blk_lt (g := gb135) (o := .cells #[.int .i64 a1_0, .int .i64 a1_1, u136002] 35 (0, 0)) (by (with_reducible repeat (first | refine blk_drewN ?_ _ | refine blk_drew ?_ | refine blk_alloc ?_ _)); exact BK135.out)) : gb141 ≠ gb135))
                                have n15_ := Aside0.mk ((by rw [hg]; exact Nat.ne_of_lt (blk_lt (g := gb136) (o := .cells #[.int .i64 a1_0, .int .i64 a2, .slice A3 l3.length c3] 54 (0, 0)) (by (with_reducible repeat (first | refine blk_drewN ?_ _ | refine blk_drew ?_ | refine blk_alloc ?_ _)); exact BK136.out)) : gb136 ≠ gb141))
                                have n16_ := Aside0.mk ((by rw [hg]; exact Nat.ne_of_gt (blk_lt (g := gb136) (o := .cells #[.int .i64 a1_0, .int .i64 a2, .slice A3 l3.length c3] 54 (0, 0)) (by (with_reducible repeat (first | refine blk_drewN ?_ _ | refine blk_drew ?_ | refine blk_alloc ?_ _)); exact BK136.out)) : gb141 ≠ gb136))
                                clear HO_136002
                                clear BK127
                                clear BK128
                                clear BK135
                                clear BK136
                                clear HB
                                have HO_136002 := n0_
                                have BK127 := n1_
                                have BK128 := n2_
                                have BK135 := n3_
                                have BK136 := n4_
                                have HB := n5_
                                have BK141 := n6_
                                have GW141 := n7_
                                have GE141 := n8_
                                have NB127_141 := n9_
                                have NB141_127 := n10_
                                have NB128_141 := n11_
                                have NB141_128 := n12_
                                have NB135_141 := n13_
                                have NB141_135 := n14_
                                have NB136_141 := n15_
                                have NB141_136 := n16_
                                clear n0_ n1_ n2_ n3_ n4_ n5_ n6_ n7_ n8_ n9_ n10_ n11_ n12_ n13_ n14_ n15_ n16_
                                clear hb hbox hg
                                refine hK.out _ _ ⟨(blk_cell BK136.out 0).trans rfl, (blk_cell BK136.out 1).trans rfl, (blk_cell BK136.out 2).trans rfl, (blk_cell BK127.out 0).trans rfl, (blk_cell BK127.out 1).trans rfl, (blk_cell BK127.out 2).trans rfl⟩ (fun hHeld => ?_)
                                clear hK K
                                refine norm_ (a' := ?_) ?_ ?_
                                rotate_left
                                · show Act.put _ (some 14) _ = _
                                  simp only [Act.put, List.setIfInBounds_toArray, List.set_cons_zero, List.set_cons_succ, i64_w, i32_w]
                                  rfl
                                exact norm_ (by simp only [putAll, Act.put, List.setIfInBounds_toArray, List.set_cons_zero, List.set_cons_succ]) (hCont (gb141) _ ⟨hHeld, (by (with_reducible repeat (first | apply Kd.R_alloc | apply Kd.R_drewN | apply Kd.R_drew)); exact HO_136002.out), (by (with_reducible repeat (first | refine blk_drewN ?_ _ | refine blk_drew ?_ | refine blk_alloc ?_ _)); exact BK127.out), (by (with_reducible repeat (first | refine blk_drewN ?_ _ | refine blk_drew ?_ | refine blk_alloc ?_ _)); exact BK128.out), (by (with_reducible repeat (first | refine blk_drewN ?_ _ | refine blk_drew ?_ | refine blk_alloc ?_ _)); exact BK135.out), (by (with_reducible repeat (first | refine blk_drewN ?_ _ | refine blk_drew ?_ | refine blk_alloc ?_ _)); exact BK136.out), (by (with_reducible repeat (first | refine blk_drewN ?_ _ | refine blk_drew ?_ | refine blk_alloc ?_ _)); exact BK141.out), GW141.out, GE141.out, NB127_141.out, NB141_127.out, NB128_141.out, NB141_128.out, NB135_141.out, NB141_135.out, NB136_141.out, NB141_136.out, (by repeat (first | (with_reducible first | exact HB.out | apply below_alloc | apply pw_below_drewN | apply below_drew1 | refine below_set ?_ GE127.out | refine below_set ?_ GE128.out | refine below_set ?_ GE135.out | refine below_set ?_ GE136.out | refine below_set ?_ GE141.out) | exact HB.out))⟩)
                              · skip
                                refine box_step ?hg (N := 14) ?hd (cs := #[.int .i8 0, .int .i8 0, .int .i8 0]) (t := 24) ?hr ?_; (case hd => rfl); (case hg => rfl); (case hr => first | (go_simp; done) | (go_simp; rfl))
                                intro gb141 hg w79 hbox hb
                                have n0_ := Aside0.mk (Kd.R_below (by (with_reducible repeat (first | apply Kd.R_alloc | apply Kd.R_drewN | apply Kd.R_drew)); exact HO_136002.out) hb)
                                have n1_ := Aside0.mk (blk_below (g := gb127) (o := .cells #[.int .i64 a1_0, .int .i64 a1_1, .slice (some ad137) l1_2.length c1_2] 35 (0, 0)) (by (with_reducible repeat (first | refine blk_drewN ?_ _ | refine blk_drew ?_ | refine blk_alloc ?_ _)); exact BK127.out) hb)
                                have n2_ := Aside0.mk (blk_below (g := gb128) (o := .cells #[.int .i64 0, .int .i64 0, .slice none 0 0] 35 (0, 0)) (by (with_reducible repeat (first | refine blk_drewN ?_ _ | refine blk_drew ?_ | refine blk_alloc ?_ _)); exact BK128.out) hb)
                                have n3_ := Aside0.mk (blk_below (g := gb135) (o := .cells #[.int .i64 a1_0, .int .i64 a1_1, u136002] 35 (0, 0)) (by (with_reducible repeat (first | refine blk_drewN ?_ _ | refine blk_drew ?_ | refine blk_alloc ?_ _)); exact BK135.out) hb)
                                have n4_ := Aside0.mk (blk_below (g := gb136) (o := .cells #[.int .i64 a1_0, .int .i64 a2, .slice A3 l3.length c3] 54 (0, 0)) (by (with_reducible repeat (first | refine blk_drewN ?_ _ | refine blk_drew ?_ | refine blk_alloc ?_ _)); exact BK136.out) hb)
                                have n5_ := Aside0.mk (below_step (by repeat (first | (with_reducible first | exact HB.out | apply below_alloc | apply pw_below_drewN | apply below_drew1 | refine below_set ?_ GE127.out | refine below_set ?_ GE128.out | refine below_set ?_ GE135.out | refine below_set ?_ GE136.out) | exact HB.out)) hb)
                                have n6_ := Aside0.mk (hbox)
                                have n7_ := Aside0.mk ((by rw [hg]; exact (below_size (by repeat (first | (with_reducible first | exact HB.out | apply below_alloc | apply pw_below_drewN | apply below_drew1 | refine below_set ?_ GE127.out | refine below_set ?_ GE128.out | refine below_set ?_ GE135.out | refine below_set ?_ GE136.out) | exact HB.out))) : w.heap.size ≤ gb141))
                                have n8_ := Aside0.mk ((by rw [hg]; exact (below_size (by repeat (first | (with_reducible first | exact HB.out | apply below_alloc | apply pw_below_drewN | apply below_drew1 | refine below_set ?_ GE127.out | refine below_set ?_ GE128.out | refine below_set ?_ GE135.out | refine below_set ?_ GE136.out) | exact HB.out))) : w.heap.size ≤ gb141))
                                have n9_ := Aside0.mk ((by rw [hg]; exact Nat.ne_of_lt (blk_lt (g := gb127) (o := .cells #[.int .i64 a1_0, .int .i64 a1_1, .slice (some ad137) l1_2.length c1_2] 35 (0, 0)) (by (with_reducible repeat (first | refine blk_drewN ?_ _ | refine blk_drew ?_ | refine blk_alloc ?_ _)); exact BK127.out)) : gb127 ≠ gb141))
                                have n10_ := Aside0.mk ((by rw [hg]; exact Nat.ne_of_gt (blk_lt (g := gb127) (o := .cells #[.int .i64 a1_0, .int .i64 a1_1, .slice (some ad137) l1_2.length c1_2] 35 (0, 0)) (by (with_reducible repeat (first | refine blk_drewN ?_ _ | refine blk_drew ?_ | refine blk_alloc ?_ _)); exact BK127.out)) : gb141 ≠ gb127))
                                have n11_ := Aside0.mk ((by rw [hg]; exact Nat.ne_of_lt (blk_lt (g := gb128) (o := .cells #[.int .i64 0, .int .i64 0, .slice none 0 0] 35 (0, 0)) (by (with_reducible repeat (first | refine blk_drewN ?_ _ | refine blk_drew ?_ | refine blk_alloc ?_ _)); exact BK128.out)) : gb128 ≠ gb141))
                                have n12_ := Aside0.mk ((by rw [hg]; exact Nat.ne_of_gt (blk_lt (g := gb128) (o := .cells #[.int .i64 0, .int .i64 0, .slice none 0 0] 35 (0, 0)) (by (with_reducible repeat (first | refine blk_drewN ?_ _ | refine blk_drew ?_ | refine blk_alloc ?_ _)); exact BK128.out)) : gb141 ≠ gb128))
                                have n13_ := Aside0.mk ((by rw [hg]; exact Nat.ne_of_lt (blk_lt (g := gb135) (o := .cells #[.int .i64 a1_0, .int .i64 a1_1, u136002] 35 (0, 0)) (by (with_reducible repeat (first | refine blk_drewN ?_ _ | refine blk_drew ?_ | refine blk_alloc ?_ _)); exact BK135.out)) : gb135 ≠ gb141))
                                have n14_ := Aside0.mk ((by rw [hg]; exact Nat.ne_of_gt (blk_lt (g := gb135) (o := .cells #[.int .i64 a1_0, .int .i64 a1_1, u136002] 35 (0, 0)) (by (with_reducible repeat (first | refine blk_drewN ?_ _ | refine blk_drew ?_ | refine blk_alloc ?_ _)); exact BK135.out)) : gb141 ≠ gb135))
                                have n15_ := Aside0.mk ((by rw [hg]; exact Nat.ne_of_lt (blk_lt (g := gb136) (o := .cells #[.int .i64 a1_0, .int .i64 a2, .slice A3 l3.length c3] 54 (0, 0)) (by (with_reducible repeat (first | refine blk_drewN ?_ _ | refine blk_drew ?_ | refine blk_alloc ?_ _)); exact BK136.out)) : gb136 ≠ gb141))
                                have n16_ := Aside0.mk ((by rw [hg]; exact Nat.ne_of_gt (blk_lt (g := gb136) (o := .cells #[.int .i64 a1_0, .int .i64 a2, .slice A3 l3.length c3] 54 (0, 0)) (by (with_reducible repeat (first | refine blk_drewN ?_ _ | refine blk_drew ?_ | refine blk_alloc ?_ _)); exact BK136.out)) : gb141 ≠ gb136))
                                clear HO_136002
                                clear BK127
                                clear BK128
                                clear BK135
                                clear BK136
                                clear HB
                                have HO_136002 := n0_
                                have BK127 := n1_
                                have BK128 := n2_
                                have BK135 := n3_
                                have BK136 := n4_
                                have HB := n5_
                                have BK141 := n6_
                                have GW141 := n7_
                                have GE141 := n8_
                                have NB127_141 := n9_
                                have NB141_127 := n10_
                                have NB128_141 := n11_
                                have NB141_128 := n12_
                                have NB135_141 := n13_
                                have NB141_135 := n14_
                                have NB136_141 := n15_
                                have NB141_136 := n16_
                                clear n0_ n1_ n2_ n3_ n4_ n5_ n6_ n7_ n8_ n9_ n10_ n11_ n12_ n13_ n14_ n15_ n16_
                                clear hb hbox hg
                                refine hK.out _ _ ⟨(blk_cell BK136.out 0).trans rfl, (blk_cell BK136.out 1).trans rfl, (blk_cell BK136.out 2).trans rfl, (blk_cell BK127.out 0).trans rfl, (blk_cell BK127.out 1).trans rfl, (blk_cell BK127.out 2).trans rfl⟩ (fun hHeld => ?_)
                                clear hK K
                                refine norm_ (a' := ?_) ?_ ?_
                                rotate_left
                                · show Act.put _ (some 14) _ = _
                                  simp only [Act.put, List.setIfInBounds_toArray, List.set_cons_zero, List.set_cons_succ, i64_w, i32_w]
                                  rfl
                                refine one_ (i := 9) (N := some 63) #[true, true, true, true, true, true, true, true, true, true, true, false] rfl rfl (one_of HT_.out (by kernel_rfl)) (by decide) (fun K hK => ?_)
                                first | (refine goes_ Try.func27 (by kernel_rfl) rfl #[.agg #[.int .i64 a1_0, .int .i64 a2, .slice A3 l3.length c3], .int .i64 (Int.tmod x49_2 a1_0), .int .i64 (wrap64 (Int.tdiv x49_2 a1_0))] (by rfl) rfl rfl (by (try simp only [List.map_toArray, List.map_cons, List.map_nil]); first | done | rfl | (simp only [List.length_drop, List.length_take]; rfl)) ?_) | (refine goesT_ Try.func27 (by kernel_rfl) rfl #[.agg #[.int .i64 a1_0, .int .i64 a2, .slice A3 l3.length c3], .int .i64 (Int.tmod x49_2 a1_0), .int .i64 (wrap64 (Int.tdiv x49_2 a1_0))] (by rfl) rfl rfl (by rfl) (by (try simp only [List.map_toArray, List.map_cons, List.map_nil]); first | done | rfl | (simp only [List.length_drop, List.length_take]; rfl)) ?_)
                                with_reducible refine (api_Element_At.calls a1_0 a2 _ _ l3 (Int.tmod x49_2 a1_0) (wrap64 (Int.tdiv x49_2 a1_0)) t138 t139 t140 _ ?side1 ?side2 A52.out).mono ?_
                                (case side1 => repeat (first | exact (Kd.C_below HR3.out HB.out) | (with_reducible refine Kd.C_alloc ?_ _) | (with_reducible refine Kd.C_drewN ?_ _) | (with_reducible refine Kd.C_drew ?_)))
                                (case side2 => exact HC3.out)
                                rintro e w80 ⟨rfl, hb⟩
                                refine ⟨_, rfl, ?_⟩
                                have n0_ := Aside0.mk (Kd.R_below (by (with_reducible repeat (first | apply Kd.R_alloc | apply Kd.R_drewN | apply Kd.R_drew)); exact HO_136002.out) hb)
                                have n1_ := Aside0.mk (blk_below (g := gb127) (o := .cells #[.int .i64 a1_0, .int .i64 a1_1, .slice (some ad137) l1_2.length c1_2] 35 (0, 0)) (by (with_reducible repeat (first | refine blk_drewN ?_ _ | refine blk_drew ?_ | refine blk_alloc ?_ _)); exact BK127.out) hb)
                                have n2_ := Aside0.mk (blk_below (g := gb128) (o := .cells #[.int .i64 0, .int .i64 0, .slice none 0 0] 35 (0, 0)) (by (with_reducible repeat (first | refine blk_drewN ?_ _ | refine blk_drew ?_ | refine blk_alloc ?_ _)); exact BK128.out) hb)
                                have n3_ := Aside0.mk (blk_below (g := gb135) (o := .cells #[.int .i64 a1_0, .int .i64 a1_1, u136002] 35 (0, 0)) (by (with_reducible repeat (first | refine blk_drewN ?_ _ | refine blk_drew ?_ | refine blk_alloc ?_ _)); exact BK135.out) hb)
                                have n4_ := Aside0.mk (blk_below (g := gb136) (o := .cells #[.int .i64 a1_0, .int .i64 a2, .slice A3 l3.length c3] 54 (0, 0)) (by (with_reducible repeat (first | refine blk_drewN ?_ _ | refine blk_drew ?_ | refine blk_alloc ?_ _)); exact BK136.out) hb)
                                have n5_ := Aside0.mk (blk_below (g := gb141) (o := .cells #[.int .i8 0, .int .i8 0, .int .i8 0] 24 (0, 0)) (by (with_reducible repeat (first | refine blk_drewN ?_ _ | refine blk_drew ?_ | refine blk_alloc ?_ _)); exact BK141.out) hb)
                                have n6_ := Aside0.mk (below_step (by repeat (first | (with_reducible first | exact HB.out | apply below_alloc | apply pw_below_drewN | apply below_drew1 | refine below_set ?_ GE127.out | refine below_set ?_ GE128.out | refine below_set ?_ GE135.out | refine below_set ?_ GE136.out | refine below_set ?_ GE141.out) | exact HB.out)) hb)
                                clear HO_136002
                                clear BK127
                                clear BK128
                                clear BK135
                                clear BK136
                                clear BK141
                                clear HB
                                have HO_136002 := n0_
                                have BK127 := n1_
                                have BK128 := n2_
                                have BK135 := n3_
                                have BK136 := n4_
                                have BK141 := n5_
                                have HB := n6_
                                clear n0_ n1_ n2_ n3_ n4_ n5_ n6_
                                (try clear hb)
                                (try clear hb2)
                                (try clear hk)
                                (try clear hi)
                                refine hK.out _ _ ⟨(blk_cell BK136.out 0).trans rfl, (blk_cell BK136.out 1).trans rfl, (blk_cell BK136.out 2).trans rfl, (blk_cell BK127.out 0).trans rfl, (blk_cell BK127.out 1).trans rfl, (blk_cell BK127.out 2).trans rfl⟩ (fun hHeld => ?_)
                                clear hK K
                                refine norm_ (a' := ?_) ?_ ?_
                                rotate_left
                                · show Act.put _ (some 63) _ = _
                                  simp only [Act.put, List.setIfInBounds_toArray, List.set_cons_zero, List.set_cons_succ, i64_w, i32_w]
                                  rfl
                                exact norm_ (by simp only [putAll, Act.put, List.setIfInBounds_toArray, List.set_cons_zero, List.set_cons_succ]) (hCont (gb141) _ ⟨hHeld, (by (with_reducible repeat (first | apply Kd.R_alloc | apply Kd.R_drewN | apply Kd.R_drew)); exact HO_136002.out), (by (with_reducible repeat (first | refine blk_drewN ?_ _ | refine blk_drew ?_ | refine blk_alloc ?_ _)); exact BK127.out), (by (with_reducible repeat (first | refine blk_drewN ?_ _ | refine blk_drew ?_ | refine blk_alloc ?_ _)); exact BK128.out), (by (with_reducible repeat (first | refine blk_drewN ?_ _ | refine blk_drew ?_ | refine blk_alloc ?_ _)); exact BK135.out), (by (with_reducible repeat (first | refine blk_drewN ?_ _ | refine blk_drew ?_ | refine blk_alloc ?_ _)); exact BK136.out), (by (with_reducible repeat (first | refine blk_drewN ?_ _ | refine blk_drew ?_ | refine blk_alloc ?_ _)); exact BK141.out), GW141.out, GE141.out, NB127_141.out, NB141_127.out, NB128_141.out, NB141_128.out, NB135_141.out, NB141_135.out, NB136_141.out, NB141_136.out, (by repeat (first | (with_reducible first | exact HB.out | apply below_alloc | apply pw_below_drewN | apply below_drew1 | refine below_set ?_ GE127.out | refine below_set ?_ GE128.out | refine below_set ?_ GE135.out | refine below_set ?_ GE136.out | refine below_set ?_ GE141.out) | exact HB.out))⟩)
                            rintro gb141 w81 ⟨hS_, h0_, h1_, h2_, h3_, h4_, h5_, h6_, h7_, h8_, h9_, h10_, h11_, h12_, h13_, h14_, h15_, h16_⟩
                            have n0_ : Aside0 (Kd.R (Kd.int .u32) 25 w81 w.heap.size (fun _ => True) u136002 x136002_2) := ⟨h0_⟩
                            have n1_ : Aside0 (w81.heap[gb127]? = some (.cells #[.int .i64 a1_0, .int .i64 a1_1, .slice (some ad137) l1_2.length c1_2] 35 (0, 0))) := ⟨h1_⟩
                            have n2_ : Aside0 (w81.heap[gb128]? = some (.cells #[.int .i64 0, .int .i64 0, .slice none 0 0] 35 (0, 0))) := ⟨h2_⟩
                            have n3_ : Aside0 (w81.heap[gb135]? = some (.cells #[.int .i64 a1_0, .int .i64 a1_1, u136002] 35 (0, 0))) := ⟨h3_⟩
                            have n4_ : Aside0 (w81.heap[gb136]? = some (.cells #[.int .i64 a1_0, .int .i64 a2, .slice A3 l3.length c3] 54 (0, 0))) := ⟨h4_⟩
                            have n5_ : Aside0 (w81.heap[gb141]? = some (.cells #[.int .i8 0, .int .i8 0, .int .i8 0] 24 (0, 0))) := ⟨h5_⟩
                            have n6_ : Aside0 (w.heap.size ≤ gb141) := ⟨h6_⟩
                            have n7_ : Aside0 (w.heap.size ≤ gb141) := ⟨h7_⟩
                            have n8_ : Aside0 (gb127 ≠ gb141) := ⟨h8_⟩
                            have n9_ : Aside0 (gb141 ≠ gb127) := ⟨h9_⟩
                            have n10_ : Aside0 (gb128 ≠ gb141) := ⟨h10_⟩
                            have n11_ : Aside0 (gb141 ≠ gb128) := ⟨h11_⟩
                            have n12_ : Aside0 (gb135 ≠ gb141) := ⟨h12_⟩
                            have n13_ : Aside0 (gb141 ≠ gb135) := ⟨h13_⟩
                            have n14_ : Aside0 (gb136 ≠ gb141) := ⟨h14_⟩
                            have n15_ : Aside0 (gb141 ≠ gb136) := ⟨h15_⟩
                            have n16_ : Aside0 (Below w.heap.size w w81) := ⟨h16_⟩
                            clear HO_136002
                            clear BK127
                            clear BK128
                            clear BK135
                            clear BK136
                            clear HB
                            clear h0_ h1_ h2_ h3_ h4_ h5_ h6_ h7_ h8_ h9_ h10_ h11_ h12_ h13_ h14_ h15_ h16_
                            have HO_136002 := n0_
                            have BK127 := n1_
                            have BK128 := n2_
                            have BK135 := n3_
                            have BK136 := n4_
                            have BK141 := n5_
                            have GW141 := n6_
                            have GE141 := n7_
                            have NB127_141 := n8_
                            have NB141_127 := n9_
                            have NB128_141 := n10_
                            have NB141_128 := n11_
                            have NB135_141 := n12_
                            have NB141_135 := n13_
                            have NB136_141 := n14_
                            have NB141_136 := n15_
                            have HB := n16_
                            clear n0_ n1_ n2_ n3_ n4_ n5_ n6_ n7_ n8_ n9_ n10_ n11_ n12_ n13_ n14_ n15_ n16_
                            have hHeld : w81.cell? ⟨gb136, 0, none⟩ = some (.int .i64 a1_0) ∧ w81.cell? ⟨gb136, 1, none⟩ = some (.int .i64 a2) ∧ w81.cell? ⟨gb136, 2, none⟩ = some (.slice A3 l3.length c3) ∧ w81.cell? ⟨gb127, 0, none⟩ = some (.int .i64 a1_0) ∧ w81.cell? ⟨gb127, 1, none⟩ = some (.int .i64 a1_1) ∧ w81.cell? ⟨gb127, 2, none⟩ = some (.slice (some ad137) l1_2.length c1_2) := hS_
                            refine norm_ (a' := ?_) ?_ ?_
                            rotate_left
                            · simp only [putAll, Act.put, List.setIfInBounds_toArray, List.set_cons_zero, List.set_cons_succ]
                              rfl
                            refine one_ (i := 11) (N := none) #[true, true, true, true, true, true, true, true, true, true, true, true] rfl rfl (one_of HT_.out (by kernel_rfl)) (by decide) (fun K hK => ?_)
                            have hs82 : w81.cell? ⟨gb141, 0, none⟩ = some (.int .i8 0) := (blk_cell BK141.out 0).trans rfl
                            have hfs82 := blk_frozen BK141.out 0
                            have hns82_0 := NB127_141.out
                            have hns82_1 := NB128_141.out
                            have hns82_2 := NB135_141.out
                            have hns82_3 := NB136_141.out
                            have hms82_0 := NB141_127.out
                            have hms82_1 := NB141_128.out
                            have hms82_2 := NB141_135.out
                            have hms82_3 := NB141_136.out
                            have hs83 : w81.cell? ⟨gb141, 1, none⟩ = some (.int .i8 0) := (blk_cell BK141.out 1).trans rfl
                            have hfs83 := blk_frozen BK141.out 1
                            have hns83_0 := NB127_141.out
                            have hns83_1 := NB128_141.out
                            have hns83_2 := NB135_141.out
                            have hns83_3 := NB136_141.out
                            have hms83_0 := NB141_127.out
                            have hms83_1 := NB141_128.out
                            have hms83_2 := NB141_135.out
                            have hms83_3 := NB141_136.out
                            have hs84 : w81.cell? ⟨gb141, 2, none⟩ = some (.int .i8 0) := (blk_cell BK141.out 2).trans rfl
                            have hfs84 := blk_frozen BK141.out 2
                            have hns84_0 := NB127_141.out
                            have hns84_1 := NB128_141.out
                            have hns84_2 := NB135_141.out
                            have hns84_3 := NB136_141.out
                            have hms84_0 := NB141_127.out
                            have hms84_1 := NB141_128.out
                            have hms84_2 := NB141_135.out
                            have hms84_3 := NB141_136.out
                            refine skip_ (w1 := ?_) (by rfl) rfl ?_ ?_
                            rotate_left
                            · go_simp
                              rfl
                            refine hK.out _ _ ⟨((cell_far (p := ⟨gb141, _, none⟩) NB136_141.out _).trans (((cell_far (p := ⟨gb141, _, none⟩) NB136_141.out _).trans (((cell_far (p := ⟨gb141, _, none⟩) NB136_141.out _).trans (hHeld.1)))))), ((cell_far (p := ⟨gb141, _, none⟩) NB136_141.out _).trans (((cell_far (p := ⟨gb141, _, none⟩) NB136_141.out _).trans (((cell_far (p := ⟨gb141, _, none⟩) NB136_141.out _).trans (hHeld.2.1)))))), ((cell_far (p := ⟨gb141, _, none⟩) NB136_141.out _).trans (((cell_far (p := ⟨gb141, _, none⟩) NB136_141.out _).trans (((cell_far (p := ⟨gb141, _, none⟩) NB136_141.out _).trans (hHeld.2.2.1)))))), ((cell_far (p := ⟨gb141, _, none⟩) NB127_141.out _).trans (((cell_far (p := ⟨gb141, _, none⟩) NB127_141.out _).trans (((cell_far (p := ⟨gb141, _, none⟩) NB127_141.out _).trans (hHeld.2.2.2.1)))))), ((cell_far (p := ⟨gb141, _, none⟩) NB127_141.out _).trans (((cell_far (p := ⟨gb141, _, none⟩) NB127_141.out _).trans (((cell_far (p := ⟨gb141, _, none⟩) NB127_141.out _).trans (hHeld.2.2.2.2.1)))))), ((cell_far (p := ⟨gb141, _, none⟩) NB127_141.out _).trans (((cell_far (p := ⟨gb141, _, none⟩) NB127_141.out _).trans (((cell_far (p := ⟨gb141, _, none⟩) NB127_141.out _).trans (hHeld.2.2.2.2.2))))))⟩ (fun hHeld => ?_)
                            clear hK K
                            refine done_ (done_of HT_.out (by kernel_rfl)) ?_
                            have hnb85 := NB141_127.out
                            have hnc85 := NB127_141.out
                            have hnb86 := NB141_128.out
                            have hnc86 := NB128_141.out
                            have hnb87 := NB141_135.out
                            have hnc87 := NB135_141.out
                            have hnb88 := NB141_136.out
                            have hnc88 := NB136_141.out
                            have hcz89_0 : w81.cell? ⟨gb141, 0, none⟩ = some (.int .i8 0) := (blk_cell BK141.out 0).trans rfl
                            have hcz89_1 : w81.cell? ⟨gb141, 1, none⟩ = some (.int .i8 0) := (blk_cell BK141.out 1).trans rfl
                            have hcz89_2 : w81.cell? ⟨gb141, 2, none⟩ = some (.int .i8 0) := (blk_cell BK141.out 2).trans rfl
                            have hfz89_0 := blk_frozen BK141.out 0
                            have hfz89_1 := blk_frozen BK141.out 1
                            have hfz89_2 := blk_frozen BK141.out 2
                            try go_wp2
                            have n0_ : Aside0 (Kd.R (Kd.int .u32) 25 (((w81.setCell ⟨gb141, 0, none⟩ (.int .i8 t138)).setCell ⟨gb141, 1, none⟩ (.int .i8 t139)).setCell ⟨gb141, 2, none⟩ (.int .i8 t140)) w.heap.size (fun _ => True) u136002 x136002_2) := ⟨by (with_reducible repeat (first | apply Kd.R_alloc | apply Kd.R_drewN | apply Kd.R_drew)); exact Kd.R_mono (Kd.R_far (p := ⟨gb141, 2, none⟩) (Kd.R_far (p := ⟨gb141, 1, none⟩) (Kd.R_far (p := ⟨gb141, 0, none⟩) (Kd.R_types HO_136002.out BK141.out (by decide)) (fun _ hk => hk.2) (.int .i8 t138)) (fun _ hk => hk.2) (.int .i8 t139)) (fun _ hk => hk.2) (.int .i8 t140)) (fun _ hk => trivial)⟩
                            have n1_ : Aside0 ((((w81.setCell ⟨gb141, 0, none⟩ (.int .i8 t138)).setCell ⟨gb141, 1, none⟩ (.int .i8 t139)).setCell ⟨gb141, 2, none⟩ (.int .i8 t140)).heap[gb127]? = some (.cells #[.int .i64 a1_0, .int .i64 a1_1, .slice (some ad137) l1_2.length c1_2] 35 (0, 0))) := ⟨by (with_reducible repeat (first | refine blk_drewN ?_ _ | refine blk_drew ?_ | refine blk_alloc ?_ _)); refine blk_far ?_ NB127_141.out _; (with_reducible repeat (first | refine blk_drewN ?_ _ | refine blk_drew ?_ | refine blk_alloc ?_ _)); refine blk_far ?_ NB127_141.out _; (with_reducible repeat (first | refine blk_drewN ?_ _ | refine blk_drew ?_ | refine blk_alloc ?_ _)); refine blk_far ?_ NB127_141.out _; (with_reducible repeat (first | refine blk_drewN ?_ _ | refine blk_drew ?_ | refine blk_alloc ?_ _)); exact BK127.out⟩
                            have n2_ : Aside0 ((((w81.setCell ⟨gb141, 0, none⟩ (.int .i8 t138)).setCell ⟨gb141, 1, none⟩ (.int .i8 t139)).setCell ⟨gb141, 2, none⟩ (.int .i8 t140)).heap[gb128]? = some (.cells #[.int .i64 0, .int .i64 0, .slice none 0 0] 35 (0, 0))) := ⟨by (with_reducible repeat (first | refine blk_drewN ?_ _ | refine blk_drew ?_ | refine blk_alloc ?_ _)); refine blk_far ?_ NB128_141.out _; (with_reducible repeat (first | refine blk_drewN ?_ _ | refine blk_drew ?_ | refine blk_alloc ?_ _)); refine blk_far ?_ NB128_141.out _; (with_reducible repeat (first | refine blk_drewN ?_ _ | refine blk_drew ?_ | refine blk_alloc ?_ _)); refine blk_far ?_ NB128_141.out _; (with_reducible repeat (first | refine blk_drewN ?_ _ | refine blk_drew ?_ | refine blk_alloc ?_ _)); exact BK128.out⟩
                            have n3_ : Aside0 ((((w81.setCell ⟨gb141, 0, none⟩ (.int .i8 t138)).setCell ⟨gb141, 1, none⟩ (.int .i8 t139)).setCell ⟨gb141, 2, none⟩ (.int .i8 t140)).heap[gb135]? = some (.cells #[.int .i64 a1_0, .int .i64 a1_1, u136002] 35 (0, 0))) := ⟨by (with_reducible repeat (first | refine blk_drewN ?_ _ | refine blk_drew ?_ | refine blk_alloc ?_ _)); refine blk_far ?_ NB135_141.out _; (with_reducible repeat (first | refine blk_drewN ?_ _ | refine blk_drew ?_ | refine blk_alloc ?_ _)); refine blk_far ?_ NB135_141.out _; (with_reducible repeat (first | refine blk_drewN ?_ _ | refine blk_drew ?_ | refine blk_alloc ?_ _)); refine blk_far ?_ NB135_141.out _; (with_reducible repeat (first | refine blk_drewN ?_ _ | refine blk_drew ?_ | refine blk_alloc ?_ _)); exact BK135.out⟩
                            have n4_ : Aside0 ((((w81.setCell ⟨gb141, 0, none⟩ (.int .i8 t138)).setCell ⟨gb141, 1, none⟩ (.int .i8 t139)).setCell ⟨gb141, 2, none⟩ (.int .i8 t140)).heap[gb136]? = some (.cells #[.int .i64 a1_0, .int .i64 a2, .slice A3 l3.length c3] 54 (0, 0))) := ⟨by (with_reducible repeat (first | refine blk_drewN ?_ _ | refine blk_drew ?_ | refine blk_alloc ?_ _)); refine blk_far ?_ NB136_141.out _; (with_reducible repeat (first | refine blk_drewN ?_ _ | refine blk_drew ?_ | refine blk_alloc ?_ _)); refine blk_far ?_ NB136_141.out _; (with_reducible repeat (first | refine blk_drewN ?_ _ | refine blk_drew ?_ | refine blk_alloc ?_ _)); refine blk_far ?_ NB136_141.out _; (with_reducible repeat (first | refine blk_drewN ?_ _ | refine blk_drew ?_ | refine blk_alloc ?_ _)); exact BK136.out⟩
                            have n5_ : Aside0 ((((w81.setCell ⟨gb141, 0, none⟩ (.int .i8 t138)).setCell ⟨gb141, 1, none⟩ (.int .i8 t139)).setCell ⟨gb141, 2, none⟩ (.int .i8 t140)).heap[gb141]? = some (.cells #[.int .i8 t138, .int .i8 t139, .int .i8 t140] 24 (0, 0))) := ⟨by (with_reducible repeat (first | refine blk_drewN ?_ _ | refine blk_drew ?_ | refine blk_alloc ?_ _)); refine blk_put (cs := #[.int .i8 t138, .int .i8 t139, .int .i8 0]) ?_ 2 _ rfl; (with_reducible repeat (first | refine blk_drewN ?_ _ | refine blk_drew ?_ | refine blk_alloc ?_ _)); refine blk_put (cs := #[.int .i8 t138, .int .i8 0, .int .i8 0]) ?_ 1 _ rfl; (with_reducible repeat (first | refine blk_drewN ?_ _ | refine blk_drew ?_ | refine blk_alloc ?_ _)); refine blk_put (cs := #[.int .i8 0, .int .i8 0, .int .i8 0]) ?_ 0 _ rfl; (with_reducible repeat (first | refine blk_drewN ?_ _ | refine blk_drew ?_ | refine blk_alloc ?_ _)); exact BK141.out⟩
                            have n6_ : Aside0 (Below w.heap.size w (((w81.setCell ⟨gb141, 0, none⟩ (.int .i8 t138)).setCell ⟨gb141, 1, none⟩ (.int .i8 t139)).setCell ⟨gb141, 2, none⟩ (.int .i8 t140))) := ⟨by repeat (first | (with_reducible first | exact HB.out | apply below_alloc | apply pw_below_drewN | apply below_drew1 | refine below_set ?_ GE127.out | refine below_set ?_ GE128.out | refine below_set ?_ GE135.out | refine below_set ?_ GE136.out | refine below_set ?_ GE141.out) | exact HB.out)⟩
                            (try clear HO_136002)
                            (try clear BK127)
                            (try clear BK128)
                            (try clear BK135)
                            (try clear BK136)
                            (try clear BK141)
                            (try clear HB)
                            generalize (((w81.setCell ⟨gb141, 0, none⟩ (.int .i8 t138)).setCell ⟨gb141, 1, none⟩ (.int .i8 t139)).setCell ⟨gb141, 2, none⟩ (.int .i8 t140)) = w90 at n0_ n1_ n2_ n3_ n4_ n5_ n6_ ⊢
                            have HO_136002 := n0_
                            have BK127 := n1_
                            have BK128 := n2_
                            have BK135 := n3_
                            have BK136 := n4_
                            have BK141 := n5_
                            have HB := n6_
                            clear n0_ n1_ n2_ n3_ n4_ n5_ n6_
                            have n0_ := Aside0.mk (Kd.R_drew HO_136002.out)
                            have n1_ := Aside0.mk (blk_drew BK127.out)
                            have n2_ := Aside0.mk (blk_drew BK128.out)
                            have n3_ := Aside0.mk (blk_drew BK135.out)
                            have n4_ := Aside0.mk (blk_drew BK136.out)
                            have n5_ := Aside0.mk (blk_drew BK141.out)
                            have n6_ := Aside0.mk (below_drew1 HB.out)
                            clear HO_136002
                            clear BK127
                            clear BK128
                            clear BK135
                            clear BK136
                            clear BK141
                            clear HB
                            have HO_136002 := n0_
                            have BK127 := n1_
                            have BK128 := n2_
                            have BK135 := n3_
                            have BK136 := n4_
                            have BK141 := n5_
                            have HB := n6_
                            clear n0_ n1_ n2_ n3_ n4_ n5_ n6_
                            refine start_ (n := 9) (S := fun w' => w'.cell? ⟨gb135, 0, none⟩ = some (.int .i64 a1_0) ∧ w'.cell? ⟨gb135, 1, none⟩ = some (.int .i64 a1_1) ∧ w'.cell? ⟨gb135, 2, none⟩ = some (u136002) ∧ w'.cell? ⟨gb141, 0, none⟩ = some (.int .i8 t138) ∧ w'.cell? ⟨gb141, 1, none⟩ = some (.int .i8 t139) ∧ w'.cell? ⟨gb141, 2, none⟩ = some (.int .i8 t140)) (ds := [8]) #[false, false, false, false, false, false, false, false, false] (by kernel_rfl) rfl rfl ⟨(blk_cell BK135.out 0).trans rfl, (blk_cell BK135.out 1).trans rfl, (blk_cell BK135.out 2).trans rfl, (blk_cell BK141.out 0).trans rfl, (blk_cell BK141.out 1).trans rfl, (blk_cell BK141.out 2).trans rfl⟩ (fun hHeld => ?_); refine with_tabW cross_way_turn__cross_forth.tab11 cross_way_turn__cross_forth.bits11 (fun HT_ HW_ => ?_)
                            generalize w90.drew = w91 at HO_136002 BK127 BK128 BK135 BK136 BK141 HB hHeld ⊢
                            refine pure_ (i := 0) (N := some 72) (v := ?_) (a' := ?_) #[true, false, false, false, false, false, false, false, false] rfl rfl (any_of HT_.out (by kernel_rfl)) (fun _ _ _ h => h) (Or.inl ⟨by rfl, ?_⟩) ?_ ?_
                            rotate_left
                            · intro w'
                              go_simp
                              with_reducible rfl
                            rotate_left
                            · simp only [Act.put, List.setIfInBounds_toArray, List.set_cons_zero, List.set_cons_succ, i64_w, i32_w]
                              rfl
                            refine pure_ (i := 2) (N := some 74) (v := ?_) (a' := ?_) #[true, false, true, false, false, false, false, false, false] rfl rfl (any_of HT_.out (by kernel_rfl)) (fun _ _ _ h => h) (Or.inl ⟨by rfl, ?_⟩) ?_ ?_
                            rotate_left
                            · intro w'
                              go_simp
                              with_reducible rfl
                            rotate_left
                            · simp only [Act.put, List.setIfInBounds_toArray, List.set_cons_zero, List.set_cons_succ, i64_w, i32_w]
                              rfl
                            refine pure_ (i := 3) (N := some 75) (v := ?_) (a' := ?_) #[true, false, true, true, false, false, false, false, false] rfl rfl (any_of HT_.out (by kernel_rfl)) (fun _ _ _ h => h) (Or.inl ⟨by rfl, ?_⟩) ?_ ?_
                            rotate_left
                            · intro w'
                              go_simp
                              with_reducible rfl
                            rotate_left
                            · simp only [Act.put, List.setIfInBounds_toArray, List.set_cons_zero, List.set_cons_succ, i64_w, i32_w]
                              rfl
                            refine pure_ (i := 4) (N := some 76) (v := ?_) (a' := ?_) #[true, false, true, true, true, false, false, false, false] rfl rfl (any_of HT_.out (by kernel_rfl)) (fun _ _ _ h => h) (Or.inl ⟨by rfl, ?_⟩) ?_ ?_
                            rotate_left
                            · intro w'
                              go_simp
                              with_reducible rfl
                            rotate_left
                            · simp only [Act.put, List.setIfInBounds_toArray, List.set_cons_zero, List.set_cons_succ, i64_w, i32_w]
                              rfl
                            refine take_ (i := 1) (N := some 73) (v := ?_) (a' := ?_) #[true, true, true, true, true, false, false, false, false] rfl rfl (take_ofW HT_.out HW_.out (by kernel_rfl)) (fun _ _ _ h => h) (Or.inl ⟨by rfl, ?_⟩) hHeld ?_ ?_
                            rotate_left
                            · rintro w' ⟨s0, s1, s2, s3, s4, s5⟩
                              go_simp
                              with_reducible rfl
                            rotate_left
                            · simp only [Act.put, List.setIfInBounds_toArray, List.set_cons_zero, List.set_cons_succ, i64_w, i32_w]
                              rfl
                            refine take_ (i := 5) (N := some 77) (v := ?_) (a' := ?_) #[true, true, true, true, true, true, false, false, false] rfl rfl (take_ofW HT_.out HW_.out (by kernel_rfl)) (fun _ _ _ h => h) (Or.inl ⟨by rfl, ?_⟩) hHeld ?_ ?_
                            rotate_left
                            · rintro w' ⟨s0, s1, s2, s3, s4, s5⟩
                              go_simp
                              with_reducible rfl
                            rotate_left
                            · simp only [Act.put, List.setIfInBounds_toArray, List.set_cons_zero, List.set_cons_succ, i64_w, i32_w]
                              rfl
                            refine one_ (i := 6) (N := some 78) #[true, true, true, true, true, true, true, false, false] rfl rfl (one_of HT_.out (by kernel_rfl)) (by decide) (fun K hK => ?_)
                            first | (refine goes_ Try.func20 (by kernel_rfl) rfl #[.int .u32 (rd l1_2 x49_2), .agg #[.int .i8 t138, .int .i8 t139, .int .i8 t140]] (by rfl) rfl rfl (by (try simp only [List.map_toArray, List.map_cons, List.map_nil]); first | done | rfl | (simp only [List.length_drop, List.length_take]; rfl)) ?_) | (refine goesT_ Try.func20 (by kernel_rfl) rfl #[.int .u32 (rd l1_2 x49_2), .agg #[.int .i8 t138, .int .i8 t139, .int .i8 t140]] (by rfl) rfl rfl (by rfl) (by (try simp only [List.map_toArray, List.map_cons, List.map_nil]); first | done | rfl | (simp only [List.length_drop, List.length_take]; rfl)) ?_)
                            with_reducible refine (cross_forth.calls (rd l1_2 x49_2) t138 t139 t140 t143 _ A75.out).mono ?_
                            rintro e w92 ⟨rfl, hb⟩
                            refine ⟨_, rfl, ?_⟩
                            have n0_ := Aside0.mk (Kd.R_below (by (with_reducible repeat (first | apply Kd.R_alloc | apply Kd.R_drewN | apply Kd.R_drew)); exact HO_136002.out) hb)
                            have n1_ := Aside0.mk (blk_below (g := gb127) (o := .cells #[.int .i64 a1_0, .int .i64 a1_1, .slice (some ad137) l1_2.length c1_2] 35 (0, 0)) (by (with_reducible repeat (first | refine blk_drewN ?_ _ | refine blk_drew ?_ | refine blk_alloc ?_ _)); exact BK127.out) hb)
                            have n2_ := Aside0.mk (blk_below (g := gb128) (o := .cells #[.int .i64 0, .int .i64 0, .slice none 0 0] 35 (0, 0)) (by (with_reducible repeat (first | refine blk_drewN ?_ _ | refine blk_drew ?_ | refine blk_alloc ?_ _)); exact BK128.out) hb)
                            have n3_ := Aside0.mk (blk_below (g := gb135) (o := .cells #[.int .i64 a1_0, .int .i64 a1_1, u136002] 35 (0, 0)) (by (with_reducible repeat (first | refine blk_drewN ?_ _ | refine blk_drew ?_ | refine blk_alloc ?_ _)); exact BK135.out) hb)
                            have n4_ := Aside0.mk (blk_below (g := gb136) (o := .cells #[.int .i64 a1_0, .int .i64 a2, .slice A3 l3.length c3] 54 (0, 0)) (by (with_reducible repeat (first | refine blk_drewN ?_ _ | refine blk_drew ?_ | refine blk_alloc ?_ _)); exact BK136.out) hb)
                            have n5_ := Aside0.mk (blk_below (g := gb141) (o := .cells #[.int .i8 t138, .int .i8 t139, .int .i8 t140] 24 (0, 0)) (by (with_reducible repeat (first | refine blk_drewN ?_ _ | refine blk_drew ?_ | refine blk_alloc ?_ _)); exact BK141.out) hb)
                            have n6_ := Aside0.mk (below_step (by repeat (first | (with_reducible first | exact HB.out | apply below_alloc | apply pw_below_drewN | apply below_drew1 | refine below_set ?_ GE127.out | refine below_set ?_ GE128.out | refine below_set ?_ GE135.out | refine below_set ?_ GE136.out | refine below_set ?_ GE141.out) | exact HB.out)) hb)
                            clear HO_136002
                            clear BK127
                            clear BK128
                            clear BK135
                            clear BK136
                            clear BK141
                            clear HB
                            have HO_136002 := n0_
                            have BK127 := n1_
                            have BK128 := n2_
                            have BK135 := n3_
                            have BK136 := n4_
                            have BK141 := n5_
                            have HB := n6_
                            clear n0_ n1_ n2_ n3_ n4_ n5_ n6_
                            (try clear hb)
                            (try clear hb2)
                            (try clear hk)
                            (try clear hi)
                            have p77 : 0 ≤ (x49_2 : Int) := of_decide_eq_true (by first | (with_reducible assumption) | assumption)
                            have q77 : (x49_2 : Int) < ((x136002_2.length : Int) : Int) := of_decide_eq_true (by first | (with_reducible assumption) | assumption)
                            obtain ⟨go77, co77, eo77, gb77, gl77, cl77, HG77⟩ := Kd.R_form HO_136002.out (by omega)
                            (first | cases eo77 | (injection eo77 with ea_ en_ ec_; (first | subst ea_ | (injection ea_ with ea_; subst ea_)); subst ec_; clear en_))
                            have GB77 := Aside0.mk gb77
                            have GG77 := Aside0.mk HG77
                            clear gb77 gl77 HG77
                            obtain ⟨hx77_0, hf77_0⟩ := Kd.R_celln 0 HO_136002.out (x49_2 : Int) p77 q77
                            replace p77 := eq_true p77
                            replace q77 := eq_true q77
                            have HP93 := Kd.R_putn HO_136002.out (x49_2 : Int) t143
                            rw [← Ny144.out] at HP93
                            have HQ93 := Aside0.mk HP93
                            clear HP93
                            refine hK.out _ _ ⟨(blk_cell BK135.out 0).trans rfl, (blk_cell BK135.out 1).trans rfl, (blk_cell BK135.out 2).trans rfl, (blk_cell BK141.out 0).trans rfl, (blk_cell BK141.out 1).trans rfl, (blk_cell BK141.out 2).trans rfl⟩ (fun hHeld => ?_)
                            clear hK K
                            refine norm_ (a' := ?_) ?_ ?_
                            rotate_left
                            · show Act.put _ (some 78) _ = _
                              simp only [Act.put, List.setIfInBounds_toArray, List.set_cons_zero, List.set_cons_succ, i64_w, i32_w]
                              rfl
                            refine pure_ (i := 7) (N := some 79) (v := ?_) (a' := ?_) #[true, true, true, true, true, true, true, true, false] rfl rfl (any_of HT_.out (by kernel_rfl)) (fun _ _ _ h => h) (Or.inl ⟨by rfl, ?_⟩) ?_ ?_
                            rotate_left
                            · intro w'
                              go_simp
                              with_reducible rfl
                            rotate_left
                            · simp only [Act.put, List.setIfInBounds_toArray, List.set_cons_zero, List.set_cons_succ, i64_w, i32_w]
                              rfl
                            refine last_ (i := 8) (N := none) #[true, true, true, true, true, true, true, true, true] rfl rfl (one_of HT_.out (by kernel_rfl)) (by decide) (fun K hK => ?_)
                            refine skip_ (w1 := ?_) (by rfl) rfl ?_ ?_
                            rotate_left
                            · go_simp
                              rfl
                            refine hK.out _ _ ?_
                            clear hK K
                            refine done_ (done_of HT_.out (by kernel_rfl)) ?_
                            try go_wp2
                            go_roundg k2
                            case measure => have := HJ4.out; have := HK2.out; omega
                            case rel => exact ⟨(wrap64 (x49_2 + 1)), (y144), (.slice (some ⟨go77, 0, none⟩) x136002_2.length co77), (by first | rfl | (simp; done) | (simp [*]; done)), H', ⟨by have := HJ4.out; have := HK2.out; omega⟩, ⟨by (with_reducible repeat (first | apply Kd.R_alloc | apply Kd.R_drewN | apply Kd.R_drew)); exact HQ93.out⟩, ⟨by (with_reducible repeat (first | refine blk_drewN ?_ _ | refine blk_drew ?_ | refine blk_alloc ?_ _)); refine blk_far ?_ (by have h_ := Kd.R_ne HO_136002.out BK127.out (by decide); intro e_; exact h_ (by rw [e_]; rfl)) _; (with_reducible repeat (first | refine blk_drewN ?_ _ | refine blk_drew ?_ | refine blk_alloc ?_ _)); exact BK127.out⟩, ⟨by (with_reducible repeat (first | refine blk_drewN ?_ _ | refine blk_drew ?_ | refine blk_alloc ?_ _)); refine blk_far ?_ (by have h_ := Kd.R_ne HO_136002.out BK128.out (by decide); intro e_; exact h_ (by rw [e_]; rfl)) _; (with_reducible repeat (first | refine blk_drewN ?_ _ | refine blk_drew ?_ | refine blk_alloc ?_ _)); exact BK128.out⟩, ⟨by (with_reducible repeat (first | refine blk_drewN ?_ _ | refine blk_drew ?_ | refine blk_alloc ?_ _)); refine blk_far ?_ (by have h_ := Kd.R_ne HO_136002.out BK135.out (by decide); intro e_; exact h_ (by rw [e_]; rfl)) _; (with_reducible repeat (first | refine blk_drewN ?_ _ | refine blk_drew ?_ | refine blk_alloc ?_ _)); exact BK135.out⟩, ⟨by (with_reducible repeat (first | refine blk_drewN ?_ _ | refine blk_drew ?_ | refine blk_alloc ?_ _)); refine blk_far ?_ (by have h_ := Kd.R_ne HO_136002.out BK136.out (by decide); intro e_; exact h_ (by rw [e_]; rfl)) _; (with_reducible repeat (first | refine blk_drewN ?_ _ | refine blk_drew ?_ | refine blk_alloc ?_ _)); exact BK136.out⟩, ⟨by repeat (first | (with_reducible first | exact HB.out | apply below_alloc | apply pw_below_drewN | apply below_drew1 | refine below_set ?_ GB77.out | refine below_set ?_ GE127.out | refine below_set ?_ GE128.out | refine below_set ?_ GE135.out | refine below_set ?_ GE136.out | refine below_set ?_ GE141.out) | exact HB.out)⟩⟩
                          · rw [if_neg c76] at H
                            exact absurd H (by simp)
                    · rw [if_neg c50] at H
                      exact absurd H (by simp)
                  · rw [if_neg c49] at H
                    exact absurd H (by simp)
                · rw [if_neg c48] at H
                  have c48b0 : decide (x49_2 < (l1_2.length : Int)) = false := decide_eq_false c48
                  clear c48
                  simp only [Option.some.injEq, Prod.mk.injEq] at H
                  obtain ⟨rfl, rfl, rfl, rfl⟩ := H
                  have hnb94 := NB135_127.out
                  have hnc94 := NB127_135.out
                  have hnb95 := NB135_128.out
                  have hnc95 := NB128_135.out
                  have hnb96 := NB135_136.out
                  have hnc96 := NB136_135.out
                  have hcz97_0 : wr.cell? ⟨gb135, 0, none⟩ = some (.int .i64 a1_0) := (blk_cell BK135.out 0).trans rfl
                  have hcz97_1 : wr.cell? ⟨gb135, 1, none⟩ = some (.int .i64 a1_1) := (blk_cell BK135.out 1).trans rfl
                  have hcz97_2 : wr.cell? ⟨gb135, 2, none⟩ = some (u136002) := (blk_cell BK135.out 2).trans rfl
                  have hfz97_0 := blk_frozen BK135.out 0
                  have hfz97_1 := blk_frozen BK135.out 1
                  have hfz97_2 := blk_frozen BK135.out 2
                  have hnb98 := NB128_127.out
                  have hnc98 := NB127_128.out
                  have hnb99 := NB128_136.out
                  have hnc99 := NB136_128.out
                  have hcz100_0 : wr.cell? ⟨gb128, 0, none⟩ = some (.int .i64 0) := (blk_cell BK128.out 0).trans rfl
                  have hcz100_1 : wr.cell? ⟨gb128, 1, none⟩ = some (.int .i64 0) := (blk_cell BK128.out 1).trans rfl
                  have hcz100_2 : wr.cell? ⟨gb128, 2, none⟩ = some (.slice none 0 0) := (blk_cell BK128.out 2).trans rfl
                  have hfz100_0 := blk_frozen BK128.out 0
                  have hfz100_1 := blk_frozen BK128.out 1
                  have hfz100_2 := blk_frozen BK128.out 2
                  obtain ⟨Ao101, co101, eo101⟩ := Kd.R_slice HO_136002.out
                  subst eo101
                  go_wp2
                  refine bodyPost_ret (results_ct rfl _ _ gb128 35 #[.int .i64 a1_0, .int .i64 a1_1, .slice Ao101 x136002_2.length co101] (0, 0) _ rfl (by (with_reducible repeat (first | refine blk_drewN ?_ _ | refine blk_drew ?_ | refine blk_alloc ?_ _)); refine blk_put (cs := #[.int .i64 a1_0, .int .i64 a1_1, .slice none 0 0]) ?_ 2 _ rfl; (with_reducible repeat (first | refine blk_drewN ?_ _ | refine blk_drew ?_ | refine blk_alloc ?_ _)); refine blk_put (cs := #[.int .i64 a1_0, .int .i64 0, .slice none 0 0]) ?_ 1 _ rfl; (with_reducible repeat (first | refine blk_drewN ?_ _ | refine blk_drew ?_ | refine blk_alloc ?_ _)); refine blk_put (cs := #[.int .i64 0, .int .i64 0, .slice none 0 0]) ?_ 0 _ rfl; (with_reducible repeat (first | refine blk_drewN ?_ _ | refine blk_drew ?_ | refine blk_alloc ?_ _)); exact BK128.out) Try.underlying35 rfl (by kernel_rfl)) rfl ?_
                  exact ⟨_, by first | rfl | (simp [errW_none, errW_some] <;> rfl) | (simp [*, errW_none, errW_some] <;> rfl), by (with_reducible repeat (first | apply Kd.R_alloc | apply Kd.R_drewN | apply Kd.R_drew)); exact Kd.R_mono (Kd.R_far (p := ⟨gb128, 2, none⟩) (Kd.R_far (p := ⟨gb128, 1, none⟩) (Kd.R_far (p := ⟨gb128, 0, none⟩) (Kd.R_types HO_136002.out BK128.out (by decide)) (fun _ hk => hk.2) (.int .i64 a1_0)) (fun _ hk => hk.2) (.int .i64 a1_1)) (fun _ hk => hk.2) (.slice Ao101 x136002_2.length co101)) (fun _ hk => trivial), by repeat (first | (with_reducible first | exact HB.out | apply below_alloc | apply pw_below_drewN | apply below_drew1 | refine below_set ?_ GE127.out | refine below_set ?_ GE128.out | refine below_set ?_ GE135.out | refine below_set ?_ GE136.out) | exact HB.out)⟩
          · rw [if_neg c28] at H
            exact absurd H (by simp)
        · rw [if_neg c27] at H
          exact absurd H (by simp)

end Go.Proofs.Ytbbbngjjefnmhaa.P
