-- Printed by mp.py (our own program over the kit's printer) out of the translation.
import Derived.Test.YtmehcbjkhooolaaPx0
namespace Go.Proofs.Ytmehcbjkhooolaa.P
open Go.RowKit Go.Proofs.YtmehcbjkhooolaaW.PrintWords Go.Proofs.YtmehcbjkhooolaaW.PrintLast Go.Proofs.YtmehcbjkhooolaaW.PrintMore
attribute [local go_sem] max2_int min2_int max_two min_two max_three min_three max_four min_four   -- for this text's walks alone
set_option linter.unusedVariables false
set_option linter.unusedSimpArgs false

-- NOT PRINTED: function 35 (pixel_split)

-- NOT PRINTED: function 37 (pixel_quad_join)

-- NOT PRINTED: function 26 (pixel_each)

/-! ### marquetryref11_Part: function 9 -/
def marquetryref11_Part.f (a0 : Int) (a1 : Int) : Option (Int) := if 0 ≤ (IntKind.u64.wrap (wrap64 (24 - (wrap64 (8 * a1))))) then (some (wrap64 (Int.tmod (shr .u32 a0 (IntKind.u64.wrap (wrap64 (24 - (wrap64 (8 * a1)))))) 256))) else (none)
set_option maxHeartbeats 8000000 in
set_option maxRecDepth 100000 in
theorem marquetryref11_Part.calls (a0 : Int) (a1 : Int) (r : Int) (w : World) (h : marquetryref11_Part.f a0 a1 = some r) :
    Calls Try.prog 9 #[.int .u32 a0, .int .i64 a1] w fun e w' => e = .returned (.int .i64 r) ∧ Drawn0 w w' := by
  have H : (if 0 ≤ (IntKind.u64.wrap (wrap64 (24 - (wrap64 (8 * a1))))) then (some (wrap64 (Int.tmod (shr .u32 a0 (IntKind.u64.wrap (wrap64 (24 - (wrap64 (8 * a1)))))) 256))) else (none)) = some r := h
  clear h
  obtain ⟨ji3, hji3⟩ : ∃ j_ : Int, (IntKind.u64.wrap (wrap64 (24 - (wrap64 (8 * a1))))) = j_ := ⟨_, rfl⟩
  replace H : (if 0 ≤ (ji3) then (some (wrap64 (Int.tmod (shr .u32 a0 (ji3)) 256))) else (none)) = some r := by first | (rw [hji3] at H; exact H) | (simp only [hji3] at H ⊢; exact H)
  by_cases c4 : 0 ≤ (ji3)
  · rw [if_pos c4] at H
    have c4b0 := eq_true c4
    have c4b1 : decide (0 ≤ (ji3)) = true := decide_eq_true c4
    clear c4
    obtain ⟨ji5, hji5⟩ : ∃ j_ : Int, (shr .u32 a0 (ji3)) = j_ := ⟨_, rfl⟩
    replace H : (some (wrap64 (Int.tmod (ji5) 256))) = some r := by first | (rw [hji5] at H; exact H) | (simp only [hji5] at H ⊢; exact H)
    (try (have hji5k : 0 ≤ (ji3) := by omega))
    (try (have hji5K := eq_true hji5k))
    (try (have hji5D : decide (0 ≤ (ji3)) = true := decide_eq_true hji5k))
    have hji5_ : (a0 / 2 ^ min (ji3).toNat 32) = ji5 := hji5
    have hji5z : (ji3) ≤ 32 → (a0 / 2 ^ (ji3).toNat) = ji5 := shr_small hji5
    obtain rfl := Option.some.inj H
    go_enter Try.func9, Try.ntmps9
    go_wp2
    go_ret
    exact ⟨by first | rfl | (simp; done) | (simp only [← hji3, ← hji5] <;> (first | rfl | simp)) | (simp [*]; done), by repeat (first | exact Drawn0.refl _ | apply Drawn0.step)⟩
  · rw [if_neg c4] at H
    exact absurd H (by simp)

/-! ### marquetrylaw11_answers: function 10 -/
def marquetrylaw11_answers.f  : Option (Bool) := (pixel_Avg.f 255 1).bind fun t101 => (if t101 = 128 then ((pixel_Add.f 255 1).bind fun t102 => (some (t102 == 0))) else (some false))
set_option maxHeartbeats 8000000 in
set_option maxRecDepth 100000 in
theorem marquetrylaw11_answers.calls  (r : Bool) (w : World) (h : marquetrylaw11_answers.f  = some r) :
    Calls Try.prog 10 #[] w fun e w' => e = .returned (.bool r) ∧ Below w.heap.size w w' := by
  have HB := Aside0.mk (Below.refl w.heap.size w)
  have H : ((pixel_Avg.f 255 1).bind fun t101 => (if t101 = 128 then ((pixel_Add.f 255 1).bind fun t102 => (some (t102 == 0))) else (some false))) = some r := h
  clear h
  replace H := Option.bind_eq_some_iff.mp H
  obtain ⟨t101, A10, H⟩ := H
  replace H : (if t101 = 128 then ((pixel_Add.f 255 1).bind fun t102 => (some (t102 == 0))) else (some false)) = some r := H
  have A1 := Aside0.mk A10
  clear A10
  by_cases c2 : t101 = 128
  · rw [if_pos c2] at H
    have c2b0 : (t101 == 128) = true := beq_iff_eq.mpr c2
    have c2b1 : (t101 != 128) = false := bne_eq_false_iff_eq.mpr c2
    clear c2
    replace H := Option.bind_eq_some_iff.mp H
    obtain ⟨t102, A30, H⟩ := H
    replace H : (some (t102 == 0)) = some r := H
    have A3 := Aside0.mk A30
    clear A30
    obtain rfl := Option.some.inj H
    go_enter Try.func10, Try.ntmps10
    go_wp2_with (first | ((with_reducible refine gate_callee (f := 8) rfl ?_); refine goesL_ (some 1) rfl rfl Try.func8 (by kernel_rfl) rfl #[.int .u32 255, .int .u32 1] rfl (by (try simp only [List.map_toArray, List.map_cons, List.map_nil]); first | done | rfl | (simp only [List.length_drop, List.length_take]; rfl)) ?_; (with_reducible refine (pixel_Avg.calls 255 1 t101 _ A1.out).mono ?_); clear A1; rintro e w4 ⟨rfl, hb⟩; refine ⟨_, rfl, ?_⟩; have n0_ := Aside0.mk (below_step (by repeat (first | (with_reducible first | exact HB.out | apply below_alloc | apply pw_below_drewN | apply below_drew1) | exact HB.out)) hb); clear HB; have HB := n0_; clear n0_; (try clear hb); (try clear hb2); (try clear hk); (try clear hi)) | (go_at_call 8; (with_reducible refine (pixel_Avg.calls 255 1 t101 _ A1.out).mono ?_); clear A1; rintro e w4 ⟨rfl, hb⟩; have n0_ := Aside0.mk (below_step (by repeat (first | (with_reducible first | exact HB.out | apply below_alloc | apply pw_below_drewN | apply below_drew1) | exact HB.out)) hb); clear HB; have HB := n0_; clear n0_; (try clear hb); (try clear hb2); (try clear hk); (try clear hi)) | (go_at_call 12; (with_reducible refine (pixel_Add.calls 255 1 t102 _ A3.out).mono ?_); clear A3; rintro e w5 ⟨rfl, hb⟩; have n0_ := Aside0.mk (below_step (by repeat (first | (with_reducible first | exact HB.out | apply below_alloc | apply pw_below_drewN | apply below_drew1) | exact HB.out)) hb); clear HB; have HB := n0_; clear n0_; (try clear hb); (try clear hb2); (try clear hk); (try clear hi)))
    go_ret
    exact ⟨by first | rfl | (simp [errW_none, errW_some] <;> rfl) | (simp [*, errW_none, errW_some] <;> rfl), by repeat (first | (with_reducible first | exact HB.out | apply below_alloc | apply pw_below_drewN | apply below_drew1) | exact HB.out)⟩
  · rw [if_neg c2] at H
    have c2b0 : (t101 == 128) = false := beq_eq_false_iff_ne.mpr c2
    have c2b1 : (t101 != 128) = true := bne_iff_ne.mpr c2
    obtain rfl := Option.some.inj H
    go_enter Try.func10, Try.ntmps10
    go_wp2_with (first | ((with_reducible refine gate_callee (f := 8) rfl ?_); refine goesL_ (some 1) rfl rfl Try.func8 (by kernel_rfl) rfl #[.int .u32 255, .int .u32 1] rfl (by (try simp only [List.map_toArray, List.map_cons, List.map_nil]); first | done | rfl | (simp only [List.length_drop, List.length_take]; rfl)) ?_; (with_reducible refine (pixel_Avg.calls 255 1 t101 _ A1.out).mono ?_); clear A1; rintro e w6 ⟨rfl, hb⟩; refine ⟨_, rfl, ?_⟩; have n0_ := Aside0.mk (below_step (by repeat (first | (with_reducible first | exact HB.out | apply below_alloc | apply pw_below_drewN | apply below_drew1) | exact HB.out)) hb); clear HB; have HB := n0_; clear n0_; (try clear hb); (try clear hb2); (try clear hk); (try clear hi)) | (go_at_call 8; (with_reducible refine (pixel_Avg.calls 255 1 t101 _ A1.out).mono ?_); clear A1; rintro e w6 ⟨rfl, hb⟩; have n0_ := Aside0.mk (below_step (by repeat (first | (with_reducible first | exact HB.out | apply below_alloc | apply pw_below_drewN | apply below_drew1) | exact HB.out)) hb); clear HB; have HB := n0_; clear n0_; (try clear hb); (try clear hb2); (try clear hk); (try clear hi)))
    go_ret
    exact ⟨by first | rfl | (simp [errW_none, errW_some] <;> rfl) | (simp [*, errW_none, errW_some] <;> rfl), by repeat (first | (with_reducible first | exact HB.out | apply below_alloc | apply pw_below_drewN | apply below_drew1) | exact HB.out)⟩

/-! ### marquetrylaw11_PixelLaws: function 3 -/
def marquetrylaw11_PixelLaws.l0 : Nat → Int → Int → Int → Int → Option (Bool)
  | 0, _, _, _, _ => none
  | k + 1, x0, x1, x5, x6 => if x6 < 4 then ((marquetryref11_Part.f x0 x6).bind fun t104 => ((marquetryref11_Part.f x1 x6).bind fun t105 => ((marquetryref11_Part.f x5 x6).bind fun t106 => (if t106 < t104 then (if t106 < t105 then (some false) else (if t106 > t104 then (if t106 > t105 then (some false) else (marquetrylaw11_PixelLaws.l0 k x0 x1 x5 (wrap64 (x6 + 1)))) else (marquetrylaw11_PixelLaws.l0 k x0 x1 x5 (wrap64 (x6 + 1))))) else (if t106 > t104 then (if t106 > t105 then (some false) else (marquetrylaw11_PixelLaws.l0 k x0 x1 x5 (wrap64 (x6 + 1)))) else (marquetrylaw11_PixelLaws.l0 k x0 x1 x5 (wrap64 (x6 + 1)))))))) else ((marquetrylaw11_answers.f).bind fun t107 => (if t107 = true then ((pixel_Add.f x0 x1).bind fun t108 => ((pixel_Sub.f t108 x1).bind fun t109 => (if t109 = x0 then ((pixel_Sub.f x0 x1).bind fun t110 => ((pixel_Add.f t110 x1).bind fun t111 => (if t111 = x0 then ((pixel_Add.f x0 x1).bind fun t112 => ((pixel_Add.f x1 x0).bind fun t113 => (if t112 = t113 then ((pixel_Avg.f x0 x0).bind fun t114 => (some (t114 == x0))) else (some false)))) else (some false)))) else (some false)))) else (some false)))
def marquetrylaw11_PixelLaws.f (k : Nat) (a0 : Int) (a1 : Int) : Option (Bool) := (pixel_Avg.f a0 a1).bind fun t103 => (marquetrylaw11_PixelLaws.l0 k a0 a1 t103 0)
theorem marquetrylaw11_PixelLaws.mono_l : ∀ k, (∀ y0 y1 y2 y3, LeO (marquetrylaw11_PixelLaws.l0 k y0 y1 y2 y3) (marquetrylaw11_PixelLaws.l0 (k + 1) y0 y1 y2 y3))
  | 0 => fun _ _ _ _ r h => by simp [marquetrylaw11_PixelLaws.l0] at h
  | k + 1 => by
    have ih0 := marquetrylaw11_PixelLaws.mono_l k
    · intro y0 y1 y2 y3
      unfold marquetrylaw11_PixelLaws.l0
      repeat' first
      | (with_reducible exact ih0 _ _ _ _)
      | (with_reducible exact LeO.refl _)
      | (with_reducible exact LeO.none _)
      | (with_reducible refine LeO.ite ?_ ?_)
      | (with_reducible refine LeO.bind ?_ (fun _ => ?_))
      | exact ih0 _ _ _ _
      | exact LeO.none _
      | refine LeO.ite ?_ ?_
      | refine LeO.bind ?_ (fun _ => ?_)
theorem marquetrylaw11_PixelLaws.mono : ∀ a0 a1 k, LeO (marquetrylaw11_PixelLaws.f k a0 a1) (marquetrylaw11_PixelLaws.f (k + 1) a0 a1) := by
  intro a0 a1 k
  have ih0 := marquetrylaw11_PixelLaws.mono_l k
  unfold marquetrylaw11_PixelLaws.f
  repeat' first
      | (with_reducible exact ih0 _ _ _ _)
      | (with_reducible exact LeO.refl _)
      | (with_reducible exact LeO.none _)
      | (with_reducible refine LeO.ite ?_ ?_)
      | (with_reducible refine LeO.bind ?_ (fun _ => ?_))
      | exact ih0 _ _ _ _
      | exact LeO.none _
      | refine LeO.ite ?_ ?_
      | refine LeO.bind ?_ (fun _ => ?_)
set_option maxHeartbeats 8000000 in
set_option maxRecDepth 100000 in
theorem marquetrylaw11_PixelLaws.calls (k : Nat) (a0 : Int) (a1 : Int) (r : Bool) (w : World) (h : marquetrylaw11_PixelLaws.f k a0 a1 = some r) (hr : r = true) :
    Calls Try.prog 3 #[.int .u32 a0, .int .u32 a1] w fun e w' => e = .returned (.bool r) ∧ Below w.heap.size w w' := by
  have HB := Aside0.mk (Below.refl w.heap.size w)
  have H : ((pixel_Avg.f a0 a1).bind fun t103 => (marquetrylaw11_PixelLaws.l0 k a0 a1 t103 0)) = some r := h
  clear h
  have Hr := Aside0.mk hr
  clear hr
  replace H := Option.bind_eq_some_iff.mp H
  obtain ⟨t103, A30, H⟩ := H
  replace H : (marquetrylaw11_PixelLaws.l0 k a0 a1 t103 0) = some r := H
  have A3 := Aside0.mk A30
  clear A30
  have H' := Aside0.mk H
  clear H
  go_enter Try.func3, Try.ntmps3
  go_wp2_with (first | ((with_reducible refine gate_callee (f := 8) rfl ?_); refine goesL_ (some 12) rfl rfl Try.func8 (by kernel_rfl) rfl #[.int .u32 a0, .int .u32 a1] rfl (by (try simp only [List.map_toArray, List.map_cons, List.map_nil]); first | done | rfl | (simp only [List.length_drop, List.length_take]; rfl)) ?_; (with_reducible refine (pixel_Avg.calls a0 a1 t103 _ A3.out).mono ?_); clear A3; rintro e w4 ⟨rfl, hb⟩; refine ⟨_, rfl, ?_⟩; have n0_ := Aside0.mk (below_step (by repeat (first | (with_reducible first | exact HB.out | apply below_alloc | apply pw_below_drewN | apply below_drew1) | exact HB.out)) hb); clear HB; have HB := n0_; clear n0_; (try clear hb); (try clear hb2); (try clear hk); (try clear hi)) | (go_at_call 8; (with_reducible refine (pixel_Avg.calls a0 a1 t103 _ A3.out).mono ?_); clear A3; rintro e w4 ⟨rfl, hb⟩; have n0_ := Aside0.mk (below_step (by repeat (first | (with_reducible first | exact HB.out | apply below_alloc | apply pw_below_drewN | apply below_drew1) | exact HB.out)) hb); clear HB; have HB := n0_; clear n0_; (try clear hb); (try clear hb2); (try clear hk); (try clear hi)))
  go_loopg [6] k (fun kq v6 w' => ∃ (x6_1 : Int), v6 = .int .i64 x6_1 ∧ Aside0 (marquetrylaw11_PixelLaws.l0 kq a0 a1 t103 x6_1 = some r) ∧ Aside0 (kq ≤ k) ∧ Aside0 (Below w.heap.size w w'))
  case atStart => exact ⟨(0), (by first | rfl | (simp; done) | (simp [*]; done)), H', ⟨Nat.le_refl _⟩, ⟨by repeat (first | (with_reducible first | exact HB.out | apply below_alloc | apply pw_below_drewN | apply below_drew1) | exact HB.out)⟩⟩
  case round =>
    clear H'
    try clear p2
    try clear c3
    obtain ⟨x6_1, rfl, HA, HK1, HB⟩ := hrel
    cases gk with
    | zero => exact absurd HA.out (by simp [marquetrylaw11_PixelLaws.l0])
    | succ k1 =>
      have H := HA.out
      clear HA
      simp only [marquetrylaw11_PixelLaws.l0] at H
      by_cases c5 : x6_1 < 4
      · rw [if_pos c5] at H
        have c5b0 : decide (x6_1 < 4) = true := decide_eq_true c5
        clear c5
        replace H := Option.bind_eq_some_iff.mp H
        obtain ⟨t104, A60, H⟩ := H
        replace H : ((marquetryref11_Part.f a1 x6_1).bind fun t105 => ((marquetryref11_Part.f t103 x6_1).bind fun t106 => (if t106 < t104 then (if t106 < t105 then (some false) else (if t106 > t104 then (if t106 > t105 then (some false) else (marquetrylaw11_PixelLaws.l0 k1 a0 a1 t103 (wrap64 (x6_1 + 1)))) else (marquetrylaw11_PixelLaws.l0 k1 a0 a1 t103 (wrap64 (x6_1 + 1))))) else (if t106 > t104 then (if t106 > t105 then (some false) else (marquetrylaw11_PixelLaws.l0 k1 a0 a1 t103 (wrap64 (x6_1 + 1)))) else (marquetrylaw11_PixelLaws.l0 k1 a0 a1 t103 (wrap64 (x6_1 + 1))))))) = some r := H
        have A6 := Aside0.mk A60
        clear A60
        replace H := Option.bind_eq_some_iff.mp H
        obtain ⟨t105, A70, H⟩ := H
        replace H : ((marquetryref11_Part.f t103 x6_1).bind fun t106 => (if t106 < t104 then (if t106 < t105 then (some false) else (if t106 > t104 then (if t106 > t105 then (some false) else (marquetrylaw11_PixelLaws.l0 k1 a0 a1 t103 (wrap64 (x6_1 + 1)))) else (marquetrylaw11_PixelLaws.l0 k1 a0 a1 t103 (wrap64 (x6_1 + 1))))) else (if t106 > t104 then (if t106 > t105 then (some false) else (marquetrylaw11_PixelLaws.l0 k1 a0 a1 t103 (wrap64 (x6_1 + 1)))) else (marquetrylaw11_PixelLaws.l0 k1 a0 a1 t103 (wrap64 (x6_1 + 1)))))) = some r := H
        have A7 := Aside0.mk A70
        clear A70
        replace H := Option.bind_eq_some_iff.mp H
        obtain ⟨t106, A80, H⟩ := H
        replace H : (if t106 < t104 then (if t106 < t105 then (some false) else (if t106 > t104 then (if t106 > t105 then (some false) else (marquetrylaw11_PixelLaws.l0 k1 a0 a1 t103 (wrap64 (x6_1 + 1)))) else (marquetrylaw11_PixelLaws.l0 k1 a0 a1 t103 (wrap64 (x6_1 + 1))))) else (if t106 > t104 then (if t106 > t105 then (some false) else (marquetrylaw11_PixelLaws.l0 k1 a0 a1 t103 (wrap64 (x6_1 + 1)))) else (marquetrylaw11_PixelLaws.l0 k1 a0 a1 t103 (wrap64 (x6_1 + 1))))) = some r := H
        have A8 := Aside0.mk A80
        clear A80
        by_cases c9 : t106 < t104
        · rw [if_pos c9] at H
          have c9b0 : decide (t106 < t104) = true := decide_eq_true c9
          clear c9
          by_cases c10 : t106 < t105
          · rw [if_pos c10] at H
            have c10b0 : decide (t106 < t105) = true := decide_eq_true c10
            clear c10
            exact absurd ((Option.some.inj H).trans Hr.out) (by decide)
          · rw [if_neg c10] at H
            have c10b0 : decide (t106 < t105) = false := decide_eq_false c10
            clear c10
            by_cases c11 : t106 > t104
            · rw [if_pos c11] at H
              have c11b0 : decide (t104 < t106) = true := decide_eq_true c11
              clear c11
              by_cases c12 : t106 > t105
              · rw [if_pos c12] at H
                have c12b0 : decide (t105 < t106) = true := decide_eq_true c12
                clear c12
                exact absurd ((Option.some.inj H).trans Hr.out) (by decide)
              · rw [if_neg c12] at H
                have c12b0 : decide (t105 < t106) = false := decide_eq_false c12
                clear c12
                have H' := Aside0.mk H
                clear H
                go_wp2_with (first | ((with_reducible refine gate_callee (f := 9) rfl ?_); refine goesL_ (some 19) rfl rfl Try.func9 (by kernel_rfl) rfl #[.int .u32 a0, .int .i64 x6_1] rfl (by (try simp only [List.map_toArray, List.map_cons, List.map_nil]); first | done | rfl | (simp only [List.length_drop, List.length_take]; rfl)) ?_; (with_reducible refine (marquetryref11_Part.calls a0 x6_1 t104 _ A6.out).mono ?_); clear A6; rintro e w' ⟨rfl, ⟨nd, rfl⟩⟩; refine ⟨_, rfl, ?_⟩) | (go_at_call 9; (with_reducible refine (marquetryref11_Part.calls a0 x6_1 t104 _ A6.out).mono ?_); clear A6; rintro e w' ⟨rfl, ⟨nd, rfl⟩⟩) | ((with_reducible refine gate_callee (f := 9) rfl ?_); refine goesL_ (some 22) rfl rfl Try.func9 (by kernel_rfl) rfl #[.int .u32 a1, .int .i64 x6_1] rfl (by (try simp only [List.map_toArray, List.map_cons, List.map_nil]); first | done | rfl | (simp only [List.length_drop, List.length_take]; rfl)) ?_; (with_reducible refine (marquetryref11_Part.calls a1 x6_1 t105 _ A7.out).mono ?_); clear A7; rintro e w' ⟨rfl, ⟨nd, rfl⟩⟩; refine ⟨_, rfl, ?_⟩) | (go_at_call 9; (with_reducible refine (marquetryref11_Part.calls a1 x6_1 t105 _ A7.out).mono ?_); clear A7; rintro e w' ⟨rfl, ⟨nd, rfl⟩⟩) | ((with_reducible refine gate_callee (f := 9) rfl ?_); refine goesL_ (some 25) rfl rfl Try.func9 (by kernel_rfl) rfl #[.int .u32 t103, .int .i64 x6_1] rfl (by (try simp only [List.map_toArray, List.map_cons, List.map_nil]); first | done | rfl | (simp only [List.length_drop, List.length_take]; rfl)) ?_; (with_reducible refine (marquetryref11_Part.calls t103 x6_1 t106 _ A8.out).mono ?_); clear A8; rintro e w' ⟨rfl, ⟨nd, rfl⟩⟩; refine ⟨_, rfl, ?_⟩) | (go_at_call 9; (with_reducible refine (marquetryref11_Part.calls t103 x6_1 t106 _ A8.out).mono ?_); clear A8; rintro e w' ⟨rfl, ⟨nd, rfl⟩⟩))
                go_roundg k1
                case measure => have := HK1.out; omega
                case rel => exact ⟨(wrap64 (x6_1 + 1)), (by first | rfl | (simp; done) | (simp [*]; done)), H', ⟨by have := HK1.out; omega⟩, ⟨by repeat (first | (with_reducible first | exact HB.out | apply below_alloc | apply pw_below_drewN | apply below_drew1) | exact HB.out)⟩⟩
            · rw [if_neg c11] at H
              have c11b0 : decide (t104 < t106) = false := decide_eq_false c11
              clear c11
              have H' := Aside0.mk H
              clear H
              go_wp2_with (first | ((with_reducible refine gate_callee (f := 9) rfl ?_); refine goesL_ (some 19) rfl rfl Try.func9 (by kernel_rfl) rfl #[.int .u32 a0, .int .i64 x6_1] rfl (by (try simp only [List.map_toArray, List.map_cons, List.map_nil]); first | done | rfl | (simp only [List.length_drop, List.length_take]; rfl)) ?_; (with_reducible refine (marquetryref11_Part.calls a0 x6_1 t104 _ A6.out).mono ?_); clear A6; rintro e w' ⟨rfl, ⟨nd, rfl⟩⟩; refine ⟨_, rfl, ?_⟩) | (go_at_call 9; (with_reducible refine (marquetryref11_Part.calls a0 x6_1 t104 _ A6.out).mono ?_); clear A6; rintro e w' ⟨rfl, ⟨nd, rfl⟩⟩) | ((with_reducible refine gate_callee (f := 9) rfl ?_); refine goesL_ (some 22) rfl rfl Try.func9 (by kernel_rfl) rfl #[.int .u32 a1, .int .i64 x6_1] rfl (by (try simp only [List.map_toArray, List.map_cons, List.map_nil]); first | done | rfl | (simp only [List.length_drop, List.length_take]; rfl)) ?_; (with_reducible refine (marquetryref11_Part.calls a1 x6_1 t105 _ A7.out).mono ?_); clear A7; rintro e w' ⟨rfl, ⟨nd, rfl⟩⟩; refine ⟨_, rfl, ?_⟩) | (go_at_call 9; (with_reducible refine (marquetryref11_Part.calls a1 x6_1 t105 _ A7.out).mono ?_); clear A7; rintro e w' ⟨rfl, ⟨nd, rfl⟩⟩) | ((with_reducible refine gate_callee (f := 9) rfl ?_); refine goesL_ (some 25) rfl rfl Try.func9 (by kernel_rfl) rfl #[.int .u32 t103, .int .i64 x6_1] rfl (by (try simp only [List.map_toArray, List.map_cons, List.map_nil]); first | done | rfl | (simp only [List.length_drop, List.length_take]; rfl)) ?_; (with_reducible refine (marquetryref11_Part.calls t103 x6_1 t106 _ A8.out).mono ?_); clear A8; rintro e w' ⟨rfl, ⟨nd, rfl⟩⟩; refine ⟨_, rfl, ?_⟩) | (go_at_call 9; (with_reducible refine (marquetryref11_Part.calls t103 x6_1 t106 _ A8.out).mono ?_); clear A8; rintro e w' ⟨rfl, ⟨nd, rfl⟩⟩))
              go_roundg k1
              case measure => have := HK1.out; omega
              case rel => exact ⟨(wrap64 (x6_1 + 1)), (by first | rfl | (simp; done) | (simp [*]; done)), H', ⟨by have := HK1.out; omega⟩, ⟨by repeat (first | (with_reducible first | exact HB.out | apply below_alloc | apply pw_below_drewN | apply below_drew1) | exact HB.out)⟩⟩
        · rw [if_neg c9] at H
          have c9b0 : decide (t106 < t104) = false := decide_eq_false c9
          clear c9
          by_cases c13 : t106 > t104
          · rw [if_pos c13] at H
            have c13b0 : decide (t104 < t106) = true := decide_eq_true c13
            clear c13
            by_cases c14 : t106 > t105
            · rw [if_pos c14] at H
              have c14b0 : decide (t105 < t106) = true := decide_eq_true c14
              clear c14
              exact absurd ((Option.some.inj H).trans Hr.out) (by decide)
            · rw [if_neg c14] at H
              have c14b0 : decide (t105 < t106) = false := decide_eq_false c14
              clear c14
              have H' := Aside0.mk H
              clear H
              go_wp2_with (first | ((with_reducible refine gate_callee (f := 9) rfl ?_); refine goesL_ (some 19) rfl rfl Try.func9 (by kernel_rfl) rfl #[.int .u32 a0, .int .i64 x6_1] rfl (by (try simp only [List.map_toArray, List.map_cons, List.map_nil]); first | done | rfl | (simp only [List.length_drop, List.length_take]; rfl)) ?_; (with_reducible refine (marquetryref11_Part.calls a0 x6_1 t104 _ A6.out).mono ?_); clear A6; rintro e w' ⟨rfl, ⟨nd, rfl⟩⟩; refine ⟨_, rfl, ?_⟩) | (go_at_call 9; (with_reducible refine (marquetryref11_Part.calls a0 x6_1 t104 _ A6.out).mono ?_); clear A6; rintro e w' ⟨rfl, ⟨nd, rfl⟩⟩) | ((with_reducible refine gate_callee (f := 9) rfl ?_); refine goesL_ (some 22) rfl rfl Try.func9 (by kernel_rfl) rfl #[.int .u32 a1, .int .i64 x6_1] rfl (by (try simp only [List.map_toArray, List.map_cons, List.map_nil]); first | done | rfl | (simp only [List.length_drop, List.length_take]; rfl)) ?_; (with_reducible refine (marquetryref11_Part.calls a1 x6_1 t105 _ A7.out).mono ?_); clear A7; rintro e w' ⟨rfl, ⟨nd, rfl⟩⟩; refine ⟨_, rfl, ?_⟩) | (go_at_call 9; (with_reducible refine (marquetryref11_Part.calls a1 x6_1 t105 _ A7.out).mono ?_); clear A7; rintro e w' ⟨rfl, ⟨nd, rfl⟩⟩) | ((with_reducible refine gate_callee (f := 9) rfl ?_); refine goesL_ (some 25) rfl rfl Try.func9 (by kernel_rfl) rfl #[.int .u32 t103, .int .i64 x6_1] rfl (by (try simp only [List.map_toArray, List.map_cons, List.map_nil]); first | done | rfl | (simp only [List.length_drop, List.length_take]; rfl)) ?_; (with_reducible refine (marquetryref11_Part.calls t103 x6_1 t106 _ A8.out).mono ?_); clear A8; rintro e w' ⟨rfl, ⟨nd, rfl⟩⟩; refine ⟨_, rfl, ?_⟩) | (go_at_call 9; (with_reducible refine (marquetryref11_Part.calls t103 x6_1 t106 _ A8.out).mono ?_); clear A8; rintro e w' ⟨rfl, ⟨nd, rfl⟩⟩))
              go_roundg k1
              case measure => have := HK1.out; omega
              case rel => exact ⟨(wrap64 (x6_1 + 1)), (by first | rfl | (simp; done) | (simp [*]; done)), H', ⟨by have := HK1.out; omega⟩, ⟨by repeat (first | (with_reducible first | exact HB.out | apply below_alloc | apply pw_below_drewN | apply below_drew1) | exact HB.out)⟩⟩
          · rw [if_neg c13] at H
            have c13b0 : decide (t104 < t106) = false := decide_eq_false c13
            clear c13
            have H' := Aside0.mk H
            clear H
            go_wp2_with (first | ((with_reducible refine gate_callee (f := 9) rfl ?_); refine goesL_ (some 19) rfl rfl Try.func9 (by kernel_rfl) rfl #[.int .u32 a0, .int .i64 x6_1] rfl (by (try simp only [List.map_toArray, List.map_cons, List.map_nil]); first | done | rfl | (simp only [List.length_drop, List.length_take]; rfl)) ?_; (with_reducible refine (marquetryref11_Part.calls a0 x6_1 t104 _ A6.out).mono ?_); clear A6; rintro e w' ⟨rfl, ⟨nd, rfl⟩⟩; refine ⟨_, rfl, ?_⟩) | (go_at_call 9; (with_reducible refine (marquetryref11_Part.calls a0 x6_1 t104 _ A6.out).mono ?_); clear A6; rintro e w' ⟨rfl, ⟨nd, rfl⟩⟩) | ((with_reducible refine gate_callee (f := 9) rfl ?_); refine goesL_ (some 22) rfl rfl Try.func9 (by kernel_rfl) rfl #[.int .u32 a1, .int .i64 x6_1] rfl (by (try simp only [List.map_toArray, List.map_cons, List.map_nil]); first | done | rfl | (simp only [List.length_drop, List.length_take]; rfl)) ?_; (with_reducible refine (marquetryref11_Part.calls a1 x6_1 t105 _ A7.out).mono ?_); clear A7; rintro e w' ⟨rfl, ⟨nd, rfl⟩⟩; refine ⟨_, rfl, ?_⟩) | (go_at_call 9; (with_reducible refine (marquetryref11_Part.calls a1 x6_1 t105 _ A7.out).mono ?_); clear A7; rintro e w' ⟨rfl, ⟨nd, rfl⟩⟩) | ((with_reducible refine gate_callee (f := 9) rfl ?_); refine goesL_ (some 25) rfl rfl Try.func9 (by kernel_rfl) rfl #[.int .u32 t103, .int .i64 x6_1] rfl (by (try simp only [List.map_toArray, List.map_cons, List.map_nil]); first | done | rfl | (simp only [List.length_drop, List.length_take]; rfl)) ?_; (with_reducible refine (marquetryref11_Part.calls t103 x6_1 t106 _ A8.out).mono ?_); clear A8; rintro e w' ⟨rfl, ⟨nd, rfl⟩⟩; refine ⟨_, rfl, ?_⟩) | (go_at_call 9; (with_reducible refine (marquetryref11_Part.calls t103 x6_1 t106 _ A8.out).mono ?_); clear A8; rintro e w' ⟨rfl, ⟨nd, rfl⟩⟩))
            go_roundg k1
            case measure => have := HK1.out; omega
            case rel => exact ⟨(wrap64 (x6_1 + 1)), (by first | rfl | (simp; done) | (simp [*]; done)), H', ⟨by have := HK1.out; omega⟩, ⟨by repeat (first | (with_reducible first | exact HB.out | apply below_alloc | apply pw_below_drewN | apply below_drew1) | exact HB.out)⟩⟩
      · rw [if_neg c5] at H
        have c5b0 : decide (x6_1 < 4) = false := decide_eq_false c5
        clear c5
        replace H := Option.bind_eq_some_iff.mp H
        obtain ⟨t107, A150, H⟩ := H
        replace H : (if t107 = true then ((pixel_Add.f a0 a1).bind fun t108 => ((pixel_Sub.f t108 a1).bind fun t109 => (if t109 = a0 then ((pixel_Sub.f a0 a1).bind fun t110 => ((pixel_Add.f t110 a1).bind fun t111 => (if t111 = a0 then ((pixel_Add.f a0 a1).bind fun t112 => ((pixel_Add.f a1 a0).bind fun t113 => (if t112 = t113 then ((pixel_Avg.f a0 a0).bind fun t114 => (some (t114 == a0))) else (some false)))) else (some false)))) else (some false)))) else (some false)) = some r := H
        have A15 := Aside0.mk A150
        clear A150
        by_cases c16 : t107 = true
        · subst c16
          have H1 : ((pixel_Add.f a0 a1).bind fun t108 => ((pixel_Sub.f t108 a1).bind fun t109 => (if t109 = a0 then ((pixel_Sub.f a0 a1).bind fun t110 => ((pixel_Add.f t110 a1).bind fun t111 => (if t111 = a0 then ((pixel_Add.f a0 a1).bind fun t112 => ((pixel_Add.f a1 a0).bind fun t113 => (if t112 = t113 then ((pixel_Avg.f a0 a0).bind fun t114 => (some (t114 == a0))) else (some false)))) else (some false)))) else (some false)))) = some r := by rw [if_pos rfl] at H; exact H
          clear H
          have H := H1
          clear H1
          replace H := Option.bind_eq_some_iff.mp H
          obtain ⟨t108, A170, H⟩ := H
          replace H : ((pixel_Sub.f t108 a1).bind fun t109 => (if t109 = a0 then ((pixel_Sub.f a0 a1).bind fun t110 => ((pixel_Add.f t110 a1).bind fun t111 => (if t111 = a0 then ((pixel_Add.f a0 a1).bind fun t112 => ((pixel_Add.f a1 a0).bind fun t113 => (if t112 = t113 then ((pixel_Avg.f a0 a0).bind fun t114 => (some (t114 == a0))) else (some false)))) else (some false)))) else (some false))) = some r := H
          have A17 := Aside0.mk A170
          clear A170
          replace H := Option.bind_eq_some_iff.mp H
          obtain ⟨t109, A180, H⟩ := H
          replace H : (if t109 = a0 then ((pixel_Sub.f a0 a1).bind fun t110 => ((pixel_Add.f t110 a1).bind fun t111 => (if t111 = a0 then ((pixel_Add.f a0 a1).bind fun t112 => ((pixel_Add.f a1 a0).bind fun t113 => (if t112 = t113 then ((pixel_Avg.f a0 a0).bind fun t114 => (some (t114 == a0))) else (some false)))) else (some false)))) else (some false)) = some r := H
          have A18 := Aside0.mk A180
          clear A180
          by_cases c19 : t109 = a0
          · rw [if_pos c19] at H
            have c19b0 : (t109 == a0) = true := beq_iff_eq.mpr c19
            have c19b1 : (t109 != a0) = false := bne_eq_false_iff_eq.mpr c19
            clear c19
            replace H := Option.bind_eq_some_iff.mp H
            obtain ⟨t110, A200, H⟩ := H
            replace H : ((pixel_Add.f t110 a1).bind fun t111 => (if t111 = a0 then ((pixel_Add.f a0 a1).bind fun t112 => ((pixel_Add.f a1 a0).bind fun t113 => (if t112 = t113 then ((pixel_Avg.f a0 a0).bind fun t114 => (some (t114 == a0))) else (some false)))) else (some false))) = some r := H
            have A20 := Aside0.mk A200
            clear A200
            replace H := Option.bind_eq_some_iff.mp H
            obtain ⟨t111, A210, H⟩ := H
            replace H : (if t111 = a0 then ((pixel_Add.f a0 a1).bind fun t112 => ((pixel_Add.f a1 a0).bind fun t113 => (if t112 = t113 then ((pixel_Avg.f a0 a0).bind fun t114 => (some (t114 == a0))) else (some false)))) else (some false)) = some r := H
            have A21 := Aside0.mk A210
            clear A210
            by_cases c22 : t111 = a0
            · rw [if_pos c22] at H
              have c22b0 : (t111 == a0) = true := beq_iff_eq.mpr c22
              have c22b1 : (t111 != a0) = false := bne_eq_false_iff_eq.mpr c22
              clear c22
              replace H := Option.bind_eq_some_iff.mp H
              obtain ⟨t112, A230, H⟩ := H
              replace H : ((pixel_Add.f a1 a0).bind fun t113 => (if t112 = t113 then ((pixel_Avg.f a0 a0).bind fun t114 => (some (t114 == a0))) else (some false))) = some r := H
              have A23 := Aside0.mk A230
              clear A230
              replace H := Option.bind_eq_some_iff.mp H
              obtain ⟨t113, A240, H⟩ := H
              replace H : (if t112 = t113 then ((pixel_Avg.f a0 a0).bind fun t114 => (some (t114 == a0))) else (some false)) = some r := H
              have A24 := Aside0.mk A240
              clear A240
              by_cases c25 : t112 = t113
              · rw [if_pos c25] at H
                have c25b0 : (t112 == t113) = true := beq_iff_eq.mpr c25
                have c25b1 : (t112 != t113) = false := bne_eq_false_iff_eq.mpr c25
                clear c25
                replace H := Option.bind_eq_some_iff.mp H
                obtain ⟨t114, A260, H⟩ := H
                replace H : (some (t114 == a0)) = some r := H
                have A26 := Aside0.mk A260
                clear A260
                obtain rfl := Option.some.inj H
                go_wp2_with (first | ((with_reducible refine gate_callee (f := 10) rfl ?_); refine goesL_ (some 44) rfl rfl Try.func10 (by kernel_rfl) rfl #[] rfl (by (try simp only [List.map_toArray, List.map_cons, List.map_nil]); first | done | rfl | (simp only [List.length_drop, List.length_take]; rfl)) ?_; (with_reducible refine (marquetrylaw11_answers.calls  true _ A15.out).mono ?_); clear A15; rintro e w27 ⟨rfl, hb⟩; refine ⟨_, rfl, ?_⟩; have n0_ := Aside0.mk (below_step (by repeat (first | (with_reducible first | exact HB.out | apply below_alloc | apply pw_below_drewN | apply below_drew1) | exact HB.out)) hb); clear HB; have HB := n0_; clear n0_; (try clear hb); (try clear hb2); (try clear hk); (try clear hi)) | (go_at_call 10; (with_reducible refine (marquetrylaw11_answers.calls  true _ A15.out).mono ?_); clear A15; rintro e w27 ⟨rfl, hb⟩; have n0_ := Aside0.mk (below_step (by repeat (first | (with_reducible first | exact HB.out | apply below_alloc | apply pw_below_drewN | apply below_drew1) | exact HB.out)) hb); clear HB; have HB := n0_; clear n0_; (try clear hb); (try clear hb2); (try clear hk); (try clear hi)) | (go_at_call 12; (with_reducible refine (pixel_Add.calls a0 a1 t108 _ A17.out).mono ?_); clear A17; rintro e w28 ⟨rfl, hb⟩; have n0_ := Aside0.mk (below_step (by repeat (first | (with_reducible first | exact HB.out | apply below_alloc | apply pw_below_drewN | apply below_drew1) | exact HB.out)) hb); clear HB; have HB := n0_; clear n0_; (try clear hb); (try clear hb2); (try clear hk); (try clear hi)) | (go_at_call 11; (with_reducible refine (pixel_Sub.calls t108 a1 t109 _ A18.out).mono ?_); clear A18; rintro e w29 ⟨rfl, hb⟩; have n0_ := Aside0.mk (below_step (by repeat (first | (with_reducible first | exact HB.out | apply below_alloc | apply pw_below_drewN | apply below_drew1) | exact HB.out)) hb); clear HB; have HB := n0_; clear n0_; (try clear hb); (try clear hb2); (try clear hk); (try clear hi)) | (go_at_call 11; (with_reducible refine (pixel_Sub.calls a0 a1 t110 _ A20.out).mono ?_); clear A20; rintro e w30 ⟨rfl, hb⟩; have n0_ := Aside0.mk (below_step (by repeat (first | (with_reducible first | exact HB.out | apply below_alloc | apply pw_below_drewN | apply below_drew1) | exact HB.out)) hb); clear HB; have HB := n0_; clear n0_; (try clear hb); (try clear hb2); (try clear hk); (try clear hi)) | (go_at_call 12; (with_reducible refine (pixel_Add.calls t110 a1 t111 _ A21.out).mono ?_); clear A21; rintro e w31 ⟨rfl, hb⟩; have n0_ := Aside0.mk (below_step (by repeat (first | (with_reducible first | exact HB.out | apply below_alloc | apply pw_below_drewN | apply below_drew1) | exact HB.out)) hb); clear HB; have HB := n0_; clear n0_; (try clear hb); (try clear hb2); (try clear hk); (try clear hi)) | (go_at_call 12; (with_reducible refine (pixel_Add.calls a0 a1 t112 _ A23.out).mono ?_); clear A23; rintro e w32 ⟨rfl, hb⟩; have n0_ := Aside0.mk (below_step (by repeat (first | (with_reducible first | exact HB.out | apply below_alloc | apply pw_below_drewN | apply below_drew1) | exact HB.out)) hb); clear HB; have HB := n0_; clear n0_; (try clear hb); (try clear hb2); (try clear hk); (try clear hi)) | (go_at_call 12; (with_reducible refine (pixel_Add.calls a1 a0 t113 _ A24.out).mono ?_); clear A24; rintro e w33 ⟨rfl, hb⟩; have n0_ := Aside0.mk (below_step (by repeat (first | (with_reducible first | exact HB.out | apply below_alloc | apply pw_below_drewN | apply below_drew1) | exact HB.out)) hb); clear HB; have HB := n0_; clear n0_; (try clear hb); (try clear hb2); (try clear hk); (try clear hi)) | (go_at_call 8; (with_reducible refine (pixel_Avg.calls a0 a0 t114 _ A26.out).mono ?_); clear A26; rintro e w34 ⟨rfl, hb⟩; have n0_ := Aside0.mk (below_step (by repeat (first | (with_reducible first | exact HB.out | apply below_alloc | apply pw_below_drewN | apply below_drew1) | exact HB.out)) hb); clear HB; have HB := n0_; clear n0_; (try clear hb); (try clear hb2); (try clear hk); (try clear hi)))
                go_ret
                exact ⟨by first | rfl | (simp [errW_none, errW_some] <;> rfl) | (simp [*, errW_none, errW_some] <;> rfl), by repeat (first | (with_reducible first | exact HB.out | apply below_alloc | apply pw_below_drewN | apply below_drew1) | exact HB.out)⟩
              · rw [if_neg c25] at H
                have c25b0 : (t112 == t113) = false := beq_eq_false_iff_ne.mpr c25
                have c25b1 : (t112 != t113) = true := bne_iff_ne.mpr c25
                exact absurd ((Option.some.inj H).trans Hr.out) (by decide)
            · rw [if_neg c22] at H
              have c22b0 : (t111 == a0) = false := beq_eq_false_iff_ne.mpr c22
              have c22b1 : (t111 != a0) = true := bne_iff_ne.mpr c22
              exact absurd ((Option.some.inj H).trans Hr.out) (by decide)
          · rw [if_neg c19] at H
            have c19b0 : (t109 == a0) = false := beq_eq_false_iff_ne.mpr c19
            have c19b1 : (t109 != a0) = true := bne_iff_ne.mpr c19
            exact absurd ((Option.some.inj H).trans Hr.out) (by decide)
        · replace c16 := Bool.eq_false_iff.mpr c16
          subst c16
          have H1 : (some false) = some r := by rw [if_neg (show ¬ (false = true) by decide)] at H; exact H
          clear H
          have H := H1
          clear H1
          exact absurd ((Option.some.inj H).trans Hr.out) (by decide)

/-- THE ONE PURE STATEMENT of marquetrylaw11_PixelLaws: yours. -/
def marquetrylaw11_PixelLaws.Pure : Prop := ∀ (a0 : Int) (a1 : Int), (Lit.int .u32 a0).wf = true → (Lit.int .u32 a1).wf = true → ∃ k, marquetrylaw11_PixelLaws.f k a0 a1 = some true
theorem marquetrylaw11_PixelLaws.walk (P : marquetrylaw11_PixelLaws.Pure) (a0 : Int) (a1 : Int) (w : World) (w0 : (Lit.int .u32 a0).wf = true) (w1 : (Lit.int .u32 a1).wf = true) :
    Calls Try.prog 3 #[.int .u32 a0, .int .u32 a1] w fun e w' => e = .returned (.bool true) ∧ Below w.heap.size w w' := by
  obtain ⟨k, h⟩ := P a0 a1 w0 w1
  refine (marquetrylaw11_PixelLaws.calls k a0 a1 true w h rfl).mono ?_
  rintro e w' ⟨rfl, hd⟩
  exact ⟨rfl, hd⟩

/-! ### pixel_Good: function 13 -/
def pixel_Good.f (a0_0 : Int) (a0_1 : Int) (l0_2 : List Int) : Option (Bool) := if a0_0 ≥ 1 then (if a0_0 ≤ 16384 then (if a0_1 ≥ 1 then (if a0_1 ≤ 16384 then (some ((l0_2.length : Int) == (wrap64 (a0_0 * a0_1)))) else (some false)) else (some false)) else (some false)) else (some false)
set_option maxHeartbeats 8000000 in
set_option maxRecDepth 100000 in
theorem pixel_Good.calls (a0_0 : Int) (a0_1 : Int) (A0_2 : Option Addr) (c0_2 : Nat) (l0_2 : List Int) (r : Bool) (w : World) (hr0_2 : Kd.C (Kd.int .u32) w A0_2 l0_2.length l0_2) (hc0_2 : l0_2.length ≤ c0_2) (h : pixel_Good.f a0_0 a0_1 l0_2 = some r) :
    Calls Try.prog 13 #[.agg #[.int .i64 a0_0, .int .i64 a0_1, .slice A0_2 l0_2.length c0_2]] w fun e w' => e = .returned (.bool r) ∧ Below w.heap.size w w' := by
  have hu29 := Try.underlying29
  have HR0_2 := Aside0.mk hr0_2
  have HC0_2 := Aside0.mk hc0_2
  clear hr0_2 hc0_2
  have HB := Aside0.mk (Below.refl w.heap.size w)
  have H : (if a0_0 ≥ 1 then (if a0_0 ≤ 16384 then (if a0_1 ≥ 1 then (if a0_1 ≤ 16384 then (some ((l0_2.length : Int) == (wrap64 (a0_0 * a0_1)))) else (some false)) else (some false)) else (some false)) else (some false)) = some r := h
  clear h
  by_cases c2 : a0_0 ≥ 1
  · rw [if_pos c2] at H
    have c2b0 : decide (1 ≤ a0_0) = true := decide_eq_true c2
    clear c2
    by_cases c3 : a0_0 ≤ 16384
    · rw [if_pos c3] at H
      have c3b0 : decide (a0_0 ≤ 16384) = true := decide_eq_true c3
      clear c3
      by_cases c4 : a0_1 ≥ 1
      · rw [if_pos c4] at H
        have c4b0 : decide (1 ≤ a0_1) = true := decide_eq_true c4
        clear c4
        by_cases c5 : a0_1 ≤ 16384
        · rw [if_pos c5] at H
          have c5b0 : decide (a0_1 ≤ 16384) = true := decide_eq_true c5
          clear c5
          obtain rfl := Option.some.inj H
          go_enter Try.func13, Try.ntmps13
          go_wp2_with (first | ((with_reducible refine gate_dst (N := 1) rfl ?_); (try (refine gate_guard (by rfl) ?_; dsimp only)); refine box_event ?hg (N := 1) ?hd (cs := #[.int .i64 a0_0, .int .i64 a0_1, .slice A0_2 l0_2.length c0_2]) (t := 29) ?hr ?_; (case hd => rfl); (case hg => rfl); (case hr => first | (go_simp; done) | (go_simp; rfl)); intro gb115 hg w6 hbox hb; have n0_ := Aside0.mk (below_step (by repeat (first | (with_reducible first | exact HB.out | apply below_alloc | apply pw_below_drewN | apply below_drew1) | exact HB.out)) hb); have n1_ := Aside0.mk (hbox); have n2_ := Aside0.mk ((by rw [hg]; exact (below_size (by repeat (first | (with_reducible first | exact HB.out | apply below_alloc | apply pw_below_drewN | apply below_drew1) | exact HB.out))) : w.heap.size ≤ gb115)); have n3_ := Aside0.mk ((by rw [hg]; exact (below_size (by repeat (first | (with_reducible first | exact HB.out | apply below_alloc | apply pw_below_drewN | apply below_drew1) | exact HB.out))) : w.heap.size ≤ gb115)); clear HB; have HB := n0_; have BK115 := n1_; have GW115 := n2_; have GE115 := n3_; clear n0_ n1_ n2_ n3_; clear hb hbox hg; have hcz7_0 : w6.cell? ⟨gb115, 0, none⟩ = some (.int .i64 a0_0) := (blk_cell BK115.out 0).trans rfl; have hcz7_1 : w6.cell? ⟨gb115, 1, none⟩ = some (.int .i64 a0_1) := (blk_cell BK115.out 1).trans rfl; have hcz7_2 : w6.cell? ⟨gb115, 2, none⟩ = some (.slice A0_2 l0_2.length c0_2) := (blk_cell BK115.out 2).trans rfl; have hfz7_0 := blk_frozen BK115.out 0; have hfz7_1 := blk_frozen BK115.out 1; have hfz7_2 := blk_frozen BK115.out 2))
          go_ret
          exact ⟨by first | rfl | (simp [errW_none, errW_some] <;> rfl) | (simp [*, errW_none, errW_some] <;> rfl), by repeat (first | (with_reducible first | exact HB.out | apply below_alloc | apply pw_below_drewN | apply below_drew1 | refine below_set ?_ GE115.out) | exact HB.out)⟩
        · rw [if_neg c5] at H
          have c5b0 : decide (a0_1 ≤ 16384) = false := decide_eq_false c5
          clear c5
          obtain rfl := Option.some.inj H
          go_enter Try.func13, Try.ntmps13
          go_wp2_with (first | ((with_reducible refine gate_dst (N := 1) rfl ?_); (try (refine gate_guard (by rfl) ?_; dsimp only)); refine box_event ?hg (N := 1) ?hd (cs := #[.int .i64 a0_0, .int .i64 a0_1, .slice A0_2 l0_2.length c0_2]) (t := 29) ?hr ?_; (case hd => rfl); (case hg => rfl); (case hr => first | (go_simp; done) | (go_simp; rfl)); intro gb115 hg w8 hbox hb; have n0_ := Aside0.mk (below_step (by repeat (first | (with_reducible first | exact HB.out | apply below_alloc | apply pw_below_drewN | apply below_drew1) | exact HB.out)) hb); have n1_ := Aside0.mk (hbox); have n2_ := Aside0.mk ((by rw [hg]; exact (below_size (by repeat (first | (with_reducible first | exact HB.out | apply below_alloc | apply pw_below_drewN | apply below_drew1) | exact HB.out))) : w.heap.size ≤ gb115)); have n3_ := Aside0.mk ((by rw [hg]; exact (below_size (by repeat (first | (with_reducible first | exact HB.out | apply below_alloc | apply pw_below_drewN | apply below_drew1) | exact HB.out))) : w.heap.size ≤ gb115)); clear HB; have HB := n0_; have BK115 := n1_; have GW115 := n2_; have GE115 := n3_; clear n0_ n1_ n2_ n3_; clear hb hbox hg; have hcz9_0 : w8.cell? ⟨gb115, 0, none⟩ = some (.int .i64 a0_0) := (blk_cell BK115.out 0).trans rfl; have hcz9_1 : w8.cell? ⟨gb115, 1, none⟩ = some (.int .i64 a0_1) := (blk_cell BK115.out 1).trans rfl; have hcz9_2 : w8.cell? ⟨gb115, 2, none⟩ = some (.slice A0_2 l0_2.length c0_2) := (blk_cell BK115.out 2).trans rfl; have hfz9_0 := blk_frozen BK115.out 0; have hfz9_1 := blk_frozen BK115.out 1; have hfz9_2 := blk_frozen BK115.out 2))
          go_ret
          exact ⟨by first | rfl | (simp [errW_none, errW_some] <;> rfl) | (simp [*, errW_none, errW_some] <;> rfl), by repeat (first | (with_reducible first | exact HB.out | apply below_alloc | apply pw_below_drewN | apply below_drew1 | refine below_set ?_ GE115.out) | exact HB.out)⟩
      · rw [if_neg c4] at H
        have c4b0 : decide (1 ≤ a0_1) = false := decide_eq_false c4
        clear c4
        obtain rfl := Option.some.inj H
        go_enter Try.func13, Try.ntmps13
        go_wp2_with (first | ((with_reducible refine gate_dst (N := 1) rfl ?_); (try (refine gate_guard (by rfl) ?_; dsimp only)); refine box_event ?hg (N := 1) ?hd (cs := #[.int .i64 a0_0, .int .i64 a0_1, .slice A0_2 l0_2.length c0_2]) (t := 29) ?hr ?_; (case hd => rfl); (case hg => rfl); (case hr => first | (go_simp; done) | (go_simp; rfl)); intro gb115 hg w10 hbox hb; have n0_ := Aside0.mk (below_step (by repeat (first | (with_reducible first | exact HB.out | apply below_alloc | apply pw_below_drewN | apply below_drew1) | exact HB.out)) hb); have n1_ := Aside0.mk (hbox); have n2_ := Aside0.mk ((by rw [hg]; exact (below_size (by repeat (first | (with_reducible first | exact HB.out | apply below_alloc | apply pw_below_drewN | apply below_drew1) | exact HB.out))) : w.heap.size ≤ gb115)); have n3_ := Aside0.mk ((by rw [hg]; exact (below_size (by repeat (first | (with_reducible first | exact HB.out | apply below_alloc | apply pw_below_drewN | apply below_drew1) | exact HB.out))) : w.heap.size ≤ gb115)); clear HB; have HB := n0_; have BK115 := n1_; have GW115 := n2_; have GE115 := n3_; clear n0_ n1_ n2_ n3_; clear hb hbox hg; have hcz11_0 : w10.cell? ⟨gb115, 0, none⟩ = some (.int .i64 a0_0) := (blk_cell BK115.out 0).trans rfl; have hcz11_1 : w10.cell? ⟨gb115, 1, none⟩ = some (.int .i64 a0_1) := (blk_cell BK115.out 1).trans rfl; have hcz11_2 : w10.cell? ⟨gb115, 2, none⟩ = some (.slice A0_2 l0_2.length c0_2) := (blk_cell BK115.out 2).trans rfl; have hfz11_0 := blk_frozen BK115.out 0; have hfz11_1 := blk_frozen BK115.out 1; have hfz11_2 := blk_frozen BK115.out 2))
        go_ret
        exact ⟨by first | rfl | (simp [errW_none, errW_some] <;> rfl) | (simp [*, errW_none, errW_some] <;> rfl), by repeat (first | (with_reducible first | exact HB.out | apply below_alloc | apply pw_below_drewN | apply below_drew1 | refine below_set ?_ GE115.out) | exact HB.out)⟩
    · rw [if_neg c3] at H
      have c3b0 : decide (a0_0 ≤ 16384) = false := decide_eq_false c3
      clear c3
      obtain rfl := Option.some.inj H
      go_enter Try.func13, Try.ntmps13
      go_wp2_with (first | ((with_reducible refine gate_dst (N := 1) rfl ?_); (try (refine gate_guard (by rfl) ?_; dsimp only)); refine box_event ?hg (N := 1) ?hd (cs := #[.int .i64 a0_0, .int .i64 a0_1, .slice A0_2 l0_2.length c0_2]) (t := 29) ?hr ?_; (case hd => rfl); (case hg => rfl); (case hr => first | (go_simp; done) | (go_simp; rfl)); intro gb115 hg w12 hbox hb; have n0_ := Aside0.mk (below_step (by repeat (first | (with_reducible first | exact HB.out | apply below_alloc | apply pw_below_drewN | apply below_drew1) | exact HB.out)) hb); have n1_ := Aside0.mk (hbox); have n2_ := Aside0.mk ((by rw [hg]; exact (below_size (by repeat (first | (with_reducible first | exact HB.out | apply below_alloc | apply pw_below_drewN | apply below_drew1) | exact HB.out))) : w.heap.size ≤ gb115)); have n3_ := Aside0.mk ((by rw [hg]; exact (below_size (by repeat (first | (with_reducible first | exact HB.out | apply below_alloc | apply pw_below_drewN | apply below_drew1) | exact HB.out))) : w.heap.size ≤ gb115)); clear HB; have HB := n0_; have BK115 := n1_; have GW115 := n2_; have GE115 := n3_; clear n0_ n1_ n2_ n3_; clear hb hbox hg; have hcz13_0 : w12.cell? ⟨gb115, 0, none⟩ = some (.int .i64 a0_0) := (blk_cell BK115.out 0).trans rfl; have hcz13_1 : w12.cell? ⟨gb115, 1, none⟩ = some (.int .i64 a0_1) := (blk_cell BK115.out 1).trans rfl; have hcz13_2 : w12.cell? ⟨gb115, 2, none⟩ = some (.slice A0_2 l0_2.length c0_2) := (blk_cell BK115.out 2).trans rfl; have hfz13_0 := blk_frozen BK115.out 0; have hfz13_1 := blk_frozen BK115.out 1; have hfz13_2 := blk_frozen BK115.out 2))
      go_ret
      exact ⟨by first | rfl | (simp [errW_none, errW_some] <;> rfl) | (simp [*, errW_none, errW_some] <;> rfl), by repeat (first | (with_reducible first | exact HB.out | apply below_alloc | apply pw_below_drewN | apply below_drew1 | refine below_set ?_ GE115.out) | exact HB.out)⟩
  · rw [if_neg c2] at H
    have c2b0 : decide (1 ≤ a0_0) = false := decide_eq_false c2
    clear c2
    obtain rfl := Option.some.inj H
    go_enter Try.func13, Try.ntmps13
    go_wp2_with (first | ((with_reducible refine gate_dst (N := 1) rfl ?_); (try (refine gate_guard (by rfl) ?_; dsimp only)); refine box_event ?hg (N := 1) ?hd (cs := #[.int .i64 a0_0, .int .i64 a0_1, .slice A0_2 l0_2.length c0_2]) (t := 29) ?hr ?_; (case hd => rfl); (case hg => rfl); (case hr => first | (go_simp; done) | (go_simp; rfl)); intro gb115 hg w14 hbox hb; have n0_ := Aside0.mk (below_step (by repeat (first | (with_reducible first | exact HB.out | apply below_alloc | apply pw_below_drewN | apply below_drew1) | exact HB.out)) hb); have n1_ := Aside0.mk (hbox); have n2_ := Aside0.mk ((by rw [hg]; exact (below_size (by repeat (first | (with_reducible first | exact HB.out | apply below_alloc | apply pw_below_drewN | apply below_drew1) | exact HB.out))) : w.heap.size ≤ gb115)); have n3_ := Aside0.mk ((by rw [hg]; exact (below_size (by repeat (first | (with_reducible first | exact HB.out | apply below_alloc | apply pw_below_drewN | apply below_drew1) | exact HB.out))) : w.heap.size ≤ gb115)); clear HB; have HB := n0_; have BK115 := n1_; have GW115 := n2_; have GE115 := n3_; clear n0_ n1_ n2_ n3_; clear hb hbox hg; have hcz15_0 : w14.cell? ⟨gb115, 0, none⟩ = some (.int .i64 a0_0) := (blk_cell BK115.out 0).trans rfl; have hcz15_1 : w14.cell? ⟨gb115, 1, none⟩ = some (.int .i64 a0_1) := (blk_cell BK115.out 1).trans rfl; have hcz15_2 : w14.cell? ⟨gb115, 2, none⟩ = some (.slice A0_2 l0_2.length c0_2) := (blk_cell BK115.out 2).trans rfl; have hfz15_0 := blk_frozen BK115.out 0; have hfz15_1 := blk_frozen BK115.out 1; have hfz15_2 := blk_frozen BK115.out 2))
    go_ret
    exact ⟨by first | rfl | (simp [errW_none, errW_some] <;> rfl) | (simp [*, errW_none, errW_some] <;> rfl), by repeat (first | (with_reducible first | exact HB.out | apply below_alloc | apply pw_below_drewN | apply below_drew1 | refine below_set ?_ GE115.out) | exact HB.out)⟩

/-! ### marquetryref11_Good: function 14 -/
def marquetryref11_Good.f (a0_0 : Int) (a0_1 : Int) (l0_2 : List Int) : Option (Bool) := if a0_0 ≥ 1 then (if a0_0 ≤ 16384 then (if a0_1 ≥ 1 then (if a0_1 ≤ 16384 then (some ((l0_2.length : Int) == (wrap64 (a0_0 * a0_1)))) else (some false)) else (some false)) else (some false)) else (some false)
set_option maxHeartbeats 8000000 in
set_option maxRecDepth 100000 in
theorem marquetryref11_Good.calls (a0_0 : Int) (a0_1 : Int) (A0_2 : Option Addr) (c0_2 : Nat) (l0_2 : List Int) (r : Bool) (w : World) (hr0_2 : Kd.C (Kd.int .u32) w A0_2 l0_2.length l0_2) (hc0_2 : l0_2.length ≤ c0_2) (h : marquetryref11_Good.f a0_0 a0_1 l0_2 = some r) :
    Calls Try.prog 14 #[.agg #[.int .i64 a0_0, .int .i64 a0_1, .slice A0_2 l0_2.length c0_2]] w fun e w' => e = .returned (.bool r) ∧ Below w.heap.size w w' := by
  have hu29 := Try.underlying29
  have HR0_2 := Aside0.mk hr0_2
  have HC0_2 := Aside0.mk hc0_2
  clear hr0_2 hc0_2
  have HB := Aside0.mk (Below.refl w.heap.size w)
  have H : (if a0_0 ≥ 1 then (if a0_0 ≤ 16384 then (if a0_1 ≥ 1 then (if a0_1 ≤ 16384 then (some ((l0_2.length : Int) == (wrap64 (a0_0 * a0_1)))) else (some false)) else (some false)) else (some false)) else (some false)) = some r := h
  clear h
  by_cases c2 : a0_0 ≥ 1
  · rw [if_pos c2] at H
    have c2b0 : decide (1 ≤ a0_0) = true := decide_eq_true c2
    clear c2
    by_cases c3 : a0_0 ≤ 16384
    · rw [if_pos c3] at H
      have c3b0 : decide (a0_0 ≤ 16384) = true := decide_eq_true c3
      clear c3
      by_cases c4 : a0_1 ≥ 1
      · rw [if_pos c4] at H
        have c4b0 : decide (1 ≤ a0_1) = true := decide_eq_true c4
        clear c4
        by_cases c5 : a0_1 ≤ 16384
        · rw [if_pos c5] at H
          have c5b0 : decide (a0_1 ≤ 16384) = true := decide_eq_true c5
          clear c5
          obtain rfl := Option.some.inj H
          go_enter Try.func14, Try.ntmps14
          go_wp2_with (first | ((with_reducible refine gate_dst (N := 1) rfl ?_); (try (refine gate_guard (by rfl) ?_; dsimp only)); refine box_event ?hg (N := 1) ?hd (cs := #[.int .i64 a0_0, .int .i64 a0_1, .slice A0_2 l0_2.length c0_2]) (t := 29) ?hr ?_; (case hd => rfl); (case hg => rfl); (case hr => first | (go_simp; done) | (go_simp; rfl)); intro gb116 hg w6 hbox hb; have n0_ := Aside0.mk (below_step (by repeat (first | (with_reducible first | exact HB.out | apply below_alloc | apply pw_below_drewN | apply below_drew1) | exact HB.out)) hb); have n1_ := Aside0.mk (hbox); have n2_ := Aside0.mk ((by rw [hg]; exact (below_size (by repeat (first | (with_reducible first | exact HB.out | apply below_alloc | apply pw_below_drewN | apply below_drew1) | exact HB.out))) : w.heap.size ≤ gb116)); have n3_ := Aside0.mk ((by rw [hg]; exact (below_size (by repeat (first | (with_reducible first | exact HB.out | apply below_alloc | apply pw_below_drewN | apply below_drew1) | exact HB.out))) : w.heap.size ≤ gb116)); clear HB; have HB := n0_; have BK116 := n1_; have GW116 := n2_; have GE116 := n3_; clear n0_ n1_ n2_ n3_; clear hb hbox hg; have hcz7_0 : w6.cell? ⟨gb116, 0, none⟩ = some (.int .i64 a0_0) := (blk_cell BK116.out 0).trans rfl; have hcz7_1 : w6.cell? ⟨gb116, 1, none⟩ = some (.int .i64 a0_1) := (blk_cell BK116.out 1).trans rfl; have hcz7_2 : w6.cell? ⟨gb116, 2, none⟩ = some (.slice A0_2 l0_2.length c0_2) := (blk_cell BK116.out 2).trans rfl; have hfz7_0 := blk_frozen BK116.out 0; have hfz7_1 := blk_frozen BK116.out 1; have hfz7_2 := blk_frozen BK116.out 2))
          go_ret
          exact ⟨by first | rfl | (simp [errW_none, errW_some] <;> rfl) | (simp [*, errW_none, errW_some] <;> rfl), by repeat (first | (with_reducible first | exact HB.out | apply below_alloc | apply pw_below_drewN | apply below_drew1 | refine below_set ?_ GE116.out) | exact HB.out)⟩
        · rw [if_neg c5] at H
          have c5b0 : decide (a0_1 ≤ 16384) = false := decide_eq_false c5
          clear c5
          obtain rfl := Option.some.inj H
          go_enter Try.func14, Try.ntmps14
          go_wp2_with (first | ((with_reducible refine gate_dst (N := 1) rfl ?_); (try (refine gate_guard (by rfl) ?_; dsimp only)); refine box_event ?hg (N := 1) ?hd (cs := #[.int .i64 a0_0, .int .i64 a0_1, .slice A0_2 l0_2.length c0_2]) (t := 29) ?hr ?_; (case hd => rfl); (case hg => rfl); (case hr => first | (go_simp; done) | (go_simp; rfl)); intro gb116 hg w8 hbox hb; have n0_ := Aside0.mk (below_step (by repeat (first | (with_reducible first | exact HB.out | apply below_alloc | apply pw_below_drewN | apply below_drew1) | exact HB.out)) hb); have n1_ := Aside0.mk (hbox); have n2_ := Aside0.mk ((by rw [hg]; exact (below_size (by repeat (first | (with_reducible first | exact HB.out | apply below_alloc | apply pw_below_drewN | apply below_drew1) | exact HB.out))) : w.heap.size ≤ gb116)); have n3_ := Aside0.mk ((by rw [hg]; exact (below_size (by repeat (first | (with_reducible first | exact HB.out | apply below_alloc | apply pw_below_drewN | apply below_drew1) | exact HB.out))) : w.heap.size ≤ gb116)); clear HB; have HB := n0_; have BK116 := n1_; have GW116 := n2_; have GE116 := n3_; clear n0_ n1_ n2_ n3_; clear hb hbox hg; have hcz9_0 : w8.cell? ⟨gb116, 0, none⟩ = some (.int .i64 a0_0) := (blk_cell BK116.out 0).trans rfl; have hcz9_1 : w8.cell? ⟨gb116, 1, none⟩ = some (.int .i64 a0_1) := (blk_cell BK116.out 1).trans rfl; have hcz9_2 : w8.cell? ⟨gb116, 2, none⟩ = some (.slice A0_2 l0_2.length c0_2) := (blk_cell BK116.out 2).trans rfl; have hfz9_0 := blk_frozen BK116.out 0; have hfz9_1 := blk_frozen BK116.out 1; have hfz9_2 := blk_frozen BK116.out 2))
          go_ret
          exact ⟨by first | rfl | (simp [errW_none, errW_some] <;> rfl) | (simp [*, errW_none, errW_some] <;> rfl), by repeat (first | (with_reducible first | exact HB.out | apply below_alloc | apply pw_below_drewN | apply below_drew1 | refine below_set ?_ GE116.out) | exact HB.out)⟩
      · rw [if_neg c4] at H
        have c4b0 : decide (1 ≤ a0_1) = false := decide_eq_false c4
        clear c4
        obtain rfl := Option.some.inj H
        go_enter Try.func14, Try.ntmps14
        go_wp2_with (first | ((with_reducible refine gate_dst (N := 1) rfl ?_); (try (refine gate_guard (by rfl) ?_; dsimp only)); refine box_event ?hg (N := 1) ?hd (cs := #[.int .i64 a0_0, .int .i64 a0_1, .slice A0_2 l0_2.length c0_2]) (t := 29) ?hr ?_; (case hd => rfl); (case hg => rfl); (case hr => first | (go_simp; done) | (go_simp; rfl)); intro gb116 hg w10 hbox hb; have n0_ := Aside0.mk (below_step (by repeat (first | (with_reducible first | exact HB.out | apply below_alloc | apply pw_below_drewN | apply below_drew1) | exact HB.out)) hb); have n1_ := Aside0.mk (hbox); have n2_ := Aside0.mk ((by rw [hg]; exact (below_size (by repeat (first | (with_reducible first | exact HB.out | apply below_alloc | apply pw_below_drewN | apply below_drew1) | exact HB.out))) : w.heap.size ≤ gb116)); have n3_ := Aside0.mk ((by rw [hg]; exact (below_size (by repeat (first | (with_reducible first | exact HB.out | apply below_alloc | apply pw_below_drewN | apply below_drew1) | exact HB.out))) : w.heap.size ≤ gb116)); clear HB; have HB := n0_; have BK116 := n1_; have GW116 := n2_; have GE116 := n3_; clear n0_ n1_ n2_ n3_; clear hb hbox hg; have hcz11_0 : w10.cell? ⟨gb116, 0, none⟩ = some (.int .i64 a0_0) := (blk_cell BK116.out 0).trans rfl; have hcz11_1 : w10.cell? ⟨gb116, 1, none⟩ = some (.int .i64 a0_1) := (blk_cell BK116.out 1).trans rfl; have hcz11_2 : w10.cell? ⟨gb116, 2, none⟩ = some (.slice A0_2 l0_2.length c0_2) := (blk_cell BK116.out 2).trans rfl; have hfz11_0 := blk_frozen BK116.out 0; have hfz11_1 := blk_frozen BK116.out 1; have hfz11_2 := blk_frozen BK116.out 2))
        go_ret
        exact ⟨by first | rfl | (simp [errW_none, errW_some] <;> rfl) | (simp [*, errW_none, errW_some] <;> rfl), by repeat (first | (with_reducible first | exact HB.out | apply below_alloc | apply pw_below_drewN | apply below_drew1 | refine below_set ?_ GE116.out) | exact HB.out)⟩
    · rw [if_neg c3] at H
      have c3b0 : decide (a0_0 ≤ 16384) = false := decide_eq_false c3
      clear c3
      obtain rfl := Option.some.inj H
      go_enter Try.func14, Try.ntmps14
      go_wp2_with (first | ((with_reducible refine gate_dst (N := 1) rfl ?_); (try (refine gate_guard (by rfl) ?_; dsimp only)); refine box_event ?hg (N := 1) ?hd (cs := #[.int .i64 a0_0, .int .i64 a0_1, .slice A0_2 l0_2.length c0_2]) (t := 29) ?hr ?_; (case hd => rfl); (case hg => rfl); (case hr => first | (go_simp; done) | (go_simp; rfl)); intro gb116 hg w12 hbox hb; have n0_ := Aside0.mk (below_step (by repeat (first | (with_reducible first | exact HB.out | apply below_alloc | apply pw_below_drewN | apply below_drew1) | exact HB.out)) hb); have n1_ := Aside0.mk (hbox); have n2_ := Aside0.mk ((by rw [hg]; exact (below_size (by repeat (first | (with_reducible first | exact HB.out | apply below_alloc | apply pw_below_drewN | apply below_drew1) | exact HB.out))) : w.heap.size ≤ gb116)); have n3_ := Aside0.mk ((by rw [hg]; exact (below_size (by repeat (first | (with_reducible first | exact HB.out | apply below_alloc | apply pw_below_drewN | apply below_drew1) | exact HB.out))) : w.heap.size ≤ gb116)); clear HB; have HB := n0_; have BK116 := n1_; have GW116 := n2_; have GE116 := n3_; clear n0_ n1_ n2_ n3_; clear hb hbox hg; have hcz13_0 : w12.cell? ⟨gb116, 0, none⟩ = some (.int .i64 a0_0) := (blk_cell BK116.out 0).trans rfl; have hcz13_1 : w12.cell? ⟨gb116, 1, none⟩ = some (.int .i64 a0_1) := (blk_cell BK116.out 1).trans rfl; have hcz13_2 : w12.cell? ⟨gb116, 2, none⟩ = some (.slice A0_2 l0_2.length c0_2) := (blk_cell BK116.out 2).trans rfl; have hfz13_0 := blk_frozen BK116.out 0; have hfz13_1 := blk_frozen BK116.out 1; have hfz13_2 := blk_frozen BK116.out 2))
      go_ret
      exact ⟨by first | rfl | (simp [errW_none, errW_some] <;> rfl) | (simp [*, errW_none, errW_some] <;> rfl), by repeat (first | (with_reducible first | exact HB.out | apply below_alloc | apply pw_below_drewN | apply below_drew1 | refine below_set ?_ GE116.out) | exact HB.out)⟩
  · rw [if_neg c2] at H
    have c2b0 : decide (1 ≤ a0_0) = false := decide_eq_false c2
    clear c2
    obtain rfl := Option.some.inj H
    go_enter Try.func14, Try.ntmps14
    go_wp2_with (first | ((with_reducible refine gate_dst (N := 1) rfl ?_); (try (refine gate_guard (by rfl) ?_; dsimp only)); refine box_event ?hg (N := 1) ?hd (cs := #[.int .i64 a0_0, .int .i64 a0_1, .slice A0_2 l0_2.length c0_2]) (t := 29) ?hr ?_; (case hd => rfl); (case hg => rfl); (case hr => first | (go_simp; done) | (go_simp; rfl)); intro gb116 hg w14 hbox hb; have n0_ := Aside0.mk (below_step (by repeat (first | (with_reducible first | exact HB.out | apply below_alloc | apply pw_below_drewN | apply below_drew1) | exact HB.out)) hb); have n1_ := Aside0.mk (hbox); have n2_ := Aside0.mk ((by rw [hg]; exact (below_size (by repeat (first | (with_reducible first | exact HB.out | apply below_alloc | apply pw_below_drewN | apply below_drew1) | exact HB.out))) : w.heap.size ≤ gb116)); have n3_ := Aside0.mk ((by rw [hg]; exact (below_size (by repeat (first | (with_reducible first | exact HB.out | apply below_alloc | apply pw_below_drewN | apply below_drew1) | exact HB.out))) : w.heap.size ≤ gb116)); clear HB; have HB := n0_; have BK116 := n1_; have GW116 := n2_; have GE116 := n3_; clear n0_ n1_ n2_ n3_; clear hb hbox hg; have hcz15_0 : w14.cell? ⟨gb116, 0, none⟩ = some (.int .i64 a0_0) := (blk_cell BK116.out 0).trans rfl; have hcz15_1 : w14.cell? ⟨gb116, 1, none⟩ = some (.int .i64 a0_1) := (blk_cell BK116.out 1).trans rfl; have hcz15_2 : w14.cell? ⟨gb116, 2, none⟩ = some (.slice A0_2 l0_2.length c0_2) := (blk_cell BK116.out 2).trans rfl; have hfz15_0 := blk_frozen BK116.out 0; have hfz15_1 := blk_frozen BK116.out 1; have hfz15_2 := blk_frozen BK116.out 2))
    go_ret
    exact ⟨by first | rfl | (simp [errW_none, errW_some] <;> rfl) | (simp [*, errW_none, errW_some] <;> rfl), by repeat (first | (with_reducible first | exact HB.out | apply below_alloc | apply pw_below_drewN | apply below_drew1 | refine below_set ?_ GE116.out) | exact HB.out)⟩

/-! ### marquetrylaw11_PixelGood: function 4 -/
def marquetrylaw11_PixelGood.f (a0_0 : Int) (a0_1 : Int) (l0_2 : List Int) : Option (Bool) := (marquetrylaw11_answers.f).bind fun t118 => (if t118 = true then ((pixel_Good.f a0_0 a0_1 l0_2).bind fun t119 => ((marquetryref11_Good.f a0_0 a0_1 l0_2).bind fun t120 => (some (t119 == t120)))) else (some false))
def marquetrylaw11_PixelGood.T1 : Bool × List (List Nat × List Nat) := (true, [([], []), ([0, 0], [0]), ([1], [1]), ([2, 1, 1], [1, 2]), ([1], [1]), ([4, 3, 1], [1, 4]), ([3, 5, 1], [1, 3, 5]), ([1, 6], [1, 6]), ([7, 5, 0, 1, 2, 3, 4, 5, 6, 7], [7])])
def marquetrylaw11_PixelGood.B1 : List Nat := [0, 1, 3, 7, 3, 31, 63, 127, 255]
theorem marquetrylaw11_PixelGood.tab1 : rtab .any (opsOf Try.f4 1) = marquetrylaw11_PixelGood.T1 := by kernel_rfl
theorem marquetrylaw11_PixelGood.bits1 : waitsOk marquetrylaw11_PixelGood.T1.2 marquetrylaw11_PixelGood.B1 = true := by kernel_rfl
set_option maxHeartbeats 8000000 in
set_option maxRecDepth 100000 in
theorem marquetrylaw11_PixelGood.calls (a0_0 : Int) (a0_1 : Int) (A0_2 : Option Addr) (c0_2 : Nat) (l0_2 : List Int) (r : Bool) (w : World) (hr0_2 : Kd.C (Kd.int .u32) w A0_2 l0_2.length l0_2) (hc0_2 : l0_2.length ≤ c0_2) (h : marquetrylaw11_PixelGood.f a0_0 a0_1 l0_2 = some r) (hr : r = true) :
    Calls Try.prog 4 #[.agg #[.int .i64 a0_0, .int .i64 a0_1, .slice A0_2 l0_2.length c0_2]] w fun e w' => e = .returned (.bool r) ∧ Below w.heap.size w w' := by
  have hu29 := Try.underlying29
  have HR0_2 := Aside0.mk hr0_2
  have HC0_2 := Aside0.mk hc0_2
  clear hr0_2 hc0_2
  have HB := Aside0.mk (Below.refl w.heap.size w)
  have H : ((marquetrylaw11_answers.f).bind fun t118 => (if t118 = true then ((pixel_Good.f a0_0 a0_1 l0_2).bind fun t119 => ((marquetryref11_Good.f a0_0 a0_1 l0_2).bind fun t120 => (some (t119 == t120)))) else (some false))) = some r := h
  clear h
  have Hr := Aside0.mk hr
  clear hr
  replace H := Option.bind_eq_some_iff.mp H
  obtain ⟨t118, A20, H⟩ := H
  replace H : (if t118 = true then ((pixel_Good.f a0_0 a0_1 l0_2).bind fun t119 => ((marquetryref11_Good.f a0_0 a0_1 l0_2).bind fun t120 => (some (t119 == t120)))) else (some false)) = some r := H
  have A2 := Aside0.mk A20
  clear A20
  by_cases c3 : t118 = true
  · subst c3
    have H1 : ((pixel_Good.f a0_0 a0_1 l0_2).bind fun t119 => ((marquetryref11_Good.f a0_0 a0_1 l0_2).bind fun t120 => (some (t119 == t120)))) = some r := by rw [if_pos rfl] at H; exact H
    clear H
    have H := H1
    clear H1
    replace H := Option.bind_eq_some_iff.mp H
    obtain ⟨t119, A40, H⟩ := H
    replace H : ((marquetryref11_Good.f a0_0 a0_1 l0_2).bind fun t120 => (some (t119 == t120))) = some r := H
    have A4 := Aside0.mk A40
    clear A40
    replace H := Option.bind_eq_some_iff.mp H
    obtain ⟨t120, A50, H⟩ := H
    replace H : (some (t119 == t120)) = some r := H
    have A5 := Aside0.mk A50
    clear A50
    obtain rfl := Option.some.inj H
    go_enter Try.func4, Try.ntmps4
    try go_wp2_with (first | ((with_reducible refine gate_dst (N := 1) rfl ?_); refine box_event ?hg (N := 1) ?hd (cs := #[.int .i64 a0_0, .int .i64 a0_1, .slice A0_2 l0_2.length c0_2]) (t := 29) ?hr ?_; (case hd => rfl); (case hg => rfl); (case hr => first | (go_simp; done) | (go_simp; rfl)); intro gb117 hg w6 hbox hb; have n0_ := Aside0.mk (below_step (by repeat (first | (with_reducible first | exact HB.out | apply below_alloc | apply pw_below_drewN | apply below_drew1) | exact HB.out)) hb); have n1_ := Aside0.mk (hbox); have n2_ := Aside0.mk ((by rw [hg]; exact (below_size (by repeat (first | (with_reducible first | exact HB.out | apply below_alloc | apply pw_below_drewN | apply below_drew1) | exact HB.out))) : w.heap.size ≤ gb117)); have n3_ := Aside0.mk ((by rw [hg]; exact (below_size (by repeat (first | (with_reducible first | exact HB.out | apply below_alloc | apply pw_below_drewN | apply below_drew1) | exact HB.out))) : w.heap.size ≤ gb117)); clear HB; have HB := n0_; have BK117 := n1_; have GW117 := n2_; have GE117 := n3_; clear n0_ n1_ n2_ n3_; clear hb hbox hg))
    have n0_ := Aside0.mk (blk_drew BK117.out)
    have n1_ := Aside0.mk (below_drew1 HB.out)
    clear BK117
    clear HB
    have BK117 := n0_
    have HB := n1_
    clear n0_ n1_
    refine start_ (n := 9) (S := fun w' => w'.cell? ⟨gb117, 0, none⟩ = some (.int .i64 a0_0) ∧ w'.cell? ⟨gb117, 1, none⟩ = some (.int .i64 a0_1) ∧ w'.cell? ⟨gb117, 2, none⟩ = some (.slice A0_2 l0_2.length c0_2)) (ds := []) #[false, false, false, false, false, false, false, false, false] (by kernel_rfl) rfl rfl ⟨(blk_cell BK117.out 0).trans rfl, (blk_cell BK117.out 1).trans rfl, (blk_cell BK117.out 2).trans rfl⟩ (fun hHeld => ?_); refine with_tabW marquetrylaw11_PixelGood.tab1 marquetrylaw11_PixelGood.bits1 (fun HT_ HW_ => ?_)
    generalize w6.drew = w7 at BK117 HB hHeld ⊢
    refine one_ (i := 0) (N := some 3) #[true, false, false, false, false, false, false, false, false] rfl rfl (one_of HT_.out (by kernel_rfl)) (by decide) (fun K hK => ?_)
    refine goes_ Try.func10 (by kernel_rfl) rfl #[] (by rfl) rfl rfl (by (try simp only [List.map_toArray, List.map_cons, List.map_nil]); first | done | rfl | (simp only [List.length_drop, List.length_take]; rfl)) ?_
    with_reducible refine (marquetrylaw11_answers.calls  true _ A2.out).mono ?_
    rintro e w8 ⟨rfl, hb⟩
    refine ⟨_, rfl, ?_⟩
    have n0_ := Aside0.mk (blk_below (g := gb117) (o := .cells #[.int .i64 a0_0, .int .i64 a0_1, .slice A0_2 l0_2.length c0_2] 29 (0, 0)) (by (with_reducible repeat (first | refine blk_drewN ?_ _ | refine blk_drew ?_ | refine blk_alloc ?_ _)); exact BK117.out) hb)
    have n1_ := Aside0.mk (below_step (by repeat (first | (with_reducible first | exact HB.out | apply below_alloc | apply pw_below_drewN | apply below_drew1 | refine below_set ?_ GE117.out) | exact HB.out)) hb)
    clear BK117
    clear HB
    have BK117 := n0_
    have HB := n1_
    clear n0_ n1_
    (try clear hb)
    (try clear hb2)
    (try clear hk)
    (try clear hi)
    refine hK.out _ _ ⟨(blk_cell BK117.out 0).trans rfl, (blk_cell BK117.out 1).trans rfl, (blk_cell BK117.out 2).trans rfl⟩ (fun hHeld => ?_)
    clear hK K
    refine norm_ (a' := ?_) ?_ ?_
    rotate_left
    · show Act.put _ (some 3) _ = _
      simp only [Act.put, List.setIfInBounds_toArray, List.set_cons_zero, List.set_cons_succ, i64_w, i32_w]
      rfl
    refine pure_ (i := 1) (N := some 4) (v := ?_) (a' := ?_) #[true, true, false, false, false, false, false, false, false] rfl rfl (any_of HT_.out (by kernel_rfl)) (fun _ _ _ h => h) (Or.inl ⟨by rfl, ?_⟩) ?_ ?_
    rotate_left
    · intro w'
      go_simp
      with_reducible rfl
    rotate_left
    · simp only [Act.put, List.setIfInBounds_toArray, List.set_cons_zero, List.set_cons_succ, i64_w, i32_w]
      rfl
    refine take_ (i := 2) (N := some 5) (v := ?_) (a' := ?_) #[true, true, true, false, false, false, false, false, false] rfl rfl (take_ofW HT_.out HW_.out (by kernel_rfl)) (fun _ _ _ h => h) (Or.inl ⟨by rfl, ?_⟩) hHeld ?_ ?_
    rotate_left
    · rintro w' ⟨s0, s1, s2⟩
      go_simp
      with_reducible rfl
    rotate_left
    · simp only [Act.put, List.setIfInBounds_toArray, List.set_cons_zero, List.set_cons_succ, i64_w, i32_w]
      rfl
    refine take_ (i := 4) (N := some 7) (v := ?_) (a' := ?_) #[true, true, true, false, true, false, false, false, false] rfl rfl (take_ofW HT_.out HW_.out (by kernel_rfl)) (fun _ _ _ h => h) (Or.inl ⟨by rfl, ?_⟩) hHeld ?_ ?_
    rotate_left
    · rintro w' ⟨s0, s1, s2⟩
      go_simp
      with_reducible rfl
    rotate_left
    · simp only [Act.put, List.setIfInBounds_toArray, List.set_cons_zero, List.set_cons_succ, i64_w, i32_w]
      rfl
    refine one_ (i := 3) (N := some 6) #[true, true, true, true, true, false, false, false, false] rfl rfl (one_of HT_.out (by kernel_rfl)) (by decide) (fun K hK => ?_)
    refine goes_ Try.func13 (by kernel_rfl) rfl #[.agg #[.int .i64 a0_0, .int .i64 a0_1, .slice A0_2 l0_2.length c0_2]] (by rfl) rfl rfl (by (try simp only [List.map_toArray, List.map_cons, List.map_nil]); first | done | rfl | (simp only [List.length_drop, List.length_take]; rfl)) ?_
    with_reducible refine (pixel_Good.calls a0_0 a0_1 _ _ l0_2 t119 _ ?side1 ?side2 A4.out).mono ?_
    (case side1 => repeat (first | exact (Kd.C_below HR0_2.out HB.out) | (with_reducible refine Kd.C_alloc ?_ _) | (with_reducible refine Kd.C_drewN ?_ _) | (with_reducible refine Kd.C_drew ?_)))
    (case side2 => exact HC0_2.out)
    rintro e w9 ⟨rfl, hb⟩
    refine ⟨_, rfl, ?_⟩
    have n0_ := Aside0.mk (blk_below (g := gb117) (o := .cells #[.int .i64 a0_0, .int .i64 a0_1, .slice A0_2 l0_2.length c0_2] 29 (0, 0)) (by (with_reducible repeat (first | refine blk_drewN ?_ _ | refine blk_drew ?_ | refine blk_alloc ?_ _)); exact BK117.out) hb)
    have n1_ := Aside0.mk (below_step (by repeat (first | (with_reducible first | exact HB.out | apply below_alloc | apply pw_below_drewN | apply below_drew1 | refine below_set ?_ GE117.out) | exact HB.out)) hb)
    clear BK117
    clear HB
    have BK117 := n0_
    have HB := n1_
    clear n0_ n1_
    (try clear hb)
    (try clear hb2)
    (try clear hk)
    (try clear hi)
    refine hK.out _ _ ⟨(blk_cell BK117.out 0).trans rfl, (blk_cell BK117.out 1).trans rfl, (blk_cell BK117.out 2).trans rfl⟩ (fun hHeld => ?_)
    clear hK K
    refine norm_ (a' := ?_) ?_ ?_
    rotate_left
    · show Act.put _ (some 6) _ = _
      simp only [Act.put, List.setIfInBounds_toArray, List.set_cons_zero, List.set_cons_succ, i64_w, i32_w]
      rfl
    refine one_ (i := 5) (N := some 8) #[true, true, true, true, true, true, false, false, false] rfl rfl (one_of HT_.out (by kernel_rfl)) (by decide) (fun K hK => ?_)
    refine goes_ Try.func14 (by kernel_rfl) rfl #[.agg #[.int .i64 a0_0, .int .i64 a0_1, .slice A0_2 l0_2.length c0_2]] (by rfl) rfl rfl (by (try simp only [List.map_toArray, List.map_cons, List.map_nil]); first | done | rfl | (simp only [List.length_drop, List.length_take]; rfl)) ?_
    with_reducible refine (marquetryref11_Good.calls a0_0 a0_1 _ _ l0_2 t120 _ ?side1 ?side2 A5.out).mono ?_
    (case side1 => repeat (first | exact (Kd.C_below HR0_2.out HB.out) | (with_reducible refine Kd.C_alloc ?_ _) | (with_reducible refine Kd.C_drewN ?_ _) | (with_reducible refine Kd.C_drew ?_)))
    (case side2 => exact HC0_2.out)
    rintro e w10 ⟨rfl, hb⟩
    refine ⟨_, rfl, ?_⟩
    have n0_ := Aside0.mk (blk_below (g := gb117) (o := .cells #[.int .i64 a0_0, .int .i64 a0_1, .slice A0_2 l0_2.length c0_2] 29 (0, 0)) (by (with_reducible repeat (first | refine blk_drewN ?_ _ | refine blk_drew ?_ | refine blk_alloc ?_ _)); exact BK117.out) hb)
    have n1_ := Aside0.mk (below_step (by repeat (first | (with_reducible first | exact HB.out | apply below_alloc | apply pw_below_drewN | apply below_drew1 | refine below_set ?_ GE117.out) | exact HB.out)) hb)
    clear BK117
    clear HB
    have BK117 := n0_
    have HB := n1_
    clear n0_ n1_
    (try clear hb)
    (try clear hb2)
    (try clear hk)
    (try clear hi)
    refine hK.out _ _ ⟨(blk_cell BK117.out 0).trans rfl, (blk_cell BK117.out 1).trans rfl, (blk_cell BK117.out 2).trans rfl⟩ (fun hHeld => ?_)
    clear hK K
    refine norm_ (a' := ?_) ?_ ?_
    rotate_left
    · show Act.put _ (some 8) _ = _
      simp only [Act.put, List.setIfInBounds_toArray, List.set_cons_zero, List.set_cons_succ, i64_w, i32_w]
      rfl
    refine pure_ (i := 6) (N := some 9) (v := ?_) (a' := ?_) #[true, true, true, true, true, true, true, false, false] rfl rfl (any_of HT_.out (by kernel_rfl)) (fun _ _ _ h => h) (Or.inl ⟨by rfl, ?_⟩) ?_ ?_
    rotate_left
    · intro w'
      go_simp
      with_reducible rfl
    rotate_left
    · simp only [Act.put, List.setIfInBounds_toArray, List.set_cons_zero, List.set_cons_succ, i64_w, i32_w]
      rfl
    refine pure_ (i := 7) (N := some 10) (v := ?_) (a' := ?_) #[true, true, true, true, true, true, true, true, false] rfl rfl (any_of HT_.out (by kernel_rfl)) (fun _ _ _ h => h) (Or.inl ⟨by rfl, ?_⟩) ?_ ?_
    rotate_left
    · intro w'
      go_simp
      with_reducible rfl
    rotate_left
    · simp only [Act.put, List.setIfInBounds_toArray, List.set_cons_zero, List.set_cons_succ, i64_w, i32_w]
      rfl
    refine pure_ (i := 8) (N := some 2) (v := ?_) (a' := ?_) #[true, true, true, true, true, true, true, true, true] rfl rfl (any_of HT_.out (by kernel_rfl)) (fun _ _ _ h => h) (Or.inl ⟨by rfl, ?_⟩) ?_ ?_
    rotate_left
    · intro w'
      go_simp
      with_reducible rfl
    rotate_left
    · simp only [Act.put, List.setIfInBounds_toArray, List.set_cons_zero, List.set_cons_succ, i64_w, i32_w]
      rfl
    refine done_ (done_of HT_.out (by kernel_rfl)) ?_
    try go_wp2
    go_ret
    exact ⟨by first | rfl | (simp [errW_none, errW_some] <;> rfl) | (simp [*, errW_none, errW_some] <;> rfl), by repeat (first | (with_reducible first | exact HB.out | apply below_alloc | apply pw_below_drewN | apply below_drew1 | refine below_set ?_ GE117.out) | exact HB.out)⟩
  · replace c3 := Bool.eq_false_iff.mpr c3
    subst c3
    have H1 : (some false) = some r := by rw [if_neg (show ¬ (false = true) by decide)] at H; exact H
    clear H
    have H := H1
    clear H1
    exact absurd ((Option.some.inj H).trans Hr.out) (by decide)

/-! ### marquetrylaw11_PixelEach: function 5 -/
def marquetrylaw11_PixelEach.f (a0 : Int) (a1 : Int) (a2 : Int) (a3 : Int) : Option (Bool) := (marquetrylaw11_answers.f).bind fun t121 => (if t121 = true then ((pixel_Add.f (Go.bits .and .u32 a0 (shl .u32 255 ((8 * (Int.tmod a3 4)) % 256))) (Go.bits .and .u32 a1 (shl .u32 255 ((8 * (Int.tmod a3 4)) % 256)))).bind fun t122 => ((pixel_Add.f a0 a1).bind fun t123 => (if (Go.bits .and .u32 t122 (shl .u32 255 ((8 * (Int.tmod a3 4)) % 256))) = (Go.bits .and .u32 t123 (shl .u32 255 ((8 * (Int.tmod a3 4)) % 256))) then ((pixel_Sub.f (Go.bits .and .u32 a0 (shl .u32 255 ((8 * (Int.tmod a3 4)) % 256))) (Go.bits .and .u32 a1 (shl .u32 255 ((8 * (Int.tmod a3 4)) % 256)))).bind fun t124 => ((pixel_Sub.f a0 a1).bind fun t125 => (if (Go.bits .and .u32 t124 (shl .u32 255 ((8 * (Int.tmod a3 4)) % 256))) = (Go.bits .and .u32 t125 (shl .u32 255 ((8 * (Int.tmod a3 4)) % 256))) then ((pixel_Avg.f (Go.bits .and .u32 a0 (shl .u32 255 ((8 * (Int.tmod a3 4)) % 256))) (Go.bits .and .u32 a1 (shl .u32 255 ((8 * (Int.tmod a3 4)) % 256)))).bind fun t126 => ((pixel_Avg.f a0 a1).bind fun t127 => (if (Go.bits .and .u32 t126 (shl .u32 255 ((8 * (Int.tmod a3 4)) % 256))) = (Go.bits .and .u32 t127 (shl .u32 255 ((8 * (Int.tmod a3 4)) % 256))) then ((pixel_Full.f (Go.bits .and .u32 a0 (shl .u32 255 ((8 * (Int.tmod a3 4)) % 256))) (Go.bits .and .u32 a1 (shl .u32 255 ((8 * (Int.tmod a3 4)) % 256))) (Go.bits .and .u32 a2 (shl .u32 255 ((8 * (Int.tmod a3 4)) % 256)))).bind fun t128 => ((pixel_Full.f a0 a1 a2).bind fun t129 => (if (Go.bits .and .u32 t128 (shl .u32 255 ((8 * (Int.tmod a3 4)) % 256))) = (Go.bits .and .u32 t129 (shl .u32 255 ((8 * (Int.tmod a3 4)) % 256))) then ((pixel_Half.f (Go.bits .and .u32 a0 (shl .u32 255 ((8 * (Int.tmod a3 4)) % 256))) (Go.bits .and .u32 a1 (shl .u32 255 ((8 * (Int.tmod a3 4)) % 256)))).bind fun t130 => ((pixel_Half.f a0 a1).bind fun t131 => (some ((Go.bits .and .u32 t130 (shl .u32 255 ((8 * (Int.tmod a3 4)) % 256))) == (Go.bits .and .u32 t131 (shl .u32 255 ((8 * (Int.tmod a3 4)) % 256))))))) else (some false)))) else (some false)))) else (some false)))) else (some false)))) else (some false))
set_option maxHeartbeats 8000000 in
set_option maxRecDepth 100000 in
theorem marquetrylaw11_PixelEach.calls (a0 : Int) (a1 : Int) (a2 : Int) (a3 : Int) (r : Bool) (w : World) (h : marquetrylaw11_PixelEach.f a0 a1 a2 a3 = some r) (hr : r = true) :
    Calls Try.prog 5 #[.int .u32 a0, .int .u32 a1, .int .u32 a2, .int .u8 a3] w fun e w' => e = .returned (.bool r) ∧ Below w.heap.size w w' := by
  have HB := Aside0.mk (Below.refl w.heap.size w)
  have H : ((marquetrylaw11_answers.f).bind fun t121 => (if t121 = true then ((pixel_Add.f (Go.bits .and .u32 a0 (shl .u32 255 ((8 * (Int.tmod a3 4)) % 256))) (Go.bits .and .u32 a1 (shl .u32 255 ((8 * (Int.tmod a3 4)) % 256)))).bind fun t122 => ((pixel_Add.f a0 a1).bind fun t123 => (if (Go.bits .and .u32 t122 (shl .u32 255 ((8 * (Int.tmod a3 4)) % 256))) = (Go.bits .and .u32 t123 (shl .u32 255 ((8 * (Int.tmod a3 4)) % 256))) then ((pixel_Sub.f (Go.bits .and .u32 a0 (shl .u32 255 ((8 * (Int.tmod a3 4)) % 256))) (Go.bits .and .u32 a1 (shl .u32 255 ((8 * (Int.tmod a3 4)) % 256)))).bind fun t124 => ((pixel_Sub.f a0 a1).bind fun t125 => (if (Go.bits .and .u32 t124 (shl .u32 255 ((8 * (Int.tmod a3 4)) % 256))) = (Go.bits .and .u32 t125 (shl .u32 255 ((8 * (Int.tmod a3 4)) % 256))) then ((pixel_Avg.f (Go.bits .and .u32 a0 (shl .u32 255 ((8 * (Int.tmod a3 4)) % 256))) (Go.bits .and .u32 a1 (shl .u32 255 ((8 * (Int.tmod a3 4)) % 256)))).bind fun t126 => ((pixel_Avg.f a0 a1).bind fun t127 => (if (Go.bits .and .u32 t126 (shl .u32 255 ((8 * (Int.tmod a3 4)) % 256))) = (Go.bits .and .u32 t127 (shl .u32 255 ((8 * (Int.tmod a3 4)) % 256))) then ((pixel_Full.f (Go.bits .and .u32 a0 (shl .u32 255 ((8 * (Int.tmod a3 4)) % 256))) (Go.bits .and .u32 a1 (shl .u32 255 ((8 * (Int.tmod a3 4)) % 256))) (Go.bits .and .u32 a2 (shl .u32 255 ((8 * (Int.tmod a3 4)) % 256)))).bind fun t128 => ((pixel_Full.f a0 a1 a2).bind fun t129 => (if (Go.bits .and .u32 t128 (shl .u32 255 ((8 * (Int.tmod a3 4)) % 256))) = (Go.bits .and .u32 t129 (shl .u32 255 ((8 * (Int.tmod a3 4)) % 256))) then ((pixel_Half.f (Go.bits .and .u32 a0 (shl .u32 255 ((8 * (Int.tmod a3 4)) % 256))) (Go.bits .and .u32 a1 (shl .u32 255 ((8 * (Int.tmod a3 4)) % 256)))).bind fun t130 => ((pixel_Half.f a0 a1).bind fun t131 => (some ((Go.bits .and .u32 t130 (shl .u32 255 ((8 * (Int.tmod a3 4)) % 256))) == (Go.bits .and .u32 t131 (shl .u32 255 ((8 * (Int.tmod a3 4)) % 256))))))) else (some false)))) else (some false)))) else (some false)))) else (some false)))) else (some false))) = some r := h
  clear h
  have Hr := Aside0.mk hr
  clear hr
  obtain ⟨ji5, hji5⟩ : ∃ j_ : Int, (shl .u32 255 ((8 * (Int.tmod a3 4)) % 256)) = j_ := ⟨_, rfl⟩
  replace H : ((marquetrylaw11_answers.f).bind fun t121 => (if t121 = true then ((pixel_Add.f (Go.bits .and .u32 a0 (ji5)) (Go.bits .and .u32 a1 (ji5))).bind fun t122 => ((pixel_Add.f a0 a1).bind fun t123 => (if (Go.bits .and .u32 t122 (ji5)) = (Go.bits .and .u32 t123 (ji5)) then ((pixel_Sub.f (Go.bits .and .u32 a0 (ji5)) (Go.bits .and .u32 a1 (ji5))).bind fun t124 => ((pixel_Sub.f a0 a1).bind fun t125 => (if (Go.bits .and .u32 t124 (ji5)) = (Go.bits .and .u32 t125 (ji5)) then ((pixel_Avg.f (Go.bits .and .u32 a0 (ji5)) (Go.bits .and .u32 a1 (ji5))).bind fun t126 => ((pixel_Avg.f a0 a1).bind fun t127 => (if (Go.bits .and .u32 t126 (ji5)) = (Go.bits .and .u32 t127 (ji5)) then ((pixel_Full.f (Go.bits .and .u32 a0 (ji5)) (Go.bits .and .u32 a1 (ji5)) (Go.bits .and .u32 a2 (ji5))).bind fun t128 => ((pixel_Full.f a0 a1 a2).bind fun t129 => (if (Go.bits .and .u32 t128 (ji5)) = (Go.bits .and .u32 t129 (ji5)) then ((pixel_Half.f (Go.bits .and .u32 a0 (ji5)) (Go.bits .and .u32 a1 (ji5))).bind fun t130 => ((pixel_Half.f a0 a1).bind fun t131 => (some ((Go.bits .and .u32 t130 (ji5)) == (Go.bits .and .u32 t131 (ji5)))))) else (some false)))) else (some false)))) else (some false)))) else (some false)))) else (some false))) = some r := by first | (rw [hji5] at H; exact H) | (simp only [hji5] at H ⊢; exact H)
  (try (have hji5k : 0 ≤ ((8 * (Int.tmod a3 4)) % 256) := by omega))
  (try (have hji5K := eq_true hji5k))
  (try (have hji5D : decide (0 ≤ ((8 * (Int.tmod a3 4)) % 256)) = true := decide_eq_true hji5k))
  have hji5_ : (IntKind.u32.wrap (255 * 2 ^ min ((8 * (Int.tmod a3 4)) % 256).toNat 32)) = ji5 := hji5
  have hji5z : ((8 * (Int.tmod a3 4)) % 256) ≤ 32 → (IntKind.u32.wrap (255 * 2 ^ ((8 * (Int.tmod a3 4)) % 256).toNat)) = ji5 := shl_small hji5
  replace H := Option.bind_eq_some_iff.mp H
  obtain ⟨t121, A60, H⟩ := H
  replace H : (if t121 = true then ((pixel_Add.f (Go.bits .and .u32 a0 (ji5)) (Go.bits .and .u32 a1 (ji5))).bind fun t122 => ((pixel_Add.f a0 a1).bind fun t123 => (if (Go.bits .and .u32 t122 (ji5)) = (Go.bits .and .u32 t123 (ji5)) then ((pixel_Sub.f (Go.bits .and .u32 a0 (ji5)) (Go.bits .and .u32 a1 (ji5))).bind fun t124 => ((pixel_Sub.f a0 a1).bind fun t125 => (if (Go.bits .and .u32 t124 (ji5)) = (Go.bits .and .u32 t125 (ji5)) then ((pixel_Avg.f (Go.bits .and .u32 a0 (ji5)) (Go.bits .and .u32 a1 (ji5))).bind fun t126 => ((pixel_Avg.f a0 a1).bind fun t127 => (if (Go.bits .and .u32 t126 (ji5)) = (Go.bits .and .u32 t127 (ji5)) then ((pixel_Full.f (Go.bits .and .u32 a0 (ji5)) (Go.bits .and .u32 a1 (ji5)) (Go.bits .and .u32 a2 (ji5))).bind fun t128 => ((pixel_Full.f a0 a1 a2).bind fun t129 => (if (Go.bits .and .u32 t128 (ji5)) = (Go.bits .and .u32 t129 (ji5)) then ((pixel_Half.f (Go.bits .and .u32 a0 (ji5)) (Go.bits .and .u32 a1 (ji5))).bind fun t130 => ((pixel_Half.f a0 a1).bind fun t131 => (some ((Go.bits .and .u32 t130 (ji5)) == (Go.bits .and .u32 t131 (ji5)))))) else (some false)))) else (some false)))) else (some false)))) else (some false)))) else (some false)) = some r := H
  have A6 := Aside0.mk A60
  clear A60
  by_cases c7 : t121 = true
  · subst c7
    have H1 : ((pixel_Add.f (Go.bits .and .u32 a0 (ji5)) (Go.bits .and .u32 a1 (ji5))).bind fun t122 => ((pixel_Add.f a0 a1).bind fun t123 => (if (Go.bits .and .u32 t122 (ji5)) = (Go.bits .and .u32 t123 (ji5)) then ((pixel_Sub.f (Go.bits .and .u32 a0 (ji5)) (Go.bits .and .u32 a1 (ji5))).bind fun t124 => ((pixel_Sub.f a0 a1).bind fun t125 => (if (Go.bits .and .u32 t124 (ji5)) = (Go.bits .and .u32 t125 (ji5)) then ((pixel_Avg.f (Go.bits .and .u32 a0 (ji5)) (Go.bits .and .u32 a1 (ji5))).bind fun t126 => ((pixel_Avg.f a0 a1).bind fun t127 => (if (Go.bits .and .u32 t126 (ji5)) = (Go.bits .and .u32 t127 (ji5)) then ((pixel_Full.f (Go.bits .and .u32 a0 (ji5)) (Go.bits .and .u32 a1 (ji5)) (Go.bits .and .u32 a2 (ji5))).bind fun t128 => ((pixel_Full.f a0 a1 a2).bind fun t129 => (if (Go.bits .and .u32 t128 (ji5)) = (Go.bits .and .u32 t129 (ji5)) then ((pixel_Half.f (Go.bits .and .u32 a0 (ji5)) (Go.bits .and .u32 a1 (ji5))).bind fun t130 => ((pixel_Half.f a0 a1).bind fun t131 => (some ((Go.bits .and .u32 t130 (ji5)) == (Go.bits .and .u32 t131 (ji5)))))) else (some false)))) else (some false)))) else (some false)))) else (some false)))) = some r := by rw [if_pos rfl] at H; exact H
    clear H
    have H := H1
    clear H1
    replace H := Option.bind_eq_some_iff.mp H
    obtain ⟨t122, A80, H⟩ := H
    replace H : ((pixel_Add.f a0 a1).bind fun t123 => (if (Go.bits .and .u32 t122 (ji5)) = (Go.bits .and .u32 t123 (ji5)) then ((pixel_Sub.f (Go.bits .and .u32 a0 (ji5)) (Go.bits .and .u32 a1 (ji5))).bind fun t124 => ((pixel_Sub.f a0 a1).bind fun t125 => (if (Go.bits .and .u32 t124 (ji5)) = (Go.bits .and .u32 t125 (ji5)) then ((pixel_Avg.f (Go.bits .and .u32 a0 (ji5)) (Go.bits .and .u32 a1 (ji5))).bind fun t126 => ((pixel_Avg.f a0 a1).bind fun t127 => (if (Go.bits .and .u32 t126 (ji5)) = (Go.bits .and .u32 t127 (ji5)) then ((pixel_Full.f (Go.bits .and .u32 a0 (ji5)) (Go.bits .and .u32 a1 (ji5)) (Go.bits .and .u32 a2 (ji5))).bind fun t128 => ((pixel_Full.f a0 a1 a2).bind fun t129 => (if (Go.bits .and .u32 t128 (ji5)) = (Go.bits .and .u32 t129 (ji5)) then ((pixel_Half.f (Go.bits .and .u32 a0 (ji5)) (Go.bits .and .u32 a1 (ji5))).bind fun t130 => ((pixel_Half.f a0 a1).bind fun t131 => (some ((Go.bits .and .u32 t130 (ji5)) == (Go.bits .and .u32 t131 (ji5)))))) else (some false)))) else (some false)))) else (some false)))) else (some false))) = some r := H
    have A8 := Aside0.mk A80
    clear A80
    replace H := Option.bind_eq_some_iff.mp H
    obtain ⟨t123, A90, H⟩ := H
    replace H : (if (Go.bits .and .u32 t122 (ji5)) = (Go.bits .and .u32 t123 (ji5)) then ((pixel_Sub.f (Go.bits .and .u32 a0 (ji5)) (Go.bits .and .u32 a1 (ji5))).bind fun t124 => ((pixel_Sub.f a0 a1).bind fun t125 => (if (Go.bits .and .u32 t124 (ji5)) = (Go.bits .and .u32 t125 (ji5)) then ((pixel_Avg.f (Go.bits .and .u32 a0 (ji5)) (Go.bits .and .u32 a1 (ji5))).bind fun t126 => ((pixel_Avg.f a0 a1).bind fun t127 => (if (Go.bits .and .u32 t126 (ji5)) = (Go.bits .and .u32 t127 (ji5)) then ((pixel_Full.f (Go.bits .and .u32 a0 (ji5)) (Go.bits .and .u32 a1 (ji5)) (Go.bits .and .u32 a2 (ji5))).bind fun t128 => ((pixel_Full.f a0 a1 a2).bind fun t129 => (if (Go.bits .and .u32 t128 (ji5)) = (Go.bits .and .u32 t129 (ji5)) then ((pixel_Half.f (Go.bits .and .u32 a0 (ji5)) (Go.bits .and .u32 a1 (ji5))).bind fun t130 => ((pixel_Half.f a0 a1).bind fun t131 => (some ((Go.bits .and .u32 t130 (ji5)) == (Go.bits .and .u32 t131 (ji5)))))) else (some false)))) else (some false)))) else (some false)))) else (some false)) = some r := H
    have A9 := Aside0.mk A90
    clear A90
    by_cases c10 : (Go.bits .and .u32 t122 (ji5)) = (Go.bits .and .u32 t123 (ji5))
    · rw [if_pos c10] at H
      have c10b0 : ((Go.bits .and .u32 t122 (ji5)) == (Go.bits .and .u32 t123 (ji5))) = true := beq_iff_eq.mpr c10
      have c10b1 : ((Go.bits .and .u32 t122 (ji5)) != (Go.bits .and .u32 t123 (ji5))) = false := bne_eq_false_iff_eq.mpr c10
      clear c10
      replace H := Option.bind_eq_some_iff.mp H
      obtain ⟨t124, A110, H⟩ := H
      replace H : ((pixel_Sub.f a0 a1).bind fun t125 => (if (Go.bits .and .u32 t124 (ji5)) = (Go.bits .and .u32 t125 (ji5)) then ((pixel_Avg.f (Go.bits .and .u32 a0 (ji5)) (Go.bits .and .u32 a1 (ji5))).bind fun t126 => ((pixel_Avg.f a0 a1).bind fun t127 => (if (Go.bits .and .u32 t126 (ji5)) = (Go.bits .and .u32 t127 (ji5)) then ((pixel_Full.f (Go.bits .and .u32 a0 (ji5)) (Go.bits .and .u32 a1 (ji5)) (Go.bits .and .u32 a2 (ji5))).bind fun t128 => ((pixel_Full.f a0 a1 a2).bind fun t129 => (if (Go.bits .and .u32 t128 (ji5)) = (Go.bits .and .u32 t129 (ji5)) then ((pixel_Half.f (Go.bits .and .u32 a0 (ji5)) (Go.bits .and .u32 a1 (ji5))).bind fun t130 => ((pixel_Half.f a0 a1).bind fun t131 => (some ((Go.bits .and .u32 t130 (ji5)) == (Go.bits .and .u32 t131 (ji5)))))) else (some false)))) else (some false)))) else (some false))) = some r := H
      have A11 := Aside0.mk A110
      clear A110
      replace H := Option.bind_eq_some_iff.mp H
      obtain ⟨t125, A120, H⟩ := H
      replace H : (if (Go.bits .and .u32 t124 (ji5)) = (Go.bits .and .u32 t125 (ji5)) then ((pixel_Avg.f (Go.bits .and .u32 a0 (ji5)) (Go.bits .and .u32 a1 (ji5))).bind fun t126 => ((pixel_Avg.f a0 a1).bind fun t127 => (if (Go.bits .and .u32 t126 (ji5)) = (Go.bits .and .u32 t127 (ji5)) then ((pixel_Full.f (Go.bits .and .u32 a0 (ji5)) (Go.bits .and .u32 a1 (ji5)) (Go.bits .and .u32 a2 (ji5))).bind fun t128 => ((pixel_Full.f a0 a1 a2).bind fun t129 => (if (Go.bits .and .u32 t128 (ji5)) = (Go.bits .and .u32 t129 (ji5)) then ((pixel_Half.f (Go.bits .and .u32 a0 (ji5)) (Go.bits .and .u32 a1 (ji5))).bind fun t130 => ((pixel_Half.f a0 a1).bind fun t131 => (some ((Go.bits .and .u32 t130 (ji5)) == (Go.bits .and .u32 t131 (ji5)))))) else (some false)))) else (some false)))) else (some false)) = some r := H
      have A12 := Aside0.mk A120
      clear A120
      by_cases c13 : (Go.bits .and .u32 t124 (ji5)) = (Go.bits .and .u32 t125 (ji5))
      · rw [if_pos c13] at H
        have c13b0 : ((Go.bits .and .u32 t124 (ji5)) == (Go.bits .and .u32 t125 (ji5))) = true := beq_iff_eq.mpr c13
        have c13b1 : ((Go.bits .and .u32 t124 (ji5)) != (Go.bits .and .u32 t125 (ji5))) = false := bne_eq_false_iff_eq.mpr c13
        clear c13
        replace H := Option.bind_eq_some_iff.mp H
        obtain ⟨t126, A140, H⟩ := H
        replace H : ((pixel_Avg.f a0 a1).bind fun t127 => (if (Go.bits .and .u32 t126 (ji5)) = (Go.bits .and .u32 t127 (ji5)) then ((pixel_Full.f (Go.bits .and .u32 a0 (ji5)) (Go.bits .and .u32 a1 (ji5)) (Go.bits .and .u32 a2 (ji5))).bind fun t128 => ((pixel_Full.f a0 a1 a2).bind fun t129 => (if (Go.bits .and .u32 t128 (ji5)) = (Go.bits .and .u32 t129 (ji5)) then ((pixel_Half.f (Go.bits .and .u32 a0 (ji5)) (Go.bits .and .u32 a1 (ji5))).bind fun t130 => ((pixel_Half.f a0 a1).bind fun t131 => (some ((Go.bits .and .u32 t130 (ji5)) == (Go.bits .and .u32 t131 (ji5)))))) else (some false)))) else (some false))) = some r := H
        have A14 := Aside0.mk A140
        clear A140
        replace H := Option.bind_eq_some_iff.mp H
        obtain ⟨t127, A150, H⟩ := H
        replace H : (if (Go.bits .and .u32 t126 (ji5)) = (Go.bits .and .u32 t127 (ji5)) then ((pixel_Full.f (Go.bits .and .u32 a0 (ji5)) (Go.bits .and .u32 a1 (ji5)) (Go.bits .and .u32 a2 (ji5))).bind fun t128 => ((pixel_Full.f a0 a1 a2).bind fun t129 => (if (Go.bits .and .u32 t128 (ji5)) = (Go.bits .and .u32 t129 (ji5)) then ((pixel_Half.f (Go.bits .and .u32 a0 (ji5)) (Go.bits .and .u32 a1 (ji5))).bind fun t130 => ((pixel_Half.f a0 a1).bind fun t131 => (some ((Go.bits .and .u32 t130 (ji5)) == (Go.bits .and .u32 t131 (ji5)))))) else (some false)))) else (some false)) = some r := H
        have A15 := Aside0.mk A150
        clear A150
        by_cases c16 : (Go.bits .and .u32 t126 (ji5)) = (Go.bits .and .u32 t127 (ji5))
        · rw [if_pos c16] at H
          have c16b0 : ((Go.bits .and .u32 t126 (ji5)) == (Go.bits .and .u32 t127 (ji5))) = true := beq_iff_eq.mpr c16
          have c16b1 : ((Go.bits .and .u32 t126 (ji5)) != (Go.bits .and .u32 t127 (ji5))) = false := bne_eq_false_iff_eq.mpr c16
          clear c16
          replace H := Option.bind_eq_some_iff.mp H
          obtain ⟨t128, A170, H⟩ := H
          replace H : ((pixel_Full.f a0 a1 a2).bind fun t129 => (if (Go.bits .and .u32 t128 (ji5)) = (Go.bits .and .u32 t129 (ji5)) then ((pixel_Half.f (Go.bits .and .u32 a0 (ji5)) (Go.bits .and .u32 a1 (ji5))).bind fun t130 => ((pixel_Half.f a0 a1).bind fun t131 => (some ((Go.bits .and .u32 t130 (ji5)) == (Go.bits .and .u32 t131 (ji5)))))) else (some false))) = some r := H
          have A17 := Aside0.mk A170
          clear A170
          replace H := Option.bind_eq_some_iff.mp H
          obtain ⟨t129, A180, H⟩ := H
          replace H : (if (Go.bits .and .u32 t128 (ji5)) = (Go.bits .and .u32 t129 (ji5)) then ((pixel_Half.f (Go.bits .and .u32 a0 (ji5)) (Go.bits .and .u32 a1 (ji5))).bind fun t130 => ((pixel_Half.f a0 a1).bind fun t131 => (some ((Go.bits .and .u32 t130 (ji5)) == (Go.bits .and .u32 t131 (ji5)))))) else (some false)) = some r := H
          have A18 := Aside0.mk A180
          clear A180
          by_cases c19 : (Go.bits .and .u32 t128 (ji5)) = (Go.bits .and .u32 t129 (ji5))
          · rw [if_pos c19] at H
            have c19b0 : ((Go.bits .and .u32 t128 (ji5)) == (Go.bits .and .u32 t129 (ji5))) = true := beq_iff_eq.mpr c19
            have c19b1 : ((Go.bits .and .u32 t128 (ji5)) != (Go.bits .and .u32 t129 (ji5))) = false := bne_eq_false_iff_eq.mpr c19
            clear c19
            replace H := Option.bind_eq_some_iff.mp H
            obtain ⟨t130, A200, H⟩ := H
            replace H : ((pixel_Half.f a0 a1).bind fun t131 => (some ((Go.bits .and .u32 t130 (ji5)) == (Go.bits .and .u32 t131 (ji5))))) = some r := H
            have A20 := Aside0.mk A200
            clear A200
            replace H := Option.bind_eq_some_iff.mp H
            obtain ⟨t131, A210, H⟩ := H
            replace H : (some ((Go.bits .and .u32 t130 (ji5)) == (Go.bits .and .u32 t131 (ji5)))) = some r := H
            have A21 := Aside0.mk A210
            clear A210
            obtain rfl := Option.some.inj H
            go_enter Try.func5, Try.ntmps5
            go_wp2_with (first | ((with_reducible refine gate_callee (f := 10) rfl ?_); refine goesL_ (some 27) rfl rfl Try.func10 (by kernel_rfl) rfl #[] rfl (by (try simp only [List.map_toArray, List.map_cons, List.map_nil]); first | done | rfl | (simp only [List.length_drop, List.length_take]; rfl)) ?_; (with_reducible refine (marquetrylaw11_answers.calls  true _ A6.out).mono ?_); clear A6; rintro e w22 ⟨rfl, hb⟩; refine ⟨_, rfl, ?_⟩; have n0_ := Aside0.mk (below_step (by repeat (first | (with_reducible first | exact HB.out | apply below_alloc | apply pw_below_drewN | apply below_drew1) | exact HB.out)) hb); clear HB; have HB := n0_; clear n0_; (try clear hb); (try clear hb2); (try clear hk); (try clear hi)) | (go_at_call 10; (with_reducible refine (marquetrylaw11_answers.calls  true _ A6.out).mono ?_); clear A6; rintro e w22 ⟨rfl, hb⟩; have n0_ := Aside0.mk (below_step (by repeat (first | (with_reducible first | exact HB.out | apply below_alloc | apply pw_below_drewN | apply below_drew1) | exact HB.out)) hb); clear HB; have HB := n0_; clear n0_; (try clear hb); (try clear hb2); (try clear hk); (try clear hi)) | (go_at_call 12; (with_reducible refine (pixel_Add.calls (Go.bits .and .u32 a0 (ji5)) (Go.bits .and .u32 a1 (ji5)) t122 _ A8.out).mono ?_); clear A8; rintro e w23 ⟨rfl, hb⟩; have n0_ := Aside0.mk (below_step (by repeat (first | (with_reducible first | exact HB.out | apply below_alloc | apply pw_below_drewN | apply below_drew1) | exact HB.out)) hb); clear HB; have HB := n0_; clear n0_; (try clear hb); (try clear hb2); (try clear hk); (try clear hi)) | (go_at_call 12; (with_reducible refine (pixel_Add.calls a0 a1 t123 _ A9.out).mono ?_); clear A9; rintro e w24 ⟨rfl, hb⟩; have n0_ := Aside0.mk (below_step (by repeat (first | (with_reducible first | exact HB.out | apply below_alloc | apply pw_below_drewN | apply below_drew1) | exact HB.out)) hb); clear HB; have HB := n0_; clear n0_; (try clear hb); (try clear hb2); (try clear hk); (try clear hi)) | (go_at_call 11; (with_reducible refine (pixel_Sub.calls (Go.bits .and .u32 a0 (ji5)) (Go.bits .and .u32 a1 (ji5)) t124 _ A11.out).mono ?_); clear A11; rintro e w25 ⟨rfl, hb⟩; have n0_ := Aside0.mk (below_step (by repeat (first | (with_reducible first | exact HB.out | apply below_alloc | apply pw_below_drewN | apply below_drew1) | exact HB.out)) hb); clear HB; have HB := n0_; clear n0_; (try clear hb); (try clear hb2); (try clear hk); (try clear hi)) | (go_at_call 11; (with_reducible refine (pixel_Sub.calls a0 a1 t125 _ A12.out).mono ?_); clear A12; rintro e w26 ⟨rfl, hb⟩; have n0_ := Aside0.mk (below_step (by repeat (first | (with_reducible first | exact HB.out | apply below_alloc | apply pw_below_drewN | apply below_drew1) | exact HB.out)) hb); clear HB; have HB := n0_; clear n0_; (try clear hb); (try clear hb2); (try clear hk); (try clear hi)) | (go_at_call 8; (with_reducible refine (pixel_Avg.calls (Go.bits .and .u32 a0 (ji5)) (Go.bits .and .u32 a1 (ji5)) t126 _ A14.out).mono ?_); clear A14; rintro e w27 ⟨rfl, hb⟩; have n0_ := Aside0.mk (below_step (by repeat (first | (with_reducible first | exact HB.out | apply below_alloc | apply pw_below_drewN | apply below_drew1) | exact HB.out)) hb); clear HB; have HB := n0_; clear n0_; (try clear hb); (try clear hb2); (try clear hk); (try clear hi)) | (go_at_call 8; (with_reducible refine (pixel_Avg.calls a0 a1 t127 _ A15.out).mono ?_); clear A15; rintro e w28 ⟨rfl, hb⟩; have n0_ := Aside0.mk (below_step (by repeat (first | (with_reducible first | exact HB.out | apply below_alloc | apply pw_below_drewN | apply below_drew1) | exact HB.out)) hb); clear HB; have HB := n0_; clear n0_; (try clear hb); (try clear hb2); (try clear hk); (try clear hi)) | (go_at_call 15; (with_reducible refine (pixel_Full.calls (Go.bits .and .u32 a0 (ji5)) (Go.bits .and .u32 a1 (ji5)) (Go.bits .and .u32 a2 (ji5)) t128 _ A17.out).mono ?_); clear A17; rintro e w29 ⟨rfl, hb⟩; have n0_ := Aside0.mk (below_step (by repeat (first | (with_reducible first | exact HB.out | apply below_alloc | apply pw_below_drewN | apply below_drew1) | exact HB.out)) hb); clear HB; have HB := n0_; clear n0_; (try clear hb); (try clear hb2); (try clear hk); (try clear hi)) | (go_at_call 15; (with_reducible refine (pixel_Full.calls a0 a1 a2 t129 _ A18.out).mono ?_); clear A18; rintro e w30 ⟨rfl, hb⟩; have n0_ := Aside0.mk (below_step (by repeat (first | (with_reducible first | exact HB.out | apply below_alloc | apply pw_below_drewN | apply below_drew1) | exact HB.out)) hb); clear HB; have HB := n0_; clear n0_; (try clear hb); (try clear hb2); (try clear hk); (try clear hi)) | (go_at_call 16; (with_reducible refine (pixel_Half.calls (Go.bits .and .u32 a0 (ji5)) (Go.bits .and .u32 a1 (ji5)) t130 _ A20.out).mono ?_); clear A20; rintro e w31 ⟨rfl, hb⟩; have n0_ := Aside0.mk (below_step (by repeat (first | (with_reducible first | exact HB.out | apply below_alloc | apply pw_below_drewN | apply below_drew1) | exact HB.out)) hb); clear HB; have HB := n0_; clear n0_; (try clear hb); (try clear hb2); (try clear hk); (try clear hi)) | (go_at_call 16; (with_reducible refine (pixel_Half.calls a0 a1 t131 _ A21.out).mono ?_); clear A21; rintro e w32 ⟨rfl, hb⟩; have n0_ := Aside0.mk (below_step (by repeat (first | (with_reducible first | exact HB.out | apply below_alloc | apply pw_below_drewN | apply below_drew1) | exact HB.out)) hb); clear HB; have HB := n0_; clear n0_; (try clear hb); (try clear hb2); (try clear hk); (try clear hi)))
            go_ret
            exact ⟨by first | rfl | (simp [errW_none, errW_some] <;> rfl) | (simp only [← hji5]; first | rfl | (simp [errW_none, errW_some] <;> rfl)) | (simp [*, errW_none, errW_some] <;> rfl), by repeat (first | (with_reducible first | exact HB.out | apply below_alloc | apply pw_below_drewN | apply below_drew1) | exact HB.out)⟩
          · rw [if_neg c19] at H
            have c19b0 : ((Go.bits .and .u32 t128 (ji5)) == (Go.bits .and .u32 t129 (ji5))) = false := beq_eq_false_iff_ne.mpr c19
            have c19b1 : ((Go.bits .and .u32 t128 (ji5)) != (Go.bits .and .u32 t129 (ji5))) = true := bne_iff_ne.mpr c19
            exact absurd ((Option.some.inj H).trans Hr.out) (by decide)
        · rw [if_neg c16] at H
          have c16b0 : ((Go.bits .and .u32 t126 (ji5)) == (Go.bits .and .u32 t127 (ji5))) = false := beq_eq_false_iff_ne.mpr c16
          have c16b1 : ((Go.bits .and .u32 t126 (ji5)) != (Go.bits .and .u32 t127 (ji5))) = true := bne_iff_ne.mpr c16
          exact absurd ((Option.some.inj H).trans Hr.out) (by decide)
      · rw [if_neg c13] at H
        have c13b0 : ((Go.bits .and .u32 t124 (ji5)) == (Go.bits .and .u32 t125 (ji5))) = false := beq_eq_false_iff_ne.mpr c13
        have c13b1 : ((Go.bits .and .u32 t124 (ji5)) != (Go.bits .and .u32 t125 (ji5))) = true := bne_iff_ne.mpr c13
        exact absurd ((Option.some.inj H).trans Hr.out) (by decide)
    · rw [if_neg c10] at H
      have c10b0 : ((Go.bits .and .u32 t122 (ji5)) == (Go.bits .and .u32 t123 (ji5))) = false := beq_eq_false_iff_ne.mpr c10
      have c10b1 : ((Go.bits .and .u32 t122 (ji5)) != (Go.bits .and .u32 t123 (ji5))) = true := bne_iff_ne.mpr c10
      exact absurd ((Option.some.inj H).trans Hr.out) (by decide)
  · replace c7 := Bool.eq_false_iff.mpr c7
    subst c7
    have H1 : (some false) = some r := by rw [if_neg (show ¬ (false = true) by decide)] at H; exact H
    clear H
    have H := H1
    clear H1
    exact absurd ((Option.some.inj H).trans Hr.out) (by decide)

/-- THE ONE PURE STATEMENT of marquetrylaw11_PixelEach: yours. -/
def marquetrylaw11_PixelEach.Pure : Prop := ∀ (a0 : Int) (a1 : Int) (a2 : Int) (a3 : Int), (Lit.int .u32 a0).wf = true → (Lit.int .u32 a1).wf = true → (Lit.int .u32 a2).wf = true → (Lit.int .u8 a3).wf = true → marquetrylaw11_PixelEach.f a0 a1 a2 a3 = some true
theorem marquetrylaw11_PixelEach.walk (P : marquetrylaw11_PixelEach.Pure) (a0 : Int) (a1 : Int) (a2 : Int) (a3 : Int) (w : World) (w0 : (Lit.int .u32 a0).wf = true) (w1 : (Lit.int .u32 a1).wf = true) (w2 : (Lit.int .u32 a2).wf = true) (w3 : (Lit.int .u8 a3).wf = true) :
    Calls Try.prog 5 #[.int .u32 a0, .int .u32 a1, .int .u32 a2, .int .u8 a3] w fun e w' => e = .returned (.bool true) ∧ Below w.heap.size w w' := by
  have h := P a0 a1 a2 a3 w0 w1 w2 w3
  refine (marquetrylaw11_PixelEach.calls a0 a1 a2 a3 true w h rfl).mono ?_
  rintro e w' ⟨rfl, hd⟩
  exact ⟨rfl, hd⟩

/-! ### pixel_Parts: function 17 -/
def pixel_Parts.f (a0 : Int) : Option (Int × Int × Int × Int) := some ((a0 / 16777216) % 256, (a0 / 65536) % 256, (a0 / 256) % 256, (a0) % 256)
set_option maxHeartbeats 8000000 in
set_option maxRecDepth 100000 in
theorem pixel_Parts.calls (a0 : Int) (r1 : Int) (r2 : Int) (r3 : Int) (r4 : Int) (w : World) (h : pixel_Parts.f a0 = some (r1, r2, r3, r4)) :
    Calls Try.prog 17 #[.int .u32 a0] w fun e w' => e = .returned (.tuple #[.int .u8 r1, .int .u8 r2, .int .u8 r3, .int .u8 r4]) ∧ Drawn0 w w' := by
  have H : (some ((a0 / 16777216) % 256, (a0 / 65536) % 256, (a0 / 256) % 256, (a0) % 256)) = some (r1, r2, r3, r4) := h
  clear h
  simp only [Option.some.injEq, Prod.mk.injEq] at H
  obtain ⟨rfl, rfl, rfl, rfl⟩ := H
  go_enter Try.func17, Try.ntmps17
  go_wp2
  refine bodyPost_ret (results_list (rs := [.tmp 2, .tmp 3, .tmp 4, .tmp 5]) rfl (by simp) (.tmp (.tmp (.tmp (.tmp .nil))))) rfl ?_
  exact ⟨by first | rfl | (simp; done) | (simp [*]; done), by repeat (first | exact Drawn0.refl _ | apply Drawn0.step)⟩

/-! ### pixel_Make: function 18 -/
def pixel_Make.f (a0 : Int) (a1 : Int) (a2 : Int) (a3 : Int) : Option (Int) := some (Go.bits .or .u32 (Go.bits .or .u32 (Go.bits .or .u32 ((((a0) % 4294967296) * 16777216) % 4294967296) ((((a1) % 4294967296) * 65536) % 4294967296)) ((((a2) % 4294967296) * 256) % 4294967296)) ((a3) % 4294967296))
set_option maxHeartbeats 8000000 in
set_option maxRecDepth 100000 in
theorem pixel_Make.calls (a0 : Int) (a1 : Int) (a2 : Int) (a3 : Int) (r : Int) (w : World) (h : pixel_Make.f a0 a1 a2 a3 = some r) :
    Calls Try.prog 18 #[.int .u8 a0, .int .u8 a1, .int .u8 a2, .int .u8 a3] w fun e w' => e = .returned (.int .u32 r) ∧ Drawn0 w w' := by
  have H : (some (Go.bits .or .u32 (Go.bits .or .u32 (Go.bits .or .u32 ((((a0) % 4294967296) * 16777216) % 4294967296) ((((a1) % 4294967296) * 65536) % 4294967296)) ((((a2) % 4294967296) * 256) % 4294967296)) ((a3) % 4294967296))) = some r := h
  clear h
  obtain rfl := Option.some.inj H
  go_enter Try.func18, Try.ntmps18
  go_wp2
  go_ret
  exact ⟨by first | rfl | (simp; done) | (simp [*]; done), by repeat (first | exact Drawn0.refl _ | apply Drawn0.step)⟩

-- NOT PRINTED: function 33 (marquetryref11_Make)

/-! ### marquetryref11_cut: function 34 -/
def marquetryref11_cut.f (a0 : Int) : Option (Int) := if a0 < 0 then (some 0) else (if a0 > 255 then (some 255) else (some a0))
set_option maxHeartbeats 8000000 in
set_option maxRecDepth 100000 in
theorem marquetryref11_cut.calls (a0 : Int) (r : Int) (w : World) (h : marquetryref11_cut.f a0 = some r) :
    Calls Try.prog 34 #[.int .i64 a0] w fun e w' => e = .returned (.int .i64 r) ∧ Drawn0 w w' := by
  have H : (if a0 < 0 then (some 0) else (if a0 > 255 then (some 255) else (some a0))) = some r := h
  clear h
  by_cases c2 : a0 < 0
  · rw [if_pos c2] at H
    have c2b0 : decide (a0 < 0) = true := decide_eq_true c2
    clear c2
    obtain rfl := Option.some.inj H
    go_enter Try.func34, Try.ntmps34
    go_wp2
    go_ret
    exact ⟨by first | rfl | (simp; done) | (simp [*]; done), by repeat (first | exact Drawn0.refl _ | apply Drawn0.step)⟩
  · rw [if_neg c2] at H
    have c2b0 : decide (a0 < 0) = false := decide_eq_false c2
    clear c2
    by_cases c3 : a0 > 255
    · rw [if_pos c3] at H
      have c3b0 : decide (255 < a0) = true := decide_eq_true c3
      clear c3
      obtain rfl := Option.some.inj H
      go_enter Try.func34, Try.ntmps34
      go_wp2
      go_ret
      exact ⟨by first | rfl | (simp; done) | (simp [*]; done), by repeat (first | exact Drawn0.refl _ | apply Drawn0.step)⟩
    · rw [if_neg c3] at H
      have c3b0 : decide (255 < a0) = false := decide_eq_false c3
      clear c3
      obtain rfl := Option.some.inj H
      go_enter Try.func34, Try.ntmps34
      go_wp2
      go_ret
      exact ⟨by first | rfl | (simp; done) | (simp [*]; done), by repeat (first | exact Drawn0.refl _ | apply Drawn0.step)⟩

end Go.Proofs.Ytmehcbjkhooolaa.P
