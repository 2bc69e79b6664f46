-- Printed by mp.py (our own program over the kit's printer) out of the translation.
import Derived.Test.YtioppjmpkdffkaaPx0
namespace Go.Proofs.Ytioppjmpkdffkaa.P
open Go.RowKit Go.Proofs.YtioppjmpkdffkaaW.PrintWords Go.Proofs.YtioppjmpkdffkaaW.PrintLast Go.Proofs.YtioppjmpkdffkaaW.PrintMore
attribute [local go_sem] max2_int min2_int max_two min_two max_three min_three max_four min_four   -- for this text's walks alone
set_option linter.unusedVariables false
set_option linter.unusedSimpArgs false

/-! ### guess_Guess: function 8 -/
def guess_Guess.f (a0 : Int) (a1 : Int) (a2 : Int) (a3 : Int) (a4 : Int) : Option (Int) := if a0 = 1 then (some a1) else (if a0 = 2 then (some a2) else (if a0 = 3 then (some a4) else (if a0 = 4 then (some a3) else (if a0 = 5 then ((pixel_Avg.f a1 a4).bind fun t101 => ((pixel_Avg.f t101 a2).bind fun t102 => (some t102))) else (if a0 = 6 then ((pixel_Avg.f a1 a3).bind fun t103 => (some t103)) else (if a0 = 7 then ((pixel_Avg.f a1 a2).bind fun t104 => (some t104)) else (if a0 = 8 then ((pixel_Avg.f a3 a2).bind fun t105 => (some t105)) else (if a0 = 9 then ((pixel_Avg.f a2 a4).bind fun t106 => (some t106)) else (if a0 = 10 then ((pixel_Avg.f a1 a3).bind fun t107 => ((pixel_Avg.f a2 a4).bind fun t108 => ((pixel_Avg.f t107 t108).bind fun t109 => (some t109)))) else (if a0 = 11 then ((pixel_Pick.f a1 a2 a3).bind fun t110 => (some t110)) else (if a0 = 12 then ((pixel_Full.f a1 a2 a3).bind fun t111 => (some t111)) else (if a0 = 13 then ((pixel_Avg.f a1 a2).bind fun t112 => ((pixel_Half.f t112 a3).bind fun t113 => (some t113))) else (some 4278190080)))))))))))))
set_option maxHeartbeats 8000000 in
set_option maxRecDepth 100000 in
theorem guess_Guess.calls (a0 : Int) (a1 : Int) (a2 : Int) (a3 : Int) (a4 : Int) (r : Int) (w : World) (h : guess_Guess.f a0 a1 a2 a3 a4 = some r) :
    Calls Try.prog 8 #[.int .i64 a0, .int .u32 a1, .int .u32 a2, .int .u32 a3, .int .u32 a4] w fun e w' => e = .returned (.int .u32 r) ∧ Below w.heap.size w w' := by
  have HB := Aside0.mk (Below.refl w.heap.size w)
  have H : (if a0 = 1 then (some a1) else (if a0 = 2 then (some a2) else (if a0 = 3 then (some a4) else (if a0 = 4 then (some a3) else (if a0 = 5 then ((pixel_Avg.f a1 a4).bind fun t101 => ((pixel_Avg.f t101 a2).bind fun t102 => (some t102))) else (if a0 = 6 then ((pixel_Avg.f a1 a3).bind fun t103 => (some t103)) else (if a0 = 7 then ((pixel_Avg.f a1 a2).bind fun t104 => (some t104)) else (if a0 = 8 then ((pixel_Avg.f a3 a2).bind fun t105 => (some t105)) else (if a0 = 9 then ((pixel_Avg.f a2 a4).bind fun t106 => (some t106)) else (if a0 = 10 then ((pixel_Avg.f a1 a3).bind fun t107 => ((pixel_Avg.f a2 a4).bind fun t108 => ((pixel_Avg.f t107 t108).bind fun t109 => (some t109)))) else (if a0 = 11 then ((pixel_Pick.f a1 a2 a3).bind fun t110 => (some t110)) else (if a0 = 12 then ((pixel_Full.f a1 a2 a3).bind fun t111 => (some t111)) else (if a0 = 13 then ((pixel_Avg.f a1 a2).bind fun t112 => ((pixel_Half.f t112 a3).bind fun t113 => (some t113))) else (some 4278190080)))))))))))))) = some r := h
  clear h
  by_cases c6 : a0 = 1
  · rw [if_pos c6] at H
    have c6b0 : (a0 == 1) = true := beq_iff_eq.mpr c6
    have c6b1 : (a0 != 1) = false := bne_eq_false_iff_eq.mpr c6
    clear c6
    obtain rfl := Option.some.inj H
    go_enter Try.func8, Try.ntmps8
    go_wp2
    go_ret
    exact ⟨by first | rfl | (simp [errW_none, errW_some] <;> rfl) | (simp [*, errW_none, errW_some] <;> rfl), by repeat (first | (with_reducible first | exact HB.out | apply below_alloc | apply pw_below_drewN | apply below_drew1) | exact HB.out)⟩
  · rw [if_neg c6] at H
    have c6b0 : (a0 == 1) = false := beq_eq_false_iff_ne.mpr c6
    have c6b1 : (a0 != 1) = true := bne_iff_ne.mpr c6
    by_cases c7 : a0 = 2
    · rw [if_pos c7] at H
      have c7b0 : (a0 == 2) = true := beq_iff_eq.mpr c7
      have c7b1 : (a0 != 2) = false := bne_eq_false_iff_eq.mpr c7
      clear c7
      obtain rfl := Option.some.inj H
      go_enter Try.func8, Try.ntmps8
      go_wp2
      go_ret
      exact ⟨by first | rfl | (simp [errW_none, errW_some] <;> rfl) | (simp [*, errW_none, errW_some] <;> rfl), by repeat (first | (with_reducible first | exact HB.out | apply below_alloc | apply pw_below_drewN | apply below_drew1) | exact HB.out)⟩
    · rw [if_neg c7] at H
      have c7b0 : (a0 == 2) = false := beq_eq_false_iff_ne.mpr c7
      have c7b1 : (a0 != 2) = true := bne_iff_ne.mpr c7
      by_cases c8 : a0 = 3
      · rw [if_pos c8] at H
        have c8b0 : (a0 == 3) = true := beq_iff_eq.mpr c8
        have c8b1 : (a0 != 3) = false := bne_eq_false_iff_eq.mpr c8
        clear c8
        obtain rfl := Option.some.inj H
        go_enter Try.func8, Try.ntmps8
        go_wp2
        go_ret
        exact ⟨by first | rfl | (simp [errW_none, errW_some] <;> rfl) | (simp [*, errW_none, errW_some] <;> rfl), by repeat (first | (with_reducible first | exact HB.out | apply below_alloc | apply pw_below_drewN | apply below_drew1) | exact HB.out)⟩
      · rw [if_neg c8] at H
        have c8b0 : (a0 == 3) = false := beq_eq_false_iff_ne.mpr c8
        have c8b1 : (a0 != 3) = true := bne_iff_ne.mpr c8
        by_cases c9 : a0 = 4
        · rw [if_pos c9] at H
          have c9b0 : (a0 == 4) = true := beq_iff_eq.mpr c9
          have c9b1 : (a0 != 4) = false := bne_eq_false_iff_eq.mpr c9
          clear c9
          obtain rfl := Option.some.inj H
          go_enter Try.func8, Try.ntmps8
          go_wp2
          go_ret
          exact ⟨by first | rfl | (simp [errW_none, errW_some] <;> rfl) | (simp [*, errW_none, errW_some] <;> rfl), by repeat (first | (with_reducible first | exact HB.out | apply below_alloc | apply pw_below_drewN | apply below_drew1) | exact HB.out)⟩
        · rw [if_neg c9] at H
          have c9b0 : (a0 == 4) = false := beq_eq_false_iff_ne.mpr c9
          have c9b1 : (a0 != 4) = true := bne_iff_ne.mpr c9
          by_cases c10 : a0 = 5
          · rw [if_pos c10] at H
            have c10b0 : (a0 == 5) = true := beq_iff_eq.mpr c10
            have c10b1 : (a0 != 5) = false := bne_eq_false_iff_eq.mpr c10
            clear c10
            replace H := Option.bind_eq_some_iff.mp H
            obtain ⟨t101, A110, H⟩ := H
            replace H : ((pixel_Avg.f t101 a2).bind fun t102 => (some t102)) = some r := H
            have A11 := Aside0.mk A110
            clear A110
            replace H := Option.bind_eq_some_iff.mp H
            obtain ⟨t102, A120, H⟩ := H
            replace H : (some t102) = some r := H
            have A12 := Aside0.mk A120
            clear A120
            obtain rfl := Option.some.inj H
            go_enter Try.func8, Try.ntmps8
            go_wp2_with (first | ((with_reducible refine gate_callee (f := 15) rfl ?_); refine goesL_ (some 28) rfl rfl Try.func15 (by kernel_rfl) rfl #[.int .u32 a1, .int .u32 a4] rfl (by (try simp only [List.map_toArray, List.map_cons, List.map_nil]); first | done | rfl | (simp only [List.length_drop, List.length_take]; rfl)) ?_; (with_reducible refine (pixel_Avg.calls a1 a4 t101 _ A11.out).mono ?_); clear A11; rintro e w13 ⟨rfl, hb⟩; refine ⟨_, rfl, ?_⟩; have n0_ := Aside0.mk (below_step (by repeat (first | (with_reducible first | exact HB.out | apply below_alloc | apply pw_below_drewN | apply below_drew1) | exact HB.out)) hb); clear HB; have HB := n0_; clear n0_; (try clear hb); (try clear hb2); (try clear hk); (try clear hi)) | (go_at_call 15; (with_reducible refine (pixel_Avg.calls a1 a4 t101 _ A11.out).mono ?_); clear A11; rintro e w13 ⟨rfl, hb⟩; have n0_ := Aside0.mk (below_step (by repeat (first | (with_reducible first | exact HB.out | apply below_alloc | apply pw_below_drewN | apply below_drew1) | exact HB.out)) hb); clear HB; have HB := n0_; clear n0_; (try clear hb); (try clear hb2); (try clear hk); (try clear hi)) | ((with_reducible refine gate_callee (f := 15) rfl ?_); refine goesL_ (some 30) rfl rfl Try.func15 (by kernel_rfl) rfl #[.int .u32 t101, .int .u32 a2] rfl (by (try simp only [List.map_toArray, List.map_cons, List.map_nil]); first | done | rfl | (simp only [List.length_drop, List.length_take]; rfl)) ?_; (with_reducible refine (pixel_Avg.calls t101 a2 t102 _ A12.out).mono ?_); clear A12; rintro e w14 ⟨rfl, hb⟩; refine ⟨_, rfl, ?_⟩; have n0_ := Aside0.mk (below_step (by repeat (first | (with_reducible first | exact HB.out | apply below_alloc | apply pw_below_drewN | apply below_drew1) | exact HB.out)) hb); clear HB; have HB := n0_; clear n0_; (try clear hb); (try clear hb2); (try clear hk); (try clear hi)) | (go_at_call 15; (with_reducible refine (pixel_Avg.calls t101 a2 t102 _ A12.out).mono ?_); clear A12; rintro e w14 ⟨rfl, hb⟩; have n0_ := Aside0.mk (below_step (by repeat (first | (with_reducible first | exact HB.out | apply below_alloc | apply pw_below_drewN | apply below_drew1) | exact HB.out)) hb); clear HB; have HB := n0_; clear n0_; (try clear hb); (try clear hb2); (try clear hk); (try clear hi)))
            go_ret
            exact ⟨by first | rfl | (simp [errW_none, errW_some] <;> rfl) | (simp [*, errW_none, errW_some] <;> rfl), by repeat (first | (with_reducible first | exact HB.out | apply below_alloc | apply pw_below_drewN | apply below_drew1) | exact HB.out)⟩
          · rw [if_neg c10] at H
            have c10b0 : (a0 == 5) = false := beq_eq_false_iff_ne.mpr c10
            have c10b1 : (a0 != 5) = true := bne_iff_ne.mpr c10
            by_cases c15 : a0 = 6
            · rw [if_pos c15] at H
              have c15b0 : (a0 == 6) = true := beq_iff_eq.mpr c15
              have c15b1 : (a0 != 6) = false := bne_eq_false_iff_eq.mpr c15
              clear c15
              replace H := Option.bind_eq_some_iff.mp H
              obtain ⟨t103, A160, H⟩ := H
              replace H : (some t103) = some r := H
              have A16 := Aside0.mk A160
              clear A160
              obtain rfl := Option.some.inj H
              go_enter Try.func8, Try.ntmps8
              go_wp2_with (first | ((with_reducible refine gate_callee (f := 15) rfl ?_); refine goesL_ (some 35) rfl rfl Try.func15 (by kernel_rfl) rfl #[.int .u32 a1, .int .u32 a3] rfl (by (try simp only [List.map_toArray, List.map_cons, List.map_nil]); first | done | rfl | (simp only [List.length_drop, List.length_take]; rfl)) ?_; (with_reducible refine (pixel_Avg.calls a1 a3 t103 _ A16.out).mono ?_); clear A16; rintro e w17 ⟨rfl, hb⟩; refine ⟨_, rfl, ?_⟩; have n0_ := Aside0.mk (below_step (by repeat (first | (with_reducible first | exact HB.out | apply below_alloc | apply pw_below_drewN | apply below_drew1) | exact HB.out)) hb); clear HB; have HB := n0_; clear n0_; (try clear hb); (try clear hb2); (try clear hk); (try clear hi)) | (go_at_call 15; (with_reducible refine (pixel_Avg.calls a1 a3 t103 _ A16.out).mono ?_); clear A16; rintro e w17 ⟨rfl, hb⟩; have n0_ := Aside0.mk (below_step (by repeat (first | (with_reducible first | exact HB.out | apply below_alloc | apply pw_below_drewN | apply below_drew1) | exact HB.out)) hb); clear HB; have HB := n0_; clear n0_; (try clear hb); (try clear hb2); (try clear hk); (try clear hi)))
              go_ret
              exact ⟨by first | rfl | (simp [errW_none, errW_some] <;> rfl) | (simp [*, errW_none, errW_some] <;> rfl), by repeat (first | (with_reducible first | exact HB.out | apply below_alloc | apply pw_below_drewN | apply below_drew1) | exact HB.out)⟩
            · rw [if_neg c15] at H
              have c15b0 : (a0 == 6) = false := beq_eq_false_iff_ne.mpr c15
              have c15b1 : (a0 != 6) = true := bne_iff_ne.mpr c15
              by_cases c18 : a0 = 7
              · rw [if_pos c18] at H
                have c18b0 : (a0 == 7) = true := beq_iff_eq.mpr c18
                have c18b1 : (a0 != 7) = false := bne_eq_false_iff_eq.mpr c18
                clear c18
                replace H := Option.bind_eq_some_iff.mp H
                obtain ⟨t104, A190, H⟩ := H
                replace H : (some t104) = some r := H
                have A19 := Aside0.mk A190
                clear A190
                obtain rfl := Option.some.inj H
                go_enter Try.func8, Try.ntmps8
                go_wp2_with (first | ((with_reducible refine gate_callee (f := 15) rfl ?_); refine goesL_ (some 40) rfl rfl Try.func15 (by kernel_rfl) rfl #[.int .u32 a1, .int .u32 a2] rfl (by (try simp only [List.map_toArray, List.map_cons, List.map_nil]); first | done | rfl | (simp only [List.length_drop, List.length_take]; rfl)) ?_; (with_reducible refine (pixel_Avg.calls a1 a2 t104 _ A19.out).mono ?_); clear A19; rintro e w20 ⟨rfl, hb⟩; refine ⟨_, rfl, ?_⟩; have n0_ := Aside0.mk (below_step (by repeat (first | (with_reducible first | exact HB.out | apply below_alloc | apply pw_below_drewN | apply below_drew1) | exact HB.out)) hb); clear HB; have HB := n0_; clear n0_; (try clear hb); (try clear hb2); (try clear hk); (try clear hi)) | (go_at_call 15; (with_reducible refine (pixel_Avg.calls a1 a2 t104 _ A19.out).mono ?_); clear A19; rintro e w20 ⟨rfl, hb⟩; have n0_ := Aside0.mk (below_step (by repeat (first | (with_reducible first | exact HB.out | apply below_alloc | apply pw_below_drewN | apply below_drew1) | exact HB.out)) hb); clear HB; have HB := n0_; clear n0_; (try clear hb); (try clear hb2); (try clear hk); (try clear hi)))
                go_ret
                exact ⟨by first | rfl | (simp [errW_none, errW_some] <;> rfl) | (simp [*, errW_none, errW_some] <;> rfl), by repeat (first | (with_reducible first | exact HB.out | apply below_alloc | apply pw_below_drewN | apply below_drew1) | exact HB.out)⟩
              · rw [if_neg c18] at H
                have c18b0 : (a0 == 7) = false := beq_eq_false_iff_ne.mpr c18
                have c18b1 : (a0 != 7) = true := bne_iff_ne.mpr c18
                by_cases c21 : a0 = 8
                · rw [if_pos c21] at H
                  have c21b0 : (a0 == 8) = true := beq_iff_eq.mpr c21
                  have c21b1 : (a0 != 8) = false := bne_eq_false_iff_eq.mpr c21
                  clear c21
                  replace H := Option.bind_eq_some_iff.mp H
                  obtain ⟨t105, A220, H⟩ := H
                  replace H : (some t105) = some r := H
                  have A22 := Aside0.mk A220
                  clear A220
                  obtain rfl := Option.some.inj H
                  go_enter Try.func8, Try.ntmps8
                  go_wp2_with (first | ((with_reducible refine gate_callee (f := 15) rfl ?_); refine goesL_ (some 45) rfl rfl Try.func15 (by kernel_rfl) rfl #[.int .u32 a3, .int .u32 a2] rfl (by (try simp only [List.map_toArray, List.map_cons, List.map_nil]); first | done | rfl | (simp only [List.length_drop, List.length_take]; rfl)) ?_; (with_reducible refine (pixel_Avg.calls a3 a2 t105 _ A22.out).mono ?_); clear A22; rintro e w23 ⟨rfl, hb⟩; refine ⟨_, rfl, ?_⟩; have n0_ := Aside0.mk (below_step (by repeat (first | (with_reducible first | exact HB.out | apply below_alloc | apply pw_below_drewN | apply below_drew1) | exact HB.out)) hb); clear HB; have HB := n0_; clear n0_; (try clear hb); (try clear hb2); (try clear hk); (try clear hi)) | (go_at_call 15; (with_reducible refine (pixel_Avg.calls a3 a2 t105 _ A22.out).mono ?_); clear A22; rintro e w23 ⟨rfl, hb⟩; have n0_ := Aside0.mk (below_step (by repeat (first | (with_reducible first | exact HB.out | apply below_alloc | apply pw_below_drewN | apply below_drew1) | exact HB.out)) hb); clear HB; have HB := n0_; clear n0_; (try clear hb); (try clear hb2); (try clear hk); (try clear hi)))
                  go_ret
                  exact ⟨by first | rfl | (simp [errW_none, errW_some] <;> rfl) | (simp [*, errW_none, errW_some] <;> rfl), by repeat (first | (with_reducible first | exact HB.out | apply below_alloc | apply pw_below_drewN | apply below_drew1) | exact HB.out)⟩
                · rw [if_neg c21] at H
                  have c21b0 : (a0 == 8) = false := beq_eq_false_iff_ne.mpr c21
                  have c21b1 : (a0 != 8) = true := bne_iff_ne.mpr c21
                  by_cases c24 : a0 = 9
                  · rw [if_pos c24] at H
                    have c24b0 : (a0 == 9) = true := beq_iff_eq.mpr c24
                    have c24b1 : (a0 != 9) = false := bne_eq_false_iff_eq.mpr c24
                    clear c24
                    replace H := Option.bind_eq_some_iff.mp H
                    obtain ⟨t106, A250, H⟩ := H
                    replace H : (some t106) = some r := H
                    have A25 := Aside0.mk A250
                    clear A250
                    obtain rfl := Option.some.inj H
                    go_enter Try.func8, Try.ntmps8
                    go_wp2_with (first | ((with_reducible refine gate_callee (f := 15) rfl ?_); refine goesL_ (some 50) rfl rfl Try.func15 (by kernel_rfl) rfl #[.int .u32 a2, .int .u32 a4] rfl (by (try simp only [List.map_toArray, List.map_cons, List.map_nil]); first | done | rfl | (simp only [List.length_drop, List.length_take]; rfl)) ?_; (with_reducible refine (pixel_Avg.calls a2 a4 t106 _ A25.out).mono ?_); clear A25; rintro e w26 ⟨rfl, hb⟩; refine ⟨_, rfl, ?_⟩; have n0_ := Aside0.mk (below_step (by repeat (first | (with_reducible first | exact HB.out | apply below_alloc | apply pw_below_drewN | apply below_drew1) | exact HB.out)) hb); clear HB; have HB := n0_; clear n0_; (try clear hb); (try clear hb2); (try clear hk); (try clear hi)) | (go_at_call 15; (with_reducible refine (pixel_Avg.calls a2 a4 t106 _ A25.out).mono ?_); clear A25; rintro e w26 ⟨rfl, hb⟩; have n0_ := Aside0.mk (below_step (by repeat (first | (with_reducible first | exact HB.out | apply below_alloc | apply pw_below_drewN | apply below_drew1) | exact HB.out)) hb); clear HB; have HB := n0_; clear n0_; (try clear hb); (try clear hb2); (try clear hk); (try clear hi)))
                    go_ret
                    exact ⟨by first | rfl | (simp [errW_none, errW_some] <;> rfl) | (simp [*, errW_none, errW_some] <;> rfl), by repeat (first | (with_reducible first | exact HB.out | apply below_alloc | apply pw_below_drewN | apply below_drew1) | exact HB.out)⟩
                  · rw [if_neg c24] at H
                    have c24b0 : (a0 == 9) = false := beq_eq_false_iff_ne.mpr c24
                    have c24b1 : (a0 != 9) = true := bne_iff_ne.mpr c24
                    by_cases c27 : a0 = 10
                    · rw [if_pos c27] at H
                      have c27b0 : (a0 == 10) = true := beq_iff_eq.mpr c27
                      have c27b1 : (a0 != 10) = false := bne_eq_false_iff_eq.mpr c27
                      clear c27
                      replace H := Option.bind_eq_some_iff.mp H
                      obtain ⟨t107, A280, H⟩ := H
                      replace H : ((pixel_Avg.f a2 a4).bind fun t108 => ((pixel_Avg.f t107 t108).bind fun t109 => (some t109))) = some r := H
                      have A28 := Aside0.mk A280
                      clear A280
                      replace H := Option.bind_eq_some_iff.mp H
                      obtain ⟨t108, A290, H⟩ := H
                      replace H : ((pixel_Avg.f t107 t108).bind fun t109 => (some t109)) = some r := H
                      have A29 := Aside0.mk A290
                      clear A290
                      replace H := Option.bind_eq_some_iff.mp H
                      obtain ⟨t109, A300, H⟩ := H
                      replace H : (some t109) = some r := H
                      have A30 := Aside0.mk A300
                      clear A300
                      obtain rfl := Option.some.inj H
                      go_enter Try.func8, Try.ntmps8
                      go_wp2_with (first | ((with_reducible refine gate_callee (f := 15) rfl ?_); refine goesL_ (some 55) rfl rfl Try.func15 (by kernel_rfl) rfl #[.int .u32 a1, .int .u32 a3] rfl (by (try simp only [List.map_toArray, List.map_cons, List.map_nil]); first | done | rfl | (simp only [List.length_drop, List.length_take]; rfl)) ?_; (with_reducible refine (pixel_Avg.calls a1 a3 t107 _ A28.out).mono ?_); clear A28; rintro e w31 ⟨rfl, hb⟩; refine ⟨_, rfl, ?_⟩; have n0_ := Aside0.mk (below_step (by repeat (first | (with_reducible first | exact HB.out | apply below_alloc | apply pw_below_drewN | apply below_drew1) | exact HB.out)) hb); clear HB; have HB := n0_; clear n0_; (try clear hb); (try clear hb2); (try clear hk); (try clear hi)) | (go_at_call 15; (with_reducible refine (pixel_Avg.calls a1 a3 t107 _ A28.out).mono ?_); clear A28; rintro e w31 ⟨rfl, hb⟩; have n0_ := Aside0.mk (below_step (by repeat (first | (with_reducible first | exact HB.out | apply below_alloc | apply pw_below_drewN | apply below_drew1) | exact HB.out)) hb); clear HB; have HB := n0_; clear n0_; (try clear hb); (try clear hb2); (try clear hk); (try clear hi)) | ((with_reducible refine gate_callee (f := 15) rfl ?_); refine goesL_ (some 58) rfl rfl Try.func15 (by kernel_rfl) rfl #[.int .u32 a2, .int .u32 a4] rfl (by (try simp only [List.map_toArray, List.map_cons, List.map_nil]); first | done | rfl | (simp only [List.length_drop, List.length_take]; rfl)) ?_; (with_reducible refine (pixel_Avg.calls a2 a4 t108 _ A29.out).mono ?_); clear A29; rintro e w32 ⟨rfl, hb⟩; refine ⟨_, rfl, ?_⟩; have n0_ := Aside0.mk (below_step (by repeat (first | (with_reducible first | exact HB.out | apply below_alloc | apply pw_below_drewN | apply below_drew1) | exact HB.out)) hb); clear HB; have HB := n0_; clear n0_; (try clear hb); (try clear hb2); (try clear hk); (try clear hi)) | (go_at_call 15; (with_reducible refine (pixel_Avg.calls a2 a4 t108 _ A29.out).mono ?_); clear A29; rintro e w32 ⟨rfl, hb⟩; have n0_ := Aside0.mk (below_step (by repeat (first | (with_reducible first | exact HB.out | apply below_alloc | apply pw_below_drewN | apply below_drew1) | exact HB.out)) hb); clear HB; have HB := n0_; clear n0_; (try clear hb); (try clear hb2); (try clear hk); (try clear hi)) | ((with_reducible refine gate_callee (f := 15) rfl ?_); refine goesL_ (some 59) rfl rfl Try.func15 (by kernel_rfl) rfl #[.int .u32 t107, .int .u32 t108] rfl (by (try simp only [List.map_toArray, List.map_cons, List.map_nil]); first | done | rfl | (simp only [List.length_drop, List.length_take]; rfl)) ?_; (with_reducible refine (pixel_Avg.calls t107 t108 t109 _ A30.out).mono ?_); clear A30; rintro e w33 ⟨rfl, hb⟩; refine ⟨_, rfl, ?_⟩; have n0_ := Aside0.mk (below_step (by repeat (first | (with_reducible first | exact HB.out | apply below_alloc | apply pw_below_drewN | apply below_drew1) | exact HB.out)) hb); clear HB; have HB := n0_; clear n0_; (try clear hb); (try clear hb2); (try clear hk); (try clear hi)) | (go_at_call 15; (with_reducible refine (pixel_Avg.calls t107 t108 t109 _ A30.out).mono ?_); clear A30; rintro e w33 ⟨rfl, hb⟩; have n0_ := Aside0.mk (below_step (by repeat (first | (with_reducible first | exact HB.out | apply below_alloc | apply pw_below_drewN | apply below_drew1) | exact HB.out)) hb); clear HB; have HB := n0_; clear n0_; (try clear hb); (try clear hb2); (try clear hk); (try clear hi)))
                      go_ret
                      exact ⟨by first | rfl | (simp [errW_none, errW_some] <;> rfl) | (simp [*, errW_none, errW_some] <;> rfl), by repeat (first | (with_reducible first | exact HB.out | apply below_alloc | apply pw_below_drewN | apply below_drew1) | exact HB.out)⟩
                    · rw [if_neg c27] at H
                      have c27b0 : (a0 == 10) = false := beq_eq_false_iff_ne.mpr c27
                      have c27b1 : (a0 != 10) = true := bne_iff_ne.mpr c27
                      by_cases c34 : a0 = 11
                      · rw [if_pos c34] at H
                        have c34b0 : (a0 == 11) = true := beq_iff_eq.mpr c34
                        have c34b1 : (a0 != 11) = false := bne_eq_false_iff_eq.mpr c34
                        clear c34
                        replace H := Option.bind_eq_some_iff.mp H
                        obtain ⟨t110, A350, H⟩ := H
                        replace H : (some t110) = some r := H
                        have A35 := Aside0.mk A350
                        clear A350
                        obtain rfl := Option.some.inj H
                        go_enter Try.func8, Try.ntmps8
                        go_wp2_with (first | ((with_reducible refine gate_callee (f := 16) rfl ?_); refine goesL_ (some 65) rfl rfl Try.func16 (by kernel_rfl) rfl #[.int .u32 a1, .int .u32 a2, .int .u32 a3] rfl (by (try simp only [List.map_toArray, List.map_cons, List.map_nil]); first | done | rfl | (simp only [List.length_drop, List.length_take]; rfl)) ?_; (with_reducible refine (pixel_Pick.calls a1 a2 a3 t110 _ A35.out).mono ?_); clear A35; rintro e w36 ⟨rfl, hb⟩; refine ⟨_, rfl, ?_⟩; have n0_ := Aside0.mk (below_step (by repeat (first | (with_reducible first | exact HB.out | apply below_alloc | apply pw_below_drewN | apply below_drew1) | exact HB.out)) hb); clear HB; have HB := n0_; clear n0_; (try clear hb); (try clear hb2); (try clear hk); (try clear hi)) | (go_at_call 16; (with_reducible refine (pixel_Pick.calls a1 a2 a3 t110 _ A35.out).mono ?_); clear A35; rintro e w36 ⟨rfl, hb⟩; have n0_ := Aside0.mk (below_step (by repeat (first | (with_reducible first | exact HB.out | apply below_alloc | apply pw_below_drewN | apply below_drew1) | exact HB.out)) hb); clear HB; have HB := n0_; clear n0_; (try clear hb); (try clear hb2); (try clear hk); (try clear hi)))
                        go_ret
                        exact ⟨by first | rfl | (simp [errW_none, errW_some] <;> rfl) | (simp [*, errW_none, errW_some] <;> rfl), by repeat (first | (with_reducible first | exact HB.out | apply below_alloc | apply pw_below_drewN | apply below_drew1) | exact HB.out)⟩
                      · rw [if_neg c34] at H
                        have c34b0 : (a0 == 11) = false := beq_eq_false_iff_ne.mpr c34
                        have c34b1 : (a0 != 11) = true := bne_iff_ne.mpr c34
                        by_cases c37 : a0 = 12
                        · rw [if_pos c37] at H
                          have c37b0 : (a0 == 12) = true := beq_iff_eq.mpr c37
                          have c37b1 : (a0 != 12) = false := bne_eq_false_iff_eq.mpr c37
                          clear c37
                          replace H := Option.bind_eq_some_iff.mp H
                          obtain ⟨t111, A380, H⟩ := H
                          replace H : (some t111) = some r := H
                          have A38 := Aside0.mk A380
                          clear A380
                          obtain rfl := Option.some.inj H
                          go_enter Try.func8, Try.ntmps8
                          go_wp2_with (first | ((with_reducible refine gate_callee (f := 17) rfl ?_); refine goesL_ (some 71) rfl rfl Try.func17 (by kernel_rfl) rfl #[.int .u32 a1, .int .u32 a2, .int .u32 a3] rfl (by (try simp only [List.map_toArray, List.map_cons, List.map_nil]); first | done | rfl | (simp only [List.length_drop, List.length_take]; rfl)) ?_; (with_reducible refine (pixel_Full.calls a1 a2 a3 t111 _ A38.out).mono ?_); clear A38; rintro e w39 ⟨rfl, hb⟩; refine ⟨_, rfl, ?_⟩; have n0_ := Aside0.mk (below_step (by repeat (first | (with_reducible first | exact HB.out | apply below_alloc | apply pw_below_drewN | apply below_drew1) | exact HB.out)) hb); clear HB; have HB := n0_; clear n0_; (try clear hb); (try clear hb2); (try clear hk); (try clear hi)) | (go_at_call 17; (with_reducible refine (pixel_Full.calls a1 a2 a3 t111 _ A38.out).mono ?_); clear A38; rintro e w39 ⟨rfl, hb⟩; have n0_ := Aside0.mk (below_step (by repeat (first | (with_reducible first | exact HB.out | apply below_alloc | apply pw_below_drewN | apply below_drew1) | exact HB.out)) hb); clear HB; have HB := n0_; clear n0_; (try clear hb); (try clear hb2); (try clear hk); (try clear hi)))
                          go_ret
                          exact ⟨by first | rfl | (simp [errW_none, errW_some] <;> rfl) | (simp [*, errW_none, errW_some] <;> rfl), by repeat (first | (with_reducible first | exact HB.out | apply below_alloc | apply pw_below_drewN | apply below_drew1) | exact HB.out)⟩
                        · rw [if_neg c37] at H
                          have c37b0 : (a0 == 12) = false := beq_eq_false_iff_ne.mpr c37
                          have c37b1 : (a0 != 12) = true := bne_iff_ne.mpr c37
                          by_cases c40 : a0 = 13
                          · rw [if_pos c40] at H
                            have c40b0 : (a0 == 13) = true := beq_iff_eq.mpr c40
                            have c40b1 : (a0 != 13) = false := bne_eq_false_iff_eq.mpr c40
                            clear c40
                            replace H := Option.bind_eq_some_iff.mp H
                            obtain ⟨t112, A410, H⟩ := H
                            replace H : ((pixel_Half.f t112 a3).bind fun t113 => (some t113)) = some r := H
                            have A41 := Aside0.mk A410
                            clear A410
                            replace H := Option.bind_eq_some_iff.mp H
                            obtain ⟨t113, A420, H⟩ := H
                            replace H : (some t113) = some r := H
                            have A42 := Aside0.mk A420
                            clear A420
                            obtain rfl := Option.some.inj H
                            go_enter Try.func8, Try.ntmps8
                            go_wp2_with (first | ((with_reducible refine gate_callee (f := 15) rfl ?_); refine goesL_ (some 76) rfl rfl Try.func15 (by kernel_rfl) rfl #[.int .u32 a1, .int .u32 a2] rfl (by (try simp only [List.map_toArray, List.map_cons, List.map_nil]); first | done | rfl | (simp only [List.length_drop, List.length_take]; rfl)) ?_; (with_reducible refine (pixel_Avg.calls a1 a2 t112 _ A41.out).mono ?_); clear A41; rintro e w43 ⟨rfl, hb⟩; refine ⟨_, rfl, ?_⟩; have n0_ := Aside0.mk (below_step (by repeat (first | (with_reducible first | exact HB.out | apply below_alloc | apply pw_below_drewN | apply below_drew1) | exact HB.out)) hb); clear HB; have HB := n0_; clear n0_; (try clear hb); (try clear hb2); (try clear hk); (try clear hi)) | (go_at_call 15; (with_reducible refine (pixel_Avg.calls a1 a2 t112 _ A41.out).mono ?_); clear A41; rintro e w43 ⟨rfl, hb⟩; have n0_ := Aside0.mk (below_step (by repeat (first | (with_reducible first | exact HB.out | apply below_alloc | apply pw_below_drewN | apply below_drew1) | exact HB.out)) hb); clear HB; have HB := n0_; clear n0_; (try clear hb); (try clear hb2); (try clear hk); (try clear hi)) | ((with_reducible refine gate_callee (f := 18) rfl ?_); refine goesL_ (some 78) rfl rfl Try.func18 (by kernel_rfl) rfl #[.int .u32 t112, .int .u32 a3] rfl (by (try simp only [List.map_toArray, List.map_cons, List.map_nil]); first | done | rfl | (simp only [List.length_drop, List.length_take]; rfl)) ?_; (with_reducible refine (pixel_Half.calls t112 a3 t113 _ A42.out).mono ?_); clear A42; rintro e w44 ⟨rfl, hb⟩; refine ⟨_, rfl, ?_⟩; have n0_ := Aside0.mk (below_step (by repeat (first | (with_reducible first | exact HB.out | apply below_alloc | apply pw_below_drewN | apply below_drew1) | exact HB.out)) hb); clear HB; have HB := n0_; clear n0_; (try clear hb); (try clear hb2); (try clear hk); (try clear hi)) | (go_at_call 18; (with_reducible refine (pixel_Half.calls t112 a3 t113 _ A42.out).mono ?_); clear A42; rintro e w44 ⟨rfl, hb⟩; have n0_ := Aside0.mk (below_step (by repeat (first | (with_reducible first | exact HB.out | apply below_alloc | apply pw_below_drewN | apply below_drew1) | exact HB.out)) hb); clear HB; have HB := n0_; clear n0_; (try clear hb); (try clear hb2); (try clear hk); (try clear hi)))
                            go_ret
                            exact ⟨by first | rfl | (simp [errW_none, errW_some] <;> rfl) | (simp [*, errW_none, errW_some] <;> rfl), by repeat (first | (with_reducible first | exact HB.out | apply below_alloc | apply pw_below_drewN | apply below_drew1) | exact HB.out)⟩
                          · rw [if_neg c40] at H
                            have c40b0 : (a0 == 13) = false := beq_eq_false_iff_ne.mpr c40
                            have c40b1 : (a0 != 13) = true := bne_iff_ne.mpr c40
                            obtain rfl := Option.some.inj H
                            go_enter Try.func8, Try.ntmps8
                            go_wp2
                            go_ret
                            exact ⟨by first | rfl | (simp [errW_none, errW_some] <;> rfl) | (simp [*, errW_none, errW_some] <;> rfl), by repeat (first | (with_reducible first | exact HB.out | apply below_alloc | apply pw_below_drewN | apply below_drew1) | exact HB.out)⟩

/-! ### marquetrylaw12_answers: function 7 -/
def marquetrylaw12_answers.f  : Option (Bool) := (guess_Guess.f 0 1 2 3 4).bind fun t114 => (if t114 = 4278190080 then ((guess_Guess.f 3 1 2 3 4).bind fun t115 => (some (t115 == 4))) else (some false))
set_option maxHeartbeats 8000000 in
set_option maxRecDepth 100000 in
theorem marquetrylaw12_answers.calls  (r : Bool) (w : World) (h : marquetrylaw12_answers.f  = some r) :
    Calls Try.prog 7 #[] w fun e w' => e = .returned (.bool r) ∧ Below w.heap.size w w' := by
  have HB := Aside0.mk (Below.refl w.heap.size w)
  have H : ((guess_Guess.f 0 1 2 3 4).bind fun t114 => (if t114 = 4278190080 then ((guess_Guess.f 3 1 2 3 4).bind fun t115 => (some (t115 == 4))) else (some false))) = some r := h
  clear h
  replace H := Option.bind_eq_some_iff.mp H
  obtain ⟨t114, A10, H⟩ := H
  replace H : (if t114 = 4278190080 then ((guess_Guess.f 3 1 2 3 4).bind fun t115 => (some (t115 == 4))) else (some false)) = some r := H
  have A1 := Aside0.mk A10
  clear A10
  by_cases c2 : t114 = 4278190080
  · rw [if_pos c2] at H
    have c2b0 : (t114 == 4278190080) = true := beq_iff_eq.mpr c2
    have c2b1 : (t114 != 4278190080) = false := bne_eq_false_iff_eq.mpr c2
    clear c2
    replace H := Option.bind_eq_some_iff.mp H
    obtain ⟨t115, A30, H⟩ := H
    replace H : (some (t115 == 4)) = some r := H
    have A3 := Aside0.mk A30
    clear A30
    obtain rfl := Option.some.inj H
    go_enter Try.func7, Try.ntmps7
    go_wp2_with (first | ((with_reducible refine gate_callee (f := 8) rfl ?_); refine goesL_ (some 1) rfl rfl Try.func8 (by kernel_rfl) rfl #[.int .i64 0, .int .u32 1, .int .u32 2, .int .u32 3, .int .u32 4] rfl (by (try simp only [List.map_toArray, List.map_cons, List.map_nil]); first | done | rfl | (simp only [List.length_drop, List.length_take]; rfl)) ?_; (with_reducible refine (guess_Guess.calls 0 1 2 3 4 t114 _ A1.out).mono ?_); clear A1; rintro e w4 ⟨rfl, hb⟩; refine ⟨_, rfl, ?_⟩; have n0_ := Aside0.mk (below_step (by repeat (first | (with_reducible first | exact HB.out | apply below_alloc | apply pw_below_drewN | apply below_drew1) | exact HB.out)) hb); clear HB; have HB := n0_; clear n0_; (try clear hb); (try clear hb2); (try clear hk); (try clear hi)) | (go_at_call 8; (with_reducible refine (guess_Guess.calls 0 1 2 3 4 t114 _ A1.out).mono ?_); clear A1; rintro e w4 ⟨rfl, hb⟩; have n0_ := Aside0.mk (below_step (by repeat (first | (with_reducible first | exact HB.out | apply below_alloc | apply pw_below_drewN | apply below_drew1) | exact HB.out)) hb); clear HB; have HB := n0_; clear n0_; (try clear hb); (try clear hb2); (try clear hk); (try clear hi)) | (go_at_call 8; (with_reducible refine (guess_Guess.calls 3 1 2 3 4 t115 _ A3.out).mono ?_); clear A3; rintro e w5 ⟨rfl, hb⟩; have n0_ := Aside0.mk (below_step (by repeat (first | (with_reducible first | exact HB.out | apply below_alloc | apply pw_below_drewN | apply below_drew1) | exact HB.out)) hb); clear HB; have HB := n0_; clear n0_; (try clear hb); (try clear hb2); (try clear hk); (try clear hi)))
    go_ret
    exact ⟨by first | rfl | (simp [errW_none, errW_some] <;> rfl) | (simp [*, errW_none, errW_some] <;> rfl), by repeat (first | (with_reducible first | exact HB.out | apply below_alloc | apply pw_below_drewN | apply below_drew1) | exact HB.out)⟩
  · rw [if_neg c2] at H
    have c2b0 : (t114 == 4278190080) = false := beq_eq_false_iff_ne.mpr c2
    have c2b1 : (t114 != 4278190080) = true := bne_iff_ne.mpr c2
    obtain rfl := Option.some.inj H
    go_enter Try.func7, Try.ntmps7
    go_wp2_with (first | ((with_reducible refine gate_callee (f := 8) rfl ?_); refine goesL_ (some 1) rfl rfl Try.func8 (by kernel_rfl) rfl #[.int .i64 0, .int .u32 1, .int .u32 2, .int .u32 3, .int .u32 4] rfl (by (try simp only [List.map_toArray, List.map_cons, List.map_nil]); first | done | rfl | (simp only [List.length_drop, List.length_take]; rfl)) ?_; (with_reducible refine (guess_Guess.calls 0 1 2 3 4 t114 _ A1.out).mono ?_); clear A1; rintro e w6 ⟨rfl, hb⟩; refine ⟨_, rfl, ?_⟩; have n0_ := Aside0.mk (below_step (by repeat (first | (with_reducible first | exact HB.out | apply below_alloc | apply pw_below_drewN | apply below_drew1) | exact HB.out)) hb); clear HB; have HB := n0_; clear n0_; (try clear hb); (try clear hb2); (try clear hk); (try clear hi)) | (go_at_call 8; (with_reducible refine (guess_Guess.calls 0 1 2 3 4 t114 _ A1.out).mono ?_); clear A1; rintro e w6 ⟨rfl, hb⟩; have n0_ := Aside0.mk (below_step (by repeat (first | (with_reducible first | exact HB.out | apply below_alloc | apply pw_below_drewN | apply below_drew1) | exact HB.out)) hb); clear HB; have HB := n0_; clear n0_; (try clear hb); (try clear hb2); (try clear hk); (try clear hi)))
    go_ret
    exact ⟨by first | rfl | (simp [errW_none, errW_some] <;> rfl) | (simp [*, errW_none, errW_some] <;> rfl), by repeat (first | (with_reducible first | exact HB.out | apply below_alloc | apply pw_below_drewN | apply below_drew1) | exact HB.out)⟩

/-! ### marquetryref11_Part: function 33 -/
def marquetryref11_Part.f (a0 : Int) (a1 : Int) : Option (Int) := if 0 ≤ (IntKind.u64.wrap (wrap64 (24 - (wrap64 (8 * a1))))) then (some (wrap64 (Int.tmod (shr .u32 a0 (IntKind.u64.wrap (wrap64 (24 - (wrap64 (8 * a1)))))) 256))) else (none)
set_option maxHeartbeats 8000000 in
set_option maxRecDepth 100000 in
theorem marquetryref11_Part.calls (a0 : Int) (a1 : Int) (r : Int) (w : World) (h : marquetryref11_Part.f a0 a1 = some r) :
    Calls Try.prog 33 #[.int .u32 a0, .int .i64 a1] w fun e w' => e = .returned (.int .i64 r) ∧ Drawn0 w w' := by
  have H : (if 0 ≤ (IntKind.u64.wrap (wrap64 (24 - (wrap64 (8 * a1))))) then (some (wrap64 (Int.tmod (shr .u32 a0 (IntKind.u64.wrap (wrap64 (24 - (wrap64 (8 * a1)))))) 256))) else (none)) = some r := h
  clear h
  obtain ⟨ji3, hji3⟩ : ∃ j_ : Int, (IntKind.u64.wrap (wrap64 (24 - (wrap64 (8 * a1))))) = j_ := ⟨_, rfl⟩
  replace H : (if 0 ≤ (ji3) then (some (wrap64 (Int.tmod (shr .u32 a0 (ji3)) 256))) else (none)) = some r := by first | (rw [hji3] at H; exact H) | (simp only [hji3] at H ⊢; exact H)
  by_cases c4 : 0 ≤ (ji3)
  · rw [if_pos c4] at H
    have c4b0 := eq_true c4
    have c4b1 : decide (0 ≤ (ji3)) = true := decide_eq_true c4
    clear c4
    obtain ⟨ji5, hji5⟩ : ∃ j_ : Int, (shr .u32 a0 (ji3)) = j_ := ⟨_, rfl⟩
    replace H : (some (wrap64 (Int.tmod (ji5) 256))) = some r := by first | (rw [hji5] at H; exact H) | (simp only [hji5] at H ⊢; exact H)
    (try (have hji5k : 0 ≤ (ji3) := by omega))
    (try (have hji5K := eq_true hji5k))
    (try (have hji5D : decide (0 ≤ (ji3)) = true := decide_eq_true hji5k))
    have hji5_ : (a0 / 2 ^ min (ji3).toNat 32) = ji5 := hji5
    have hji5z : (ji3) ≤ 32 → (a0 / 2 ^ (ji3).toNat) = ji5 := shr_small hji5
    obtain rfl := Option.some.inj H
    go_enter Try.func33, Try.ntmps33
    go_wp2
    go_ret
    exact ⟨by first | rfl | (simp; done) | (simp only [← hji3, ← hji5] <;> (first | rfl | simp)) | (simp [*]; done), by repeat (first | exact Drawn0.refl _ | apply Drawn0.step)⟩
  · rw [if_neg c4] at H
    exact absurd H (by simp)

/-! ### marquetryref11_Pick: function 20 -/
def marquetryref11_Pick.l0 : Nat → Int → Int → Int → Int → Int → Int → Option (Int)
  | 0, _, _, _, _, _, _ => none
  | k + 1, x0, x1, x2, x7, x8, x9 => if x9 < 4 then ((marquetryref11_Part.f x1 x9).bind fun t116 => ((marquetryref11_Part.f x2 x9).bind fun t117 => ((marquetryref11_Part.f x0 x9).bind fun t118 => ((marquetryref11_Part.f x2 x9).bind fun t119 => (if (wrap64 (t116 - t117)) < 0 then (if (wrap64 (t118 - t119)) < 0 then (marquetryref11_Pick.l0 k x0 x1 x2 (wrap64 (x7 + (wrap64 (-(wrap64 (t116 - t117)))))) (wrap64 (x8 + (wrap64 (-(wrap64 (t118 - t119)))))) (wrap64 (x9 + 1))) else (marquetryref11_Pick.l0 k x0 x1 x2 (wrap64 (x7 + (wrap64 (-(wrap64 (t116 - t117)))))) (wrap64 (x8 + (wrap64 (t118 - t119)))) (wrap64 (x9 + 1)))) else (if (wrap64 (t118 - t119)) < 0 then (marquetryref11_Pick.l0 k x0 x1 x2 (wrap64 (x7 + (wrap64 (t116 - t117)))) (wrap64 (x8 + (wrap64 (-(wrap64 (t118 - t119)))))) (wrap64 (x9 + 1))) else (marquetryref11_Pick.l0 k x0 x1 x2 (wrap64 (x7 + (wrap64 (t116 - t117)))) (wrap64 (x8 + (wrap64 (t118 - t119)))) (wrap64 (x9 + 1))))))))) else (if x7 < x8 then (some x0) else (some x1))
def marquetryref11_Pick.f (k : Nat) (a0 : Int) (a1 : Int) (a2 : Int) : Option (Int) := marquetryref11_Pick.l0 k a0 a1 a2 0 0 0
theorem marquetryref11_Pick.mono_l : ∀ k, (∀ y0 y1 y2 y3 y4 y5, LeO (marquetryref11_Pick.l0 k y0 y1 y2 y3 y4 y5) (marquetryref11_Pick.l0 (k + 1) y0 y1 y2 y3 y4 y5))
  | 0 => fun _ _ _ _ _ _ r h => by simp [marquetryref11_Pick.l0] at h
  | k + 1 => by
    have ih0 := marquetryref11_Pick.mono_l k
    · intro y0 y1 y2 y3 y4 y5
      unfold marquetryref11_Pick.l0
      repeat' first
      | (with_reducible exact ih0 _ _ _ _ _ _)
      | (with_reducible exact LeO.refl _)
      | (with_reducible exact LeO.none _)
      | (with_reducible refine LeO.ite ?_ ?_)
      | (with_reducible refine LeO.bind ?_ (fun _ => ?_))
      | exact ih0 _ _ _ _ _ _
      | exact LeO.none _
      | refine LeO.ite ?_ ?_
      | refine LeO.bind ?_ (fun _ => ?_)
theorem marquetryref11_Pick.mono : ∀ a0 a1 a2 k, LeO (marquetryref11_Pick.f k a0 a1 a2) (marquetryref11_Pick.f (k + 1) a0 a1 a2) := by
  intro a0 a1 a2 k
  have ih0 := marquetryref11_Pick.mono_l k
  unfold marquetryref11_Pick.f
  repeat' first
      | (with_reducible exact ih0 _ _ _ _ _ _)
      | (with_reducible exact LeO.refl _)
      | (with_reducible exact LeO.none _)
      | (with_reducible refine LeO.ite ?_ ?_)
      | (with_reducible refine LeO.bind ?_ (fun _ => ?_))
      | exact ih0 _ _ _ _ _ _
      | exact LeO.none _
      | refine LeO.ite ?_ ?_
      | refine LeO.bind ?_ (fun _ => ?_)
set_option maxHeartbeats 8000000 in
set_option maxRecDepth 100000 in
theorem marquetryref11_Pick.calls (k : Nat) (a0 : Int) (a1 : Int) (a2 : Int) (r : Int) (w : World) (h : marquetryref11_Pick.f k a0 a1 a2 = some r) :
    Calls Try.prog 20 #[.int .u32 a0, .int .u32 a1, .int .u32 a2] w fun e w' => e = .returned (.int .u32 r) ∧ Drawn0 w w' := by
  have H : (marquetryref11_Pick.l0 k a0 a1 a2 0 0 0) = some r := h
  clear h
  have H' := Aside0.mk H
  clear H
  go_enter Try.func20, Try.ntmps20
  go_wp2
  go_loopg [7, 8, 9] k (fun kq v7 v8 v9 w' => ∃ (x7_1 : Int) (x8_1 : Int) (x9_1 : Int), v7 = .int .i64 x7_1 ∧ v8 = .int .i64 x8_1 ∧ v9 = .int .i64 x9_1 ∧ Aside0 (marquetryref11_Pick.l0 kq a0 a1 a2 x7_1 x8_1 x9_1 = some r) ∧ Aside0 (kq ≤ k) ∧ Drawn0 w w')
  case atStart => exact ⟨(0), (0), (0), (by first | rfl | (simp; done) | (simp [*]; done)), (by first | rfl | (simp; done) | (simp [*]; done)), (by first | rfl | (simp; done) | (simp [*]; done)), H', ⟨Nat.le_refl _⟩, by repeat (first | exact Drawn0.refl _ | apply Drawn0.step)⟩
  case round =>
    clear H'
    try clear c2
    try clear p2
    obtain ⟨x7_1, x8_1, x9_1, rfl, rfl, rfl, HA, HK1, ⟨m1, rfl⟩⟩ := hrel
    cases gk with
    | zero => exact absurd HA.out (by simp [marquetryref11_Pick.l0])
    | succ k1 =>
      have H := HA.out
      clear HA
      simp only [marquetryref11_Pick.l0] at H
      by_cases c4 : x9_1 < 4
      · rw [if_pos c4] at H
        have c4b0 : decide (x9_1 < 4) = true := decide_eq_true c4
        clear c4
        replace H := Option.bind_eq_some_iff.mp H
        obtain ⟨t116, A50, H⟩ := H
        replace H : ((marquetryref11_Part.f a2 x9_1).bind fun t117 => ((marquetryref11_Part.f a0 x9_1).bind fun t118 => ((marquetryref11_Part.f a2 x9_1).bind fun t119 => (if (wrap64 (t116 - t117)) < 0 then (if (wrap64 (t118 - t119)) < 0 then (marquetryref11_Pick.l0 k1 a0 a1 a2 (wrap64 (x7_1 + (wrap64 (-(wrap64 (t116 - t117)))))) (wrap64 (x8_1 + (wrap64 (-(wrap64 (t118 - t119)))))) (wrap64 (x9_1 + 1))) else (marquetryref11_Pick.l0 k1 a0 a1 a2 (wrap64 (x7_1 + (wrap64 (-(wrap64 (t116 - t117)))))) (wrap64 (x8_1 + (wrap64 (t118 - t119)))) (wrap64 (x9_1 + 1)))) else (if (wrap64 (t118 - t119)) < 0 then (marquetryref11_Pick.l0 k1 a0 a1 a2 (wrap64 (x7_1 + (wrap64 (t116 - t117)))) (wrap64 (x8_1 + (wrap64 (-(wrap64 (t118 - t119)))))) (wrap64 (x9_1 + 1))) else (marquetryref11_Pick.l0 k1 a0 a1 a2 (wrap64 (x7_1 + (wrap64 (t116 - t117)))) (wrap64 (x8_1 + (wrap64 (t118 - t119)))) (wrap64 (x9_1 + 1)))))))) = some r := H
        have A5 := Aside0.mk A50
        clear A50
        replace H := Option.bind_eq_some_iff.mp H
        obtain ⟨t117, A60, H⟩ := H
        replace H : ((marquetryref11_Part.f a0 x9_1).bind fun t118 => ((marquetryref11_Part.f a2 x9_1).bind fun t119 => (if (wrap64 (t116 - t117)) < 0 then (if (wrap64 (t118 - t119)) < 0 then (marquetryref11_Pick.l0 k1 a0 a1 a2 (wrap64 (x7_1 + (wrap64 (-(wrap64 (t116 - t117)))))) (wrap64 (x8_1 + (wrap64 (-(wrap64 (t118 - t119)))))) (wrap64 (x9_1 + 1))) else (marquetryref11_Pick.l0 k1 a0 a1 a2 (wrap64 (x7_1 + (wrap64 (-(wrap64 (t116 - t117)))))) (wrap64 (x8_1 + (wrap64 (t118 - t119)))) (wrap64 (x9_1 + 1)))) else (if (wrap64 (t118 - t119)) < 0 then (marquetryref11_Pick.l0 k1 a0 a1 a2 (wrap64 (x7_1 + (wrap64 (t116 - t117)))) (wrap64 (x8_1 + (wrap64 (-(wrap64 (t118 - t119)))))) (wrap64 (x9_1 + 1))) else (marquetryref11_Pick.l0 k1 a0 a1 a2 (wrap64 (x7_1 + (wrap64 (t116 - t117)))) (wrap64 (x8_1 + (wrap64 (t118 - t119)))) (wrap64 (x9_1 + 1))))))) = some r := H
        have A6 := Aside0.mk A60
        clear A60
        replace H := Option.bind_eq_some_iff.mp H
        obtain ⟨t118, A70, H⟩ := H
        replace H : ((marquetryref11_Part.f a2 x9_1).bind fun t119 => (if (wrap64 (t116 - t117)) < 0 then (if (wrap64 (t118 - t119)) < 0 then (marquetryref11_Pick.l0 k1 a0 a1 a2 (wrap64 (x7_1 + (wrap64 (-(wrap64 (t116 - t117)))))) (wrap64 (x8_1 + (wrap64 (-(wrap64 (t118 - t119)))))) (wrap64 (x9_1 + 1))) else (marquetryref11_Pick.l0 k1 a0 a1 a2 (wrap64 (x7_1 + (wrap64 (-(wrap64 (t116 - t117)))))) (wrap64 (x8_1 + (wrap64 (t118 - t119)))) (wrap64 (x9_1 + 1)))) else (if (wrap64 (t118 - t119)) < 0 then (marquetryref11_Pick.l0 k1 a0 a1 a2 (wrap64 (x7_1 + (wrap64 (t116 - t117)))) (wrap64 (x8_1 + (wrap64 (-(wrap64 (t118 - t119)))))) (wrap64 (x9_1 + 1))) else (marquetryref11_Pick.l0 k1 a0 a1 a2 (wrap64 (x7_1 + (wrap64 (t116 - t117)))) (wrap64 (x8_1 + (wrap64 (t118 - t119)))) (wrap64 (x9_1 + 1)))))) = some r := H
        have A7 := Aside0.mk A70
        clear A70
        replace H := Option.bind_eq_some_iff.mp H
        obtain ⟨t119, A80, H⟩ := H
        replace H : (if (wrap64 (t116 - t117)) < 0 then (if (wrap64 (t118 - t119)) < 0 then (marquetryref11_Pick.l0 k1 a0 a1 a2 (wrap64 (x7_1 + (wrap64 (-(wrap64 (t116 - t117)))))) (wrap64 (x8_1 + (wrap64 (-(wrap64 (t118 - t119)))))) (wrap64 (x9_1 + 1))) else (marquetryref11_Pick.l0 k1 a0 a1 a2 (wrap64 (x7_1 + (wrap64 (-(wrap64 (t116 - t117)))))) (wrap64 (x8_1 + (wrap64 (t118 - t119)))) (wrap64 (x9_1 + 1)))) else (if (wrap64 (t118 - t119)) < 0 then (marquetryref11_Pick.l0 k1 a0 a1 a2 (wrap64 (x7_1 + (wrap64 (t116 - t117)))) (wrap64 (x8_1 + (wrap64 (-(wrap64 (t118 - t119)))))) (wrap64 (x9_1 + 1))) else (marquetryref11_Pick.l0 k1 a0 a1 a2 (wrap64 (x7_1 + (wrap64 (t116 - t117)))) (wrap64 (x8_1 + (wrap64 (t118 - t119)))) (wrap64 (x9_1 + 1))))) = some r := H
        have A8 := Aside0.mk A80
        clear A80
        by_cases c9 : (wrap64 (t116 - t117)) < 0
        · rw [if_pos c9] at H
          have c9b0 : decide ((wrap64 (t116 - t117)) < 0) = true := decide_eq_true c9
          clear c9
          by_cases c10 : (wrap64 (t118 - t119)) < 0
          · rw [if_pos c10] at H
            have c10b0 : decide ((wrap64 (t118 - t119)) < 0) = true := decide_eq_true c10
            clear c10
            have H' := Aside0.mk H
            clear H
            go_wp2_with (first | ((with_reducible refine gate_callee (f := 33) rfl ?_); refine goesL_ (some 18) rfl rfl Try.func33 (by kernel_rfl) rfl #[.int .u32 a1, .int .i64 x9_1] rfl (by (try simp only [List.map_toArray, List.map_cons, List.map_nil]); first | done | rfl | (simp only [List.length_drop, List.length_take]; rfl)) ?_; (with_reducible refine (marquetryref11_Part.calls a1 x9_1 t116 _ A5.out).mono ?_); clear A5; rintro e w' ⟨rfl, ⟨nd, rfl⟩⟩; refine ⟨_, rfl, ?_⟩) | (go_at_call 33; (with_reducible refine (marquetryref11_Part.calls a1 x9_1 t116 _ A5.out).mono ?_); clear A5; rintro e w' ⟨rfl, ⟨nd, rfl⟩⟩) | ((with_reducible refine gate_callee (f := 33) rfl ?_); refine goesL_ (some 21) rfl rfl Try.func33 (by kernel_rfl) rfl #[.int .u32 a2, .int .i64 x9_1] rfl (by (try simp only [List.map_toArray, List.map_cons, List.map_nil]); first | done | rfl | (simp only [List.length_drop, List.length_take]; rfl)) ?_; (with_reducible refine (marquetryref11_Part.calls a2 x9_1 t117 _ A6.out).mono ?_); clear A6; rintro e w' ⟨rfl, ⟨nd, rfl⟩⟩; refine ⟨_, rfl, ?_⟩) | (go_at_call 33; (with_reducible refine (marquetryref11_Part.calls a2 x9_1 t117 _ A6.out).mono ?_); clear A6; rintro e w' ⟨rfl, ⟨nd, rfl⟩⟩) | ((with_reducible refine gate_callee (f := 33) rfl ?_); refine goesL_ (some 25) rfl rfl Try.func33 (by kernel_rfl) rfl #[.int .u32 a0, .int .i64 x9_1] rfl (by (try simp only [List.map_toArray, List.map_cons, List.map_nil]); first | done | rfl | (simp only [List.length_drop, List.length_take]; rfl)) ?_; (with_reducible refine (marquetryref11_Part.calls a0 x9_1 t118 _ A7.out).mono ?_); clear A7; rintro e w' ⟨rfl, ⟨nd, rfl⟩⟩; refine ⟨_, rfl, ?_⟩) | (go_at_call 33; (with_reducible refine (marquetryref11_Part.calls a0 x9_1 t118 _ A7.out).mono ?_); clear A7; rintro e w' ⟨rfl, ⟨nd, rfl⟩⟩) | ((with_reducible refine gate_callee (f := 33) rfl ?_); refine goesL_ (some 28) rfl rfl Try.func33 (by kernel_rfl) rfl #[.int .u32 a2, .int .i64 x9_1] rfl (by (try simp only [List.map_toArray, List.map_cons, List.map_nil]); first | done | rfl | (simp only [List.length_drop, List.length_take]; rfl)) ?_; (with_reducible refine (marquetryref11_Part.calls a2 x9_1 t119 _ A8.out).mono ?_); clear A8; rintro e w' ⟨rfl, ⟨nd, rfl⟩⟩; refine ⟨_, rfl, ?_⟩) | (go_at_call 33; (with_reducible refine (marquetryref11_Part.calls a2 x9_1 t119 _ A8.out).mono ?_); clear A8; rintro e w' ⟨rfl, ⟨nd, rfl⟩⟩))
            go_roundg k1
            case measure => have := HK1.out; omega
            case rel => exact ⟨(wrap64 (x7_1 + (wrap64 (-(wrap64 (t116 - t117)))))), (wrap64 (x8_1 + (wrap64 (-(wrap64 (t118 - t119)))))), (wrap64 (x9_1 + 1)), (by first | rfl | (simp; done) | (simp [*]; done)), (by first | rfl | (simp; done) | (simp [*]; done)), (by first | rfl | (simp; done) | (simp [*]; done)), H', ⟨by have := HK1.out; omega⟩, by repeat (first | exact Drawn0.refl _ | apply Drawn0.step)⟩
          · rw [if_neg c10] at H
            have c10b0 : decide ((wrap64 (t118 - t119)) < 0) = false := decide_eq_false c10
            clear c10
            have H' := Aside0.mk H
            clear H
            go_wp2_with (first | ((with_reducible refine gate_callee (f := 33) rfl ?_); refine goesL_ (some 18) rfl rfl Try.func33 (by kernel_rfl) rfl #[.int .u32 a1, .int .i64 x9_1] rfl (by (try simp only [List.map_toArray, List.map_cons, List.map_nil]); first | done | rfl | (simp only [List.length_drop, List.length_take]; rfl)) ?_; (with_reducible refine (marquetryref11_Part.calls a1 x9_1 t116 _ A5.out).mono ?_); clear A5; rintro e w' ⟨rfl, ⟨nd, rfl⟩⟩; refine ⟨_, rfl, ?_⟩) | (go_at_call 33; (with_reducible refine (marquetryref11_Part.calls a1 x9_1 t116 _ A5.out).mono ?_); clear A5; rintro e w' ⟨rfl, ⟨nd, rfl⟩⟩) | ((with_reducible refine gate_callee (f := 33) rfl ?_); refine goesL_ (some 21) rfl rfl Try.func33 (by kernel_rfl) rfl #[.int .u32 a2, .int .i64 x9_1] rfl (by (try simp only [List.map_toArray, List.map_cons, List.map_nil]); first | done | rfl | (simp only [List.length_drop, List.length_take]; rfl)) ?_; (with_reducible refine (marquetryref11_Part.calls a2 x9_1 t117 _ A6.out).mono ?_); clear A6; rintro e w' ⟨rfl, ⟨nd, rfl⟩⟩; refine ⟨_, rfl, ?_⟩) | (go_at_call 33; (with_reducible refine (marquetryref11_Part.calls a2 x9_1 t117 _ A6.out).mono ?_); clear A6; rintro e w' ⟨rfl, ⟨nd, rfl⟩⟩) | ((with_reducible refine gate_callee (f := 33) rfl ?_); refine goesL_ (some 25) rfl rfl Try.func33 (by kernel_rfl) rfl #[.int .u32 a0, .int .i64 x9_1] rfl (by (try simp only [List.map_toArray, List.map_cons, List.map_nil]); first | done | rfl | (simp only [List.length_drop, List.length_take]; rfl)) ?_; (with_reducible refine (marquetryref11_Part.calls a0 x9_1 t118 _ A7.out).mono ?_); clear A7; rintro e w' ⟨rfl, ⟨nd, rfl⟩⟩; refine ⟨_, rfl, ?_⟩) | (go_at_call 33; (with_reducible refine (marquetryref11_Part.calls a0 x9_1 t118 _ A7.out).mono ?_); clear A7; rintro e w' ⟨rfl, ⟨nd, rfl⟩⟩) | ((with_reducible refine gate_callee (f := 33) rfl ?_); refine goesL_ (some 28) rfl rfl Try.func33 (by kernel_rfl) rfl #[.int .u32 a2, .int .i64 x9_1] rfl (by (try simp only [List.map_toArray, List.map_cons, List.map_nil]); first | done | rfl | (simp only [List.length_drop, List.length_take]; rfl)) ?_; (with_reducible refine (marquetryref11_Part.calls a2 x9_1 t119 _ A8.out).mono ?_); clear A8; rintro e w' ⟨rfl, ⟨nd, rfl⟩⟩; refine ⟨_, rfl, ?_⟩) | (go_at_call 33; (with_reducible refine (marquetryref11_Part.calls a2 x9_1 t119 _ A8.out).mono ?_); clear A8; rintro e w' ⟨rfl, ⟨nd, rfl⟩⟩))
            go_roundg k1
            case measure => have := HK1.out; omega
            case rel => exact ⟨(wrap64 (x7_1 + (wrap64 (-(wrap64 (t116 - t117)))))), (wrap64 (x8_1 + (wrap64 (t118 - t119)))), (wrap64 (x9_1 + 1)), (by first | rfl | (simp; done) | (simp [*]; done)), (by first | rfl | (simp; done) | (simp [*]; done)), (by first | rfl | (simp; done) | (simp [*]; done)), H', ⟨by have := HK1.out; omega⟩, by repeat (first | exact Drawn0.refl _ | apply Drawn0.step)⟩
        · rw [if_neg c9] at H
          have c9b0 : decide ((wrap64 (t116 - t117)) < 0) = false := decide_eq_false c9
          clear c9
          by_cases c11 : (wrap64 (t118 - t119)) < 0
          · rw [if_pos c11] at H
            have c11b0 : decide ((wrap64 (t118 - t119)) < 0) = true := decide_eq_true c11
            clear c11
            have H' := Aside0.mk H
            clear H
            go_wp2_with (first | ((with_reducible refine gate_callee (f := 33) rfl ?_); refine goesL_ (some 18) rfl rfl Try.func33 (by kernel_rfl) rfl #[.int .u32 a1, .int .i64 x9_1] rfl (by (try simp only [List.map_toArray, List.map_cons, List.map_nil]); first | done | rfl | (simp only [List.length_drop, List.length_take]; rfl)) ?_; (with_reducible refine (marquetryref11_Part.calls a1 x9_1 t116 _ A5.out).mono ?_); clear A5; rintro e w' ⟨rfl, ⟨nd, rfl⟩⟩; refine ⟨_, rfl, ?_⟩) | (go_at_call 33; (with_reducible refine (marquetryref11_Part.calls a1 x9_1 t116 _ A5.out).mono ?_); clear A5; rintro e w' ⟨rfl, ⟨nd, rfl⟩⟩) | ((with_reducible refine gate_callee (f := 33) rfl ?_); refine goesL_ (some 21) rfl rfl Try.func33 (by kernel_rfl) rfl #[.int .u32 a2, .int .i64 x9_1] rfl (by (try simp only [List.map_toArray, List.map_cons, List.map_nil]); first | done | rfl | (simp only [List.length_drop, List.length_take]; rfl)) ?_; (with_reducible refine (marquetryref11_Part.calls a2 x9_1 t117 _ A6.out).mono ?_); clear A6; rintro e w' ⟨rfl, ⟨nd, rfl⟩⟩; refine ⟨_, rfl, ?_⟩) | (go_at_call 33; (with_reducible refine (marquetryref11_Part.calls a2 x9_1 t117 _ A6.out).mono ?_); clear A6; rintro e w' ⟨rfl, ⟨nd, rfl⟩⟩) | ((with_reducible refine gate_callee (f := 33) rfl ?_); refine goesL_ (some 25) rfl rfl Try.func33 (by kernel_rfl) rfl #[.int .u32 a0, .int .i64 x9_1] rfl (by (try simp only [List.map_toArray, List.map_cons, List.map_nil]); first | done | rfl | (simp only [List.length_drop, List.length_take]; rfl)) ?_; (with_reducible refine (marquetryref11_Part.calls a0 x9_1 t118 _ A7.out).mono ?_); clear A7; rintro e w' ⟨rfl, ⟨nd, rfl⟩⟩; refine ⟨_, rfl, ?_⟩) | (go_at_call 33; (with_reducible refine (marquetryref11_Part.calls a0 x9_1 t118 _ A7.out).mono ?_); clear A7; rintro e w' ⟨rfl, ⟨nd, rfl⟩⟩) | ((with_reducible refine gate_callee (f := 33) rfl ?_); refine goesL_ (some 28) rfl rfl Try.func33 (by kernel_rfl) rfl #[.int .u32 a2, .int .i64 x9_1] rfl (by (try simp only [List.map_toArray, List.map_cons, List.map_nil]); first | done | rfl | (simp only [List.length_drop, List.length_take]; rfl)) ?_; (with_reducible refine (marquetryref11_Part.calls a2 x9_1 t119 _ A8.out).mono ?_); clear A8; rintro e w' ⟨rfl, ⟨nd, rfl⟩⟩; refine ⟨_, rfl, ?_⟩) | (go_at_call 33; (with_reducible refine (marquetryref11_Part.calls a2 x9_1 t119 _ A8.out).mono ?_); clear A8; rintro e w' ⟨rfl, ⟨nd, rfl⟩⟩))
            go_roundg k1
            case measure => have := HK1.out; omega
            case rel => exact ⟨(wrap64 (x7_1 + (wrap64 (t116 - t117)))), (wrap64 (x8_1 + (wrap64 (-(wrap64 (t118 - t119)))))), (wrap64 (x9_1 + 1)), (by first | rfl | (simp; done) | (simp [*]; done)), (by first | rfl | (simp; done) | (simp [*]; done)), (by first | rfl | (simp; done) | (simp [*]; done)), H', ⟨by have := HK1.out; omega⟩, by repeat (first | exact Drawn0.refl _ | apply Drawn0.step)⟩
          · rw [if_neg c11] at H
            have c11b0 : decide ((wrap64 (t118 - t119)) < 0) = false := decide_eq_false c11
            clear c11
            have H' := Aside0.mk H
            clear H
            go_wp2_with (first | ((with_reducible refine gate_callee (f := 33) rfl ?_); refine goesL_ (some 18) rfl rfl Try.func33 (by kernel_rfl) rfl #[.int .u32 a1, .int .i64 x9_1] rfl (by (try simp only [List.map_toArray, List.map_cons, List.map_nil]); first | done | rfl | (simp only [List.length_drop, List.length_take]; rfl)) ?_; (with_reducible refine (marquetryref11_Part.calls a1 x9_1 t116 _ A5.out).mono ?_); clear A5; rintro e w' ⟨rfl, ⟨nd, rfl⟩⟩; refine ⟨_, rfl, ?_⟩) | (go_at_call 33; (with_reducible refine (marquetryref11_Part.calls a1 x9_1 t116 _ A5.out).mono ?_); clear A5; rintro e w' ⟨rfl, ⟨nd, rfl⟩⟩) | ((with_reducible refine gate_callee (f := 33) rfl ?_); refine goesL_ (some 21) rfl rfl Try.func33 (by kernel_rfl) rfl #[.int .u32 a2, .int .i64 x9_1] rfl (by (try simp only [List.map_toArray, List.map_cons, List.map_nil]); first | done | rfl | (simp only [List.length_drop, List.length_take]; rfl)) ?_; (with_reducible refine (marquetryref11_Part.calls a2 x9_1 t117 _ A6.out).mono ?_); clear A6; rintro e w' ⟨rfl, ⟨nd, rfl⟩⟩; refine ⟨_, rfl, ?_⟩) | (go_at_call 33; (with_reducible refine (marquetryref11_Part.calls a2 x9_1 t117 _ A6.out).mono ?_); clear A6; rintro e w' ⟨rfl, ⟨nd, rfl⟩⟩) | ((with_reducible refine gate_callee (f := 33) rfl ?_); refine goesL_ (some 25) rfl rfl Try.func33 (by kernel_rfl) rfl #[.int .u32 a0, .int .i64 x9_1] rfl (by (try simp only [List.map_toArray, List.map_cons, List.map_nil]); first | done | rfl | (simp only [List.length_drop, List.length_take]; rfl)) ?_; (with_reducible refine (marquetryref11_Part.calls a0 x9_1 t118 _ A7.out).mono ?_); clear A7; rintro e w' ⟨rfl, ⟨nd, rfl⟩⟩; refine ⟨_, rfl, ?_⟩) | (go_at_call 33; (with_reducible refine (marquetryref11_Part.calls a0 x9_1 t118 _ A7.out).mono ?_); clear A7; rintro e w' ⟨rfl, ⟨nd, rfl⟩⟩) | ((with_reducible refine gate_callee (f := 33) rfl ?_); refine goesL_ (some 28) rfl rfl Try.func33 (by kernel_rfl) rfl #[.int .u32 a2, .int .i64 x9_1] rfl (by (try simp only [List.map_toArray, List.map_cons, List.map_nil]); first | done | rfl | (simp only [List.length_drop, List.length_take]; rfl)) ?_; (with_reducible refine (marquetryref11_Part.calls a2 x9_1 t119 _ A8.out).mono ?_); clear A8; rintro e w' ⟨rfl, ⟨nd, rfl⟩⟩; refine ⟨_, rfl, ?_⟩) | (go_at_call 33; (with_reducible refine (marquetryref11_Part.calls a2 x9_1 t119 _ A8.out).mono ?_); clear A8; rintro e w' ⟨rfl, ⟨nd, rfl⟩⟩))
            go_roundg k1
            case measure => have := HK1.out; omega
            case rel => exact ⟨(wrap64 (x7_1 + (wrap64 (t116 - t117)))), (wrap64 (x8_1 + (wrap64 (t118 - t119)))), (wrap64 (x9_1 + 1)), (by first | rfl | (simp; done) | (simp [*]; done)), (by first | rfl | (simp; done) | (simp [*]; done)), (by first | rfl | (simp; done) | (simp [*]; done)), H', ⟨by have := HK1.out; omega⟩, by repeat (first | exact Drawn0.refl _ | apply Drawn0.step)⟩
      · rw [if_neg c4] at H
        have c4b0 : decide (x9_1 < 4) = false := decide_eq_false c4
        clear c4
        by_cases c12 : x7_1 < x8_1
        · rw [if_pos c12] at H
          have c12b0 : decide (x7_1 < x8_1) = true := decide_eq_true c12
          clear c12
          obtain rfl := Option.some.inj H
          go_wp2
          go_ret
          exact ⟨by first | rfl | (simp; done) | (simp [*]; done), by repeat (first | exact Drawn0.refl _ | apply Drawn0.step)⟩
        · rw [if_neg c12] at H
          have c12b0 : decide (x7_1 < x8_1) = false := decide_eq_false c12
          clear c12
          obtain rfl := Option.some.inj H
          go_wp2
          go_ret
          exact ⟨by first | rfl | (simp; done) | (simp [*]; done), by repeat (first | exact Drawn0.refl _ | apply Drawn0.step)⟩

/-! ### marquetryref11_Guess: function 9 -/
def marquetryref11_Guess.f (k : Nat) (a0 : Int) (a1 : Int) (a2 : Int) (a3 : Int) (a4 : Int) : Option (Int) := if a0 = 1 then (some a1) else (if a0 = 2 then (some a2) else (if a0 = 3 then (some a4) else (if a0 = 4 then (some a3) else (if a0 = 5 then ((marquetryref11_Avg.f a1 a4).bind fun t120 => ((marquetryref11_Avg.f t120 a2).bind fun t121 => (some t121))) else (if a0 = 6 then ((marquetryref11_Avg.f a1 a3).bind fun t122 => (some t122)) else (if a0 = 7 then ((marquetryref11_Avg.f a1 a2).bind fun t123 => (some t123)) else (if a0 = 8 then ((marquetryref11_Avg.f a3 a2).bind fun t124 => (some t124)) else (if a0 = 9 then ((marquetryref11_Avg.f a2 a4).bind fun t125 => (some t125)) else (if a0 = 10 then ((marquetryref11_Avg.f a1 a3).bind fun t126 => ((marquetryref11_Avg.f a2 a4).bind fun t127 => ((marquetryref11_Avg.f t126 t127).bind fun t128 => (some t128)))) else (if a0 = 11 then ((marquetryref11_Pick.f k a1 a2 a3).bind fun t129 => (some t129)) else (if a0 = 12 then ((marquetryref11_Full.f a1 a2 a3).bind fun t130 => (some t130)) else (if a0 = 13 then ((marquetryref11_Avg.f a1 a2).bind fun t131 => ((marquetryref11_Half.f t131 a3).bind fun t132 => (some t132))) else (some 4278190080)))))))))))))
theorem marquetryref11_Guess.mono : ∀ a0 a1 a2 a3 a4 k, LeO (marquetryref11_Guess.f k a0 a1 a2 a3 a4) (marquetryref11_Guess.f (k + 1) a0 a1 a2 a3 a4) := by
  intro a0 a1 a2 a3 a4 k
  unfold marquetryref11_Guess.f
  repeat' first
      | (with_reducible exact marquetryref11_Pick.mono _ _ _ _)
      | (with_reducible exact LeO.refl _)
      | (with_reducible exact LeO.none _)
      | (with_reducible refine LeO.ite ?_ ?_)
      | (with_reducible refine LeO.bind ?_ (fun _ => ?_))
      | exact marquetryref11_Pick.mono _ _ _ _
      | exact LeO.none _
      | refine LeO.ite ?_ ?_
      | refine LeO.bind ?_ (fun _ => ?_)
set_option maxHeartbeats 8000000 in
set_option maxRecDepth 100000 in
theorem marquetryref11_Guess.calls (k : Nat) (a0 : Int) (a1 : Int) (a2 : Int) (a3 : Int) (a4 : Int) (r : Int) (w : World) (h : marquetryref11_Guess.f k a0 a1 a2 a3 a4 = some r) :
    Calls Try.prog 9 #[.int .i64 a0, .int .u32 a1, .int .u32 a2, .int .u32 a3, .int .u32 a4] w fun e w' => e = .returned (.int .u32 r) ∧ Below w.heap.size w w' := by
  have HB := Aside0.mk (Below.refl w.heap.size w)
  have H : (if a0 = 1 then (some a1) else (if a0 = 2 then (some a2) else (if a0 = 3 then (some a4) else (if a0 = 4 then (some a3) else (if a0 = 5 then ((marquetryref11_Avg.f a1 a4).bind fun t120 => ((marquetryref11_Avg.f t120 a2).bind fun t121 => (some t121))) else (if a0 = 6 then ((marquetryref11_Avg.f a1 a3).bind fun t122 => (some t122)) else (if a0 = 7 then ((marquetryref11_Avg.f a1 a2).bind fun t123 => (some t123)) else (if a0 = 8 then ((marquetryref11_Avg.f a3 a2).bind fun t124 => (some t124)) else (if a0 = 9 then ((marquetryref11_Avg.f a2 a4).bind fun t125 => (some t125)) else (if a0 = 10 then ((marquetryref11_Avg.f a1 a3).bind fun t126 => ((marquetryref11_Avg.f a2 a4).bind fun t127 => ((marquetryref11_Avg.f t126 t127).bind fun t128 => (some t128)))) else (if a0 = 11 then ((marquetryref11_Pick.f k a1 a2 a3).bind fun t129 => (some t129)) else (if a0 = 12 then ((marquetryref11_Full.f a1 a2 a3).bind fun t130 => (some t130)) else (if a0 = 13 then ((marquetryref11_Avg.f a1 a2).bind fun t131 => ((marquetryref11_Half.f t131 a3).bind fun t132 => (some t132))) else (some 4278190080)))))))))))))) = some r := h
  clear h
  by_cases c6 : a0 = 1
  · rw [if_pos c6] at H
    have c6b0 : (a0 == 1) = true := beq_iff_eq.mpr c6
    have c6b1 : (a0 != 1) = false := bne_eq_false_iff_eq.mpr c6
    clear c6
    obtain rfl := Option.some.inj H
    go_enter Try.func9, Try.ntmps9
    go_wp2
    go_ret
    exact ⟨by first | rfl | (simp [errW_none, errW_some] <;> rfl) | (simp [*, errW_none, errW_some] <;> rfl), by repeat (first | (with_reducible first | exact HB.out | apply below_alloc | apply pw_below_drewN | apply below_drew1) | exact HB.out)⟩
  · rw [if_neg c6] at H
    have c6b0 : (a0 == 1) = false := beq_eq_false_iff_ne.mpr c6
    have c6b1 : (a0 != 1) = true := bne_iff_ne.mpr c6
    by_cases c7 : a0 = 2
    · rw [if_pos c7] at H
      have c7b0 : (a0 == 2) = true := beq_iff_eq.mpr c7
      have c7b1 : (a0 != 2) = false := bne_eq_false_iff_eq.mpr c7
      clear c7
      obtain rfl := Option.some.inj H
      go_enter Try.func9, Try.ntmps9
      go_wp2
      go_ret
      exact ⟨by first | rfl | (simp [errW_none, errW_some] <;> rfl) | (simp [*, errW_none, errW_some] <;> rfl), by repeat (first | (with_reducible first | exact HB.out | apply below_alloc | apply pw_below_drewN | apply below_drew1) | exact HB.out)⟩
    · rw [if_neg c7] at H
      have c7b0 : (a0 == 2) = false := beq_eq_false_iff_ne.mpr c7
      have c7b1 : (a0 != 2) = true := bne_iff_ne.mpr c7
      by_cases c8 : a0 = 3
      · rw [if_pos c8] at H
        have c8b0 : (a0 == 3) = true := beq_iff_eq.mpr c8
        have c8b1 : (a0 != 3) = false := bne_eq_false_iff_eq.mpr c8
        clear c8
        obtain rfl := Option.some.inj H
        go_enter Try.func9, Try.ntmps9
        go_wp2
        go_ret
        exact ⟨by first | rfl | (simp [errW_none, errW_some] <;> rfl) | (simp [*, errW_none, errW_some] <;> rfl), by repeat (first | (with_reducible first | exact HB.out | apply below_alloc | apply pw_below_drewN | apply below_drew1) | exact HB.out)⟩
      · rw [if_neg c8] at H
        have c8b0 : (a0 == 3) = false := beq_eq_false_iff_ne.mpr c8
        have c8b1 : (a0 != 3) = true := bne_iff_ne.mpr c8
        by_cases c9 : a0 = 4
        · rw [if_pos c9] at H
          have c9b0 : (a0 == 4) = true := beq_iff_eq.mpr c9
          have c9b1 : (a0 != 4) = false := bne_eq_false_iff_eq.mpr c9
          clear c9
          obtain rfl := Option.some.inj H
          go_enter Try.func9, Try.ntmps9
          go_wp2
          go_ret
          exact ⟨by first | rfl | (simp [errW_none, errW_some] <;> rfl) | (simp [*, errW_none, errW_some] <;> rfl), by repeat (first | (with_reducible first | exact HB.out | apply below_alloc | apply pw_below_drewN | apply below_drew1) | exact HB.out)⟩
        · rw [if_neg c9] at H
          have c9b0 : (a0 == 4) = false := beq_eq_false_iff_ne.mpr c9
          have c9b1 : (a0 != 4) = true := bne_iff_ne.mpr c9
          by_cases c10 : a0 = 5
          · rw [if_pos c10] at H
            have c10b0 : (a0 == 5) = true := beq_iff_eq.mpr c10
            have c10b1 : (a0 != 5) = false := bne_eq_false_iff_eq.mpr c10
            clear c10
            replace H := Option.bind_eq_some_iff.mp H
            obtain ⟨t120, A110, H⟩ := H
            replace H : ((marquetryref11_Avg.f t120 a2).bind fun t121 => (some t121)) = some r := H
            have A11 := Aside0.mk A110
            clear A110
            replace H := Option.bind_eq_some_iff.mp H
            obtain ⟨t121, A120, H⟩ := H
            replace H : (some t121) = some r := H
            have A12 := Aside0.mk A120
            clear A120
            obtain rfl := Option.some.inj H
            go_enter Try.func9, Try.ntmps9
            go_wp2_with (first | ((with_reducible refine gate_callee (f := 19) rfl ?_); refine goesL_ (some 28) rfl rfl Try.func19 (by kernel_rfl) rfl #[.int .u32 a1, .int .u32 a4] rfl (by (try simp only [List.map_toArray, List.map_cons, List.map_nil]); first | done | rfl | (simp only [List.length_drop, List.length_take]; rfl)) ?_; (with_reducible refine (marquetryref11_Avg.calls a1 a4 t120 _ A11.out).mono ?_); clear A11; rintro e w13 ⟨rfl, hb⟩; refine ⟨_, rfl, ?_⟩; have n0_ := Aside0.mk (below_step (by repeat (first | (with_reducible first | exact HB.out | apply below_alloc | apply pw_below_drewN | apply below_drew1) | exact HB.out)) hb); clear HB; have HB := n0_; clear n0_; (try clear hb); (try clear hb2); (try clear hk); (try clear hi)) | (go_at_call 19; (with_reducible refine (marquetryref11_Avg.calls a1 a4 t120 _ A11.out).mono ?_); clear A11; rintro e w13 ⟨rfl, hb⟩; have n0_ := Aside0.mk (below_step (by repeat (first | (with_reducible first | exact HB.out | apply below_alloc | apply pw_below_drewN | apply below_drew1) | exact HB.out)) hb); clear HB; have HB := n0_; clear n0_; (try clear hb); (try clear hb2); (try clear hk); (try clear hi)) | ((with_reducible refine gate_callee (f := 19) rfl ?_); refine goesL_ (some 30) rfl rfl Try.func19 (by kernel_rfl) rfl #[.int .u32 t120, .int .u32 a2] rfl (by (try simp only [List.map_toArray, List.map_cons, List.map_nil]); first | done | rfl | (simp only [List.length_drop, List.length_take]; rfl)) ?_; (with_reducible refine (marquetryref11_Avg.calls t120 a2 t121 _ A12.out).mono ?_); clear A12; rintro e w14 ⟨rfl, hb⟩; refine ⟨_, rfl, ?_⟩; have n0_ := Aside0.mk (below_step (by repeat (first | (with_reducible first | exact HB.out | apply below_alloc | apply pw_below_drewN | apply below_drew1) | exact HB.out)) hb); clear HB; have HB := n0_; clear n0_; (try clear hb); (try clear hb2); (try clear hk); (try clear hi)) | (go_at_call 19; (with_reducible refine (marquetryref11_Avg.calls t120 a2 t121 _ A12.out).mono ?_); clear A12; rintro e w14 ⟨rfl, hb⟩; have n0_ := Aside0.mk (below_step (by repeat (first | (with_reducible first | exact HB.out | apply below_alloc | apply pw_below_drewN | apply below_drew1) | exact HB.out)) hb); clear HB; have HB := n0_; clear n0_; (try clear hb); (try clear hb2); (try clear hk); (try clear hi)))
            go_ret
            exact ⟨by first | rfl | (simp [errW_none, errW_some] <;> rfl) | (simp [*, errW_none, errW_some] <;> rfl), by repeat (first | (with_reducible first | exact HB.out | apply below_alloc | apply pw_below_drewN | apply below_drew1) | exact HB.out)⟩
          · rw [if_neg c10] at H
            have c10b0 : (a0 == 5) = false := beq_eq_false_iff_ne.mpr c10
            have c10b1 : (a0 != 5) = true := bne_iff_ne.mpr c10
            by_cases c15 : a0 = 6
            · rw [if_pos c15] at H
              have c15b0 : (a0 == 6) = true := beq_iff_eq.mpr c15
              have c15b1 : (a0 != 6) = false := bne_eq_false_iff_eq.mpr c15
              clear c15
              replace H := Option.bind_eq_some_iff.mp H
              obtain ⟨t122, A160, H⟩ := H
              replace H : (some t122) = some r := H
              have A16 := Aside0.mk A160
              clear A160
              obtain rfl := Option.some.inj H
              go_enter Try.func9, Try.ntmps9
              go_wp2_with (first | ((with_reducible refine gate_callee (f := 19) rfl ?_); refine goesL_ (some 35) rfl rfl Try.func19 (by kernel_rfl) rfl #[.int .u32 a1, .int .u32 a3] rfl (by (try simp only [List.map_toArray, List.map_cons, List.map_nil]); first | done | rfl | (simp only [List.length_drop, List.length_take]; rfl)) ?_; (with_reducible refine (marquetryref11_Avg.calls a1 a3 t122 _ A16.out).mono ?_); clear A16; rintro e w17 ⟨rfl, hb⟩; refine ⟨_, rfl, ?_⟩; have n0_ := Aside0.mk (below_step (by repeat (first | (with_reducible first | exact HB.out | apply below_alloc | apply pw_below_drewN | apply below_drew1) | exact HB.out)) hb); clear HB; have HB := n0_; clear n0_; (try clear hb); (try clear hb2); (try clear hk); (try clear hi)) | (go_at_call 19; (with_reducible refine (marquetryref11_Avg.calls a1 a3 t122 _ A16.out).mono ?_); clear A16; rintro e w17 ⟨rfl, hb⟩; have n0_ := Aside0.mk (below_step (by repeat (first | (with_reducible first | exact HB.out | apply below_alloc | apply pw_below_drewN | apply below_drew1) | exact HB.out)) hb); clear HB; have HB := n0_; clear n0_; (try clear hb); (try clear hb2); (try clear hk); (try clear hi)))
              go_ret
              exact ⟨by first | rfl | (simp [errW_none, errW_some] <;> rfl) | (simp [*, errW_none, errW_some] <;> rfl), by repeat (first | (with_reducible first | exact HB.out | apply below_alloc | apply pw_below_drewN | apply below_drew1) | exact HB.out)⟩
            · rw [if_neg c15] at H
              have c15b0 : (a0 == 6) = false := beq_eq_false_iff_ne.mpr c15
              have c15b1 : (a0 != 6) = true := bne_iff_ne.mpr c15
              by_cases c18 : a0 = 7
              · rw [if_pos c18] at H
                have c18b0 : (a0 == 7) = true := beq_iff_eq.mpr c18
                have c18b1 : (a0 != 7) = false := bne_eq_false_iff_eq.mpr c18
                clear c18
                replace H := Option.bind_eq_some_iff.mp H
                obtain ⟨t123, A190, H⟩ := H
                replace H : (some t123) = some r := H
                have A19 := Aside0.mk A190
                clear A190
                obtain rfl := Option.some.inj H
                go_enter Try.func9, Try.ntmps9
                go_wp2_with (first | ((with_reducible refine gate_callee (f := 19) rfl ?_); refine goesL_ (some 40) rfl rfl Try.func19 (by kernel_rfl) rfl #[.int .u32 a1, .int .u32 a2] rfl (by (try simp only [List.map_toArray, List.map_cons, List.map_nil]); first | done | rfl | (simp only [List.length_drop, List.length_take]; rfl)) ?_; (with_reducible refine (marquetryref11_Avg.calls a1 a2 t123 _ A19.out).mono ?_); clear A19; rintro e w20 ⟨rfl, hb⟩; refine ⟨_, rfl, ?_⟩; have n0_ := Aside0.mk (below_step (by repeat (first | (with_reducible first | exact HB.out | apply below_alloc | apply pw_below_drewN | apply below_drew1) | exact HB.out)) hb); clear HB; have HB := n0_; clear n0_; (try clear hb); (try clear hb2); (try clear hk); (try clear hi)) | (go_at_call 19; (with_reducible refine (marquetryref11_Avg.calls a1 a2 t123 _ A19.out).mono ?_); clear A19; rintro e w20 ⟨rfl, hb⟩; have n0_ := Aside0.mk (below_step (by repeat (first | (with_reducible first | exact HB.out | apply below_alloc | apply pw_below_drewN | apply below_drew1) | exact HB.out)) hb); clear HB; have HB := n0_; clear n0_; (try clear hb); (try clear hb2); (try clear hk); (try clear hi)))
                go_ret
                exact ⟨by first | rfl | (simp [errW_none, errW_some] <;> rfl) | (simp [*, errW_none, errW_some] <;> rfl), by repeat (first | (with_reducible first | exact HB.out | apply below_alloc | apply pw_below_drewN | apply below_drew1) | exact HB.out)⟩
              · rw [if_neg c18] at H
                have c18b0 : (a0 == 7) = false := beq_eq_false_iff_ne.mpr c18
                have c18b1 : (a0 != 7) = true := bne_iff_ne.mpr c18
                by_cases c21 : a0 = 8
                · rw [if_pos c21] at H
                  have c21b0 : (a0 == 8) = true := beq_iff_eq.mpr c21
                  have c21b1 : (a0 != 8) = false := bne_eq_false_iff_eq.mpr c21
                  clear c21
                  replace H := Option.bind_eq_some_iff.mp H
                  obtain ⟨t124, A220, H⟩ := H
                  replace H : (some t124) = some r := H
                  have A22 := Aside0.mk A220
                  clear A220
                  obtain rfl := Option.some.inj H
                  go_enter Try.func9, Try.ntmps9
                  go_wp2_with (first | ((with_reducible refine gate_callee (f := 19) rfl ?_); refine goesL_ (some 45) rfl rfl Try.func19 (by kernel_rfl) rfl #[.int .u32 a3, .int .u32 a2] rfl (by (try simp only [List.map_toArray, List.map_cons, List.map_nil]); first | done | rfl | (simp only [List.length_drop, List.length_take]; rfl)) ?_; (with_reducible refine (marquetryref11_Avg.calls a3 a2 t124 _ A22.out).mono ?_); clear A22; rintro e w23 ⟨rfl, hb⟩; refine ⟨_, rfl, ?_⟩; have n0_ := Aside0.mk (below_step (by repeat (first | (with_reducible first | exact HB.out | apply below_alloc | apply pw_below_drewN | apply below_drew1) | exact HB.out)) hb); clear HB; have HB := n0_; clear n0_; (try clear hb); (try clear hb2); (try clear hk); (try clear hi)) | (go_at_call 19; (with_reducible refine (marquetryref11_Avg.calls a3 a2 t124 _ A22.out).mono ?_); clear A22; rintro e w23 ⟨rfl, hb⟩; have n0_ := Aside0.mk (below_step (by repeat (first | (with_reducible first | exact HB.out | apply below_alloc | apply pw_below_drewN | apply below_drew1) | exact HB.out)) hb); clear HB; have HB := n0_; clear n0_; (try clear hb); (try clear hb2); (try clear hk); (try clear hi)))
                  go_ret
                  exact ⟨by first | rfl | (simp [errW_none, errW_some] <;> rfl) | (simp [*, errW_none, errW_some] <;> rfl), by repeat (first | (with_reducible first | exact HB.out | apply below_alloc | apply pw_below_drewN | apply below_drew1) | exact HB.out)⟩
                · rw [if_neg c21] at H
                  have c21b0 : (a0 == 8) = false := beq_eq_false_iff_ne.mpr c21
                  have c21b1 : (a0 != 8) = true := bne_iff_ne.mpr c21
                  by_cases c24 : a0 = 9
                  · rw [if_pos c24] at H
                    have c24b0 : (a0 == 9) = true := beq_iff_eq.mpr c24
                    have c24b1 : (a0 != 9) = false := bne_eq_false_iff_eq.mpr c24
                    clear c24
                    replace H := Option.bind_eq_some_iff.mp H
                    obtain ⟨t125, A250, H⟩ := H
                    replace H : (some t125) = some r := H
                    have A25 := Aside0.mk A250
                    clear A250
                    obtain rfl := Option.some.inj H
                    go_enter Try.func9, Try.ntmps9
                    go_wp2_with (first | ((with_reducible refine gate_callee (f := 19) rfl ?_); refine goesL_ (some 50) rfl rfl Try.func19 (by kernel_rfl) rfl #[.int .u32 a2, .int .u32 a4] rfl (by (try simp only [List.map_toArray, List.map_cons, List.map_nil]); first | done | rfl | (simp only [List.length_drop, List.length_take]; rfl)) ?_; (with_reducible refine (marquetryref11_Avg.calls a2 a4 t125 _ A25.out).mono ?_); clear A25; rintro e w26 ⟨rfl, hb⟩; refine ⟨_, rfl, ?_⟩; have n0_ := Aside0.mk (below_step (by repeat (first | (with_reducible first | exact HB.out | apply below_alloc | apply pw_below_drewN | apply below_drew1) | exact HB.out)) hb); clear HB; have HB := n0_; clear n0_; (try clear hb); (try clear hb2); (try clear hk); (try clear hi)) | (go_at_call 19; (with_reducible refine (marquetryref11_Avg.calls a2 a4 t125 _ A25.out).mono ?_); clear A25; rintro e w26 ⟨rfl, hb⟩; have n0_ := Aside0.mk (below_step (by repeat (first | (with_reducible first | exact HB.out | apply below_alloc | apply pw_below_drewN | apply below_drew1) | exact HB.out)) hb); clear HB; have HB := n0_; clear n0_; (try clear hb); (try clear hb2); (try clear hk); (try clear hi)))
                    go_ret
                    exact ⟨by first | rfl | (simp [errW_none, errW_some] <;> rfl) | (simp [*, errW_none, errW_some] <;> rfl), by repeat (first | (with_reducible first | exact HB.out | apply below_alloc | apply pw_below_drewN | apply below_drew1) | exact HB.out)⟩
                  · rw [if_neg c24] at H
                    have c24b0 : (a0 == 9) = false := beq_eq_false_iff_ne.mpr c24
                    have c24b1 : (a0 != 9) = true := bne_iff_ne.mpr c24
                    by_cases c27 : a0 = 10
                    · rw [if_pos c27] at H
                      have c27b0 : (a0 == 10) = true := beq_iff_eq.mpr c27
                      have c27b1 : (a0 != 10) = false := bne_eq_false_iff_eq.mpr c27
                      clear c27
                      replace H := Option.bind_eq_some_iff.mp H
                      obtain ⟨t126, A280, H⟩ := H
                      replace H : ((marquetryref11_Avg.f a2 a4).bind fun t127 => ((marquetryref11_Avg.f t126 t127).bind fun t128 => (some t128))) = some r := H
                      have A28 := Aside0.mk A280
                      clear A280
                      replace H := Option.bind_eq_some_iff.mp H
                      obtain ⟨t127, A290, H⟩ := H
                      replace H : ((marquetryref11_Avg.f t126 t127).bind fun t128 => (some t128)) = some r := H
                      have A29 := Aside0.mk A290
                      clear A290
                      replace H := Option.bind_eq_some_iff.mp H
                      obtain ⟨t128, A300, H⟩ := H
                      replace H : (some t128) = some r := H
                      have A30 := Aside0.mk A300
                      clear A300
                      obtain rfl := Option.some.inj H
                      go_enter Try.func9, Try.ntmps9
                      go_wp2_with (first | ((with_reducible refine gate_callee (f := 19) rfl ?_); refine goesL_ (some 55) rfl rfl Try.func19 (by kernel_rfl) rfl #[.int .u32 a1, .int .u32 a3] rfl (by (try simp only [List.map_toArray, List.map_cons, List.map_nil]); first | done | rfl | (simp only [List.length_drop, List.length_take]; rfl)) ?_; (with_reducible refine (marquetryref11_Avg.calls a1 a3 t126 _ A28.out).mono ?_); clear A28; rintro e w31 ⟨rfl, hb⟩; refine ⟨_, rfl, ?_⟩; have n0_ := Aside0.mk (below_step (by repeat (first | (with_reducible first | exact HB.out | apply below_alloc | apply pw_below_drewN | apply below_drew1) | exact HB.out)) hb); clear HB; have HB := n0_; clear n0_; (try clear hb); (try clear hb2); (try clear hk); (try clear hi)) | (go_at_call 19; (with_reducible refine (marquetryref11_Avg.calls a1 a3 t126 _ A28.out).mono ?_); clear A28; rintro e w31 ⟨rfl, hb⟩; have n0_ := Aside0.mk (below_step (by repeat (first | (with_reducible first | exact HB.out | apply below_alloc | apply pw_below_drewN | apply below_drew1) | exact HB.out)) hb); clear HB; have HB := n0_; clear n0_; (try clear hb); (try clear hb2); (try clear hk); (try clear hi)) | ((with_reducible refine gate_callee (f := 19) rfl ?_); refine goesL_ (some 58) rfl rfl Try.func19 (by kernel_rfl) rfl #[.int .u32 a2, .int .u32 a4] rfl (by (try simp only [List.map_toArray, List.map_cons, List.map_nil]); first | done | rfl | (simp only [List.length_drop, List.length_take]; rfl)) ?_; (with_reducible refine (marquetryref11_Avg.calls a2 a4 t127 _ A29.out).mono ?_); clear A29; rintro e w32 ⟨rfl, hb⟩; refine ⟨_, rfl, ?_⟩; have n0_ := Aside0.mk (below_step (by repeat (first | (with_reducible first | exact HB.out | apply below_alloc | apply pw_below_drewN | apply below_drew1) | exact HB.out)) hb); clear HB; have HB := n0_; clear n0_; (try clear hb); (try clear hb2); (try clear hk); (try clear hi)) | (go_at_call 19; (with_reducible refine (marquetryref11_Avg.calls a2 a4 t127 _ A29.out).mono ?_); clear A29; rintro e w32 ⟨rfl, hb⟩; have n0_ := Aside0.mk (below_step (by repeat (first | (with_reducible first | exact HB.out | apply below_alloc | apply pw_below_drewN | apply below_drew1) | exact HB.out)) hb); clear HB; have HB := n0_; clear n0_; (try clear hb); (try clear hb2); (try clear hk); (try clear hi)) | ((with_reducible refine gate_callee (f := 19) rfl ?_); refine goesL_ (some 59) rfl rfl Try.func19 (by kernel_rfl) rfl #[.int .u32 t126, .int .u32 t127] rfl (by (try simp only [List.map_toArray, List.map_cons, List.map_nil]); first | done | rfl | (simp only [List.length_drop, List.length_take]; rfl)) ?_; (with_reducible refine (marquetryref11_Avg.calls t126 t127 t128 _ A30.out).mono ?_); clear A30; rintro e w33 ⟨rfl, hb⟩; refine ⟨_, rfl, ?_⟩; have n0_ := Aside0.mk (below_step (by repeat (first | (with_reducible first | exact HB.out | apply below_alloc | apply pw_below_drewN | apply below_drew1) | exact HB.out)) hb); clear HB; have HB := n0_; clear n0_; (try clear hb); (try clear hb2); (try clear hk); (try clear hi)) | (go_at_call 19; (with_reducible refine (marquetryref11_Avg.calls t126 t127 t128 _ A30.out).mono ?_); clear A30; rintro e w33 ⟨rfl, hb⟩; have n0_ := Aside0.mk (below_step (by repeat (first | (with_reducible first | exact HB.out | apply below_alloc | apply pw_below_drewN | apply below_drew1) | exact HB.out)) hb); clear HB; have HB := n0_; clear n0_; (try clear hb); (try clear hb2); (try clear hk); (try clear hi)))
                      go_ret
                      exact ⟨by first | rfl | (simp [errW_none, errW_some] <;> rfl) | (simp [*, errW_none, errW_some] <;> rfl), by repeat (first | (with_reducible first | exact HB.out | apply below_alloc | apply pw_below_drewN | apply below_drew1) | exact HB.out)⟩
                    · rw [if_neg c27] at H
                      have c27b0 : (a0 == 10) = false := beq_eq_false_iff_ne.mpr c27
                      have c27b1 : (a0 != 10) = true := bne_iff_ne.mpr c27
                      by_cases c34 : a0 = 11
                      · rw [if_pos c34] at H
                        have c34b0 : (a0 == 11) = true := beq_iff_eq.mpr c34
                        have c34b1 : (a0 != 11) = false := bne_eq_false_iff_eq.mpr c34
                        clear c34
                        replace H := Option.bind_eq_some_iff.mp H
                        obtain ⟨t129, A350, H⟩ := H
                        replace H : (some t129) = some r := H
                        have A35 := Aside0.mk A350
                        clear A350
                        obtain rfl := Option.some.inj H
                        go_enter Try.func9, Try.ntmps9
                        go_wp2_with (first | ((with_reducible refine gate_callee (f := 20) rfl ?_); refine goesL_ (some 65) rfl rfl Try.func20 (by kernel_rfl) rfl #[.int .u32 a1, .int .u32 a2, .int .u32 a3] rfl (by (try simp only [List.map_toArray, List.map_cons, List.map_nil]); first | done | rfl | (simp only [List.length_drop, List.length_take]; rfl)) ?_; (with_reducible refine (marquetryref11_Pick.calls k a1 a2 a3 t129 _ A35.out).mono ?_); clear A35; rintro e w' ⟨rfl, ⟨nd, rfl⟩⟩; refine ⟨_, rfl, ?_⟩) | (go_at_call 20; (with_reducible refine (marquetryref11_Pick.calls k a1 a2 a3 t129 _ A35.out).mono ?_); clear A35; rintro e w' ⟨rfl, ⟨nd, rfl⟩⟩))
                        go_ret
                        exact ⟨by first | rfl | (simp [errW_none, errW_some] <;> rfl) | (simp [*, errW_none, errW_some] <;> rfl), by repeat (first | (with_reducible first | exact HB.out | apply below_alloc | apply pw_below_drewN | apply below_drew1) | exact HB.out)⟩
                      · rw [if_neg c34] at H
                        have c34b0 : (a0 == 11) = false := beq_eq_false_iff_ne.mpr c34
                        have c34b1 : (a0 != 11) = true := bne_iff_ne.mpr c34
                        by_cases c36 : a0 = 12
                        · rw [if_pos c36] at H
                          have c36b0 : (a0 == 12) = true := beq_iff_eq.mpr c36
                          have c36b1 : (a0 != 12) = false := bne_eq_false_iff_eq.mpr c36
                          clear c36
                          replace H := Option.bind_eq_some_iff.mp H
                          obtain ⟨t130, A370, H⟩ := H
                          replace H : (some t130) = some r := H
                          have A37 := Aside0.mk A370
                          clear A370
                          obtain rfl := Option.some.inj H
                          go_enter Try.func9, Try.ntmps9
                          go_wp2_with (first | ((with_reducible refine gate_callee (f := 21) rfl ?_); refine goesL_ (some 71) rfl rfl Try.func21 (by kernel_rfl) rfl #[.int .u32 a1, .int .u32 a2, .int .u32 a3] rfl (by (try simp only [List.map_toArray, List.map_cons, List.map_nil]); first | done | rfl | (simp only [List.length_drop, List.length_take]; rfl)) ?_; (with_reducible refine (marquetryref11_Full.calls a1 a2 a3 t130 _ A37.out).mono ?_); clear A37; rintro e w38 ⟨rfl, hb⟩; refine ⟨_, rfl, ?_⟩; have n0_ := Aside0.mk (below_step (by repeat (first | (with_reducible first | exact HB.out | apply below_alloc | apply pw_below_drewN | apply below_drew1) | exact HB.out)) hb); clear HB; have HB := n0_; clear n0_; (try clear hb); (try clear hb2); (try clear hk); (try clear hi)) | (go_at_call 21; (with_reducible refine (marquetryref11_Full.calls a1 a2 a3 t130 _ A37.out).mono ?_); clear A37; rintro e w38 ⟨rfl, hb⟩; have n0_ := Aside0.mk (below_step (by repeat (first | (with_reducible first | exact HB.out | apply below_alloc | apply pw_below_drewN | apply below_drew1) | exact HB.out)) hb); clear HB; have HB := n0_; clear n0_; (try clear hb); (try clear hb2); (try clear hk); (try clear hi)))
                          go_ret
                          exact ⟨by first | rfl | (simp [errW_none, errW_some] <;> rfl) | (simp [*, errW_none, errW_some] <;> rfl), by repeat (first | (with_reducible first | exact HB.out | apply below_alloc | apply pw_below_drewN | apply below_drew1) | exact HB.out)⟩
                        · rw [if_neg c36] at H
                          have c36b0 : (a0 == 12) = false := beq_eq_false_iff_ne.mpr c36
                          have c36b1 : (a0 != 12) = true := bne_iff_ne.mpr c36
                          by_cases c39 : a0 = 13
                          · rw [if_pos c39] at H
                            have c39b0 : (a0 == 13) = true := beq_iff_eq.mpr c39
                            have c39b1 : (a0 != 13) = false := bne_eq_false_iff_eq.mpr c39
                            clear c39
                            replace H := Option.bind_eq_some_iff.mp H
                            obtain ⟨t131, A400, H⟩ := H
                            replace H : ((marquetryref11_Half.f t131 a3).bind fun t132 => (some t132)) = some r := H
                            have A40 := Aside0.mk A400
                            clear A400
                            replace H := Option.bind_eq_some_iff.mp H
                            obtain ⟨t132, A410, H⟩ := H
                            replace H : (some t132) = some r := H
                            have A41 := Aside0.mk A410
                            clear A410
                            obtain rfl := Option.some.inj H
                            go_enter Try.func9, Try.ntmps9
                            go_wp2_with (first | ((with_reducible refine gate_callee (f := 19) rfl ?_); refine goesL_ (some 76) rfl rfl Try.func19 (by kernel_rfl) rfl #[.int .u32 a1, .int .u32 a2] rfl (by (try simp only [List.map_toArray, List.map_cons, List.map_nil]); first | done | rfl | (simp only [List.length_drop, List.length_take]; rfl)) ?_; (with_reducible refine (marquetryref11_Avg.calls a1 a2 t131 _ A40.out).mono ?_); clear A40; rintro e w42 ⟨rfl, hb⟩; refine ⟨_, rfl, ?_⟩; have n0_ := Aside0.mk (below_step (by repeat (first | (with_reducible first | exact HB.out | apply below_alloc | apply pw_below_drewN | apply below_drew1) | exact HB.out)) hb); clear HB; have HB := n0_; clear n0_; (try clear hb); (try clear hb2); (try clear hk); (try clear hi)) | (go_at_call 19; (with_reducible refine (marquetryref11_Avg.calls a1 a2 t131 _ A40.out).mono ?_); clear A40; rintro e w42 ⟨rfl, hb⟩; have n0_ := Aside0.mk (below_step (by repeat (first | (with_reducible first | exact HB.out | apply below_alloc | apply pw_below_drewN | apply below_drew1) | exact HB.out)) hb); clear HB; have HB := n0_; clear n0_; (try clear hb); (try clear hb2); (try clear hk); (try clear hi)) | ((with_reducible refine gate_callee (f := 22) rfl ?_); refine goesL_ (some 78) rfl rfl Try.func22 (by kernel_rfl) rfl #[.int .u32 t131, .int .u32 a3] rfl (by (try simp only [List.map_toArray, List.map_cons, List.map_nil]); first | done | rfl | (simp only [List.length_drop, List.length_take]; rfl)) ?_; (with_reducible refine (marquetryref11_Half.calls t131 a3 t132 _ A41.out).mono ?_); clear A41; rintro e w43 ⟨rfl, hb⟩; refine ⟨_, rfl, ?_⟩; have n0_ := Aside0.mk (below_step (by repeat (first | (with_reducible first | exact HB.out | apply below_alloc | apply pw_below_drewN | apply below_drew1) | exact HB.out)) hb); clear HB; have HB := n0_; clear n0_; (try clear hb); (try clear hb2); (try clear hk); (try clear hi)) | (go_at_call 22; (with_reducible refine (marquetryref11_Half.calls t131 a3 t132 _ A41.out).mono ?_); clear A41; rintro e w43 ⟨rfl, hb⟩; have n0_ := Aside0.mk (below_step (by repeat (first | (with_reducible first | exact HB.out | apply below_alloc | apply pw_below_drewN | apply below_drew1) | exact HB.out)) hb); clear HB; have HB := n0_; clear n0_; (try clear hb); (try clear hb2); (try clear hk); (try clear hi)))
                            go_ret
                            exact ⟨by first | rfl | (simp [errW_none, errW_some] <;> rfl) | (simp [*, errW_none, errW_some] <;> rfl), by repeat (first | (with_reducible first | exact HB.out | apply below_alloc | apply pw_below_drewN | apply below_drew1) | exact HB.out)⟩
                          · rw [if_neg c39] at H
                            have c39b0 : (a0 == 13) = false := beq_eq_false_iff_ne.mpr c39
                            have c39b1 : (a0 != 13) = true := bne_iff_ne.mpr c39
                            obtain rfl := Option.some.inj H
                            go_enter Try.func9, Try.ntmps9
                            go_wp2
                            go_ret
                            exact ⟨by first | rfl | (simp [errW_none, errW_some] <;> rfl) | (simp [*, errW_none, errW_some] <;> rfl), by repeat (first | (with_reducible first | exact HB.out | apply below_alloc | apply pw_below_drewN | apply below_drew1) | exact HB.out)⟩

/-! ### marquetrylaw12_GuessModes: function 3 -/
def marquetrylaw12_GuessModes.f (k : Nat) (a0 : Int) (a1 : Int) (a2 : Int) (a3 : Int) (a4 : Int) : Option (Bool) := (marquetrylaw12_answers.f).bind fun t133 => (if t133 = true then ((guess_Guess.f a0 a1 a2 a3 a4).bind fun t134 => ((marquetryref11_Guess.f k a0 a1 a2 a3 a4).bind fun t135 => (some (t134 == t135)))) else (some false))
theorem marquetrylaw12_GuessModes.mono : ∀ a0 a1 a2 a3 a4 k, LeO (marquetrylaw12_GuessModes.f k a0 a1 a2 a3 a4) (marquetrylaw12_GuessModes.f (k + 1) a0 a1 a2 a3 a4) := by
  intro a0 a1 a2 a3 a4 k
  unfold marquetrylaw12_GuessModes.f
  repeat' first
      | (with_reducible exact marquetryref11_Guess.mono _ _ _ _ _ _)
      | (with_reducible exact LeO.refl _)
      | (with_reducible exact LeO.none _)
      | (with_reducible refine LeO.ite ?_ ?_)
      | (with_reducible refine LeO.bind ?_ (fun _ => ?_))
      | exact marquetryref11_Guess.mono _ _ _ _ _ _
      | exact LeO.none _
      | refine LeO.ite ?_ ?_
      | refine LeO.bind ?_ (fun _ => ?_)
set_option maxHeartbeats 8000000 in
set_option maxRecDepth 100000 in
theorem marquetrylaw12_GuessModes.calls (k : Nat) (a0 : Int) (a1 : Int) (a2 : Int) (a3 : Int) (a4 : Int) (r : Bool) (w : World) (h : marquetrylaw12_GuessModes.f k a0 a1 a2 a3 a4 = some r) (hr : r = true) :
    Calls Try.prog 3 #[.int .i64 a0, .int .u32 a1, .int .u32 a2, .int .u32 a3, .int .u32 a4] w fun e w' => e = .returned (.bool r) ∧ Below w.heap.size w w' := by
  have HB := Aside0.mk (Below.refl w.heap.size w)
  have H : ((marquetrylaw12_answers.f).bind fun t133 => (if t133 = true then ((guess_Guess.f a0 a1 a2 a3 a4).bind fun t134 => ((marquetryref11_Guess.f k a0 a1 a2 a3 a4).bind fun t135 => (some (t134 == t135)))) else (some false))) = some r := h
  clear h
  have Hr := Aside0.mk hr
  clear hr
  replace H := Option.bind_eq_some_iff.mp H
  obtain ⟨t133, A60, H⟩ := H
  replace H : (if t133 = true then ((guess_Guess.f a0 a1 a2 a3 a4).bind fun t134 => ((marquetryref11_Guess.f k a0 a1 a2 a3 a4).bind fun t135 => (some (t134 == t135)))) else (some false)) = some r := H
  have A6 := Aside0.mk A60
  clear A60
  by_cases c7 : t133 = true
  · subst c7
    have H1 : ((guess_Guess.f a0 a1 a2 a3 a4).bind fun t134 => ((marquetryref11_Guess.f k a0 a1 a2 a3 a4).bind fun t135 => (some (t134 == t135)))) = some r := by rw [if_pos rfl] at H; exact H
    clear H
    have H := H1
    clear H1
    replace H := Option.bind_eq_some_iff.mp H
    obtain ⟨t134, A80, H⟩ := H
    replace H : ((marquetryref11_Guess.f k a0 a1 a2 a3 a4).bind fun t135 => (some (t134 == t135))) = some r := H
    have A8 := Aside0.mk A80
    clear A80
    replace H := Option.bind_eq_some_iff.mp H
    obtain ⟨t135, A90, H⟩ := H
    replace H : (some (t134 == t135)) = some r := H
    have A9 := Aside0.mk A90
    clear A90
    obtain rfl := Option.some.inj H
    go_enter Try.func3, Try.ntmps3
    go_wp2_with (first | ((with_reducible refine gate_callee (f := 7) rfl ?_); refine goesL_ (some 11) rfl rfl Try.func7 (by kernel_rfl) rfl #[] rfl (by (try simp only [List.map_toArray, List.map_cons, List.map_nil]); first | done | rfl | (simp only [List.length_drop, List.length_take]; rfl)) ?_; (with_reducible refine (marquetrylaw12_answers.calls  true _ A6.out).mono ?_); clear A6; rintro e w10 ⟨rfl, hb⟩; refine ⟨_, rfl, ?_⟩; have n0_ := Aside0.mk (below_step (by repeat (first | (with_reducible first | exact HB.out | apply below_alloc | apply pw_below_drewN | apply below_drew1) | exact HB.out)) hb); clear HB; have HB := n0_; clear n0_; (try clear hb); (try clear hb2); (try clear hk); (try clear hi)) | (go_at_call 7; (with_reducible refine (marquetrylaw12_answers.calls  true _ A6.out).mono ?_); clear A6; rintro e w10 ⟨rfl, hb⟩; have n0_ := Aside0.mk (below_step (by repeat (first | (with_reducible first | exact HB.out | apply below_alloc | apply pw_below_drewN | apply below_drew1) | exact HB.out)) hb); clear HB; have HB := n0_; clear n0_; (try clear hb); (try clear hb2); (try clear hk); (try clear hi)) | (go_at_call 8; (with_reducible refine (guess_Guess.calls a0 a1 a2 a3 a4 t134 _ A8.out).mono ?_); clear A8; rintro e w11 ⟨rfl, hb⟩; have n0_ := Aside0.mk (below_step (by repeat (first | (with_reducible first | exact HB.out | apply below_alloc | apply pw_below_drewN | apply below_drew1) | exact HB.out)) hb); clear HB; have HB := n0_; clear n0_; (try clear hb); (try clear hb2); (try clear hk); (try clear hi)) | (go_at_call 9; (with_reducible refine (marquetryref11_Guess.calls k a0 a1 a2 a3 a4 t135 _ A9.out).mono ?_); clear A9; rintro e w12 ⟨rfl, hb⟩; have n0_ := Aside0.mk (below_step (by repeat (first | (with_reducible first | exact HB.out | apply below_alloc | apply pw_below_drewN | apply below_drew1) | exact HB.out)) hb); clear HB; have HB := n0_; clear n0_; (try clear hb); (try clear hb2); (try clear hk); (try clear hi)))
    go_ret
    exact ⟨by first | rfl | (simp [errW_none, errW_some] <;> rfl) | (simp [*, errW_none, errW_some] <;> rfl), by repeat (first | (with_reducible first | exact HB.out | apply below_alloc | apply pw_below_drewN | apply below_drew1) | exact HB.out)⟩
  · replace c7 := Bool.eq_false_iff.mpr c7
    subst c7
    have H1 : (some false) = some r := by rw [if_neg (show ¬ (false = true) by decide)] at H; exact H
    clear H
    have H := H1
    clear H1
    exact absurd ((Option.some.inj H).trans Hr.out) (by decide)

/-- THE ONE PURE STATEMENT of marquetrylaw12_GuessModes: yours. -/
def marquetrylaw12_GuessModes.Pure : Prop := ∀ (a0 : Int) (a1 : Int) (a2 : Int) (a3 : Int) (a4 : Int), (Lit.int .i64 a0).wf = true → (Lit.int .u32 a1).wf = true → (Lit.int .u32 a2).wf = true → (Lit.int .u32 a3).wf = true → (Lit.int .u32 a4).wf = true → ∃ k, marquetrylaw12_GuessModes.f k a0 a1 a2 a3 a4 = some true
theorem marquetrylaw12_GuessModes.walk (P : marquetrylaw12_GuessModes.Pure) (a0 : Int) (a1 : Int) (a2 : Int) (a3 : Int) (a4 : Int) (w : World) (w0 : (Lit.int .i64 a0).wf = true) (w1 : (Lit.int .u32 a1).wf = true) (w2 : (Lit.int .u32 a2).wf = true) (w3 : (Lit.int .u32 a3).wf = true) (w4 : (Lit.int .u32 a4).wf = true) :
    Calls Try.prog 3 #[.int .i64 a0, .int .u32 a1, .int .u32 a2, .int .u32 a3, .int .u32 a4] w fun e w' => e = .returned (.bool true) ∧ Below w.heap.size w w' := by
  obtain ⟨k, h⟩ := P a0 a1 a2 a3 a4 w0 w1 w2 w3 w4
  refine (marquetrylaw12_GuessModes.calls k a0 a1 a2 a3 a4 true w h rfl).mono ?_
  rintro e w' ⟨rfl, hd⟩
  exact ⟨rfl, hd⟩

/-! ### marquetrylaw12_GuessFlat: function 4 -/
def marquetrylaw12_GuessFlat.f (a0 : Int) (a1 : Int) : Option (Bool) := if (wrap64 (Int.tmod a0 14)) = 0 then ((marquetrylaw12_answers.f).bind fun t136 => (if t136 = true then ((guess_Guess.f 0 a1 a1 a1 a1).bind fun t137 => (some (t137 == 4278190080))) else (some false))) else ((marquetrylaw12_answers.f).bind fun t138 => (if t138 = true then ((guess_Guess.f (wrap64 (Int.tmod a0 14)) a1 a1 a1 a1).bind fun t139 => (if t139 = a1 then ((guess_Guess.f 14 a1 a1 a1 a1).bind fun t140 => (some (t140 == 4278190080))) else (some false))) else (some false)))
set_option maxHeartbeats 8000000 in
set_option maxRecDepth 100000 in
theorem marquetrylaw12_GuessFlat.calls (a0 : Int) (a1 : Int) (r : Bool) (w : World) (h : marquetrylaw12_GuessFlat.f a0 a1 = some r) (hr : r = true) :
    Calls Try.prog 4 #[.int .u8 a0, .int .u32 a1] w fun e w' => e = .returned (.bool r) ∧ Below w.heap.size w w' := by
  have HB := Aside0.mk (Below.refl w.heap.size w)
  have H : (if (wrap64 (Int.tmod a0 14)) = 0 then ((marquetrylaw12_answers.f).bind fun t136 => (if t136 = true then ((guess_Guess.f 0 a1 a1 a1 a1).bind fun t137 => (some (t137 == 4278190080))) else (some false))) else ((marquetrylaw12_answers.f).bind fun t138 => (if t138 = true then ((guess_Guess.f (wrap64 (Int.tmod a0 14)) a1 a1 a1 a1).bind fun t139 => (if t139 = a1 then ((guess_Guess.f 14 a1 a1 a1 a1).bind fun t140 => (some (t140 == 4278190080))) else (some false))) else (some false)))) = some r := h
  clear h
  have Hr := Aside0.mk hr
  clear hr
  by_cases c3 : (wrap64 (Int.tmod a0 14)) = 0
  · rw [if_pos c3] at H
    have c3b0 : ((wrap64 (Int.tmod a0 14)) == 0) = true := beq_iff_eq.mpr c3
    have c3b1 : ((wrap64 (Int.tmod a0 14)) != 0) = false := bne_eq_false_iff_eq.mpr c3
    clear c3
    replace H := Option.bind_eq_some_iff.mp H
    obtain ⟨t136, A40, H⟩ := H
    replace H : (if t136 = true then ((guess_Guess.f 0 a1 a1 a1 a1).bind fun t137 => (some (t137 == 4278190080))) else (some false)) = some r := H
    have A4 := Aside0.mk A40
    clear A40
    by_cases c5 : t136 = true
    · subst c5
      have H1 : ((guess_Guess.f 0 a1 a1 a1 a1).bind fun t137 => (some (t137 == 4278190080))) = some r := by rw [if_pos rfl] at H; exact H
      clear H
      have H := H1
      clear H1
      replace H := Option.bind_eq_some_iff.mp H
      obtain ⟨t137, A60, H⟩ := H
      replace H : (some (t137 == 4278190080)) = some r := H
      have A6 := Aside0.mk A60
      clear A60
      obtain rfl := Option.some.inj H
      go_enter Try.func4, Try.ntmps4
      go_wp2_with (first | ((with_reducible refine gate_callee (f := 7) rfl ?_); refine goesL_ (some 11) rfl rfl Try.func7 (by kernel_rfl) rfl #[] rfl (by (try simp only [List.map_toArray, List.map_cons, List.map_nil]); first | done | rfl | (simp only [List.length_drop, List.length_take]; rfl)) ?_; (with_reducible refine (marquetrylaw12_answers.calls  true _ A4.out).mono ?_); clear A4; rintro e w7 ⟨rfl, hb⟩; refine ⟨_, rfl, ?_⟩; have n0_ := Aside0.mk (below_step (by repeat (first | (with_reducible first | exact HB.out | apply below_alloc | apply pw_below_drewN | apply below_drew1) | exact HB.out)) hb); clear HB; have HB := n0_; clear n0_; (try clear hb); (try clear hb2); (try clear hk); (try clear hi)) | (go_at_call 7; (with_reducible refine (marquetrylaw12_answers.calls  true _ A4.out).mono ?_); clear A4; rintro e w7 ⟨rfl, hb⟩; have n0_ := Aside0.mk (below_step (by repeat (first | (with_reducible first | exact HB.out | apply below_alloc | apply pw_below_drewN | apply below_drew1) | exact HB.out)) hb); clear HB; have HB := n0_; clear n0_; (try clear hb); (try clear hb2); (try clear hk); (try clear hi)) | (go_at_call 8; (with_reducible refine (guess_Guess.calls 0 a1 a1 a1 a1 t137 _ A6.out).mono ?_); clear A6; rintro e w8 ⟨rfl, hb⟩; have n0_ := Aside0.mk (below_step (by repeat (first | (with_reducible first | exact HB.out | apply below_alloc | apply pw_below_drewN | apply below_drew1) | exact HB.out)) hb); clear HB; have HB := n0_; clear n0_; (try clear hb); (try clear hb2); (try clear hk); (try clear hi)))
      go_ret
      exact ⟨by first | rfl | (simp [errW_none, errW_some] <;> rfl) | (simp [*, errW_none, errW_some] <;> rfl), by repeat (first | (with_reducible first | exact HB.out | apply below_alloc | apply pw_below_drewN | apply below_drew1) | exact HB.out)⟩
    · replace c5 := Bool.eq_false_iff.mpr c5
      subst c5
      have H1 : (some false) = some r := by rw [if_neg (show ¬ (false = true) by decide)] at H; exact H
      clear H
      have H := H1
      clear H1
      exact absurd ((Option.some.inj H).trans Hr.out) (by decide)
  · rw [if_neg c3] at H
    have c3b0 : ((wrap64 (Int.tmod a0 14)) == 0) = false := beq_eq_false_iff_ne.mpr c3
    have c3b1 : ((wrap64 (Int.tmod a0 14)) != 0) = true := bne_iff_ne.mpr c3
    replace H := Option.bind_eq_some_iff.mp H
    obtain ⟨t138, A90, H⟩ := H
    replace H : (if t138 = true then ((guess_Guess.f (wrap64 (Int.tmod a0 14)) a1 a1 a1 a1).bind fun t139 => (if t139 = a1 then ((guess_Guess.f 14 a1 a1 a1 a1).bind fun t140 => (some (t140 == 4278190080))) else (some false))) else (some false)) = some r := H
    have A9 := Aside0.mk A90
    clear A90
    by_cases c10 : t138 = true
    · subst c10
      have H1 : ((guess_Guess.f (wrap64 (Int.tmod a0 14)) a1 a1 a1 a1).bind fun t139 => (if t139 = a1 then ((guess_Guess.f 14 a1 a1 a1 a1).bind fun t140 => (some (t140 == 4278190080))) else (some false))) = some r := by rw [if_pos rfl] at H; exact H
      clear H
      have H := H1
      clear H1
      replace H := Option.bind_eq_some_iff.mp H
      obtain ⟨t139, A110, H⟩ := H
      replace H : (if t139 = a1 then ((guess_Guess.f 14 a1 a1 a1 a1).bind fun t140 => (some (t140 == 4278190080))) else (some false)) = some r := H
      have A11 := Aside0.mk A110
      clear A110
      by_cases c12 : t139 = a1
      · rw [if_pos c12] at H
        have c12b0 : (t139 == a1) = true := beq_iff_eq.mpr c12
        have c12b1 : (t139 != a1) = false := bne_eq_false_iff_eq.mpr c12
        clear c12
        replace H := Option.bind_eq_some_iff.mp H
        obtain ⟨t140, A130, H⟩ := H
        replace H : (some (t140 == 4278190080)) = some r := H
        have A13 := Aside0.mk A130
        clear A130
        obtain rfl := Option.some.inj H
        go_enter Try.func4, Try.ntmps4
        go_wp2_with (first | ((with_reducible refine gate_callee (f := 7) rfl ?_); refine goesL_ (some 20) rfl rfl Try.func7 (by kernel_rfl) rfl #[] rfl (by (try simp only [List.map_toArray, List.map_cons, List.map_nil]); first | done | rfl | (simp only [List.length_drop, List.length_take]; rfl)) ?_; (with_reducible refine (marquetrylaw12_answers.calls  true _ A9.out).mono ?_); clear A9; rintro e w14 ⟨rfl, hb⟩; refine ⟨_, rfl, ?_⟩; have n0_ := Aside0.mk (below_step (by repeat (first | (with_reducible first | exact HB.out | apply below_alloc | apply pw_below_drewN | apply below_drew1) | exact HB.out)) hb); clear HB; have HB := n0_; clear n0_; (try clear hb); (try clear hb2); (try clear hk); (try clear hi)) | (go_at_call 7; (with_reducible refine (marquetrylaw12_answers.calls  true _ A9.out).mono ?_); clear A9; rintro e w14 ⟨rfl, hb⟩; have n0_ := Aside0.mk (below_step (by repeat (first | (with_reducible first | exact HB.out | apply below_alloc | apply pw_below_drewN | apply below_drew1) | exact HB.out)) hb); clear HB; have HB := n0_; clear n0_; (try clear hb); (try clear hb2); (try clear hk); (try clear hi)) | (go_at_call 8; (with_reducible refine (guess_Guess.calls (wrap64 (Int.tmod a0 14)) a1 a1 a1 a1 t139 _ A11.out).mono ?_); clear A11; rintro e w15 ⟨rfl, hb⟩; have n0_ := Aside0.mk (below_step (by repeat (first | (with_reducible first | exact HB.out | apply below_alloc | apply pw_below_drewN | apply below_drew1) | exact HB.out)) hb); clear HB; have HB := n0_; clear n0_; (try clear hb); (try clear hb2); (try clear hk); (try clear hi)) | (go_at_call 8; (with_reducible refine (guess_Guess.calls 14 a1 a1 a1 a1 t140 _ A13.out).mono ?_); clear A13; rintro e w16 ⟨rfl, hb⟩; have n0_ := Aside0.mk (below_step (by repeat (first | (with_reducible first | exact HB.out | apply below_alloc | apply pw_below_drewN | apply below_drew1) | exact HB.out)) hb); clear HB; have HB := n0_; clear n0_; (try clear hb); (try clear hb2); (try clear hk); (try clear hi)))
        go_ret
        exact ⟨by first | rfl | (simp [errW_none, errW_some] <;> rfl) | (simp [*, errW_none, errW_some] <;> rfl), by repeat (first | (with_reducible first | exact HB.out | apply below_alloc | apply pw_below_drewN | apply below_drew1) | exact HB.out)⟩
      · rw [if_neg c12] at H
        have c12b0 : (t139 == a1) = false := beq_eq_false_iff_ne.mpr c12
        have c12b1 : (t139 != a1) = true := bne_iff_ne.mpr c12
        exact absurd ((Option.some.inj H).trans Hr.out) (by decide)
    · replace c10 := Bool.eq_false_iff.mpr c10
      subst c10
      have H1 : (some false) = some r := by rw [if_neg (show ¬ (false = true) by decide)] at H; exact H
      clear H
      have H := H1
      clear H1
      exact absurd ((Option.some.inj H).trans Hr.out) (by decide)

/-- THE ONE PURE STATEMENT of marquetrylaw12_GuessFlat: yours. -/
def marquetrylaw12_GuessFlat.Pure : Prop := ∀ (a0 : Int) (a1 : Int), (Lit.int .u8 a0).wf = true → (Lit.int .u32 a1).wf = true → marquetrylaw12_GuessFlat.f a0 a1 = some true
theorem marquetrylaw12_GuessFlat.walk (P : marquetrylaw12_GuessFlat.Pure) (a0 : Int) (a1 : Int) (w : World) (w0 : (Lit.int .u8 a0).wf = true) (w1 : (Lit.int .u32 a1).wf = true) :
    Calls Try.prog 4 #[.int .u8 a0, .int .u32 a1] w fun e w' => e = .returned (.bool true) ∧ Below w.heap.size w w' := by
  have h := P a0 a1 w0 w1
  refine (marquetrylaw12_GuessFlat.calls a0 a1 true w h rfl).mono ?_
  rintro e w' ⟨rfl, hd⟩
  exact ⟨rfl, hd⟩

end Go.Proofs.Ytioppjmpkdffkaa.P
