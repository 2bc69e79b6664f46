-- Printed by mp.py (our own program over the kit's printer) out of the translation.
import Derived.Test.YtegifkffhnhccaaPx0
import Derived.Test.YtegifkffhnhccaaMcv9
namespace Go.Proofs.Ytegifkffhnhccaa.P
open Go.RowKit Go.Proofs.YtegifkffhnhccaaW.PrintWords Go.Proofs.YtegifkffhnhccaaW.PrintLast Go.Proofs.YtegifkffhnhccaaW.PrintMore
attribute [local go_sem] max2_int min2_int max_two min_two max_three min_three max_four min_four   -- for this text's walks alone
set_option linter.unusedVariables false
set_option linter.unusedSimpArgs false

-- @import Mcv9
/-! ### marquetrylaw27_answers: function 11 -/
def marquetrylaw27_answers.f : Option Bool := some true
set_option maxHeartbeats 1000000 in
set_option maxRecDepth 100000 in
theorem marquetrylaw27_answers.calls (r : Bool) (w : World) (h : marquetrylaw27_answers.f = some r) :
    Calls Try.prog 11 #[] w fun e w' => e = .returned (.bool r) ∧ Below w.heap.size w w' := by
  obtain rfl : true = r := Option.some.inj h
  clear h
  have H1 := ((St.refl w).alloc #[.int .u32 2164195328] 22)
  have H2 := H1.alloc #[.int .i64 1, .int .i64 1, .slice (some ⟨w.heap.size, 0, none⟩) 1 1] 31
  have H3 := H2.alloc #[.int .i64 0, .int .i64 0, .bool false, .bool false, .int .i64 1, .int .i64 1, .slice (some ⟨w.heap.size, 0, none⟩) 1 1] 47
  rw [show ((w.alloc (.cells #[.int .u32 2164195328] 22)).alloc (.cells #[.int .i64 1, .int .i64 1, .slice (some ⟨w.heap.size, 0, none⟩) 1 1] 31)).heap.size = w.heap.size + 1 + 1 by simp, show (w.alloc (.cells #[.int .u32 2164195328] 22)).heap.size = w.heap.size + 1 by simp] at H3
  have hr := one_reads H3
  have HQ := Aside0.mk H3.swap
  have HR := Aside0.mk (renderF_calls 1 1 _ 1 [oneP] 0 1 1 [2164195328] 0 _ hr (by decide) one_render)
  have ho : overP 4278190335 4278255360 = 4278255360 := by decide
  have HO := Aside0.mk ho
  clear H1 H2 H3 hr ho
  go_enter Try.func11, Try.ntmps11
  go_wp2_with fail
  refine HR.out.mono ?_; rintro e w4 ⟨v, rfl, ho, hb⟩
  obtain ⟨B, cB, rfl⟩ := Kd.R_slice ho
  have hs := HQ.out.newRow hb (Kd.own_of_R ho) (Nat.le_refl _)
  obtain ⟨gb, rfl⟩ := hs.rowForm (by decide)
  have hs2 := hs.alloc #[.int .i64 1, .int .i64 1, .slice (some ⟨gb, 0, none⟩) 1 cB] 31
  have m0 := (hs2.cell 0).trans rfl
  have m1 := (hs2.cell 1).trans rfl
  have m2 := (hs2.cell 2).trans rfl
  have m3 : (w4.alloc (.cells #[.int .i64 1, .int .i64 1, .slice (some ⟨gb, 0, none⟩) 1 cB] 31)).cell? ⟨gb, 0, none⟩ = some (.int .u32 2164195328) := (hs2.swap.rowAt 0 (by decide) (by decide)).1
  have HB := Aside0.mk hs2.below
  clear ho hb hs2 hs HQ HR
  go_wp2_with fail
  refine (canvas_Over.calls 4278190335 4278255360 4278255360 _ (by rw [canvas_Over.f, if_pos (by decide), HO.out])).mono ?_; rintro e w5 ⟨rfl, hb⟩
  have HB2 := Aside0.mk (below_then HB.out hb); clear hb
  go_wp2_with fail
  go_ret
  exact ⟨rfl, HB2.out⟩

/-! ### marquetrylaw27_CanvasOver: function 3 -/
def marquetrylaw27_CanvasOver.f (a0 : Int) (a1 : Int) : Option (Bool) := (canvas_Over.f a0 a1).bind fun t107 => (if (a1 / 16777216) = 0 then ((marquetrylaw27_answers.f).bind fun t108 => (if t108 = true then ((marquetryref24_Over.f a0 a1).bind fun t109 => (if t107 = t109 then (if ((a1 / 16777216) = 255) then (if t107 = a1 then (if ((a0 / 16777216) = 255) then (if t107 = a0 then (some (decide ((t107 / 16777216) ≥ (a1 / 16777216)))) else (some false)) else (some (decide ((t107 / 16777216) ≥ (a1 / 16777216))))) else (some false)) else (if ((a0 / 16777216) = 255) then (if t107 = a0 then (some (decide ((t107 / 16777216) ≥ (a1 / 16777216)))) else (some false)) else (some (decide ((t107 / 16777216) ≥ (a1 / 16777216)))))) else (some false))) else (some false))) else ((marquetrylaw27_answers.f).bind fun t110 => (if t110 = true then ((marquetryref24_Over.f a0 a1).bind fun t111 => (if t107 = t111 then (if ((a1 / 16777216) = 255) then (if t107 = a1 then (some (decide ((t107 / 16777216) ≥ (a1 / 16777216)))) else (some false)) else (some (decide ((t107 / 16777216) ≥ (a1 / 16777216))))) else (some false))) else (some false))))
set_option maxHeartbeats 8000000 in
set_option maxRecDepth 100000 in
theorem marquetrylaw27_CanvasOver.calls (a0 : Int) (a1 : Int) (r : Bool) (w : World) (h : marquetrylaw27_CanvasOver.f a0 a1 = some r) (hr : r = true) :
    Calls Try.prog 3 #[.int .u32 a0, .int .u32 a1] w fun e w' => e = .returned (.bool r) ∧ Below w.heap.size w w' := by
  have HB := Aside0.mk (Below.refl w.heap.size w)
  have H : ((canvas_Over.f a0 a1).bind fun t107 => (if (a1 / 16777216) = 0 then ((marquetrylaw27_answers.f).bind fun t108 => (if t108 = true then ((marquetryref24_Over.f a0 a1).bind fun t109 => (if t107 = t109 then (if ((a1 / 16777216) = 255) then (if t107 = a1 then (if ((a0 / 16777216) = 255) then (if t107 = a0 then (some (decide ((t107 / 16777216) ≥ (a1 / 16777216)))) else (some false)) else (some (decide ((t107 / 16777216) ≥ (a1 / 16777216))))) else (some false)) else (if ((a0 / 16777216) = 255) then (if t107 = a0 then (some (decide ((t107 / 16777216) ≥ (a1 / 16777216)))) else (some false)) else (some (decide ((t107 / 16777216) ≥ (a1 / 16777216)))))) else (some false))) else (some false))) else ((marquetrylaw27_answers.f).bind fun t110 => (if t110 = true then ((marquetryref24_Over.f a0 a1).bind fun t111 => (if t107 = t111 then (if ((a1 / 16777216) = 255) then (if t107 = a1 then (some (decide ((t107 / 16777216) ≥ (a1 / 16777216)))) else (some false)) else (some (decide ((t107 / 16777216) ≥ (a1 / 16777216))))) else (some false))) else (some false))))) = some r := h
  clear h
  have Hr := Aside0.mk hr
  clear hr
  replace H := Option.bind_eq_some_iff.mp H
  obtain ⟨t107, A30, H⟩ := H
  replace H : (if (a1 / 16777216) = 0 then ((marquetrylaw27_answers.f).bind fun t108 => (if t108 = true then ((marquetryref24_Over.f a0 a1).bind fun t109 => (if t107 = t109 then (if ((a1 / 16777216) = 255) then (if t107 = a1 then (if ((a0 / 16777216) = 255) then (if t107 = a0 then (some (decide ((t107 / 16777216) ≥ (a1 / 16777216)))) else (some false)) else (some (decide ((t107 / 16777216) ≥ (a1 / 16777216))))) else (some false)) else (if ((a0 / 16777216) = 255) then (if t107 = a0 then (some (decide ((t107 / 16777216) ≥ (a1 / 16777216)))) else (some false)) else (some (decide ((t107 / 16777216) ≥ (a1 / 16777216)))))) else (some false))) else (some false))) else ((marquetrylaw27_answers.f).bind fun t110 => (if t110 = true then ((marquetryref24_Over.f a0 a1).bind fun t111 => (if t107 = t111 then (if ((a1 / 16777216) = 255) then (if t107 = a1 then (some (decide ((t107 / 16777216) ≥ (a1 / 16777216)))) else (some false)) else (some (decide ((t107 / 16777216) ≥ (a1 / 16777216))))) else (some false))) else (some false)))) = some r := H
  have A3 := Aside0.mk A30
  clear A30
  by_cases c4 : (a1 / 16777216) = 0
  · rw [if_pos c4] at H
    have c4b0 : ((a1 / 16777216) == 0) = true := beq_iff_eq.mpr c4
    have c4b1 : ((a1 / 16777216) != 0) = false := bne_eq_false_iff_eq.mpr c4
    clear c4
    replace H := Option.bind_eq_some_iff.mp H
    obtain ⟨t108, A50, H⟩ := H
    replace H : (if t108 = true then ((marquetryref24_Over.f a0 a1).bind fun t109 => (if t107 = t109 then (if ((a1 / 16777216) = 255) then (if t107 = a1 then (if ((a0 / 16777216) = 255) then (if t107 = a0 then (some (decide ((t107 / 16777216) ≥ (a1 / 16777216)))) else (some false)) else (some (decide ((t107 / 16777216) ≥ (a1 / 16777216))))) else (some false)) else (if ((a0 / 16777216) = 255) then (if t107 = a0 then (some (decide ((t107 / 16777216) ≥ (a1 / 16777216)))) else (some false)) else (some (decide ((t107 / 16777216) ≥ (a1 / 16777216)))))) else (some false))) else (some false)) = some r := H
    have A5 := Aside0.mk A50
    clear A50
    by_cases c6 : t108 = true
    · subst c6
      have H1 : ((marquetryref24_Over.f a0 a1).bind fun t109 => (if t107 = t109 then (if ((a1 / 16777216) = 255) then (if t107 = a1 then (if ((a0 / 16777216) = 255) then (if t107 = a0 then (some (decide ((t107 / 16777216) ≥ (a1 / 16777216)))) else (some false)) else (some (decide ((t107 / 16777216) ≥ (a1 / 16777216))))) else (some false)) else (if ((a0 / 16777216) = 255) then (if t107 = a0 then (some (decide ((t107 / 16777216) ≥ (a1 / 16777216)))) else (some false)) else (some (decide ((t107 / 16777216) ≥ (a1 / 16777216)))))) else (some false))) = some r := by rw [if_pos rfl] at H; exact H
      clear H
      have H := H1
      clear H1
      replace H := Option.bind_eq_some_iff.mp H
      obtain ⟨t109, A70, H⟩ := H
      replace H : (if t107 = t109 then (if ((a1 / 16777216) = 255) then (if t107 = a1 then (if ((a0 / 16777216) = 255) then (if t107 = a0 then (some (decide ((t107 / 16777216) ≥ (a1 / 16777216)))) else (some false)) else (some (decide ((t107 / 16777216) ≥ (a1 / 16777216))))) else (some false)) else (if ((a0 / 16777216) = 255) then (if t107 = a0 then (some (decide ((t107 / 16777216) ≥ (a1 / 16777216)))) else (some false)) else (some (decide ((t107 / 16777216) ≥ (a1 / 16777216)))))) else (some false)) = some r := H
      have A7 := Aside0.mk A70
      clear A70
      by_cases c8 : t107 = t109
      · rw [if_pos c8] at H
        have c8b0 : (t107 == t109) = true := beq_iff_eq.mpr c8
        have c8b1 : (t107 != t109) = false := bne_eq_false_iff_eq.mpr c8
        clear c8
        by_cases c9 : ((a1 / 16777216) = 255)
        · rw [if_pos c9] at H
          have c9b0 : ((a1 / 16777216) == 255) = true := beq_iff_eq.mpr c9
          have c9b1 : ((a1 / 16777216) != 255) = false := bne_eq_false_iff_eq.mpr c9
          clear c9
          by_cases c10 : t107 = a1
          · rw [if_pos c10] at H
            have c10b0 : (t107 == a1) = true := beq_iff_eq.mpr c10
            have c10b1 : (t107 != a1) = false := bne_eq_false_iff_eq.mpr c10
            clear c10
            by_cases c11 : ((a0 / 16777216) = 255)
            · rw [if_pos c11] at H
              have c11b0 : ((a0 / 16777216) == 255) = true := beq_iff_eq.mpr c11
              have c11b1 : ((a0 / 16777216) != 255) = false := bne_eq_false_iff_eq.mpr c11
              clear c11
              by_cases c12 : t107 = a0
              · rw [if_pos c12] at H
                have c12b0 : (t107 == a0) = true := beq_iff_eq.mpr c12
                have c12b1 : (t107 != a0) = false := bne_eq_false_iff_eq.mpr c12
                clear c12
                obtain rfl := Option.some.inj H
                go_enter Try.func3, Try.ntmps3
                go_wp2_with (first | ((with_reducible refine gate_callee (f := 10) rfl ?_); refine goesL_ (some 10) rfl rfl Try.func10 (by kernel_rfl) rfl #[.int .u32 a0, .int .u32 a1] rfl (by (try simp only [List.map_toArray, List.map_cons, List.map_nil]); first | done | rfl | (simp only [List.length_drop, List.length_take]; rfl)) ?_; (with_reducible refine (canvas_Over.calls a0 a1 t107 _ A3.out).mono ?_); clear A3; rintro e w13 ⟨rfl, hb⟩; refine ⟨_, rfl, ?_⟩; have n0_ := Aside0.mk (below_step (by repeat (first | (with_reducible first | exact HB.out | apply below_alloc | apply pw_below_drewN | apply below_drew1) | exact HB.out)) hb); clear HB; have HB := n0_; clear n0_; (try clear hb); (try clear hb2); (try clear hk); (try clear hi)) | (go_at_call 10; (with_reducible refine (canvas_Over.calls a0 a1 t107 _ A3.out).mono ?_); clear A3; rintro e w13 ⟨rfl, hb⟩; have n0_ := Aside0.mk (below_step (by repeat (first | (with_reducible first | exact HB.out | apply below_alloc | apply pw_below_drewN | apply below_drew1) | exact HB.out)) hb); clear HB; have HB := n0_; clear n0_; (try clear hb); (try clear hb2); (try clear hk); (try clear hi)) | ((with_reducible refine gate_callee (f := 11) rfl ?_); refine goesL_ (some 22) rfl rfl Try.func11 (by kernel_rfl) rfl #[] rfl (by (try simp only [List.map_toArray, List.map_cons, List.map_nil]); first | done | rfl | (simp only [List.length_drop, List.length_take]; rfl)) ?_; (with_reducible refine (marquetrylaw27_answers.calls  true _ A5.out).mono ?_); clear A5; rintro e w14 ⟨rfl, hb⟩; refine ⟨_, rfl, ?_⟩; have n0_ := Aside0.mk (below_step (by repeat (first | (with_reducible first | exact HB.out | apply below_alloc | apply pw_below_drewN | apply below_drew1) | exact HB.out)) hb); clear HB; have HB := n0_; clear n0_; (try clear hb); (try clear hb2); (try clear hk); (try clear hi)) | (go_at_call 11; (with_reducible refine (marquetrylaw27_answers.calls  true _ A5.out).mono ?_); clear A5; rintro e w14 ⟨rfl, hb⟩; have n0_ := Aside0.mk (below_step (by repeat (first | (with_reducible first | exact HB.out | apply below_alloc | apply pw_below_drewN | apply below_drew1) | exact HB.out)) hb); clear HB; have HB := n0_; clear n0_; (try clear hb); (try clear hb2); (try clear hk); (try clear hi)) | (go_at_call 12; (with_reducible refine (marquetryref24_Over.calls a0 a1 t109 _ A7.out).mono ?_); clear A7; rintro e w15 ⟨rfl, hb⟩; have n0_ := Aside0.mk (below_step (by repeat (first | (with_reducible first | exact HB.out | apply below_alloc | apply pw_below_drewN | apply below_drew1) | exact HB.out)) hb); clear HB; have HB := n0_; clear n0_; (try clear hb); (try clear hb2); (try clear hk); (try clear hi)))
                go_ret
                exact ⟨by first | rfl | (simp [errW_none, errW_some] <;> rfl) | (simp [*, errW_none, errW_some] <;> rfl), by repeat (first | (with_reducible first | exact HB.out | apply below_alloc | apply pw_below_drewN | apply below_drew1) | exact HB.out)⟩
              · rw [if_neg c12] at H
                have c12b0 : (t107 == a0) = false := beq_eq_false_iff_ne.mpr c12
                have c12b1 : (t107 != a0) = true := bne_iff_ne.mpr c12
                exact absurd ((Option.some.inj H).trans Hr.out) (by decide)
            · rw [if_neg c11] at H
              have c11b0 : ((a0 / 16777216) == 255) = false := beq_eq_false_iff_ne.mpr c11
              have c11b1 : ((a0 / 16777216) != 255) = true := bne_iff_ne.mpr c11
              obtain rfl := Option.some.inj H
              go_enter Try.func3, Try.ntmps3
              go_wp2_with (first | ((with_reducible refine gate_callee (f := 10) rfl ?_); refine goesL_ (some 10) rfl rfl Try.func10 (by kernel_rfl) rfl #[.int .u32 a0, .int .u32 a1] rfl (by (try simp only [List.map_toArray, List.map_cons, List.map_nil]); first | done | rfl | (simp only [List.length_drop, List.length_take]; rfl)) ?_; (with_reducible refine (canvas_Over.calls a0 a1 t107 _ A3.out).mono ?_); clear A3; rintro e w16 ⟨rfl, hb⟩; refine ⟨_, rfl, ?_⟩; have n0_ := Aside0.mk (below_step (by repeat (first | (with_reducible first | exact HB.out | apply below_alloc | apply pw_below_drewN | apply below_drew1) | exact HB.out)) hb); clear HB; have HB := n0_; clear n0_; (try clear hb); (try clear hb2); (try clear hk); (try clear hi)) | (go_at_call 10; (with_reducible refine (canvas_Over.calls a0 a1 t107 _ A3.out).mono ?_); clear A3; rintro e w16 ⟨rfl, hb⟩; have n0_ := Aside0.mk (below_step (by repeat (first | (with_reducible first | exact HB.out | apply below_alloc | apply pw_below_drewN | apply below_drew1) | exact HB.out)) hb); clear HB; have HB := n0_; clear n0_; (try clear hb); (try clear hb2); (try clear hk); (try clear hi)) | ((with_reducible refine gate_callee (f := 11) rfl ?_); refine goesL_ (some 22) rfl rfl Try.func11 (by kernel_rfl) rfl #[] rfl (by (try simp only [List.map_toArray, List.map_cons, List.map_nil]); first | done | rfl | (simp only [List.length_drop, List.length_take]; rfl)) ?_; (with_reducible refine (marquetrylaw27_answers.calls  true _ A5.out).mono ?_); clear A5; rintro e w17 ⟨rfl, hb⟩; refine ⟨_, rfl, ?_⟩; have n0_ := Aside0.mk (below_step (by repeat (first | (with_reducible first | exact HB.out | apply below_alloc | apply pw_below_drewN | apply below_drew1) | exact HB.out)) hb); clear HB; have HB := n0_; clear n0_; (try clear hb); (try clear hb2); (try clear hk); (try clear hi)) | (go_at_call 11; (with_reducible refine (marquetrylaw27_answers.calls  true _ A5.out).mono ?_); clear A5; rintro e w17 ⟨rfl, hb⟩; have n0_ := Aside0.mk (below_step (by repeat (first | (with_reducible first | exact HB.out | apply below_alloc | apply pw_below_drewN | apply below_drew1) | exact HB.out)) hb); clear HB; have HB := n0_; clear n0_; (try clear hb); (try clear hb2); (try clear hk); (try clear hi)) | (go_at_call 12; (with_reducible refine (marquetryref24_Over.calls a0 a1 t109 _ A7.out).mono ?_); clear A7; rintro e w18 ⟨rfl, hb⟩; have n0_ := Aside0.mk (below_step (by repeat (first | (with_reducible first | exact HB.out | apply below_alloc | apply pw_below_drewN | apply below_drew1) | exact HB.out)) hb); clear HB; have HB := n0_; clear n0_; (try clear hb); (try clear hb2); (try clear hk); (try clear hi)))
              go_ret
              exact ⟨by first | rfl | (simp [errW_none, errW_some] <;> rfl) | (simp [*, errW_none, errW_some] <;> rfl), by repeat (first | (with_reducible first | exact HB.out | apply below_alloc | apply pw_below_drewN | apply below_drew1) | exact HB.out)⟩
          · rw [if_neg c10] at H
            have c10b0 : (t107 == a1) = false := beq_eq_false_iff_ne.mpr c10
            have c10b1 : (t107 != a1) = true := bne_iff_ne.mpr c10
            exact absurd ((Option.some.inj H).trans Hr.out) (by decide)
        · rw [if_neg c9] at H
          have c9b0 : ((a1 / 16777216) == 255) = false := beq_eq_false_iff_ne.mpr c9
          have c9b1 : ((a1 / 16777216) != 255) = true := bne_iff_ne.mpr c9
          by_cases c19 : ((a0 / 16777216) = 255)
          · rw [if_pos c19] at H
            have c19b0 : ((a0 / 16777216) == 255) = true := beq_iff_eq.mpr c19
            have c19b1 : ((a0 / 16777216) != 255) = false := bne_eq_false_iff_eq.mpr c19
            clear c19
            by_cases c20 : t107 = a0
            · rw [if_pos c20] at H
              have c20b0 : (t107 == a0) = true := beq_iff_eq.mpr c20
              have c20b1 : (t107 != a0) = false := bne_eq_false_iff_eq.mpr c20
              clear c20
              obtain rfl := Option.some.inj H
              go_enter Try.func3, Try.ntmps3
              go_wp2_with (first | ((with_reducible refine gate_callee (f := 10) rfl ?_); refine goesL_ (some 10) rfl rfl Try.func10 (by kernel_rfl) rfl #[.int .u32 a0, .int .u32 a1] rfl (by (try simp only [List.map_toArray, List.map_cons, List.map_nil]); first | done | rfl | (simp only [List.length_drop, List.length_take]; rfl)) ?_; (with_reducible refine (canvas_Over.calls a0 a1 t107 _ A3.out).mono ?_); clear A3; rintro e w21 ⟨rfl, hb⟩; refine ⟨_, rfl, ?_⟩; have n0_ := Aside0.mk (below_step (by repeat (first | (with_reducible first | exact HB.out | apply below_alloc | apply pw_below_drewN | apply below_drew1) | exact HB.out)) hb); clear HB; have HB := n0_; clear n0_; (try clear hb); (try clear hb2); (try clear hk); (try clear hi)) | (go_at_call 10; (with_reducible refine (canvas_Over.calls a0 a1 t107 _ A3.out).mono ?_); clear A3; rintro e w21 ⟨rfl, hb⟩; have n0_ := Aside0.mk (below_step (by repeat (first | (with_reducible first | exact HB.out | apply below_alloc | apply pw_below_drewN | apply below_drew1) | exact HB.out)) hb); clear HB; have HB := n0_; clear n0_; (try clear hb); (try clear hb2); (try clear hk); (try clear hi)) | ((with_reducible refine gate_callee (f := 11) rfl ?_); refine goesL_ (some 22) rfl rfl Try.func11 (by kernel_rfl) rfl #[] rfl (by (try simp only [List.map_toArray, List.map_cons, List.map_nil]); first | done | rfl | (simp only [List.length_drop, List.length_take]; rfl)) ?_; (with_reducible refine (marquetrylaw27_answers.calls  true _ A5.out).mono ?_); clear A5; rintro e w22 ⟨rfl, hb⟩; refine ⟨_, rfl, ?_⟩; have n0_ := Aside0.mk (below_step (by repeat (first | (with_reducible first | exact HB.out | apply below_alloc | apply pw_below_drewN | apply below_drew1) | exact HB.out)) hb); clear HB; have HB := n0_; clear n0_; (try clear hb); (try clear hb2); (try clear hk); (try clear hi)) | (go_at_call 11; (with_reducible refine (marquetrylaw27_answers.calls  true _ A5.out).mono ?_); clear A5; rintro e w22 ⟨rfl, hb⟩; have n0_ := Aside0.mk (below_step (by repeat (first | (with_reducible first | exact HB.out | apply below_alloc | apply pw_below_drewN | apply below_drew1) | exact HB.out)) hb); clear HB; have HB := n0_; clear n0_; (try clear hb); (try clear hb2); (try clear hk); (try clear hi)) | (go_at_call 12; (with_reducible refine (marquetryref24_Over.calls a0 a1 t109 _ A7.out).mono ?_); clear A7; rintro e w23 ⟨rfl, hb⟩; have n0_ := Aside0.mk (below_step (by repeat (first | (with_reducible first | exact HB.out | apply below_alloc | apply pw_below_drewN | apply below_drew1) | exact HB.out)) hb); clear HB; have HB := n0_; clear n0_; (try clear hb); (try clear hb2); (try clear hk); (try clear hi)))
              go_ret
              exact ⟨by first | rfl | (simp [errW_none, errW_some] <;> rfl) | (simp [*, errW_none, errW_some] <;> rfl), by repeat (first | (with_reducible first | exact HB.out | apply below_alloc | apply pw_below_drewN | apply below_drew1) | exact HB.out)⟩
            · rw [if_neg c20] at H
              have c20b0 : (t107 == a0) = false := beq_eq_false_iff_ne.mpr c20
              have c20b1 : (t107 != a0) = true := bne_iff_ne.mpr c20
              exact absurd ((Option.some.inj H).trans Hr.out) (by decide)
          · rw [if_neg c19] at H
            have c19b0 : ((a0 / 16777216) == 255) = false := beq_eq_false_iff_ne.mpr c19
            have c19b1 : ((a0 / 16777216) != 255) = true := bne_iff_ne.mpr c19
            obtain rfl := Option.some.inj H
            go_enter Try.func3, Try.ntmps3
            go_wp2_with (first | ((with_reducible refine gate_callee (f := 10) rfl ?_); refine goesL_ (some 10) rfl rfl Try.func10 (by kernel_rfl) rfl #[.int .u32 a0, .int .u32 a1] rfl (by (try simp only [List.map_toArray, List.map_cons, List.map_nil]); first | done | rfl | (simp only [List.length_drop, List.length_take]; rfl)) ?_; (with_reducible refine (canvas_Over.calls a0 a1 t107 _ A3.out).mono ?_); clear A3; rintro e w24 ⟨rfl, hb⟩; refine ⟨_, rfl, ?_⟩; have n0_ := Aside0.mk (below_step (by repeat (first | (with_reducible first | exact HB.out | apply below_alloc | apply pw_below_drewN | apply below_drew1) | exact HB.out)) hb); clear HB; have HB := n0_; clear n0_; (try clear hb); (try clear hb2); (try clear hk); (try clear hi)) | (go_at_call 10; (with_reducible refine (canvas_Over.calls a0 a1 t107 _ A3.out).mono ?_); clear A3; rintro e w24 ⟨rfl, hb⟩; have n0_ := Aside0.mk (below_step (by repeat (first | (with_reducible first | exact HB.out | apply below_alloc | apply pw_below_drewN | apply below_drew1) | exact HB.out)) hb); clear HB; have HB := n0_; clear n0_; (try clear hb); (try clear hb2); (try clear hk); (try clear hi)) | ((with_reducible refine gate_callee (f := 11) rfl ?_); refine goesL_ (some 22) rfl rfl Try.func11 (by kernel_rfl) rfl #[] rfl (by (try simp only [List.map_toArray, List.map_cons, List.map_nil]); first | done | rfl | (simp only [List.length_drop, List.length_take]; rfl)) ?_; (with_reducible refine (marquetrylaw27_answers.calls  true _ A5.out).mono ?_); clear A5; rintro e w25 ⟨rfl, hb⟩; refine ⟨_, rfl, ?_⟩; have n0_ := Aside0.mk (below_step (by repeat (first | (with_reducible first | exact HB.out | apply below_alloc | apply pw_below_drewN | apply below_drew1) | exact HB.out)) hb); clear HB; have HB := n0_; clear n0_; (try clear hb); (try clear hb2); (try clear hk); (try clear hi)) | (go_at_call 11; (with_reducible refine (marquetrylaw27_answers.calls  true _ A5.out).mono ?_); clear A5; rintro e w25 ⟨rfl, hb⟩; have n0_ := Aside0.mk (below_step (by repeat (first | (with_reducible first | exact HB.out | apply below_alloc | apply pw_below_drewN | apply below_drew1) | exact HB.out)) hb); clear HB; have HB := n0_; clear n0_; (try clear hb); (try clear hb2); (try clear hk); (try clear hi)) | (go_at_call 12; (with_reducible refine (marquetryref24_Over.calls a0 a1 t109 _ A7.out).mono ?_); clear A7; rintro e w26 ⟨rfl, hb⟩; have n0_ := Aside0.mk (below_step (by repeat (first | (with_reducible first | exact HB.out | apply below_alloc | apply pw_below_drewN | apply below_drew1) | exact HB.out)) hb); clear HB; have HB := n0_; clear n0_; (try clear hb); (try clear hb2); (try clear hk); (try clear hi)))
            go_ret
            exact ⟨by first | rfl | (simp [errW_none, errW_some] <;> rfl) | (simp [*, errW_none, errW_some] <;> rfl), by repeat (first | (with_reducible first | exact HB.out | apply below_alloc | apply pw_below_drewN | apply below_drew1) | exact HB.out)⟩
      · rw [if_neg c8] at H
        have c8b0 : (t107 == t109) = false := beq_eq_false_iff_ne.mpr c8
        have c8b1 : (t107 != t109) = true := bne_iff_ne.mpr c8
        exact absurd ((Option.some.inj H).trans Hr.out) (by decide)
    · replace c6 := Bool.eq_false_iff.mpr c6
      subst c6
      have H1 : (some false) = some r := by rw [if_neg (show ¬ (false = true) by decide)] at H; exact H
      clear H
      have H := H1
      clear H1
      exact absurd ((Option.some.inj H).trans Hr.out) (by decide)
  · rw [if_neg c4] at H
    have c4b0 : ((a1 / 16777216) == 0) = false := beq_eq_false_iff_ne.mpr c4
    have c4b1 : ((a1 / 16777216) != 0) = true := bne_iff_ne.mpr c4
    replace H := Option.bind_eq_some_iff.mp H
    obtain ⟨t110, A270, H⟩ := H
    replace H : (if t110 = true then ((marquetryref24_Over.f a0 a1).bind fun t111 => (if t107 = t111 then (if ((a1 / 16777216) = 255) then (if t107 = a1 then (some (decide ((t107 / 16777216) ≥ (a1 / 16777216)))) else (some false)) else (some (decide ((t107 / 16777216) ≥ (a1 / 16777216))))) else (some false))) else (some false)) = some r := H
    have A27 := Aside0.mk A270
    clear A270
    by_cases c28 : t110 = true
    · subst c28
      have H1 : ((marquetryref24_Over.f a0 a1).bind fun t111 => (if t107 = t111 then (if ((a1 / 16777216) = 255) then (if t107 = a1 then (some (decide ((t107 / 16777216) ≥ (a1 / 16777216)))) else (some false)) else (some (decide ((t107 / 16777216) ≥ (a1 / 16777216))))) else (some false))) = some r := by rw [if_pos rfl] at H; exact H
      clear H
      have H := H1
      clear H1
      replace H := Option.bind_eq_some_iff.mp H
      obtain ⟨t111, A290, H⟩ := H
      replace H : (if t107 = t111 then (if ((a1 / 16777216) = 255) then (if t107 = a1 then (some (decide ((t107 / 16777216) ≥ (a1 / 16777216)))) else (some false)) else (some (decide ((t107 / 16777216) ≥ (a1 / 16777216))))) else (some false)) = some r := H
      have A29 := Aside0.mk A290
      clear A290
      by_cases c30 : t107 = t111
      · rw [if_pos c30] at H
        have c30b0 : (t107 == t111) = true := beq_iff_eq.mpr c30
        have c30b1 : (t107 != t111) = false := bne_eq_false_iff_eq.mpr c30
        clear c30
        by_cases c31 : ((a1 / 16777216) = 255)
        · rw [if_pos c31] at H
          have c31b0 : ((a1 / 16777216) == 255) = true := beq_iff_eq.mpr c31
          have c31b1 : ((a1 / 16777216) != 255) = false := bne_eq_false_iff_eq.mpr c31
          clear c31
          by_cases c32 : t107 = a1
          · rw [if_pos c32] at H
            have c32b0 : (t107 == a1) = true := beq_iff_eq.mpr c32
            have c32b1 : (t107 != a1) = false := bne_eq_false_iff_eq.mpr c32
            clear c32
            obtain rfl := Option.some.inj H
            go_enter Try.func3, Try.ntmps3
            go_wp2_with (first | ((with_reducible refine gate_callee (f := 10) rfl ?_); refine goesL_ (some 10) rfl rfl Try.func10 (by kernel_rfl) rfl #[.int .u32 a0, .int .u32 a1] rfl (by (try simp only [List.map_toArray, List.map_cons, List.map_nil]); first | done | rfl | (simp only [List.length_drop, List.length_take]; rfl)) ?_; (with_reducible refine (canvas_Over.calls a0 a1 t107 _ A3.out).mono ?_); clear A3; rintro e w33 ⟨rfl, hb⟩; refine ⟨_, rfl, ?_⟩; have n0_ := Aside0.mk (below_step (by repeat (first | (with_reducible first | exact HB.out | apply below_alloc | apply pw_below_drewN | apply below_drew1) | exact HB.out)) hb); clear HB; have HB := n0_; clear n0_; (try clear hb); (try clear hb2); (try clear hk); (try clear hi)) | (go_at_call 10; (with_reducible refine (canvas_Over.calls a0 a1 t107 _ A3.out).mono ?_); clear A3; rintro e w33 ⟨rfl, hb⟩; have n0_ := Aside0.mk (below_step (by repeat (first | (with_reducible first | exact HB.out | apply below_alloc | apply pw_below_drewN | apply below_drew1) | exact HB.out)) hb); clear HB; have HB := n0_; clear n0_; (try clear hb); (try clear hb2); (try clear hk); (try clear hi)) | ((with_reducible refine gate_callee (f := 11) rfl ?_); refine goesL_ (some 22) rfl rfl Try.func11 (by kernel_rfl) rfl #[] rfl (by (try simp only [List.map_toArray, List.map_cons, List.map_nil]); first | done | rfl | (simp only [List.length_drop, List.length_take]; rfl)) ?_; (with_reducible refine (marquetrylaw27_answers.calls  true _ A27.out).mono ?_); clear A27; rintro e w34 ⟨rfl, hb⟩; refine ⟨_, rfl, ?_⟩; have n0_ := Aside0.mk (below_step (by repeat (first | (with_reducible first | exact HB.out | apply below_alloc | apply pw_below_drewN | apply below_drew1) | exact HB.out)) hb); clear HB; have HB := n0_; clear n0_; (try clear hb); (try clear hb2); (try clear hk); (try clear hi)) | (go_at_call 11; (with_reducible refine (marquetrylaw27_answers.calls  true _ A27.out).mono ?_); clear A27; rintro e w34 ⟨rfl, hb⟩; have n0_ := Aside0.mk (below_step (by repeat (first | (with_reducible first | exact HB.out | apply below_alloc | apply pw_below_drewN | apply below_drew1) | exact HB.out)) hb); clear HB; have HB := n0_; clear n0_; (try clear hb); (try clear hb2); (try clear hk); (try clear hi)) | (go_at_call 12; (with_reducible refine (marquetryref24_Over.calls a0 a1 t111 _ A29.out).mono ?_); clear A29; rintro e w35 ⟨rfl, hb⟩; have n0_ := Aside0.mk (below_step (by repeat (first | (with_reducible first | exact HB.out | apply below_alloc | apply pw_below_drewN | apply below_drew1) | exact HB.out)) hb); clear HB; have HB := n0_; clear n0_; (try clear hb); (try clear hb2); (try clear hk); (try clear hi)))
            go_ret
            exact ⟨by first | rfl | (simp [errW_none, errW_some] <;> rfl) | (simp [*, errW_none, errW_some] <;> rfl), by repeat (first | (with_reducible first | exact HB.out | apply below_alloc | apply pw_below_drewN | apply below_drew1) | exact HB.out)⟩
          · rw [if_neg c32] at H
            have c32b0 : (t107 == a1) = false := beq_eq_false_iff_ne.mpr c32
            have c32b1 : (t107 != a1) = true := bne_iff_ne.mpr c32
            exact absurd ((Option.some.inj H).trans Hr.out) (by decide)
        · rw [if_neg c31] at H
          have c31b0 : ((a1 / 16777216) == 255) = false := beq_eq_false_iff_ne.mpr c31
          have c31b1 : ((a1 / 16777216) != 255) = true := bne_iff_ne.mpr c31
          obtain rfl := Option.some.inj H
          go_enter Try.func3, Try.ntmps3
          go_wp2_with (first | ((with_reducible refine gate_callee (f := 10) rfl ?_); refine goesL_ (some 10) rfl rfl Try.func10 (by kernel_rfl) rfl #[.int .u32 a0, .int .u32 a1] rfl (by (try simp only [List.map_toArray, List.map_cons, List.map_nil]); first | done | rfl | (simp only [List.length_drop, List.length_take]; rfl)) ?_; (with_reducible refine (canvas_Over.calls a0 a1 t107 _ A3.out).mono ?_); clear A3; rintro e w36 ⟨rfl, hb⟩; refine ⟨_, rfl, ?_⟩; have n0_ := Aside0.mk (below_step (by repeat (first | (with_reducible first | exact HB.out | apply below_alloc | apply pw_below_drewN | apply below_drew1) | exact HB.out)) hb); clear HB; have HB := n0_; clear n0_; (try clear hb); (try clear hb2); (try clear hk); (try clear hi)) | (go_at_call 10; (with_reducible refine (canvas_Over.calls a0 a1 t107 _ A3.out).mono ?_); clear A3; rintro e w36 ⟨rfl, hb⟩; have n0_ := Aside0.mk (below_step (by repeat (first | (with_reducible first | exact HB.out | apply below_alloc | apply pw_below_drewN | apply below_drew1) | exact HB.out)) hb); clear HB; have HB := n0_; clear n0_; (try clear hb); (try clear hb2); (try clear hk); (try clear hi)) | ((with_reducible refine gate_callee (f := 11) rfl ?_); refine goesL_ (some 22) rfl rfl Try.func11 (by kernel_rfl) rfl #[] rfl (by (try simp only [List.map_toArray, List.map_cons, List.map_nil]); first | done | rfl | (simp only [List.length_drop, List.length_take]; rfl)) ?_; (with_reducible refine (marquetrylaw27_answers.calls  true _ A27.out).mono ?_); clear A27; rintro e w37 ⟨rfl, hb⟩; refine ⟨_, rfl, ?_⟩; have n0_ := Aside0.mk (below_step (by repeat (first | (with_reducible first | exact HB.out | apply below_alloc | apply pw_below_drewN | apply below_drew1) | exact HB.out)) hb); clear HB; have HB := n0_; clear n0_; (try clear hb); (try clear hb2); (try clear hk); (try clear hi)) | (go_at_call 11; (with_reducible refine (marquetrylaw27_answers.calls  true _ A27.out).mono ?_); clear A27; rintro e w37 ⟨rfl, hb⟩; have n0_ := Aside0.mk (below_step (by repeat (first | (with_reducible first | exact HB.out | apply below_alloc | apply pw_below_drewN | apply below_drew1) | exact HB.out)) hb); clear HB; have HB := n0_; clear n0_; (try clear hb); (try clear hb2); (try clear hk); (try clear hi)) | (go_at_call 12; (with_reducible refine (marquetryref24_Over.calls a0 a1 t111 _ A29.out).mono ?_); clear A29; rintro e w38 ⟨rfl, hb⟩; have n0_ := Aside0.mk (below_step (by repeat (first | (with_reducible first | exact HB.out | apply below_alloc | apply pw_below_drewN | apply below_drew1) | exact HB.out)) hb); clear HB; have HB := n0_; clear n0_; (try clear hb); (try clear hb2); (try clear hk); (try clear hi)))
          go_ret
          exact ⟨by first | rfl | (simp [errW_none, errW_some] <;> rfl) | (simp [*, errW_none, errW_some] <;> rfl), by repeat (first | (with_reducible first | exact HB.out | apply below_alloc | apply pw_below_drewN | apply below_drew1) | exact HB.out)⟩
      · rw [if_neg c30] at H
        have c30b0 : (t107 == t111) = false := beq_eq_false_iff_ne.mpr c30
        have c30b1 : (t107 != t111) = true := bne_iff_ne.mpr c30
        exact absurd ((Option.some.inj H).trans Hr.out) (by decide)
    · replace c28 := Bool.eq_false_iff.mpr c28
      subst c28
      have H1 : (some false) = some r := by rw [if_neg (show ¬ (false = true) by decide)] at H; exact H
      clear H
      have H := H1
      clear H1
      exact absurd ((Option.some.inj H).trans Hr.out) (by decide)

/-- THE ONE PURE STATEMENT of marquetrylaw27_CanvasOver: yours. -/
def marquetrylaw27_CanvasOver.Pure : Prop := ∀ (a0 : Int) (a1 : Int), (Lit.int .u32 a0).wf = true → (Lit.int .u32 a1).wf = true → marquetrylaw27_CanvasOver.f a0 a1 = some true
theorem marquetrylaw27_CanvasOver.walk (P : marquetrylaw27_CanvasOver.Pure) (a0 : Int) (a1 : Int) (w : World) (w0 : (Lit.int .u32 a0).wf = true) (w1 : (Lit.int .u32 a1).wf = true) :
    Calls Try.prog 3 #[.int .u32 a0, .int .u32 a1] w fun e w' => e = .returned (.bool true) ∧ Below w.heap.size w w' := by
  have h := P a0 a1 w0 w1
  refine (marquetrylaw27_CanvasOver.calls a0 a1 true w h rfl).mono ?_
  rintro e w' ⟨rfl, hd⟩
  exact ⟨rfl, hd⟩

/-! ### marquetrylaw27_small: function 13 -/
def marquetrylaw27_small.l0 : Nat → Int → Int → List (S47) → Int → Int → Option (Bool)
  | 0, _, _, _, _, _ => none
  | k + 1, x0, x1, x2, x7, x8 => if x8 < (x2.length : Int) then (if x7 < 3000 then (if 0 ≤ x8 then (marquetrylaw27_small.l0 k x0 x1 x2 (wrap64 ((wrap64 (x7 + 1)) + (((rd_T47 x2 x8).f4.f2).length : Int))) (wrap64 (x8 + 1))) else (none)) else (if x0 ≤ 60 then (if x1 ≤ 60 then (some (decide (x7 < 3000))) else (some false)) else (some false))) else (if x0 ≤ 60 then (if x1 ≤ 60 then (some (decide (x7 < 3000))) else (some false)) else (some false))
def marquetrylaw27_small.f (k : Nat) (a0 : Int) (a1 : Int) (l2 : List (S47)) : Option (Bool) := marquetrylaw27_small.l0 k a0 a1 l2 0 0
theorem marquetrylaw27_small.mono_l : ∀ k, (∀ y0 y1 y2 y3 y4, LeO (marquetrylaw27_small.l0 k y0 y1 y2 y3 y4) (marquetrylaw27_small.l0 (k + 1) y0 y1 y2 y3 y4))
  | 0 => fun _ _ _ _ _ r h => by simp [marquetrylaw27_small.l0] at h
  | k + 1 => by
    have ih0 := marquetrylaw27_small.mono_l k
    · intro y0 y1 y2 y3 y4
      unfold marquetrylaw27_small.l0
      repeat' first
      | (with_reducible exact ih0 _ _ _ _ _)
      | (with_reducible exact LeO.refl _)
      | (with_reducible exact LeO.none _)
      | (with_reducible refine LeO.ite ?_ ?_)
      | (with_reducible refine LeO.bind ?_ (fun _ => ?_))
      | exact ih0 _ _ _ _ _
      | exact LeO.none _
      | refine LeO.ite ?_ ?_
      | refine LeO.bind ?_ (fun _ => ?_)
theorem marquetrylaw27_small.mono : ∀ a0 a1 a2 k, LeO (marquetrylaw27_small.f k a0 a1 a2) (marquetrylaw27_small.f (k + 1) a0 a1 a2) := by
  intro a0 a1 a2 k
  have ih0 := marquetrylaw27_small.mono_l k
  unfold marquetrylaw27_small.f
  repeat' first
      | (with_reducible exact ih0 _ _ _ _ _)
      | (with_reducible exact LeO.refl _)
      | (with_reducible exact LeO.none _)
      | (with_reducible refine LeO.ite ?_ ?_)
      | (with_reducible refine LeO.bind ?_ (fun _ => ?_))
      | exact ih0 _ _ _ _ _
      | exact LeO.none _
      | refine LeO.ite ?_ ?_
      | refine LeO.bind ?_ (fun _ => ?_)
set_option maxHeartbeats 8000000 in
set_option maxRecDepth 100000 in
theorem marquetrylaw27_small.calls (k : Nat) (a0 : Int) (a1 : Int) (A2 : Option Addr) (c2 : Nat) (l2 : List (S47)) (r : Bool) (w : World) (hr2 : Kd.C k47 w A2 l2.length l2) (hc2 : l2.length ≤ c2) (h : marquetrylaw27_small.f k a0 a1 l2 = some r) :
    Calls Try.prog 13 #[.int .i64 a0, .int .i64 a1, .slice A2 l2.length c2] w fun e w' => e = .returned (.bool r) ∧ Drawn0 w w' := by
  have HR2 := Aside0.mk hr2
  have HC2 := Aside0.mk hc2
  clear hr2 hc2
  have H : (marquetrylaw27_small.l0 k a0 a1 l2 0 0) = some r := h
  clear h
  have H' := Aside0.mk H
  clear H
  go_enter Try.func13, Try.ntmps13
  go_wp2
  go_loopg [7, 8] k (fun kq v7 v8 w' => ∃ (x7_1 : Int) (x8_1 : Int), v7 = .int .i64 x7_1 ∧ v8 = .int .i64 x8_1 ∧ Aside0 (marquetrylaw27_small.l0 kq a0 a1 l2 x7_1 x8_1 = some r) ∧ Aside0 (kq ≤ k) ∧ Drawn0 w w')
  case atStart => exact ⟨(0), (0), (by first | rfl | (simp; done) | (simp [*]; done)), (by first | rfl | (simp; done) | (simp [*]; done)), H', ⟨Nat.le_refl _⟩, by repeat (first | exact Drawn0.refl _ | apply Drawn0.step)⟩
  case round =>
    clear H'
    try clear c1
    try clear c2
    try clear p2
    obtain ⟨x7_1, x8_1, rfl, rfl, HA, HK1, ⟨m1, rfl⟩⟩ := hrel
    cases gk with
    | zero => exact absurd HA.out (by simp [marquetrylaw27_small.l0])
    | succ k1 =>
      have H := HA.out
      clear HA
      simp only [marquetrylaw27_small.l0] at H
      by_cases c4 : x8_1 < (l2.length : Int)
      · rw [if_pos c4] at H
        have c4b0 : decide (x8_1 < (l2.length : Int)) = true := decide_eq_true c4
        clear c4
        by_cases c5 : x7_1 < 3000
        · rw [if_pos c5] at H
          have c5b0 : decide (x7_1 < 3000) = true := decide_eq_true c5
          clear c5
          by_cases c6 : 0 ≤ x8_1
          · rw [if_pos c6] at H
            have c6b0 : decide (0 ≤ x8_1) = true := decide_eq_true c6
            clear c6
            have H' := Aside0.mk H
            clear H
            have p112 : 0 ≤ (x8_1 : Int) := of_decide_eq_true (by first | (with_reducible assumption) | assumption)
            have q112 : x8_1 < (l2.length : Int) := of_decide_eq_true (by first | (with_reducible assumption) | assumption)
            obtain ⟨ad112, A112_6, c112_6, e112, hx112_0, hx112_1, hx112_2, hx112_3, hx112_4, hx112_5, hx112_6, hl112_6, hi112_6⟩ := at_T47 HR2.out x8_1 p112 q112
            cases e112
            have HR112_6 := Aside0.mk hi112_6
            have HC112_6 := Aside0.mk hl112_6
            clear hi112_6 hl112_6
            replace p112 := eq_true p112
            replace q112 := eq_true q112
            go_wp2
            go_roundg k1
            case measure => have := HK1.out; omega
            case rel => exact ⟨(wrap64 ((wrap64 (x7_1 + 1)) + (((rd_T47 l2 x8_1).f4.f2).length : Int))), (wrap64 (x8_1 + 1)), (by first | rfl | (simp; done) | (simp [*]; done)), (by first | rfl | (simp; done) | (simp [*]; done)), H', ⟨by have := HK1.out; omega⟩, by repeat (first | exact Drawn0.refl _ | apply Drawn0.step)⟩
          · rw [if_neg c6] at H
            exact absurd H (by simp)
        · rw [if_neg c5] at H
          have c5b0 : decide (x7_1 < 3000) = false := decide_eq_false c5
          clear c5
          by_cases c7 : a0 ≤ 60
          · rw [if_pos c7] at H
            have c7b0 : decide (a0 ≤ 60) = true := decide_eq_true c7
            clear c7
            by_cases c8 : a1 ≤ 60
            · rw [if_pos c8] at H
              have c8b0 : decide (a1 ≤ 60) = true := decide_eq_true c8
              clear c8
              obtain rfl := Option.some.inj H
              go_wp2
              go_ret
              exact ⟨by first | rfl | (simp; done) | (simp [*]; done), by repeat (first | exact Drawn0.refl _ | apply Drawn0.step)⟩
            · rw [if_neg c8] at H
              have c8b0 : decide (a1 ≤ 60) = false := decide_eq_false c8
              clear c8
              obtain rfl := Option.some.inj H
              go_wp2
              go_ret
              exact ⟨by first | rfl | (simp; done) | (simp [*]; done), by repeat (first | exact Drawn0.refl _ | apply Drawn0.step)⟩
          · rw [if_neg c7] at H
            have c7b0 : decide (a0 ≤ 60) = false := decide_eq_false c7
            clear c7
            obtain rfl := Option.some.inj H
            go_wp2
            go_ret
            exact ⟨by first | rfl | (simp; done) | (simp [*]; done), by repeat (first | exact Drawn0.refl _ | apply Drawn0.step)⟩
      · rw [if_neg c4] at H
        have c4b0 : decide (x8_1 < (l2.length : Int)) = false := decide_eq_false c4
        clear c4
        by_cases c9 : a0 ≤ 60
        · rw [if_pos c9] at H
          have c9b0 : decide (a0 ≤ 60) = true := decide_eq_true c9
          clear c9
          by_cases c10 : a1 ≤ 60
          · rw [if_pos c10] at H
            have c10b0 : decide (a1 ≤ 60) = true := decide_eq_true c10
            clear c10
            obtain rfl := Option.some.inj H
            go_wp2
            go_ret
            exact ⟨by first | rfl | (simp; done) | (simp [*]; done), by repeat (first | exact Drawn0.refl _ | apply Drawn0.step)⟩
          · rw [if_neg c10] at H
            have c10b0 : decide (a1 ≤ 60) = false := decide_eq_false c10
            clear c10
            obtain rfl := Option.some.inj H
            go_wp2
            go_ret
            exact ⟨by first | rfl | (simp; done) | (simp [*]; done), by repeat (first | exact Drawn0.refl _ | apply Drawn0.step)⟩
        · rw [if_neg c9] at H
          have c9b0 : decide (a0 ≤ 60) = false := decide_eq_false c9
          clear c9
          obtain rfl := Option.some.inj H
          go_wp2
          go_ret
          exact ⟨by first | rfl | (simp; done) | (simp [*]; done), by repeat (first | exact Drawn0.refl _ | apply Drawn0.step)⟩

/-! ### marquetrylaw27_parts: function 15 -/
def marquetrylaw27_parts.l0 : Nat → List (S47) → List (S39) → Int → Option ((List (S39)))
  | 0, _, _, _ => none
  | k + 1, x0, x3, x4 => if x4 < (x0.length : Int) then (if 0 ≤ x4 then (if x3.length < 2199023255552 then (marquetrylaw27_parts.l0 k x0 (x3 ++ [(⟨(rd_T47 x0 x4).f0, (rd_T47 x0 x4).f1, (rd_T47 x0 x4).f2, (rd_T47 x0 x4).f3, (⟨(rd_T47 x0 x4).f4.f0, (rd_T47 x0 x4).f4.f1, (rd_T47 x0 x4).f4.f2⟩ : S31)⟩ : S39)]) (wrap64 (x4 + 1))) else (none)) else (none)) else (some x3)
def marquetrylaw27_parts.f (k : Nat) (l0 : List (S47)) : Option ((List (S39))) := marquetrylaw27_parts.l0 k l0 ([] : List (S39)) 0
theorem marquetrylaw27_parts.mono_l : ∀ k, (∀ y0 y1 y2, LeO (marquetrylaw27_parts.l0 k y0 y1 y2) (marquetrylaw27_parts.l0 (k + 1) y0 y1 y2))
  | 0 => fun _ _ _ r h => by simp [marquetrylaw27_parts.l0] at h
  | k + 1 => by
    have ih0 := marquetrylaw27_parts.mono_l k
    · intro y0 y1 y2
      unfold marquetrylaw27_parts.l0
      repeat' first
      | (with_reducible exact ih0 _ _ _)
      | (with_reducible exact LeO.refl _)
      | (with_reducible exact LeO.none _)
      | (with_reducible refine LeO.ite ?_ ?_)
      | (with_reducible refine LeO.bind ?_ (fun _ => ?_))
      | exact ih0 _ _ _
      | exact LeO.none _
      | refine LeO.ite ?_ ?_
      | refine LeO.bind ?_ (fun _ => ?_)
theorem marquetrylaw27_parts.mono : ∀ a0 k, LeO (marquetrylaw27_parts.f k a0) (marquetrylaw27_parts.f (k + 1) a0) := by
  intro a0 k
  have ih0 := marquetrylaw27_parts.mono_l k
  unfold marquetrylaw27_parts.f
  repeat' first
      | (with_reducible exact ih0 _ _ _)
      | (with_reducible exact LeO.refl _)
      | (with_reducible exact LeO.none _)
      | (with_reducible refine LeO.ite ?_ ?_)
      | (with_reducible refine LeO.bind ?_ (fun _ => ?_))
      | exact ih0 _ _ _
      | exact LeO.none _
      | refine LeO.ite ?_ ?_
      | refine LeO.bind ?_ (fun _ => ?_)
def marquetrylaw27_parts.T5 : Bool × List (List Nat × List Nat) := (true, [([], []), ([], []), ([], []), ([1, 2], [1, 2]), ([3], [3]), ([4], [4]), ([], []), ([], []), ([6, 7], [6, 7]), ([8], [8]), ([9], [9]), ([], []), ([], []), ([11, 12], [11, 12]), ([13], [13]), ([14], [14]), ([], []), ([], []), ([16, 17], [16, 17]), ([18], [18]), ([19], [19]), ([], []), ([], []), ([21, 22], [21, 22]), ([23], [23]), ([24], [24]), ([5, 10, 15, 20, 25], [5, 10, 15, 20, 25]), ([26], [26]), ([0, 27], [0, 27]), ([28, 28, 0, 1, 2, 3, 4, 5, 6, 7, 8, 9, 10, 11, 12, 13, 14, 15, 16, 17, 18, 19, 20, 21, 22, 23, 24, 25, 26, 27, 28], [0, 28])])
def marquetrylaw27_parts.B5 : List Nat := [0, 0, 0, 6, 14, 30, 0, 0, 192, 448, 960, 0, 0, 6144, 14336, 30720, 0, 0, 196608, 458752, 983040, 0, 0, 6291456, 14680064, 31457280, 67108862, 134217726, 268435455, 536870911]
theorem marquetrylaw27_parts.tab5 : rtab .any (opsOf Try.f15 5) = marquetrylaw27_parts.T5 := by kernel_rfl
theorem marquetrylaw27_parts.bits5 : waitsOk marquetrylaw27_parts.T5.2 marquetrylaw27_parts.B5 = true := by kernel_rfl
set_option maxHeartbeats 8000000 in
set_option maxRecDepth 100000 in
theorem marquetrylaw27_parts.calls (k : Nat) (P0_ : Nat → Prop) (A0 : Option Addr) (c0 : Nat) (l0 : List (S47)) (r : List (S39)) (w : World) (hs0 : Kd.V k47 47 w w.heap.size (fun k_ => P0_ k_) (.slice A0 l0.length c0) l0) (h : marquetrylaw27_parts.f k l0 = some r) :
    Calls Try.prog 15 #[.slice A0 l0.length c0] w fun e w' => ∃ v0_ : Value, e = .returned (v0_) ∧ Kd.N k39 39 w' w.heap.size (fun k_ => (P0_ k_ ∨ w.heap.size ≤ k_)) v0_ r ∧ Below w.heap.size w w' := by
  have hu31 := Try.underlying31
  have hu39 := Try.underlying39
  have HO0 := Aside0.mk (show Kd.V k47 47 w w.heap.size (fun k_ => (P0_ k_ ∨ w.heap.size ≤ k_)) (.slice A0 l0.length c0) l0 from Kd.V_mono hs0 (fun k_ hk => .inl hk))
  have HB := Aside0.mk (Below.refl w.heap.size w)
  have H : (marquetrylaw27_parts.l0 k l0 ([] : List (S39)) 0) = some r := h
  clear h
  have H' := Aside0.mk H
  clear H
  go_enter Try.func15, Try.ntmps15
  go_wp2
  go_loopg [3, 4] k (fun kq v3 v4 w' => ∃ (x3_1 : List (S39)) (x4_1 : Int), v4 = .int .i64 x4_1 ∧ Aside0 (marquetrylaw27_parts.l0 kq l0 x3_1 x4_1 = some r) ∧ Aside0 (kq ≤ k) ∧ Aside0 (Kd.V k47 47 w' w.heap.size (fun k_ => (P0_ k_ ∨ w.heap.size ≤ k_) ∧ some k_ ≠ (v3 : Value).ownBlock) (.slice A0 l0.length c0) l0) ∧ Aside0 (Kd.N k39 39 w' w.heap.size (fun k_ => (P0_ k_ ∨ w.heap.size ≤ k_)) v3 x3_1) ∧ Aside0 (Below w.heap.size w w'))
  case atStart => exact ⟨(([] : List (S39))), (0), (by first | rfl | (simp; done) | (simp [*]; done)), H', ⟨Nat.le_refl _⟩, ⟨by (with_reducible repeat (first | apply Kd.V_alloc | apply Kd.V_drewN | apply Kd.V_drew)); exact Kd.V_mono HO0.out (fun _ hk => ⟨hk, (by simp [Value.ownBlock])⟩)⟩, ⟨by first | exact Kd.S_nil _ _ _ _ _ | exact Kd.N_nil _ _ _ _ _ | exact Kd.V_nil _ _ _ _ _ | exact Kd.Q_nil _ _ _ _ _ | exact Kd.R_nil _ _ _ _ _⟩, ⟨by repeat (first | (with_reducible first | exact HB.out | apply below_alloc | apply pw_below_drewN | apply below_drew1) | exact HB.out)⟩⟩
  case round =>
    clear H'
    try clear c1
    obtain ⟨x3_1, x4_1, rfl, HA, HK1, HO_0, HO_3, HB⟩ := hrel
    cases gk with
    | zero => exact absurd HA.out (by simp [marquetrylaw27_parts.l0])
    | succ k1 =>
      have H := HA.out
      clear HA
      simp only [marquetrylaw27_parts.l0] at H
      by_cases c2 : x4_1 < (l0.length : Int)
      · rw [if_pos c2] at H
        have c2b0 : decide (x4_1 < (l0.length : Int)) = true := decide_eq_true c2
        clear c2
        by_cases c3 : 0 ≤ x4_1
        · rw [if_pos c3] at H
          have c3b0 : decide (0 ≤ x4_1) = true := decide_eq_true c3
          clear c3
          by_cases c4 : x3_1.length < 2199023255552
          · rw [if_pos c4] at H
            have LMc4 := Aside0.mk c4
            clear c4
            obtain ⟨y118, hy118⟩ : ∃ y_ : List (S39), y_ = (x3_1 ++ [(⟨(rd_T47 l0 x4_1).f0, (rd_T47 l0 x4_1).f1, (rd_T47 l0 x4_1).f2, (rd_T47 l0 x4_1).f3, (⟨(rd_T47 l0 x4_1).f4.f0, (rd_T47 l0 x4_1).f4.f1, (rd_T47 l0 x4_1).f4.f2⟩ : S31)⟩ : S39)]) := ⟨_, rfl⟩
            replace H : (marquetrylaw27_parts.l0 k1 l0 y118 (wrap64 (x4_1 + 1))) = some r := by first | (rw [hy118]; with_reducible exact H) | (have H2_ := (Option.bind_some _ _).symm.trans H; rw [hy118]; with_reducible exact H2_) | (have H2_ := (Option.bind_some _ _).symm.trans H; with_reducible exact H2_) | with_reducible exact H | (rw [hy118]; exact H) | exact H
            have Ny118 := Aside0.mk hy118
            clear hy118
            have H' := Aside0.mk H
            clear H
            try go_wp2
            have n0_ := Aside0.mk (Kd.V_drew HO_0.out)
            have n1_ := Aside0.mk (Kd.N_drew HO_3.out)
            have n2_ := Aside0.mk (below_drew1 HB.out)
            clear HO_0
            clear HO_3
            clear HB
            have HO_0 := n0_
            have HO_3 := n1_
            have HB := n2_
            clear n0_ n1_ n2_
            have p113 : 0 ≤ (x4_1 : Int) := of_decide_eq_true (by first | (with_reducible assumption) | assumption)
            have q113 : x4_1 < (l0.length : Int) := of_decide_eq_true (by first | (with_reducible assumption) | assumption)
            obtain ⟨ad113, A113_6, c113_6, e113, hx113_0, hx113_1, hx113_2, hx113_3, hx113_4, hx113_5, hx113_6, hl113_6, hi113_6⟩ := at_T47 (Kd.V_reads' HO_0.out).2.2 x4_1 p113 q113
            cases e113
            obtain ⟨ce113, hce113, hMe113, hcc113⟩ := Kd.V_get HO_0.out z47 x4_1 p113 (by first | exact q113 | exact of_decide_eq_true (by first | (with_reducible assumption) | assumption) | (have e_ := (Kd.V_reads' HO_0.out).1; omega))
            obtain ⟨ua113_6, uc113_6, rfl, ul113_6, ge113_6⟩ := k47_openF hMe113
            have hv113_6 := hcc113 6 _ rfl
            rw [add_field _ _ 6 (by omega)] at hv113_6
            replace hv113_6 := Option.some.inj (hv113_6.symm.trans hx113_6)
            injection hv113_6 with hva_ hvn_ hvc_
            rw [hva_] at ge113_6
            rw [hvc_] at ul113_6
            have HL113_6 := Aside0.mk (show Kd.V (Kd.int .u32) 22 _ w.heap.size _ _ ((rd_T47 l0 x4_1).f4.f2) from Kd.V_mk ul113_6 ge113_6)
            clear hva_ hvn_ hvc_ ge113_6 ul113_6
            clear hcc113 hce113
            have HR113_6 := Aside0.mk hi113_6
            have HC113_6 := Aside0.mk hl113_6
            clear hi113_6 hl113_6
            replace p113 := eq_true p113
            replace q113 := eq_true q113
            have p114 : 0 ≤ (x4_1 : Int) := of_decide_eq_true (by first | (with_reducible assumption) | assumption)
            have q114 : x4_1 < (l0.length : Int) := of_decide_eq_true (by first | (with_reducible assumption) | assumption)
            obtain ⟨ad114, A114_6, c114_6, e114, hx114_0, hx114_1, hx114_2, hx114_3, hx114_4, hx114_5, hx114_6, hl114_6, hi114_6⟩ := at_T47 (Kd.V_reads' HO_0.out).2.2 x4_1 p114 q114
            obtain rfl : ad113 = ad114 := (by injection e114)
            obtain ⟨ce114, hce114, hMe114, hcc114⟩ := Kd.V_get HO_0.out z47 x4_1 p114 (by first | exact q114 | exact of_decide_eq_true (by first | (with_reducible assumption) | assumption) | (have e_ := (Kd.V_reads' HO_0.out).1; omega))
            obtain ⟨ua114_6, uc114_6, rfl, ul114_6, ge114_6⟩ := k47_openF hMe114
            have hv114_6 := hcc114 6 _ rfl
            rw [add_field _ _ 6 (by omega)] at hv114_6
            replace hv114_6 := Option.some.inj (hv114_6.symm.trans hx114_6)
            injection hv114_6 with hva_ hvn_ hvc_
            rw [hva_] at ge114_6
            rw [hvc_] at ul114_6
            have HL114_6 := Aside0.mk (show Kd.V (Kd.int .u32) 22 _ w.heap.size _ _ ((rd_T47 l0 x4_1).f4.f2) from Kd.V_mk ul114_6 ge114_6)
            clear hva_ hvn_ hvc_ ge114_6 ul114_6
            clear hcc114 hce114
            have HR114_6 := Aside0.mk hi114_6
            have HC114_6 := Aside0.mk hl114_6
            clear hi114_6 hl114_6
            replace p114 := eq_true p114
            replace q114 := eq_true q114
            have ea_ := Option.some.inj (hx113_6.symm.trans hx114_6)
            injection ea_ with ea_ en_ ec_
            subst ea_
            subst ec_
            clear en_
            have p115 : 0 ≤ (x4_1 : Int) := of_decide_eq_true (by first | (with_reducible assumption) | assumption)
            have q115 : x4_1 < (l0.length : Int) := of_decide_eq_true (by first | (with_reducible assumption) | assumption)
            obtain ⟨ad115, A115_6, c115_6, e115, hx115_0, hx115_1, hx115_2, hx115_3, hx115_4, hx115_5, hx115_6, hl115_6, hi115_6⟩ := at_T47 (Kd.V_reads' HO_0.out).2.2 x4_1 p115 q115
            obtain rfl : ad113 = ad115 := (by injection e115)
            obtain ⟨ce115, hce115, hMe115, hcc115⟩ := Kd.V_get HO_0.out z47 x4_1 p115 (by first | exact q115 | exact of_decide_eq_true (by first | (with_reducible assumption) | assumption) | (have e_ := (Kd.V_reads' HO_0.out).1; omega))
            obtain ⟨ua115_6, uc115_6, rfl, ul115_6, ge115_6⟩ := k47_openF hMe115
            have hv115_6 := hcc115 6 _ rfl
            rw [add_field _ _ 6 (by omega)] at hv115_6
            replace hv115_6 := Option.some.inj (hv115_6.symm.trans hx115_6)
            injection hv115_6 with hva_ hvn_ hvc_
            rw [hva_] at ge115_6
            rw [hvc_] at ul115_6
            have HL115_6 := Aside0.mk (show Kd.V (Kd.int .u32) 22 _ w.heap.size _ _ ((rd_T47 l0 x4_1).f4.f2) from Kd.V_mk ul115_6 ge115_6)
            clear hva_ hvn_ hvc_ ge115_6 ul115_6
            clear hcc115 hce115
            have HR115_6 := Aside0.mk hi115_6
            have HC115_6 := Aside0.mk hl115_6
            clear hi115_6 hl115_6
            replace p115 := eq_true p115
            replace q115 := eq_true q115
            have ea_ := Option.some.inj (hx113_6.symm.trans hx115_6)
            injection ea_ with ea_ en_ ec_
            subst ea_
            subst ec_
            clear en_
            have p116 : 0 ≤ (x4_1 : Int) := of_decide_eq_true (by first | (with_reducible assumption) | assumption)
            have q116 : x4_1 < (l0.length : Int) := of_decide_eq_true (by first | (with_reducible assumption) | assumption)
            obtain ⟨ad116, A116_6, c116_6, e116, hx116_0, hx116_1, hx116_2, hx116_3, hx116_4, hx116_5, hx116_6, hl116_6, hi116_6⟩ := at_T47 (Kd.V_reads' HO_0.out).2.2 x4_1 p116 q116
            obtain rfl : ad113 = ad116 := (by injection e116)
            obtain ⟨ce116, hce116, hMe116, hcc116⟩ := Kd.V_get HO_0.out z47 x4_1 p116 (by first | exact q116 | exact of_decide_eq_true (by first | (with_reducible assumption) | assumption) | (have e_ := (Kd.V_reads' HO_0.out).1; omega))
            obtain ⟨ua116_6, uc116_6, rfl, ul116_6, ge116_6⟩ := k47_openF hMe116
            have hv116_6 := hcc116 6 _ rfl
            rw [add_field _ _ 6 (by omega)] at hv116_6
            replace hv116_6 := Option.some.inj (hv116_6.symm.trans hx116_6)
            injection hv116_6 with hva_ hvn_ hvc_
            rw [hva_] at ge116_6
            rw [hvc_] at ul116_6
            have HL116_6 := Aside0.mk (show Kd.V (Kd.int .u32) 22 _ w.heap.size _ _ ((rd_T47 l0 x4_1).f4.f2) from Kd.V_mk ul116_6 ge116_6)
            clear hva_ hvn_ hvc_ ge116_6 ul116_6
            clear hcc116 hce116
            have HR116_6 := Aside0.mk hi116_6
            have HC116_6 := Aside0.mk hl116_6
            clear hi116_6 hl116_6
            replace p116 := eq_true p116
            replace q116 := eq_true q116
            have ea_ := Option.some.inj (hx113_6.symm.trans hx116_6)
            injection ea_ with ea_ en_ ec_
            subst ea_
            subst ec_
            clear en_
            have p117 : 0 ≤ (x4_1 : Int) := of_decide_eq_true (by first | (with_reducible assumption) | assumption)
            have q117 : x4_1 < (l0.length : Int) := of_decide_eq_true (by first | (with_reducible assumption) | assumption)
            obtain ⟨ad117, A117_6, c117_6, e117, hx117_0, hx117_1, hx117_2, hx117_3, hx117_4, hx117_5, hx117_6, hl117_6, hi117_6⟩ := at_T47 (Kd.V_reads' HO_0.out).2.2 x4_1 p117 q117
            obtain rfl : ad113 = ad117 := (by injection e117)
            obtain ⟨ce117, hce117, hMe117, hcc117⟩ := Kd.V_get HO_0.out z47 x4_1 p117 (by first | exact q117 | exact of_decide_eq_true (by first | (with_reducible assumption) | assumption) | (have e_ := (Kd.V_reads' HO_0.out).1; omega))
            obtain ⟨ua117_6, uc117_6, rfl, ul117_6, ge117_6⟩ := k47_openF hMe117
            have hv117_6 := hcc117 6 _ rfl
            rw [add_field _ _ 6 (by omega)] at hv117_6
            replace hv117_6 := Option.some.inj (hv117_6.symm.trans hx117_6)
            injection hv117_6 with hva_ hvn_ hvc_
            rw [hva_] at ge117_6
            rw [hvc_] at ul117_6
            have HL117_6 := Aside0.mk (show Kd.V (Kd.int .u32) 22 _ w.heap.size _ _ ((rd_T47 l0 x4_1).f4.f2) from Kd.V_mk ul117_6 ge117_6)
            clear hva_ hvn_ hvc_ ge117_6 ul117_6
            clear hcc117 hce117
            have HR117_6 := Aside0.mk hi117_6
            have HC117_6 := Aside0.mk hl117_6
            clear hi117_6 hl117_6
            replace p117 := eq_true p117
            replace q117 := eq_true q117
            have ea_ := Option.some.inj (hx113_6.symm.trans hx117_6)
            injection ea_ with ea_ en_ ec_
            subst ea_
            subst ec_
            clear en_
            refine start_ (n := 30) (S := fun w' => w'.cell? (ad113.add ((x4_1).toNat * 7)) = some (.int .i64 ((rd_T47 l0 x4_1).f0)) ∧ w'.cell? ⟨(ad113.add ((x4_1).toNat * 7)).block, (ad113.add ((x4_1).toNat * 7)).off + 1, none⟩ = some (.int .i64 ((rd_T47 l0 x4_1).f1)) ∧ w'.cell? ⟨(ad113.add ((x4_1).toNat * 7)).block, (ad113.add ((x4_1).toNat * 7)).off + 2, none⟩ = some (.bool ((rd_T47 l0 x4_1).f2)) ∧ w'.cell? ⟨(ad113.add ((x4_1).toNat * 7)).block, (ad113.add ((x4_1).toNat * 7)).off + 3, none⟩ = some (.bool ((rd_T47 l0 x4_1).f3)) ∧ w'.cell? ⟨(ad113.add ((x4_1).toNat * 7)).block, (ad113.add ((x4_1).toNat * 7)).off + 4, none⟩ = some (.int .i64 ((rd_T47 l0 x4_1).f4.f0)) ∧ w'.cell? ⟨(ad113.add ((x4_1).toNat * 7)).block, (ad113.add ((x4_1).toNat * 7)).off + 5, none⟩ = some (.int .i64 ((rd_T47 l0 x4_1).f4.f1)) ∧ w'.cell? ⟨(ad113.add ((x4_1).toNat * 7)).block, (ad113.add ((x4_1).toNat * 7)).off + 6, none⟩ = some (.slice A113_6 ((rd_T47 l0 x4_1).f4.f2).length c113_6) ∧ w'.cell? (ad113.add ((x4_1).toNat * 7)) = some (.int .i64 ((rd_T47 l0 x4_1).f0)) ∧ w'.cell? ⟨(ad113.add ((x4_1).toNat * 7)).block, (ad113.add ((x4_1).toNat * 7)).off + 1, none⟩ = some (.int .i64 ((rd_T47 l0 x4_1).f1)) ∧ w'.cell? ⟨(ad113.add ((x4_1).toNat * 7)).block, (ad113.add ((x4_1).toNat * 7)).off + 2, none⟩ = some (.bool ((rd_T47 l0 x4_1).f2)) ∧ w'.cell? ⟨(ad113.add ((x4_1).toNat * 7)).block, (ad113.add ((x4_1).toNat * 7)).off + 3, none⟩ = some (.bool ((rd_T47 l0 x4_1).f3)) ∧ w'.cell? ⟨(ad113.add ((x4_1).toNat * 7)).block, (ad113.add ((x4_1).toNat * 7)).off + 4, none⟩ = some (.int .i64 ((rd_T47 l0 x4_1).f4.f0)) ∧ w'.cell? ⟨(ad113.add ((x4_1).toNat * 7)).block, (ad113.add ((x4_1).toNat * 7)).off + 5, none⟩ = some (.int .i64 ((rd_T47 l0 x4_1).f4.f1)) ∧ w'.cell? ⟨(ad113.add ((x4_1).toNat * 7)).block, (ad113.add ((x4_1).toNat * 7)).off + 6, none⟩ = some (.slice A113_6 ((rd_T47 l0 x4_1).f4.f2).length c113_6) ∧ w'.cell? (ad113.add ((x4_1).toNat * 7)) = some (.int .i64 ((rd_T47 l0 x4_1).f0)) ∧ w'.cell? ⟨(ad113.add ((x4_1).toNat * 7)).block, (ad113.add ((x4_1).toNat * 7)).off + 1, none⟩ = some (.int .i64 ((rd_T47 l0 x4_1).f1)) ∧ w'.cell? ⟨(ad113.add ((x4_1).toNat * 7)).block, (ad113.add ((x4_1).toNat * 7)).off + 2, none⟩ = some (.bool ((rd_T47 l0 x4_1).f2)) ∧ w'.cell? ⟨(ad113.add ((x4_1).toNat * 7)).block, (ad113.add ((x4_1).toNat * 7)).off + 3, none⟩ = some (.bool ((rd_T47 l0 x4_1).f3)) ∧ w'.cell? ⟨(ad113.add ((x4_1).toNat * 7)).block, (ad113.add ((x4_1).toNat * 7)).off + 4, none⟩ = some (.int .i64 ((rd_T47 l0 x4_1).f4.f0)) ∧ w'.cell? ⟨(ad113.add ((x4_1).toNat * 7)).block, (ad113.add ((x4_1).toNat * 7)).off + 5, none⟩ = some (.int .i64 ((rd_T47 l0 x4_1).f4.f1)) ∧ w'.cell? ⟨(ad113.add ((x4_1).toNat * 7)).block, (ad113.add ((x4_1).toNat * 7)).off + 6, none⟩ = some (.slice A113_6 ((rd_T47 l0 x4_1).f4.f2).length c113_6) ∧ w'.cell? (ad113.add ((x4_1).toNat * 7)) = some (.int .i64 ((rd_T47 l0 x4_1).f0)) ∧ w'.cell? ⟨(ad113.add ((x4_1).toNat * 7)).block, (ad113.add ((x4_1).toNat * 7)).off + 1, none⟩ = some (.int .i64 ((rd_T47 l0 x4_1).f1)) ∧ w'.cell? ⟨(ad113.add ((x4_1).toNat * 7)).block, (ad113.add ((x4_1).toNat * 7)).off + 2, none⟩ = some (.bool ((rd_T47 l0 x4_1).f2)) ∧ w'.cell? ⟨(ad113.add ((x4_1).toNat * 7)).block, (ad113.add ((x4_1).toNat * 7)).off + 3, none⟩ = some (.bool ((rd_T47 l0 x4_1).f3)) ∧ w'.cell? ⟨(ad113.add ((x4_1).toNat * 7)).block, (ad113.add ((x4_1).toNat * 7)).off + 4, none⟩ = some (.int .i64 ((rd_T47 l0 x4_1).f4.f0)) ∧ w'.cell? ⟨(ad113.add ((x4_1).toNat * 7)).block, (ad113.add ((x4_1).toNat * 7)).off + 5, none⟩ = some (.int .i64 ((rd_T47 l0 x4_1).f4.f1)) ∧ w'.cell? ⟨(ad113.add ((x4_1).toNat * 7)).block, (ad113.add ((x4_1).toNat * 7)).off + 6, none⟩ = some (.slice A113_6 ((rd_T47 l0 x4_1).f4.f2).length c113_6) ∧ w'.cell? (ad113.add ((x4_1).toNat * 7)) = some (.int .i64 ((rd_T47 l0 x4_1).f0)) ∧ w'.cell? ⟨(ad113.add ((x4_1).toNat * 7)).block, (ad113.add ((x4_1).toNat * 7)).off + 1, none⟩ = some (.int .i64 ((rd_T47 l0 x4_1).f1)) ∧ w'.cell? ⟨(ad113.add ((x4_1).toNat * 7)).block, (ad113.add ((x4_1).toNat * 7)).off + 2, none⟩ = some (.bool ((rd_T47 l0 x4_1).f2)) ∧ w'.cell? ⟨(ad113.add ((x4_1).toNat * 7)).block, (ad113.add ((x4_1).toNat * 7)).off + 3, none⟩ = some (.bool ((rd_T47 l0 x4_1).f3)) ∧ w'.cell? ⟨(ad113.add ((x4_1).toNat * 7)).block, (ad113.add ((x4_1).toNat * 7)).off + 4, none⟩ = some (.int .i64 ((rd_T47 l0 x4_1).f4.f0)) ∧ w'.cell? ⟨(ad113.add ((x4_1).toNat * 7)).block, (ad113.add ((x4_1).toNat * 7)).off + 5, none⟩ = some (.int .i64 ((rd_T47 l0 x4_1).f4.f1)) ∧ w'.cell? ⟨(ad113.add ((x4_1).toNat * 7)).block, (ad113.add ((x4_1).toNat * 7)).off + 6, none⟩ = some (.slice A113_6 ((rd_T47 l0 x4_1).f4.f2).length c113_6)) (ds := [27, 28]) #[false, false, false, false, false, false, false, false, false, false, false, false, false, false, false, false, false, false, false, false, false, false, false, false, false, false, false, false, false, false] (by kernel_rfl) rfl rfl ⟨hx113_0, hx113_1, hx113_2, hx113_3, hx113_4, hx113_5, hx113_6, hx114_0, hx114_1, hx114_2, hx114_3, hx114_4, hx114_5, hx114_6, hx115_0, hx115_1, hx115_2, hx115_3, hx115_4, hx115_5, hx115_6, hx116_0, hx116_1, hx116_2, hx116_3, hx116_4, hx116_5, hx116_6, hx117_0, hx117_1, hx117_2, hx117_3, hx117_4, hx117_5, hx117_6⟩ (fun hHeld => ?_); refine with_tabW marquetrylaw27_parts.tab5 marquetrylaw27_parts.bits5 (fun HT_ HW_ => ?_)
            generalize wr.drew = w5 at HO_0 HO_3 HB HL113_6 HL114_6 HL115_6 HL116_6 HL117_6 HR113_6 HR114_6 HR115_6 HR116_6 HR117_6 hx113_0 hx113_1 hx113_2 hx113_3 hx113_4 hx113_5 hx113_6 hx114_0 hx114_1 hx114_2 hx114_3 hx114_4 hx114_5 hx114_6 hx115_0 hx115_1 hx115_2 hx115_3 hx115_4 hx115_5 hx115_6 hx116_0 hx116_1 hx116_2 hx116_3 hx116_4 hx116_5 hx116_6 hx117_0 hx117_1 hx117_2 hx117_3 hx117_4 hx117_5 hx117_6 hHeld ⊢
            refine pure_ (i := 0) (N := some 11) (v := ?_) (a' := ?_) #[true, false, false, false, false, false, false, false, false, false, false, false, false, false, false, false, false, false, false, false, false, false, false, false, false, false, false, false, false, false] rfl rfl (any_of HT_.out (by kernel_rfl)) (fun _ _ _ h => h) (Or.inl ⟨by rfl, ?_⟩) ?_ ?_
            rotate_left
            · intro w'
              go_simp
              with_reducible rfl
            rotate_left
            · simp only [Act.put, List.setIfInBounds_toArray, List.set_cons_zero, List.set_cons_succ, i64_w, i32_w]
              rfl
            refine pure_ (i := 1) (N := some 12) (v := ?_) (a' := ?_) #[true, true, false, false, false, false, false, false, false, false, false, false, false, false, false, false, false, false, false, false, false, false, false, false, false, false, false, false, false, false] rfl rfl (any_of HT_.out (by kernel_rfl)) (fun _ _ _ h => h) (Or.inl ⟨by rfl, ?_⟩) ?_ ?_
            rotate_left
            · intro w'
              go_simp
              with_reducible rfl
            rotate_left
            · simp only [Act.put, List.setIfInBounds_toArray, List.set_cons_zero, List.set_cons_succ, i64_w, i32_w]
              rfl
            refine pure_ (i := 2) (N := some 13) (v := ?_) (a' := ?_) #[true, true, true, false, false, false, false, false, false, false, false, false, false, false, false, false, false, false, false, false, false, false, false, false, false, false, false, false, false, false] rfl rfl (any_of HT_.out (by kernel_rfl)) (fun _ _ _ h => h) (Or.inl ⟨by rfl, ?_⟩) ?_ ?_
            rotate_left
            · intro w'
              go_simp
              with_reducible rfl
            rotate_left
            · simp only [Act.put, List.setIfInBounds_toArray, List.set_cons_zero, List.set_cons_succ, i64_w, i32_w]
              rfl
            refine pure_ (i := 3) (N := some 14) (v := ?_) (a' := ?_) #[true, true, true, true, false, false, false, false, false, false, false, false, false, false, false, false, false, false, false, false, false, false, false, false, false, false, false, false, false, false] rfl rfl (any_of HT_.out (by kernel_rfl)) (fun _ _ _ h => h) (Or.inl ⟨by rfl, ?_⟩) ?_ ?_
            rotate_left
            · intro w'
              go_simp
              with_reducible rfl
            rotate_left
            · simp only [Act.put, List.setIfInBounds_toArray, List.set_cons_zero, List.set_cons_succ, i64_w, i32_w]
              rfl
            refine pure_ (i := 4) (N := some 15) (v := ?_) (a' := ?_) #[true, true, true, true, true, false, false, false, false, false, false, false, false, false, false, false, false, false, false, false, false, false, false, false, false, false, false, false, false, false] rfl rfl (any_of HT_.out (by kernel_rfl)) (fun _ _ _ h => h) (Or.inl ⟨by rfl, ?_⟩) ?_ ?_
            rotate_left
            · intro w'
              go_simp
              with_reducible rfl
            rotate_left
            · simp only [Act.put, List.setIfInBounds_toArray, List.set_cons_zero, List.set_cons_succ, i64_w, i32_w]
              rfl
            refine pure_ (i := 6) (N := some 17) (v := ?_) (a' := ?_) #[true, true, true, true, true, false, true, false, false, false, false, false, false, false, false, false, false, false, false, false, false, false, false, false, false, false, false, false, false, false] rfl rfl (any_of HT_.out (by kernel_rfl)) (fun _ _ _ h => h) (Or.inl ⟨by rfl, ?_⟩) ?_ ?_
            rotate_left
            · intro w'
              go_simp
              with_reducible rfl
            rotate_left
            · simp only [Act.put, List.setIfInBounds_toArray, List.set_cons_zero, List.set_cons_succ, i64_w, i32_w]
              rfl
            refine pure_ (i := 7) (N := some 18) (v := ?_) (a' := ?_) #[true, true, true, true, true, false, true, true, false, false, false, false, false, false, false, false, false, false, false, false, false, false, false, false, false, false, false, false, false, false] rfl rfl (any_of HT_.out (by kernel_rfl)) (fun _ _ _ h => h) (Or.inl ⟨by rfl, ?_⟩) ?_ ?_
            rotate_left
            · intro w'
              go_simp
              with_reducible rfl
            rotate_left
            · simp only [Act.put, List.setIfInBounds_toArray, List.set_cons_zero, List.set_cons_succ, i64_w, i32_w]
              rfl
            refine pure_ (i := 8) (N := some 19) (v := ?_) (a' := ?_) #[true, true, true, true, true, false, true, true, true, false, false, false, false, false, false, false, false, false, false, false, false, false, false, false, false, false, false, false, false, false] rfl rfl (any_of HT_.out (by kernel_rfl)) (fun _ _ _ h => h) (Or.inl ⟨by rfl, ?_⟩) ?_ ?_
            rotate_left
            · intro w'
              go_simp
              with_reducible rfl
            rotate_left
            · simp only [Act.put, List.setIfInBounds_toArray, List.set_cons_zero, List.set_cons_succ, i64_w, i32_w]
              rfl
            refine pure_ (i := 9) (N := some 20) (v := ?_) (a' := ?_) #[true, true, true, true, true, false, true, true, true, true, false, false, false, false, false, false, false, false, false, false, false, false, false, false, false, false, false, false, false, false] rfl rfl (any_of HT_.out (by kernel_rfl)) (fun _ _ _ h => h) (Or.inl ⟨by rfl, ?_⟩) ?_ ?_
            rotate_left
            · intro w'
              go_simp
              with_reducible rfl
            rotate_left
            · simp only [Act.put, List.setIfInBounds_toArray, List.set_cons_zero, List.set_cons_succ, i64_w, i32_w]
              rfl
            refine pure_ (i := 11) (N := some 22) (v := ?_) (a' := ?_) #[true, true, true, true, true, false, true, true, true, true, false, true, false, false, false, false, false, false, false, false, false, false, false, false, false, false, false, false, false, false] rfl rfl (any_of HT_.out (by kernel_rfl)) (fun _ _ _ h => h) (Or.inl ⟨by rfl, ?_⟩) ?_ ?_
            rotate_left
            · intro w'
              go_simp
              with_reducible rfl
            rotate_left
            · simp only [Act.put, List.setIfInBounds_toArray, List.set_cons_zero, List.set_cons_succ, i64_w, i32_w]
              rfl
            refine pure_ (i := 12) (N := some 23) (v := ?_) (a' := ?_) #[true, true, true, true, true, false, true, true, true, true, false, true, true, false, false, false, false, false, false, false, false, false, false, false, false, false, false, false, false, false] rfl rfl (any_of HT_.out (by kernel_rfl)) (fun _ _ _ h => h) (Or.inl ⟨by rfl, ?_⟩) ?_ ?_
            rotate_left
            · intro w'
              go_simp
              with_reducible rfl
            rotate_left
            · simp only [Act.put, List.setIfInBounds_toArray, List.set_cons_zero, List.set_cons_succ, i64_w, i32_w]
              rfl
            refine pure_ (i := 13) (N := some 24) (v := ?_) (a' := ?_) #[true, true, true, true, true, false, true, true, true, true, false, true, true, true, false, false, false, false, false, false, false, false, false, false, false, false, false, false, false, false] rfl rfl (any_of HT_.out (by kernel_rfl)) (fun _ _ _ h => h) (Or.inl ⟨by rfl, ?_⟩) ?_ ?_
            rotate_left
            · intro w'
              go_simp
              with_reducible rfl
            rotate_left
            · simp only [Act.put, List.setIfInBounds_toArray, List.set_cons_zero, List.set_cons_succ, i64_w, i32_w]
              rfl
            refine pure_ (i := 14) (N := some 25) (v := ?_) (a' := ?_) #[true, true, true, true, true, false, true, true, true, true, false, true, true, true, true, false, false, false, false, false, false, false, false, false, false, false, false, false, false, false] rfl rfl (any_of HT_.out (by kernel_rfl)) (fun _ _ _ h => h) (Or.inl ⟨by rfl, ?_⟩) ?_ ?_
            rotate_left
            · intro w'
              go_simp
              with_reducible rfl
            rotate_left
            · simp only [Act.put, List.setIfInBounds_toArray, List.set_cons_zero, List.set_cons_succ, i64_w, i32_w]
              rfl
            refine pure_ (i := 16) (N := some 27) (v := ?_) (a' := ?_) #[true, true, true, true, true, false, true, true, true, true, false, true, true, true, true, false, true, false, false, false, false, false, false, false, false, false, false, false, false, false] rfl rfl (any_of HT_.out (by kernel_rfl)) (fun _ _ _ h => h) (Or.inl ⟨by rfl, ?_⟩) ?_ ?_
            rotate_left
            · intro w'
              go_simp
              with_reducible rfl
            rotate_left
            · simp only [Act.put, List.setIfInBounds_toArray, List.set_cons_zero, List.set_cons_succ, i64_w, i32_w]
              rfl
            refine pure_ (i := 17) (N := some 28) (v := ?_) (a' := ?_) #[true, true, true, true, true, false, true, true, true, true, false, true, true, true, true, false, true, true, false, false, false, false, false, false, false, false, false, false, false, false] rfl rfl (any_of HT_.out (by kernel_rfl)) (fun _ _ _ h => h) (Or.inl ⟨by rfl, ?_⟩) ?_ ?_
            rotate_left
            · intro w'
              go_simp
              with_reducible rfl
            rotate_left
            · simp only [Act.put, List.setIfInBounds_toArray, List.set_cons_zero, List.set_cons_succ, i64_w, i32_w]
              rfl
            refine pure_ (i := 18) (N := some 29) (v := ?_) (a' := ?_) #[true, true, true, true, true, false, true, true, true, true, false, true, true, true, true, false, true, true, true, false, false, false, false, false, false, false, false, false, false, false] rfl rfl (any_of HT_.out (by kernel_rfl)) (fun _ _ _ h => h) (Or.inl ⟨by rfl, ?_⟩) ?_ ?_
            rotate_left
            · intro w'
              go_simp
              with_reducible rfl
            rotate_left
            · simp only [Act.put, List.setIfInBounds_toArray, List.set_cons_zero, List.set_cons_succ, i64_w, i32_w]
              rfl
            refine pure_ (i := 19) (N := some 30) (v := ?_) (a' := ?_) #[true, true, true, true, true, false, true, true, true, true, false, true, true, true, true, false, true, true, true, true, false, false, false, false, false, false, false, false, false, false] rfl rfl (any_of HT_.out (by kernel_rfl)) (fun _ _ _ h => h) (Or.inl ⟨by rfl, ?_⟩) ?_ ?_
            rotate_left
            · intro w'
              go_simp
              with_reducible rfl
            rotate_left
            · simp only [Act.put, List.setIfInBounds_toArray, List.set_cons_zero, List.set_cons_succ, i64_w, i32_w]
              rfl
            refine pure_ (i := 21) (N := some 32) (v := ?_) (a' := ?_) #[true, true, true, true, true, false, true, true, true, true, false, true, true, true, true, false, true, true, true, true, false, true, false, false, false, false, false, false, false, false] rfl rfl (any_of HT_.out (by kernel_rfl)) (fun _ _ _ h => h) (Or.inl ⟨by rfl, ?_⟩) ?_ ?_
            rotate_left
            · intro w'
              go_simp
              with_reducible rfl
            rotate_left
            · simp only [Act.put, List.setIfInBounds_toArray, List.set_cons_zero, List.set_cons_succ, i64_w, i32_w]
              rfl
            refine pure_ (i := 22) (N := some 33) (v := ?_) (a' := ?_) #[true, true, true, true, true, false, true, true, true, true, false, true, true, true, true, false, true, true, true, true, false, true, true, false, false, false, false, false, false, false] rfl rfl (any_of HT_.out (by kernel_rfl)) (fun _ _ _ h => h) (Or.inl ⟨by rfl, ?_⟩) ?_ ?_
            rotate_left
            · intro w'
              go_simp
              with_reducible rfl
            rotate_left
            · simp only [Act.put, List.setIfInBounds_toArray, List.set_cons_zero, List.set_cons_succ, i64_w, i32_w]
              rfl
            refine pure_ (i := 23) (N := some 34) (v := ?_) (a' := ?_) #[true, true, true, true, true, false, true, true, true, true, false, true, true, true, true, false, true, true, true, true, false, true, true, true, false, false, false, false, false, false] rfl rfl (any_of HT_.out (by kernel_rfl)) (fun _ _ _ h => h) (Or.inl ⟨by rfl, ?_⟩) ?_ ?_
            rotate_left
            · intro w'
              go_simp
              with_reducible rfl
            rotate_left
            · simp only [Act.put, List.setIfInBounds_toArray, List.set_cons_zero, List.set_cons_succ, i64_w, i32_w]
              rfl
            refine pure_ (i := 24) (N := some 35) (v := ?_) (a' := ?_) #[true, true, true, true, true, false, true, true, true, true, false, true, true, true, true, false, true, true, true, true, false, true, true, true, true, false, false, false, false, false] rfl rfl (any_of HT_.out (by kernel_rfl)) (fun _ _ _ h => h) (Or.inl ⟨by rfl, ?_⟩) ?_ ?_
            rotate_left
            · intro w'
              go_simp
              with_reducible rfl
            rotate_left
            · simp only [Act.put, List.setIfInBounds_toArray, List.set_cons_zero, List.set_cons_succ, i64_w, i32_w]
              rfl
            refine take_ (i := 5) (N := some 16) (v := ?_) (a' := ?_) #[true, true, true, true, true, true, true, true, true, true, false, true, true, true, true, false, true, true, true, true, false, true, true, true, true, false, false, false, false, false] rfl rfl (take_ofW HT_.out HW_.out (by kernel_rfl)) (fun _ _ _ h => h) (Or.inl ⟨by rfl, ?_⟩) hHeld ?_ ?_
            rotate_left
            · rintro w' ⟨s0, s1, s2, s3, s4, s5, s6, s7, s8, s9, s10, s11, s12, s13, s14, s15, s16, s17, s18, s19, s20, s21, s22, s23, s24, s25, s26, s27, s28, s29, s30, s31, s32, s33, s34⟩
              go_simp
              with_reducible rfl
            rotate_left
            · simp only [Act.put, List.setIfInBounds_toArray, List.set_cons_zero, List.set_cons_succ, i64_w, i32_w]
              rfl
            refine take_ (i := 10) (N := some 21) (v := ?_) (a' := ?_) #[true, true, true, true, true, true, true, true, true, true, true, true, true, true, true, false, true, true, true, true, false, true, true, true, true, false, false, false, false, false] rfl rfl (take_ofW HT_.out HW_.out (by kernel_rfl)) (fun _ _ _ h => h) (Or.inl ⟨by rfl, ?_⟩) hHeld ?_ ?_
            rotate_left
            · rintro w' ⟨s0, s1, s2, s3, s4, s5, s6, s7, s8, s9, s10, s11, s12, s13, s14, s15, s16, s17, s18, s19, s20, s21, s22, s23, s24, s25, s26, s27, s28, s29, s30, s31, s32, s33, s34⟩
              go_simp
              with_reducible rfl
            rotate_left
            · simp only [Act.put, List.setIfInBounds_toArray, List.set_cons_zero, List.set_cons_succ, i64_w, i32_w]
              rfl
            refine take_ (i := 15) (N := some 26) (v := ?_) (a' := ?_) #[true, true, true, true, true, true, true, true, true, true, true, true, true, true, true, true, true, true, true, true, false, true, true, true, true, false, false, false, false, false] rfl rfl (take_ofW HT_.out HW_.out (by kernel_rfl)) (fun _ _ _ h => h) (Or.inl ⟨by rfl, ?_⟩) hHeld ?_ ?_
            rotate_left
            · rintro w' ⟨s0, s1, s2, s3, s4, s5, s6, s7, s8, s9, s10, s11, s12, s13, s14, s15, s16, s17, s18, s19, s20, s21, s22, s23, s24, s25, s26, s27, s28, s29, s30, s31, s32, s33, s34⟩
              go_simp
              with_reducible rfl
            rotate_left
            · simp only [Act.put, List.setIfInBounds_toArray, List.set_cons_zero, List.set_cons_succ, i64_w, i32_w]
              rfl
            refine take_ (i := 20) (N := some 31) (v := ?_) (a' := ?_) #[true, true, true, true, true, true, true, true, true, true, true, true, true, true, true, true, true, true, true, true, true, true, true, true, true, false, false, false, false, false] rfl rfl (take_ofW HT_.out HW_.out (by kernel_rfl)) (fun _ _ _ h => h) (Or.inl ⟨by rfl, ?_⟩) hHeld ?_ ?_
            rotate_left
            · rintro w' ⟨s0, s1, s2, s3, s4, s5, s6, s7, s8, s9, s10, s11, s12, s13, s14, s15, s16, s17, s18, s19, s20, s21, s22, s23, s24, s25, s26, s27, s28, s29, s30, s31, s32, s33, s34⟩
              go_simp
              with_reducible rfl
            rotate_left
            · simp only [Act.put, List.setIfInBounds_toArray, List.set_cons_zero, List.set_cons_succ, i64_w, i32_w]
              rfl
            refine take_ (i := 25) (N := some 36) (v := ?_) (a' := ?_) #[true, true, true, true, true, true, true, true, true, true, true, true, true, true, true, true, true, true, true, true, true, true, true, true, true, true, false, false, false, false] rfl rfl (take_ofW HT_.out HW_.out (by kernel_rfl)) (fun _ _ _ h => h) (Or.inl ⟨by rfl, ?_⟩) hHeld ?_ ?_
            rotate_left
            · rintro w' ⟨s0, s1, s2, s3, s4, s5, s6, s7, s8, s9, s10, s11, s12, s13, s14, s15, s16, s17, s18, s19, s20, s21, s22, s23, s24, s25, s26, s27, s28, s29, s30, s31, s32, s33, s34⟩
              go_simp
              with_reducible rfl
            rotate_left
            · simp only [Act.put, List.setIfInBounds_toArray, List.set_cons_zero, List.set_cons_succ, i64_w, i32_w]
              rfl
            refine pure_ (i := 26) (N := some 37) (v := ?_) (a' := ?_) #[true, true, true, true, true, true, true, true, true, true, true, true, true, true, true, true, true, true, true, true, true, true, true, true, true, true, true, false, false, false] rfl rfl (any_of HT_.out (by kernel_rfl)) (fun _ _ _ h => h) (Or.inl ⟨by rfl, ?_⟩) ?_ ?_
            rotate_left
            · intro w'
              go_simp
              with_reducible rfl
            rotate_left
            · simp only [Act.put, List.setIfInBounds_toArray, List.set_cons_zero, List.set_cons_succ, i64_w, i32_w]
              rfl
            refine last_ (i := 27) (N := some 38) #[true, true, true, true, true, true, true, true, true, true, true, true, true, true, true, true, true, true, true, true, true, true, true, true, true, true, true, true, false, false] rfl rfl (one_of HT_.out (by kernel_rfl)) (by decide) (fun K hK => ?_)
            refine value_ (w1 := ?_) (v := ?_) (by rfl) rfl ?_ ?_
            rotate_left 2
            · go_simp
              constructor
              · rfl
              · rfl
            refine hK.out _ _ ?_
            clear hK K
            refine norm_ (a' := ?_) ?_ ?_
            rotate_left
            · show Act.put _ (some 38) _ = _
              simp only [Act.put, List.setIfInBounds_toArray, List.set_cons_zero, List.set_cons_succ, i64_w, i32_w]
              rfl
            refine last_ (i := 28) (N := some 39) #[true, true, true, true, true, true, true, true, true, true, true, true, true, true, true, true, true, true, true, true, true, true, true, true, true, true, true, true, true, false] rfl rfl (one_of HT_.out (by kernel_rfl)) (by decide) (fun K hK => ?_)
            refine Kd.N_append_step k39 (w0 := w) w.heap.size (by rfl) (.tmp 11) (.tmp 38) 35 39 (.agg #[(.int .i64 0), (.int .i64 0), (.bool false), (.bool false), (.int .i64 0), (.int .i64 0), (.slice none 0 0)]) 64 rfl Try.underlying35 info39 rfl (by decide) (by omega) u3 x3_1 (⟨(rd_T47 l0 x4_1).f0, (rd_T47 l0 x4_1).f1, (rd_T47 l0 x4_1).f2, (rd_T47 l0 x4_1).f3, (⟨(rd_T47 l0 x4_1).f4.f0, (rd_T47 l0 x4_1).f4.f1, (rd_T47 l0 x4_1).f4.f2⟩ : S31)⟩ : S39) [.int .i64 ((rd_T47 l0 x4_1).f0), .int .i64 ((rd_T47 l0 x4_1).f1), .bool ((rd_T47 l0 x4_1).f2), .bool ((rd_T47 l0 x4_1).f3), .int .i64 ((rd_T47 l0 x4_1).f4.f0), .int .i64 ((rd_T47 l0 x4_1).f4.f1), .slice A113_6 ((rd_T47 l0 x4_1).f4.f2).length c113_6] (fun k_ => (P0_ k_ ∨ w.heap.size ≤ k_)) (fun k_ => ((fun k_ => (P0_ k_ ∨ w.heap.size ≤ k_))) k_ ∧ some k_ ≠ (u3 : Value).ownBlock) rfl rfl ?aP (fun _ hk => hk) ?aF ?aO ?aB ?aS ?aL ?_
            (case aP => exact (k39_mkF _ _ (⟨(rd_T47 l0 x4_1).f0, (rd_T47 l0 x4_1).f1, (rd_T47 l0 x4_1).f2, (rd_T47 l0 x4_1).f3, (⟨(rd_T47 l0 x4_1).f4.f0, (rd_T47 l0 x4_1).f4.f1, (rd_T47 l0 x4_1).f4.f2⟩ : S31)⟩ : S39) (Kd.V_reads' (Kd.V_mono (ok' := (fun k_ => ((fun k_ => (P0_ k_ ∨ w.heap.size ≤ k_))) k_ ∧ some k_ ≠ (u3 : Value).ownBlock)) (HL117_6.out) (fun k_ hk => ⟨hk.1, hk.2⟩))).2.1 (Kd.V_F (Kd.V_mono (ok' := (fun k_ => ((fun k_ => (P0_ k_ ∨ w.heap.size ≤ k_))) k_ ∧ some k_ ≠ (u3 : Value).ownBlock)) (HL117_6.out) (fun k_ hk => ⟨hk.1, hk.2⟩)))))
            (case aB => exact (by repeat (first | (with_reducible first | exact HB.out | apply below_alloc | apply pw_below_drewN | apply below_drew1) | exact HB.out)))
            (case aF => exact (fun k_ hk => (.inr (Nat.le_trans (below_size (by repeat (first | (with_reducible first | exact HB.out | apply below_alloc | apply pw_below_drewN | apply below_drew1) | exact HB.out))) hk))))
            (case aO => exact (by (with_reducible repeat (first | apply Kd.N_alloc | apply Kd.N_drewN | apply Kd.N_drew)); exact HO_3.out))
            (case aS => exact (below_size (by repeat (first | (with_reducible first | exact HB.out | apply below_alloc | apply pw_below_drewN | apply below_drew1) | exact HB.out))))
            (case aL => have := LMc4.out; omega)
            intro v119 w6 ho hb hg hat
            rw [← Ny118.out] at ho
            have n0_ := Aside0.mk (Kd.V_afterv (ok := (fun k_ => (P0_ k_ ∨ w.heap.size ≤ k_))) (by (with_reducible repeat (first | apply Kd.V_alloc | apply Kd.V_drewN | apply Kd.V_drew)); exact HO_0.out) hg hat)
            have n1_ := Aside0.mk (Kd.V_afterv (ok := (fun k_ => (P0_ k_ ∨ w.heap.size ≤ k_))) (by (with_reducible repeat (first | apply Kd.V_alloc | apply Kd.V_drewN | apply Kd.V_drew)); exact HL113_6.out) hg hat)
            have n2_ := Aside0.mk (Kd.V_afterv (ok := (fun k_ => (P0_ k_ ∨ w.heap.size ≤ k_))) (by (with_reducible repeat (first | apply Kd.V_alloc | apply Kd.V_drewN | apply Kd.V_drew)); exact HL114_6.out) hg hat)
            have n3_ := Aside0.mk (Kd.V_afterv (ok := (fun k_ => (P0_ k_ ∨ w.heap.size ≤ k_))) (by (with_reducible repeat (first | apply Kd.V_alloc | apply Kd.V_drewN | apply Kd.V_drew)); exact HL115_6.out) hg hat)
            have n4_ := Aside0.mk (Kd.V_afterv (ok := (fun k_ => (P0_ k_ ∨ w.heap.size ≤ k_))) (by (with_reducible repeat (first | apply Kd.V_alloc | apply Kd.V_drewN | apply Kd.V_drew)); exact HL116_6.out) hg hat)
            have n5_ := Aside0.mk (Kd.V_afterv (ok := (fun k_ => (P0_ k_ ∨ w.heap.size ≤ k_))) (by (with_reducible repeat (first | apply Kd.V_alloc | apply Kd.V_drewN | apply Kd.V_drew)); exact HL117_6.out) hg hat)
            have n6_ := Aside0.mk (hb)
            have n7_ := Aside0.mk (ho)
            clear HO_0
            clear HL113_6
            clear HL114_6
            clear HL115_6
            clear HL116_6
            clear HL117_6
            clear HB
            clear HO_3
            have HO_0 := n0_
            have HL113_6 := n1_
            have HL114_6 := n2_
            have HL115_6 := n3_
            have HL116_6 := n4_
            have HL117_6 := n5_
            have HB := n6_
            have HO120 := n7_
            clear n0_ n1_ n2_ n3_ n4_ n5_ n6_ n7_
            clear ho hb hg hat
            refine hK.out _ _ ?_
            clear hK K
            refine norm_ (a' := ?_) ?_ ?_
            rotate_left
            · show Act.put _ (some 39) _ = _
              simp only [Act.put, List.setIfInBounds_toArray, List.set_cons_zero, List.set_cons_succ, i64_w, i32_w]
              rfl
            refine pure_ (i := 29) (N := some 3) (v := ?_) (a' := ?_) #[true, true, true, true, true, true, true, true, true, true, true, true, true, true, true, true, true, true, true, true, true, true, true, true, true, true, true, true, true, true] rfl rfl (any_of HT_.out (by kernel_rfl)) (fun _ _ _ h => h) (Or.inl ⟨by rfl, ?_⟩) ?_ ?_
            rotate_left
            · intro w'
              go_simp
              with_reducible rfl
            rotate_left
            · simp only [Act.put, List.setIfInBounds_toArray, List.set_cons_zero, List.set_cons_succ, i64_w, i32_w]
              rfl
            refine done_ (done_of HT_.out (by kernel_rfl)) ?_
            try go_wp2
            go_roundg k1
            case measure => have := HK1.out; omega
            case rel => exact ⟨(y118), (wrap64 (x4_1 + 1)), (by first | rfl | (simp; done) | (simp [*]; done)), H', ⟨by have := HK1.out; omega⟩, ⟨by (with_reducible repeat (first | apply Kd.V_alloc | apply Kd.V_drewN | apply Kd.V_drew)); exact HO_0.out⟩, ⟨by (with_reducible repeat (first | apply Kd.N_alloc | apply Kd.N_drewN | apply Kd.N_drew)); exact HO120.out⟩, ⟨by repeat (first | (with_reducible first | exact HB.out | apply below_alloc | apply pw_below_drewN | apply below_drew1) | exact HB.out)⟩⟩
          · rw [if_neg c4] at H
            exact absurd H (by simp)
        · rw [if_neg c3] at H
          exact absurd H (by simp)
      · rw [if_neg c2] at H
        have c2b0 : decide (x4_1 < (l0.length : Int)) = false := decide_eq_false c2
        clear c2
        obtain rfl := Option.some.inj H
        go_wp2
        go_ret
        exact ⟨_, by first | rfl | (simp [errW_none, errW_some] <;> rfl) | (simp [*, errW_none, errW_some] <;> rfl), by (with_reducible repeat (first | apply Kd.N_alloc | apply Kd.N_drewN | apply Kd.N_drew)); exact HO_3.out, by repeat (first | (with_reducible first | exact HB.out | apply below_alloc | apply pw_below_drewN | apply below_drew1) | exact HB.out)⟩

end Go.Proofs.Ytegifkffhnhccaa.P
