-- Printed by mp.py (our own program over the kit's printer) out of the translation.
import Derived.Test.YtnbocgmlcdcahaaPx0
import Derived.Test.YtnbocgmlcdcahaaPx5
namespace Go.Proofs.Ytnbocgmlcdcahaa.P
open Go.RowKit Go.Proofs.YtnbocgmlcdcahaaW.PrintWords Go.Proofs.YtnbocgmlcdcahaaW.PrintLast Go.Proofs.YtnbocgmlcdcahaaW.PrintMore
attribute [local go_sem] max2_int min2_int max_two min_two max_three min_three max_four min_four   -- for this text's walks alone
set_option linter.unusedVariables false
set_option linter.unusedSimpArgs false

/-! ### marquetryref11_Guess: function 46 -/
def marquetryref11_Guess.f (k : Nat) (a0 : Int) (a1 : Int) (a2 : Int) (a3 : Int) (a4 : Int) : Option (Int) := if a0 = 1 then (some a1) else (if a0 = 2 then (some a2) else (if a0 = 3 then (some a4) else (if a0 = 4 then (some a3) else (if a0 = 5 then ((marquetryref11_Avg.f a1 a4).bind fun t172 => ((marquetryref11_Avg.f t172 a2).bind fun t173 => (some t173))) else (if a0 = 6 then ((marquetryref11_Avg.f a1 a3).bind fun t174 => (some t174)) else (if a0 = 7 then ((marquetryref11_Avg.f a1 a2).bind fun t175 => (some t175)) else (if a0 = 8 then ((marquetryref11_Avg.f a3 a2).bind fun t176 => (some t176)) else (if a0 = 9 then ((marquetryref11_Avg.f a2 a4).bind fun t177 => (some t177)) else (if a0 = 10 then ((marquetryref11_Avg.f a1 a3).bind fun t178 => ((marquetryref11_Avg.f a2 a4).bind fun t179 => ((marquetryref11_Avg.f t178 t179).bind fun t180 => (some t180)))) else (if a0 = 11 then ((marquetryref11_Pick.f k a1 a2 a3).bind fun t181 => (some t181)) else (if a0 = 12 then ((marquetryref11_Full.f a1 a2 a3).bind fun t182 => (some t182)) else (if a0 = 13 then ((marquetryref11_Avg.f a1 a2).bind fun t183 => ((marquetryref11_Half.f t183 a3).bind fun t184 => (some t184))) else (some 4278190080)))))))))))))
theorem marquetryref11_Guess.mono : ∀ a0 a1 a2 a3 a4 k, LeO (marquetryref11_Guess.f k a0 a1 a2 a3 a4) (marquetryref11_Guess.f (k + 1) a0 a1 a2 a3 a4) := by
  intro a0 a1 a2 a3 a4 k
  unfold marquetryref11_Guess.f
  repeat' first
      | (with_reducible exact marquetryref11_Pick.mono _ _ _ _)
      | (with_reducible exact LeO.refl _)
      | (with_reducible exact LeO.none _)
      | (with_reducible refine LeO.ite ?_ ?_)
      | (with_reducible refine LeO.bind ?_ (fun _ => ?_))
      | exact marquetryref11_Pick.mono _ _ _ _
      | exact LeO.none _
      | refine LeO.ite ?_ ?_
      | refine LeO.bind ?_ (fun _ => ?_)
set_option maxHeartbeats 8000000 in
set_option maxRecDepth 100000 in
theorem marquetryref11_Guess.calls (k : Nat) (a0 : Int) (a1 : Int) (a2 : Int) (a3 : Int) (a4 : Int) (r : Int) (w : World) (h : marquetryref11_Guess.f k a0 a1 a2 a3 a4 = some r) :
    Calls Try.prog 46 #[.int .i64 a0, .int .u32 a1, .int .u32 a2, .int .u32 a3, .int .u32 a4] w fun e w' => e = .returned (.int .u32 r) ∧ Below w.heap.size w w' := by
  have HB := Aside0.mk (Below.refl w.heap.size w)
  have H : (if a0 = 1 then (some a1) else (if a0 = 2 then (some a2) else (if a0 = 3 then (some a4) else (if a0 = 4 then (some a3) else (if a0 = 5 then ((marquetryref11_Avg.f a1 a4).bind fun t172 => ((marquetryref11_Avg.f t172 a2).bind fun t173 => (some t173))) else (if a0 = 6 then ((marquetryref11_Avg.f a1 a3).bind fun t174 => (some t174)) else (if a0 = 7 then ((marquetryref11_Avg.f a1 a2).bind fun t175 => (some t175)) else (if a0 = 8 then ((marquetryref11_Avg.f a3 a2).bind fun t176 => (some t176)) else (if a0 = 9 then ((marquetryref11_Avg.f a2 a4).bind fun t177 => (some t177)) else (if a0 = 10 then ((marquetryref11_Avg.f a1 a3).bind fun t178 => ((marquetryref11_Avg.f a2 a4).bind fun t179 => ((marquetryref11_Avg.f t178 t179).bind fun t180 => (some t180)))) else (if a0 = 11 then ((marquetryref11_Pick.f k a1 a2 a3).bind fun t181 => (some t181)) else (if a0 = 12 then ((marquetryref11_Full.f a1 a2 a3).bind fun t182 => (some t182)) else (if a0 = 13 then ((marquetryref11_Avg.f a1 a2).bind fun t183 => ((marquetryref11_Half.f t183 a3).bind fun t184 => (some t184))) else (some 4278190080)))))))))))))) = some r := h
  clear h
  by_cases c6 : a0 = 1
  · rw [if_pos c6] at H
    have c6b0 : (a0 == 1) = true := beq_iff_eq.mpr c6
    have c6b1 : (a0 != 1) = false := bne_eq_false_iff_eq.mpr c6
    clear c6
    obtain rfl := Option.some.inj H
    go_enter Try.func46, Try.ntmps46
    go_wp2
    go_ret
    exact ⟨by first | rfl | (simp [errW_none, errW_some] <;> rfl) | (simp [*, errW_none, errW_some] <;> rfl), by repeat (first | (with_reducible first | exact HB.out | apply below_alloc | apply pw_below_drewN | apply below_drew1) | exact HB.out)⟩
  · rw [if_neg c6] at H
    have c6b0 : (a0 == 1) = false := beq_eq_false_iff_ne.mpr c6
    have c6b1 : (a0 != 1) = true := bne_iff_ne.mpr c6
    by_cases c7 : a0 = 2
    · rw [if_pos c7] at H
      have c7b0 : (a0 == 2) = true := beq_iff_eq.mpr c7
      have c7b1 : (a0 != 2) = false := bne_eq_false_iff_eq.mpr c7
      clear c7
      obtain rfl := Option.some.inj H
      go_enter Try.func46, Try.ntmps46
      go_wp2
      go_ret
      exact ⟨by first | rfl | (simp [errW_none, errW_some] <;> rfl) | (simp [*, errW_none, errW_some] <;> rfl), by repeat (first | (with_reducible first | exact HB.out | apply below_alloc | apply pw_below_drewN | apply below_drew1) | exact HB.out)⟩
    · rw [if_neg c7] at H
      have c7b0 : (a0 == 2) = false := beq_eq_false_iff_ne.mpr c7
      have c7b1 : (a0 != 2) = true := bne_iff_ne.mpr c7
      by_cases c8 : a0 = 3
      · rw [if_pos c8] at H
        have c8b0 : (a0 == 3) = true := beq_iff_eq.mpr c8
        have c8b1 : (a0 != 3) = false := bne_eq_false_iff_eq.mpr c8
        clear c8
        obtain rfl := Option.some.inj H
        go_enter Try.func46, Try.ntmps46
        go_wp2
        go_ret
        exact ⟨by first | rfl | (simp [errW_none, errW_some] <;> rfl) | (simp [*, errW_none, errW_some] <;> rfl), by repeat (first | (with_reducible first | exact HB.out | apply below_alloc | apply pw_below_drewN | apply below_drew1) | exact HB.out)⟩
      · rw [if_neg c8] at H
        have c8b0 : (a0 == 3) = false := beq_eq_false_iff_ne.mpr c8
        have c8b1 : (a0 != 3) = true := bne_iff_ne.mpr c8
        by_cases c9 : a0 = 4
        · rw [if_pos c9] at H
          have c9b0 : (a0 == 4) = true := beq_iff_eq.mpr c9
          have c9b1 : (a0 != 4) = false := bne_eq_false_iff_eq.mpr c9
          clear c9
          obtain rfl := Option.some.inj H
          go_enter Try.func46, Try.ntmps46
          go_wp2
          go_ret
          exact ⟨by first | rfl | (simp [errW_none, errW_some] <;> rfl) | (simp [*, errW_none, errW_some] <;> rfl), by repeat (first | (with_reducible first | exact HB.out | apply below_alloc | apply pw_below_drewN | apply below_drew1) | exact HB.out)⟩
        · rw [if_neg c9] at H
          have c9b0 : (a0 == 4) = false := beq_eq_false_iff_ne.mpr c9
          have c9b1 : (a0 != 4) = true := bne_iff_ne.mpr c9
          by_cases c10 : a0 = 5
          · rw [if_pos c10] at H
            have c10b0 : (a0 == 5) = true := beq_iff_eq.mpr c10
            have c10b1 : (a0 != 5) = false := bne_eq_false_iff_eq.mpr c10
            clear c10
            replace H := Option.bind_eq_some_iff.mp H
            obtain ⟨t172, A110, H⟩ := H
            replace H : ((marquetryref11_Avg.f t172 a2).bind fun t173 => (some t173)) = some r := H
            have A11 := Aside0.mk A110
            clear A110
            replace H := Option.bind_eq_some_iff.mp H
            obtain ⟨t173, A120, H⟩ := H
            replace H : (some t173) = some r := H
            have A12 := Aside0.mk A120
            clear A120
            obtain rfl := Option.some.inj H
            go_enter Try.func46, Try.ntmps46
            go_wp2_with (first | ((with_reducible refine gate_callee (f := 53) rfl ?_); refine goesL_ (some 28) rfl rfl Try.func53 (by kernel_rfl) rfl #[.int .u32 a1, .int .u32 a4] rfl (by (try simp only [List.map_toArray, List.map_cons, List.map_nil]); first | done | rfl | (simp only [List.length_drop, List.length_take]; rfl)) ?_; (with_reducible refine (marquetryref11_Avg.calls a1 a4 t172 _ A11.out).mono ?_); clear A11; rintro e w13 ⟨rfl, hb⟩; refine ⟨_, rfl, ?_⟩; have n0_ := Aside0.mk (below_step (by repeat (first | (with_reducible first | exact HB.out | apply below_alloc | apply pw_below_drewN | apply below_drew1) | exact HB.out)) hb); clear HB; have HB := n0_; clear n0_; (try clear hb); (try clear hb2); (try clear hk); (try clear hi)) | (go_at_call 53; (with_reducible refine (marquetryref11_Avg.calls a1 a4 t172 _ A11.out).mono ?_); clear A11; rintro e w13 ⟨rfl, hb⟩; have n0_ := Aside0.mk (below_step (by repeat (first | (with_reducible first | exact HB.out | apply below_alloc | apply pw_below_drewN | apply below_drew1) | exact HB.out)) hb); clear HB; have HB := n0_; clear n0_; (try clear hb); (try clear hb2); (try clear hk); (try clear hi)) | ((with_reducible refine gate_callee (f := 53) rfl ?_); refine goesL_ (some 30) rfl rfl Try.func53 (by kernel_rfl) rfl #[.int .u32 t172, .int .u32 a2] rfl (by (try simp only [List.map_toArray, List.map_cons, List.map_nil]); first | done | rfl | (simp only [List.length_drop, List.length_take]; rfl)) ?_; (with_reducible refine (marquetryref11_Avg.calls t172 a2 t173 _ A12.out).mono ?_); clear A12; rintro e w14 ⟨rfl, hb⟩; refine ⟨_, rfl, ?_⟩; have n0_ := Aside0.mk (below_step (by repeat (first | (with_reducible first | exact HB.out | apply below_alloc | apply pw_below_drewN | apply below_drew1) | exact HB.out)) hb); clear HB; have HB := n0_; clear n0_; (try clear hb); (try clear hb2); (try clear hk); (try clear hi)) | (go_at_call 53; (with_reducible refine (marquetryref11_Avg.calls t172 a2 t173 _ A12.out).mono ?_); clear A12; rintro e w14 ⟨rfl, hb⟩; have n0_ := Aside0.mk (below_step (by repeat (first | (with_reducible first | exact HB.out | apply below_alloc | apply pw_below_drewN | apply below_drew1) | exact HB.out)) hb); clear HB; have HB := n0_; clear n0_; (try clear hb); (try clear hb2); (try clear hk); (try clear hi)))
            go_ret
            exact ⟨by first | rfl | (simp [errW_none, errW_some] <;> rfl) | (simp [*, errW_none, errW_some] <;> rfl), by repeat (first | (with_reducible first | exact HB.out | apply below_alloc | apply pw_below_drewN | apply below_drew1) | exact HB.out)⟩
          · rw [if_neg c10] at H
            have c10b0 : (a0 == 5) = false := beq_eq_false_iff_ne.mpr c10
            have c10b1 : (a0 != 5) = true := bne_iff_ne.mpr c10
            by_cases c15 : a0 = 6
            · rw [if_pos c15] at H
              have c15b0 : (a0 == 6) = true := beq_iff_eq.mpr c15
              have c15b1 : (a0 != 6) = false := bne_eq_false_iff_eq.mpr c15
              clear c15
              replace H := Option.bind_eq_some_iff.mp H
              obtain ⟨t174, A160, H⟩ := H
              replace H : (some t174) = some r := H
              have A16 := Aside0.mk A160
              clear A160
              obtain rfl := Option.some.inj H
              go_enter Try.func46, Try.ntmps46
              go_wp2_with (first | ((with_reducible refine gate_callee (f := 53) rfl ?_); refine goesL_ (some 35) rfl rfl Try.func53 (by kernel_rfl) rfl #[.int .u32 a1, .int .u32 a3] rfl (by (try simp only [List.map_toArray, List.map_cons, List.map_nil]); first | done | rfl | (simp only [List.length_drop, List.length_take]; rfl)) ?_; (with_reducible refine (marquetryref11_Avg.calls a1 a3 t174 _ A16.out).mono ?_); clear A16; rintro e w17 ⟨rfl, hb⟩; refine ⟨_, rfl, ?_⟩; have n0_ := Aside0.mk (below_step (by repeat (first | (with_reducible first | exact HB.out | apply below_alloc | apply pw_below_drewN | apply below_drew1) | exact HB.out)) hb); clear HB; have HB := n0_; clear n0_; (try clear hb); (try clear hb2); (try clear hk); (try clear hi)) | (go_at_call 53; (with_reducible refine (marquetryref11_Avg.calls a1 a3 t174 _ A16.out).mono ?_); clear A16; rintro e w17 ⟨rfl, hb⟩; have n0_ := Aside0.mk (below_step (by repeat (first | (with_reducible first | exact HB.out | apply below_alloc | apply pw_below_drewN | apply below_drew1) | exact HB.out)) hb); clear HB; have HB := n0_; clear n0_; (try clear hb); (try clear hb2); (try clear hk); (try clear hi)))
              go_ret
              exact ⟨by first | rfl | (simp [errW_none, errW_some] <;> rfl) | (simp [*, errW_none, errW_some] <;> rfl), by repeat (first | (with_reducible first | exact HB.out | apply below_alloc | apply pw_below_drewN | apply below_drew1) | exact HB.out)⟩
            · rw [if_neg c15] at H
              have c15b0 : (a0 == 6) = false := beq_eq_false_iff_ne.mpr c15
              have c15b1 : (a0 != 6) = true := bne_iff_ne.mpr c15
              by_cases c18 : a0 = 7
              · rw [if_pos c18] at H
                have c18b0 : (a0 == 7) = true := beq_iff_eq.mpr c18
                have c18b1 : (a0 != 7) = false := bne_eq_false_iff_eq.mpr c18
                clear c18
                replace H := Option.bind_eq_some_iff.mp H
                obtain ⟨t175, A190, H⟩ := H
                replace H : (some t175) = some r := H
                have A19 := Aside0.mk A190
                clear A190
                obtain rfl := Option.some.inj H
                go_enter Try.func46, Try.ntmps46
                go_wp2_with (first | ((with_reducible refine gate_callee (f := 53) rfl ?_); refine goesL_ (some 40) rfl rfl Try.func53 (by kernel_rfl) rfl #[.int .u32 a1, .int .u32 a2] rfl (by (try simp only [List.map_toArray, List.map_cons, List.map_nil]); first | done | rfl | (simp only [List.length_drop, List.length_take]; rfl)) ?_; (with_reducible refine (marquetryref11_Avg.calls a1 a2 t175 _ A19.out).mono ?_); clear A19; rintro e w20 ⟨rfl, hb⟩; refine ⟨_, rfl, ?_⟩; have n0_ := Aside0.mk (below_step (by repeat (first | (with_reducible first | exact HB.out | apply below_alloc | apply pw_below_drewN | apply below_drew1) | exact HB.out)) hb); clear HB; have HB := n0_; clear n0_; (try clear hb); (try clear hb2); (try clear hk); (try clear hi)) | (go_at_call 53; (with_reducible refine (marquetryref11_Avg.calls a1 a2 t175 _ A19.out).mono ?_); clear A19; rintro e w20 ⟨rfl, hb⟩; have n0_ := Aside0.mk (below_step (by repeat (first | (with_reducible first | exact HB.out | apply below_alloc | apply pw_below_drewN | apply below_drew1) | exact HB.out)) hb); clear HB; have HB := n0_; clear n0_; (try clear hb); (try clear hb2); (try clear hk); (try clear hi)))
                go_ret
                exact ⟨by first | rfl | (simp [errW_none, errW_some] <;> rfl) | (simp [*, errW_none, errW_some] <;> rfl), by repeat (first | (with_reducible first | exact HB.out | apply below_alloc | apply pw_below_drewN | apply below_drew1) | exact HB.out)⟩
              · rw [if_neg c18] at H
                have c18b0 : (a0 == 7) = false := beq_eq_false_iff_ne.mpr c18
                have c18b1 : (a0 != 7) = true := bne_iff_ne.mpr c18
                by_cases c21 : a0 = 8
                · rw [if_pos c21] at H
                  have c21b0 : (a0 == 8) = true := beq_iff_eq.mpr c21
                  have c21b1 : (a0 != 8) = false := bne_eq_false_iff_eq.mpr c21
                  clear c21
                  replace H := Option.bind_eq_some_iff.mp H
                  obtain ⟨t176, A220, H⟩ := H
                  replace H : (some t176) = some r := H
                  have A22 := Aside0.mk A220
                  clear A220
                  obtain rfl := Option.some.inj H
                  go_enter Try.func46, Try.ntmps46
                  go_wp2_with (first | ((with_reducible refine gate_callee (f := 53) rfl ?_); refine goesL_ (some 45) rfl rfl Try.func53 (by kernel_rfl) rfl #[.int .u32 a3, .int .u32 a2] rfl (by (try simp only [List.map_toArray, List.map_cons, List.map_nil]); first | done | rfl | (simp only [List.length_drop, List.length_take]; rfl)) ?_; (with_reducible refine (marquetryref11_Avg.calls a3 a2 t176 _ A22.out).mono ?_); clear A22; rintro e w23 ⟨rfl, hb⟩; refine ⟨_, rfl, ?_⟩; have n0_ := Aside0.mk (below_step (by repeat (first | (with_reducible first | exact HB.out | apply below_alloc | apply pw_below_drewN | apply below_drew1) | exact HB.out)) hb); clear HB; have HB := n0_; clear n0_; (try clear hb); (try clear hb2); (try clear hk); (try clear hi)) | (go_at_call 53; (with_reducible refine (marquetryref11_Avg.calls a3 a2 t176 _ A22.out).mono ?_); clear A22; rintro e w23 ⟨rfl, hb⟩; have n0_ := Aside0.mk (below_step (by repeat (first | (with_reducible first | exact HB.out | apply below_alloc | apply pw_below_drewN | apply below_drew1) | exact HB.out)) hb); clear HB; have HB := n0_; clear n0_; (try clear hb); (try clear hb2); (try clear hk); (try clear hi)))
                  go_ret
                  exact ⟨by first | rfl | (simp [errW_none, errW_some] <;> rfl) | (simp [*, errW_none, errW_some] <;> rfl), by repeat (first | (with_reducible first | exact HB.out | apply below_alloc | apply pw_below_drewN | apply below_drew1) | exact HB.out)⟩
                · rw [if_neg c21] at H
                  have c21b0 : (a0 == 8) = false := beq_eq_false_iff_ne.mpr c21
                  have c21b1 : (a0 != 8) = true := bne_iff_ne.mpr c21
                  by_cases c24 : a0 = 9
                  · rw [if_pos c24] at H
                    have c24b0 : (a0 == 9) = true := beq_iff_eq.mpr c24
                    have c24b1 : (a0 != 9) = false := bne_eq_false_iff_eq.mpr c24
                    clear c24
                    replace H := Option.bind_eq_some_iff.mp H
                    obtain ⟨t177, A250, H⟩ := H
                    replace H : (some t177) = some r := H
                    have A25 := Aside0.mk A250
                    clear A250
                    obtain rfl := Option.some.inj H
                    go_enter Try.func46, Try.ntmps46
                    go_wp2_with (first | ((with_reducible refine gate_callee (f := 53) rfl ?_); refine goesL_ (some 50) rfl rfl Try.func53 (by kernel_rfl) rfl #[.int .u32 a2, .int .u32 a4] rfl (by (try simp only [List.map_toArray, List.map_cons, List.map_nil]); first | done | rfl | (simp only [List.length_drop, List.length_take]; rfl)) ?_; (with_reducible refine (marquetryref11_Avg.calls a2 a4 t177 _ A25.out).mono ?_); clear A25; rintro e w26 ⟨rfl, hb⟩; refine ⟨_, rfl, ?_⟩; have n0_ := Aside0.mk (below_step (by repeat (first | (with_reducible first | exact HB.out | apply below_alloc | apply pw_below_drewN | apply below_drew1) | exact HB.out)) hb); clear HB; have HB := n0_; clear n0_; (try clear hb); (try clear hb2); (try clear hk); (try clear hi)) | (go_at_call 53; (with_reducible refine (marquetryref11_Avg.calls a2 a4 t177 _ A25.out).mono ?_); clear A25; rintro e w26 ⟨rfl, hb⟩; have n0_ := Aside0.mk (below_step (by repeat (first | (with_reducible first | exact HB.out | apply below_alloc | apply pw_below_drewN | apply below_drew1) | exact HB.out)) hb); clear HB; have HB := n0_; clear n0_; (try clear hb); (try clear hb2); (try clear hk); (try clear hi)))
                    go_ret
                    exact ⟨by first | rfl | (simp [errW_none, errW_some] <;> rfl) | (simp [*, errW_none, errW_some] <;> rfl), by repeat (first | (with_reducible first | exact HB.out | apply below_alloc | apply pw_below_drewN | apply below_drew1) | exact HB.out)⟩
                  · rw [if_neg c24] at H
                    have c24b0 : (a0 == 9) = false := beq_eq_false_iff_ne.mpr c24
                    have c24b1 : (a0 != 9) = true := bne_iff_ne.mpr c24
                    by_cases c27 : a0 = 10
                    · rw [if_pos c27] at H
                      have c27b0 : (a0 == 10) = true := beq_iff_eq.mpr c27
                      have c27b1 : (a0 != 10) = false := bne_eq_false_iff_eq.mpr c27
                      clear c27
                      replace H := Option.bind_eq_some_iff.mp H
                      obtain ⟨t178, A280, H⟩ := H
                      replace H : ((marquetryref11_Avg.f a2 a4).bind fun t179 => ((marquetryref11_Avg.f t178 t179).bind fun t180 => (some t180))) = some r := H
                      have A28 := Aside0.mk A280
                      clear A280
                      replace H := Option.bind_eq_some_iff.mp H
                      obtain ⟨t179, A290, H⟩ := H
                      replace H : ((marquetryref11_Avg.f t178 t179).bind fun t180 => (some t180)) = some r := H
                      have A29 := Aside0.mk A290
                      clear A290
                      replace H := Option.bind_eq_some_iff.mp H
                      obtain ⟨t180, A300, H⟩ := H
                      replace H : (some t180) = some r := H
                      have A30 := Aside0.mk A300
                      clear A300
                      obtain rfl := Option.some.inj H
                      go_enter Try.func46, Try.ntmps46
                      go_wp2_with (first | ((with_reducible refine gate_callee (f := 53) rfl ?_); refine goesL_ (some 55) rfl rfl Try.func53 (by kernel_rfl) rfl #[.int .u32 a1, .int .u32 a3] rfl (by (try simp only [List.map_toArray, List.map_cons, List.map_nil]); first | done | rfl | (simp only [List.length_drop, List.length_take]; rfl)) ?_; (with_reducible refine (marquetryref11_Avg.calls a1 a3 t178 _ A28.out).mono ?_); clear A28; rintro e w31 ⟨rfl, hb⟩; refine ⟨_, rfl, ?_⟩; have n0_ := Aside0.mk (below_step (by repeat (first | (with_reducible first | exact HB.out | apply below_alloc | apply pw_below_drewN | apply below_drew1) | exact HB.out)) hb); clear HB; have HB := n0_; clear n0_; (try clear hb); (try clear hb2); (try clear hk); (try clear hi)) | (go_at_call 53; (with_reducible refine (marquetryref11_Avg.calls a1 a3 t178 _ A28.out).mono ?_); clear A28; rintro e w31 ⟨rfl, hb⟩; have n0_ := Aside0.mk (below_step (by repeat (first | (with_reducible first | exact HB.out | apply below_alloc | apply pw_below_drewN | apply below_drew1) | exact HB.out)) hb); clear HB; have HB := n0_; clear n0_; (try clear hb); (try clear hb2); (try clear hk); (try clear hi)) | ((with_reducible refine gate_callee (f := 53) rfl ?_); refine goesL_ (some 58) rfl rfl Try.func53 (by kernel_rfl) rfl #[.int .u32 a2, .int .u32 a4] rfl (by (try simp only [List.map_toArray, List.map_cons, List.map_nil]); first | done | rfl | (simp only [List.length_drop, List.length_take]; rfl)) ?_; (with_reducible refine (marquetryref11_Avg.calls a2 a4 t179 _ A29.out).mono ?_); clear A29; rintro e w32 ⟨rfl, hb⟩; refine ⟨_, rfl, ?_⟩; have n0_ := Aside0.mk (below_step (by repeat (first | (with_reducible first | exact HB.out | apply below_alloc | apply pw_below_drewN | apply below_drew1) | exact HB.out)) hb); clear HB; have HB := n0_; clear n0_; (try clear hb); (try clear hb2); (try clear hk); (try clear hi)) | (go_at_call 53; (with_reducible refine (marquetryref11_Avg.calls a2 a4 t179 _ A29.out).mono ?_); clear A29; rintro e w32 ⟨rfl, hb⟩; have n0_ := Aside0.mk (below_step (by repeat (first | (with_reducible first | exact HB.out | apply below_alloc | apply pw_below_drewN | apply below_drew1) | exact HB.out)) hb); clear HB; have HB := n0_; clear n0_; (try clear hb); (try clear hb2); (try clear hk); (try clear hi)) | ((with_reducible refine gate_callee (f := 53) rfl ?_); refine goesL_ (some 59) rfl rfl Try.func53 (by kernel_rfl) rfl #[.int .u32 t178, .int .u32 t179] rfl (by (try simp only [List.map_toArray, List.map_cons, List.map_nil]); first | done | rfl | (simp only [List.length_drop, List.length_take]; rfl)) ?_; (with_reducible refine (marquetryref11_Avg.calls t178 t179 t180 _ A30.out).mono ?_); clear A30; rintro e w33 ⟨rfl, hb⟩; refine ⟨_, rfl, ?_⟩; have n0_ := Aside0.mk (below_step (by repeat (first | (with_reducible first | exact HB.out | apply below_alloc | apply pw_below_drewN | apply below_drew1) | exact HB.out)) hb); clear HB; have HB := n0_; clear n0_; (try clear hb); (try clear hb2); (try clear hk); (try clear hi)) | (go_at_call 53; (with_reducible refine (marquetryref11_Avg.calls t178 t179 t180 _ A30.out).mono ?_); clear A30; rintro e w33 ⟨rfl, hb⟩; have n0_ := Aside0.mk (below_step (by repeat (first | (with_reducible first | exact HB.out | apply below_alloc | apply pw_below_drewN | apply below_drew1) | exact HB.out)) hb); clear HB; have HB := n0_; clear n0_; (try clear hb); (try clear hb2); (try clear hk); (try clear hi)))
                      go_ret
                      exact ⟨by first | rfl | (simp [errW_none, errW_some] <;> rfl) | (simp [*, errW_none, errW_some] <;> rfl), by repeat (first | (with_reducible first | exact HB.out | apply below_alloc | apply pw_below_drewN | apply below_drew1) | exact HB.out)⟩
                    · rw [if_neg c27] at H
                      have c27b0 : (a0 == 10) = false := beq_eq_false_iff_ne.mpr c27
                      have c27b1 : (a0 != 10) = true := bne_iff_ne.mpr c27
                      by_cases c34 : a0 = 11
                      · rw [if_pos c34] at H
                        have c34b0 : (a0 == 11) = true := beq_iff_eq.mpr c34
                        have c34b1 : (a0 != 11) = false := bne_eq_false_iff_eq.mpr c34
                        clear c34
                        replace H := Option.bind_eq_some_iff.mp H
                        obtain ⟨t181, A350, H⟩ := H
                        replace H : (some t181) = some r := H
                        have A35 := Aside0.mk A350
                        clear A350
                        obtain rfl := Option.some.inj H
                        go_enter Try.func46, Try.ntmps46
                        go_wp2_with (first | ((with_reducible refine gate_callee (f := 54) rfl ?_); refine goesL_ (some 65) rfl rfl Try.func54 (by kernel_rfl) rfl #[.int .u32 a1, .int .u32 a2, .int .u32 a3] rfl (by (try simp only [List.map_toArray, List.map_cons, List.map_nil]); first | done | rfl | (simp only [List.length_drop, List.length_take]; rfl)) ?_; (with_reducible refine (marquetryref11_Pick.calls k a1 a2 a3 t181 _ A35.out).mono ?_); clear A35; rintro e w' ⟨rfl, ⟨nd, rfl⟩⟩; refine ⟨_, rfl, ?_⟩) | (go_at_call 54; (with_reducible refine (marquetryref11_Pick.calls k a1 a2 a3 t181 _ A35.out).mono ?_); clear A35; rintro e w' ⟨rfl, ⟨nd, rfl⟩⟩))
                        go_ret
                        exact ⟨by first | rfl | (simp [errW_none, errW_some] <;> rfl) | (simp [*, errW_none, errW_some] <;> rfl), by repeat (first | (with_reducible first | exact HB.out | apply below_alloc | apply pw_below_drewN | apply below_drew1) | exact HB.out)⟩
                      · rw [if_neg c34] at H
                        have c34b0 : (a0 == 11) = false := beq_eq_false_iff_ne.mpr c34
                        have c34b1 : (a0 != 11) = true := bne_iff_ne.mpr c34
                        by_cases c36 : a0 = 12
                        · rw [if_pos c36] at H
                          have c36b0 : (a0 == 12) = true := beq_iff_eq.mpr c36
                          have c36b1 : (a0 != 12) = false := bne_eq_false_iff_eq.mpr c36
                          clear c36
                          replace H := Option.bind_eq_some_iff.mp H
                          obtain ⟨t182, A370, H⟩ := H
                          replace H : (some t182) = some r := H
                          have A37 := Aside0.mk A370
                          clear A370
                          obtain rfl := Option.some.inj H
                          go_enter Try.func46, Try.ntmps46
                          go_wp2_with (first | ((with_reducible refine gate_callee (f := 55) rfl ?_); refine goesL_ (some 71) rfl rfl Try.func55 (by kernel_rfl) rfl #[.int .u32 a1, .int .u32 a2, .int .u32 a3] rfl (by (try simp only [List.map_toArray, List.map_cons, List.map_nil]); first | done | rfl | (simp only [List.length_drop, List.length_take]; rfl)) ?_; (with_reducible refine (marquetryref11_Full.calls a1 a2 a3 t182 _ A37.out).mono ?_); clear A37; rintro e w38 ⟨rfl, hb⟩; refine ⟨_, rfl, ?_⟩; have n0_ := Aside0.mk (below_step (by repeat (first | (with_reducible first | exact HB.out | apply below_alloc | apply pw_below_drewN | apply below_drew1) | exact HB.out)) hb); clear HB; have HB := n0_; clear n0_; (try clear hb); (try clear hb2); (try clear hk); (try clear hi)) | (go_at_call 55; (with_reducible refine (marquetryref11_Full.calls a1 a2 a3 t182 _ A37.out).mono ?_); clear A37; rintro e w38 ⟨rfl, hb⟩; have n0_ := Aside0.mk (below_step (by repeat (first | (with_reducible first | exact HB.out | apply below_alloc | apply pw_below_drewN | apply below_drew1) | exact HB.out)) hb); clear HB; have HB := n0_; clear n0_; (try clear hb); (try clear hb2); (try clear hk); (try clear hi)))
                          go_ret
                          exact ⟨by first | rfl | (simp [errW_none, errW_some] <;> rfl) | (simp [*, errW_none, errW_some] <;> rfl), by repeat (first | (with_reducible first | exact HB.out | apply below_alloc | apply pw_below_drewN | apply below_drew1) | exact HB.out)⟩
                        · rw [if_neg c36] at H
                          have c36b0 : (a0 == 12) = false := beq_eq_false_iff_ne.mpr c36
                          have c36b1 : (a0 != 12) = true := bne_iff_ne.mpr c36
                          by_cases c39 : a0 = 13
                          · rw [if_pos c39] at H
                            have c39b0 : (a0 == 13) = true := beq_iff_eq.mpr c39
                            have c39b1 : (a0 != 13) = false := bne_eq_false_iff_eq.mpr c39
                            clear c39
                            replace H := Option.bind_eq_some_iff.mp H
                            obtain ⟨t183, A400, H⟩ := H
                            replace H : ((marquetryref11_Half.f t183 a3).bind fun t184 => (some t184)) = some r := H
                            have A40 := Aside0.mk A400
                            clear A400
                            replace H := Option.bind_eq_some_iff.mp H
                            obtain ⟨t184, A410, H⟩ := H
                            replace H : (some t184) = some r := H
                            have A41 := Aside0.mk A410
                            clear A410
                            obtain rfl := Option.some.inj H
                            go_enter Try.func46, Try.ntmps46
                            go_wp2_with (first | ((with_reducible refine gate_callee (f := 53) rfl ?_); refine goesL_ (some 76) rfl rfl Try.func53 (by kernel_rfl) rfl #[.int .u32 a1, .int .u32 a2] rfl (by (try simp only [List.map_toArray, List.map_cons, List.map_nil]); first | done | rfl | (simp only [List.length_drop, List.length_take]; rfl)) ?_; (with_reducible refine (marquetryref11_Avg.calls a1 a2 t183 _ A40.out).mono ?_); clear A40; rintro e w42 ⟨rfl, hb⟩; refine ⟨_, rfl, ?_⟩; have n0_ := Aside0.mk (below_step (by repeat (first | (with_reducible first | exact HB.out | apply below_alloc | apply pw_below_drewN | apply below_drew1) | exact HB.out)) hb); clear HB; have HB := n0_; clear n0_; (try clear hb); (try clear hb2); (try clear hk); (try clear hi)) | (go_at_call 53; (with_reducible refine (marquetryref11_Avg.calls a1 a2 t183 _ A40.out).mono ?_); clear A40; rintro e w42 ⟨rfl, hb⟩; have n0_ := Aside0.mk (below_step (by repeat (first | (with_reducible first | exact HB.out | apply below_alloc | apply pw_below_drewN | apply below_drew1) | exact HB.out)) hb); clear HB; have HB := n0_; clear n0_; (try clear hb); (try clear hb2); (try clear hk); (try clear hi)) | ((with_reducible refine gate_callee (f := 56) rfl ?_); refine goesL_ (some 78) rfl rfl Try.func56 (by kernel_rfl) rfl #[.int .u32 t183, .int .u32 a3] rfl (by (try simp only [List.map_toArray, List.map_cons, List.map_nil]); first | done | rfl | (simp only [List.length_drop, List.length_take]; rfl)) ?_; (with_reducible refine (marquetryref11_Half.calls t183 a3 t184 _ A41.out).mono ?_); clear A41; rintro e w43 ⟨rfl, hb⟩; refine ⟨_, rfl, ?_⟩; have n0_ := Aside0.mk (below_step (by repeat (first | (with_reducible first | exact HB.out | apply below_alloc | apply pw_below_drewN | apply below_drew1) | exact HB.out)) hb); clear HB; have HB := n0_; clear n0_; (try clear hb); (try clear hb2); (try clear hk); (try clear hi)) | (go_at_call 56; (with_reducible refine (marquetryref11_Half.calls t183 a3 t184 _ A41.out).mono ?_); clear A41; rintro e w43 ⟨rfl, hb⟩; have n0_ := Aside0.mk (below_step (by repeat (first | (with_reducible first | exact HB.out | apply below_alloc | apply pw_below_drewN | apply below_drew1) | exact HB.out)) hb); clear HB; have HB := n0_; clear n0_; (try clear hb); (try clear hb2); (try clear hk); (try clear hi)))
                            go_ret
                            exact ⟨by first | rfl | (simp [errW_none, errW_some] <;> rfl) | (simp [*, errW_none, errW_some] <;> rfl), by repeat (first | (with_reducible first | exact HB.out | apply below_alloc | apply pw_below_drewN | apply below_drew1) | exact HB.out)⟩
                          · rw [if_neg c39] at H
                            have c39b0 : (a0 == 13) = false := beq_eq_false_iff_ne.mpr c39
                            have c39b1 : (a0 != 13) = true := bne_iff_ne.mpr c39
                            obtain rfl := Option.some.inj H
                            go_enter Try.func46, Try.ntmps46
                            go_wp2
                            go_ret
                            exact ⟨by first | rfl | (simp [errW_none, errW_some] <;> rfl) | (simp [*, errW_none, errW_some] <;> rfl), by repeat (first | (with_reducible first | exact HB.out | apply below_alloc | apply pw_below_drewN | apply below_drew1) | exact HB.out)⟩

/-! ### marquetryref11_At: function 35 -/
def marquetryref11_At.j0 : Nat → Int → Int → Int → Bool → Int → Int → Int → Int → Option (Int)
  | 0, _, _, _, _, _, _, _, _ => none
  | k + 1, x2, x3, x4, x17, x190000, x190001, x190002, x190003 => if x17 = true then (some 4278190080) else (if x4 = 0 then (some x190000) else (if x3 = 0 then (some x190001) else ((marquetryref11_Guess.f k x2 x190000 x190001 x190002 x190003).bind fun t190 => (some t190))))
def marquetryref11_At.f (k : Nat) (a0 : Int) (l1 : List Int) (a2 : Int) (a3 : Int) (a4 : Int) : Option (Int) := (marquetryref11_Around.f k a0 l1 a3 a4).bind fun bt185 => (if a3 = 0 then (marquetryref11_At.j0 k a2 a3 a4 (a4 == 0) bt185.1 bt185.2.1 bt185.2.2.1 bt185.2.2.2) else (marquetryref11_At.j0 k a2 a3 a4 false bt185.1 bt185.2.1 bt185.2.2.1 bt185.2.2.2))
theorem marquetryref11_At.mono_l : ∀ k, (∀ y0 y1 y2 y3 y4 y5 y6 y7, LeO (marquetryref11_At.j0 k y0 y1 y2 y3 y4 y5 y6 y7) (marquetryref11_At.j0 (k + 1) y0 y1 y2 y3 y4 y5 y6 y7))
  | 0 => fun _ _ _ _ _ _ _ _ r h => by simp [marquetryref11_At.j0] at h
  | k + 1 => by
    have ih0 := marquetryref11_At.mono_l k
    · intro y0 y1 y2 y3 y4 y5 y6 y7
      unfold marquetryref11_At.j0
      repeat' first
      | (with_reducible exact ih0 _ _ _ _ _ _ _ _)
      | (with_reducible exact marquetryref11_Around.mono _ _ _ _ _)
      | (with_reducible exact marquetryref11_Guess.mono _ _ _ _ _ _)
      | (with_reducible exact LeO.refl _)
      | (with_reducible exact LeO.none _)
      | (with_reducible refine LeO.ite ?_ ?_)
      | (with_reducible refine LeO.bind ?_ (fun _ => ?_))
      | exact ih0 _ _ _ _ _ _ _ _
      | exact marquetryref11_Around.mono _ _ _ _ _
      | exact marquetryref11_Guess.mono _ _ _ _ _ _
      | exact LeO.none _
      | refine LeO.ite ?_ ?_
      | refine LeO.bind ?_ (fun _ => ?_)
theorem marquetryref11_At.mono : ∀ a0 a1 a2 a3 a4 k, LeO (marquetryref11_At.f k a0 a1 a2 a3 a4) (marquetryref11_At.f (k + 1) a0 a1 a2 a3 a4) := by
  intro a0 a1 a2 a3 a4 k
  have ih0 := marquetryref11_At.mono_l k
  unfold marquetryref11_At.f
  repeat' first
      | (with_reducible exact ih0 _ _ _ _ _ _ _ _)
      | (with_reducible exact marquetryref11_Around.mono _ _ _ _ _)
      | (with_reducible exact marquetryref11_Guess.mono _ _ _ _ _ _)
      | (with_reducible exact LeO.refl _)
      | (with_reducible exact LeO.none _)
      | (with_reducible refine LeO.ite ?_ ?_)
      | (with_reducible refine LeO.bind ?_ (fun _ => ?_))
      | exact ih0 _ _ _ _ _ _ _ _
      | exact marquetryref11_Around.mono _ _ _ _ _
      | exact marquetryref11_Guess.mono _ _ _ _ _ _
      | exact LeO.none _
      | refine LeO.ite ?_ ?_
      | refine LeO.bind ?_ (fun _ => ?_)
set_option maxHeartbeats 8000000 in
set_option maxRecDepth 100000 in
theorem marquetryref11_At.calls (k : Nat) (a0 : Int) (A1 : Option Addr) (c1 : Nat) (l1 : List Int) (a2 : Int) (a3 : Int) (a4 : Int) (r : Int) (w : World) (hr1 : Kd.C (Kd.int .u32) w A1 l1.length l1) (hc1 : l1.length ≤ c1) (h : marquetryref11_At.f k a0 l1 a2 a3 a4 = some r) :
    Calls Try.prog 35 #[.int .i64 a0, .slice A1 l1.length c1, .int .i64 a2, .int .i64 a3, .int .i64 a4] w fun e w' => e = .returned (.int .u32 r) ∧ Below w.heap.size w w' := by
  have hu64 := Try.underlying64
  have HR1 := Aside0.mk hr1
  have HC1 := Aside0.mk hc1
  clear hr1 hc1
  have HB := Aside0.mk (Below.refl w.heap.size w)
  have H : ((marquetryref11_Around.f k a0 l1 a3 a4).bind fun bt185 => (if a3 = 0 then (marquetryref11_At.j0 k a2 a3 a4 (a4 == 0) bt185.1 bt185.2.1 bt185.2.2.1 bt185.2.2.2) else (marquetryref11_At.j0 k a2 a3 a4 false bt185.1 bt185.2.1 bt185.2.2.1 bt185.2.2.2))) = some r := h
  clear h
  replace H := Option.bind_eq_some_iff.mp H
  obtain ⟨⟨t185, t186, t187, t188⟩, A60, H⟩ := H
  replace H : (if a3 = 0 then (marquetryref11_At.j0 k a2 a3 a4 (a4 == 0) t185 t186 t187 t188) else (marquetryref11_At.j0 k a2 a3 a4 false t185 t186 t187 t188)) = some r := H
  have A6 := Aside0.mk A60
  clear A60
  have HC7 := Aside0.mk H
  clear H
  go_enter Try.func35, Try.ntmps35
  go_upto_region 2 with (first | ((with_reducible refine gate_callee (f := 45) rfl ?_); refine goesL_ (some 16) rfl rfl Try.func45 (by kernel_rfl) rfl #[.int .i64 a0, .slice A1 l1.length c1, .int .i64 a3, .int .i64 a4] rfl (by (try simp only [List.map_toArray, List.map_cons, List.map_nil]); first | done | rfl | (simp only [List.length_drop, List.length_take]; rfl)) ?_; (with_reducible refine (marquetryref11_Around.calls k a0 _ _ l1 a3 a4 t185 t186 t187 t188 _ ?side1 ?side2 A6.out).mono ?_); (case side1 => repeat (first | exact HR1.out | (with_reducible refine Kd.C_alloc ?_ _) | (with_reducible refine Kd.C_drewN ?_ _) | (with_reducible refine Kd.C_drew ?_))); (case side2 => exact HC1.out); rintro e w8 ⟨rfl, hb⟩; refine ⟨_, rfl, ?_⟩; have n0_ := Aside0.mk (below_step (by repeat (first | (with_reducible first | exact HB.out | apply below_alloc | apply pw_below_drewN | apply below_drew1) | exact HB.out)) hb); clear HB; have HB := n0_; clear n0_; (try clear hb); (try clear hb2); (try clear hk); (try clear hi)) | (go_at_call 45; (with_reducible refine (marquetryref11_Around.calls k a0 _ _ l1 a3 a4 t185 t186 t187 t188 _ ?side1 ?side2 A6.out).mono ?_); (case side1 => repeat (first | exact HR1.out | (with_reducible refine Kd.C_alloc ?_ _) | (with_reducible refine Kd.C_drewN ?_ _) | (with_reducible refine Kd.C_drew ?_))); (case side2 => exact HC1.out); rintro e w8 ⟨rfl, hb⟩; have n0_ := Aside0.mk (below_step (by repeat (first | (with_reducible first | exact HB.out | apply below_alloc | apply pw_below_drewN | apply below_drew1) | exact HB.out)) hb); clear HB; have HB := n0_; clear n0_; (try clear hb); (try clear hb2); (try clear hk); (try clear hi)) | ((with_reducible refine gate_dst (N := 11) rfl ?_); refine box_event ?hg (N := 11) ?hd (cs := #[.int .u32 0, .int .u32 0, .int .u32 0, .int .u32 0]) (t := 64) ?hr ?_; (case hd => rfl); (case hg => rfl); (case hr => first | (go_simp; done) | (go_simp; rfl)); intro gb189 hg w9 hbox hb; have n0_ := Aside0.mk (below_step (by repeat (first | (with_reducible first | exact HB.out | apply below_alloc | apply pw_below_drewN | apply below_drew1) | exact HB.out)) hb); have n1_ := Aside0.mk (hbox); have n2_ := Aside0.mk ((by rw [hg]; exact (below_size (by repeat (first | (with_reducible first | exact HB.out | apply below_alloc | apply pw_below_drewN | apply below_drew1) | exact HB.out))) : w.heap.size ≤ gb189)); have n3_ := Aside0.mk ((by rw [hg]; exact (below_size (by repeat (first | (with_reducible first | exact HB.out | apply below_alloc | apply pw_below_drewN | apply below_drew1) | exact HB.out))) : w.heap.size ≤ gb189)); clear HB; have HB := n0_; have BK189 := n1_; have GW189 := n2_; have GE189 := n3_; clear n0_ n1_ n2_ n3_; clear hb hbox hg; have hcz10_0 : w9.cell? ⟨gb189, 0, none⟩ = some (.int .u32 0) := (blk_cell BK189.out 0).trans rfl; have hcz10_1 : w9.cell? ⟨gb189, 1, none⟩ = some (.int .u32 0) := (blk_cell BK189.out 1).trans rfl; have hcz10_2 : w9.cell? ⟨gb189, 2, none⟩ = some (.int .u32 0) := (blk_cell BK189.out 2).trans rfl; have hcz10_3 : w9.cell? ⟨gb189, 3, none⟩ = some (.int .u32 0) := (blk_cell BK189.out 3).trans rfl; have hfz10_0 := blk_frozen BK189.out 0; have hfz10_1 := blk_frozen BK189.out 1; have hfz10_2 := blk_frozen BK189.out 2; have hfz10_3 := blk_frozen BK189.out 3))
  (try simp only [Act.put, List.setIfInBounds_toArray, List.set_cons_zero, List.set_cons_succ])
  go_cut [17] (fun v17 wc => ∃ (kq : Nat) (x17_6 : Bool), v17 = .bool x17_6 ∧ Aside0 (marquetryref11_At.j0 kq a2 a3 a4 x17_6 t185 t186 t187 t188 = some r) ∧ Aside0 (kq ≤ k) ∧ Aside0 (wc.heap[gb189]? = some (.cells #[.int .u32 t185, .int .u32 t186, .int .u32 t187, .int .u32 t188] 64 (0, 0))) ∧ Aside0 (Below w.heap.size w wc))
  case first =>
    have H := HC7.out
    clear HC7
    by_cases c11 : a3 = 0
    · rw [if_pos c11] at H
      have c11b0 : (a3 == 0) = true := beq_iff_eq.mpr c11
      have c11b1 : (a3 != 0) = false := bne_eq_false_iff_eq.mpr c11
      clear c11
      (first | rw [c11b0] | (simp only [i64_w, i32_w]; rw [c11b0]) | skip)
      have H' := Aside0.mk H
      clear H
      go_wp2
      go_meet
      case rel => exact ⟨_, ((a4 == 0)), (by first | rfl | (simp; done) | (simp [*]; done)), H', ⟨by first | omega | exact Nat.le_refl _⟩, ⟨by (with_reducible repeat (first | refine blk_drewN ?_ _ | refine blk_drew ?_ | refine blk_alloc ?_ _)); refine blk_put (cs := #[.int .u32 t185, .int .u32 t186, .int .u32 t187, .int .u32 0]) ?_ 3 _ rfl; (with_reducible repeat (first | refine blk_drewN ?_ _ | refine blk_drew ?_ | refine blk_alloc ?_ _)); refine blk_put (cs := #[.int .u32 t185, .int .u32 t186, .int .u32 0, .int .u32 0]) ?_ 2 _ rfl; (with_reducible repeat (first | refine blk_drewN ?_ _ | refine blk_drew ?_ | refine blk_alloc ?_ _)); refine blk_put (cs := #[.int .u32 t185, .int .u32 0, .int .u32 0, .int .u32 0]) ?_ 1 _ rfl; (with_reducible repeat (first | refine blk_drewN ?_ _ | refine blk_drew ?_ | refine blk_alloc ?_ _)); refine blk_put (cs := #[.int .u32 0, .int .u32 0, .int .u32 0, .int .u32 0]) ?_ 0 _ rfl; (with_reducible repeat (first | refine blk_drewN ?_ _ | refine blk_drew ?_ | refine blk_alloc ?_ _)); exact BK189.out⟩, ⟨by repeat (first | (with_reducible first | exact HB.out | apply below_alloc | apply pw_below_drewN | apply below_drew1 | refine below_set ?_ GE189.out) | exact HB.out)⟩⟩
    · rw [if_neg c11] at H
      have c11b0 : (a3 == 0) = false := beq_eq_false_iff_ne.mpr c11
      have c11b1 : (a3 != 0) = true := bne_iff_ne.mpr c11
      (first | rw [c11b0] | (simp only [i64_w, i32_w]; rw [c11b0]) | skip)
      have H' := Aside0.mk H
      clear H
      go_wp2
      go_meet
      case rel => exact ⟨_, (false), (by first | rfl | (simp; done) | (simp [*]; done)), H', ⟨by first | omega | exact Nat.le_refl _⟩, ⟨by (with_reducible repeat (first | refine blk_drewN ?_ _ | refine blk_drew ?_ | refine blk_alloc ?_ _)); refine blk_put (cs := #[.int .u32 t185, .int .u32 t186, .int .u32 t187, .int .u32 0]) ?_ 3 _ rfl; (with_reducible repeat (first | refine blk_drewN ?_ _ | refine blk_drew ?_ | refine blk_alloc ?_ _)); refine blk_put (cs := #[.int .u32 t185, .int .u32 t186, .int .u32 0, .int .u32 0]) ?_ 2 _ rfl; (with_reducible repeat (first | refine blk_drewN ?_ _ | refine blk_drew ?_ | refine blk_alloc ?_ _)); refine blk_put (cs := #[.int .u32 t185, .int .u32 0, .int .u32 0, .int .u32 0]) ?_ 1 _ rfl; (with_reducible repeat (first | refine blk_drewN ?_ _ | refine blk_drew ?_ | refine blk_alloc ?_ _)); refine blk_put (cs := #[.int .u32 0, .int .u32 0, .int .u32 0, .int .u32 0]) ?_ 0 _ rfl; (with_reducible repeat (first | refine blk_drewN ?_ _ | refine blk_drew ?_ | refine blk_alloc ?_ _)); exact BK189.out⟩, ⟨by repeat (first | (with_reducible first | exact HB.out | apply below_alloc | apply pw_below_drewN | apply below_drew1 | refine below_set ?_ GE189.out) | exact HB.out)⟩⟩
  case rest =>
    clear HC7
    try clear c1
    try clear p2
    try clear c3
    try clear c4
    try clear c11
    try clear c11b0
    try clear c11b1
    try clear hcz10_0
    try clear hcz10_1
    try clear hcz10_2
    try clear hcz10_3
    try clear hfz10_0
    try clear hfz10_1
    try clear hfz10_2
    try clear hfz10_3
    obtain ⟨kq, x17_6, rfl, HA, HJ6, BK189, HB⟩ := hcut
    cases kq with
    | zero => exact absurd HA.out (by simp [marquetryref11_At.j0])
    | succ kj6 =>
      have H := HA.out
      clear HA
      simp only [marquetryref11_At.j0] at H
      by_cases c12 : x17_6 = true
      · subst c12
        have H1 : (some 4278190080) = some r := by rw [if_pos rfl] at H; exact H
        clear H
        have H := H1
        clear H1
        obtain rfl := Option.some.inj H
        go_wp2
        go_ret
        exact ⟨by first | rfl | (simp [errW_none, errW_some] <;> rfl) | (simp [*, errW_none, errW_some] <;> rfl), by repeat (first | (with_reducible first | exact HB.out | apply below_alloc | apply pw_below_drewN | apply below_drew1 | refine below_set ?_ GE189.out) | exact HB.out)⟩
      · replace c12 := Bool.eq_false_iff.mpr c12
        subst c12
        have H1 : (if a4 = 0 then (some t185) else (if a3 = 0 then (some t186) else ((marquetryref11_Guess.f kj6 a2 t185 t186 t187 t188).bind fun t190 => (some t190)))) = some r := by rw [if_neg (show ¬ (false = true) by decide)] at H; exact H
        clear H
        have H := H1
        clear H1
        by_cases c13 : a4 = 0
        · rw [if_pos c13] at H
          have c13b0 : (a4 == 0) = true := beq_iff_eq.mpr c13
          have c13b1 : (a4 != 0) = false := bne_eq_false_iff_eq.mpr c13
          clear c13
          obtain rfl := Option.some.inj H
          have hcz14_0 : wc.cell? ⟨gb189, 0, none⟩ = some (.int .u32 t185) := (blk_cell BK189.out 0).trans rfl
          have hcz14_1 : wc.cell? ⟨gb189, 1, none⟩ = some (.int .u32 t186) := (blk_cell BK189.out 1).trans rfl
          have hcz14_2 : wc.cell? ⟨gb189, 2, none⟩ = some (.int .u32 t187) := (blk_cell BK189.out 2).trans rfl
          have hcz14_3 : wc.cell? ⟨gb189, 3, none⟩ = some (.int .u32 t188) := (blk_cell BK189.out 3).trans rfl
          have hfz14_0 := blk_frozen BK189.out 0
          have hfz14_1 := blk_frozen BK189.out 1
          have hfz14_2 := blk_frozen BK189.out 2
          have hfz14_3 := blk_frozen BK189.out 3
          go_wp2
          go_ret
          exact ⟨by first | rfl | (simp [errW_none, errW_some] <;> rfl) | (simp [*, errW_none, errW_some] <;> rfl), by repeat (first | (with_reducible first | exact HB.out | apply below_alloc | apply pw_below_drewN | apply below_drew1 | refine below_set ?_ GE189.out) | exact HB.out)⟩
        · rw [if_neg c13] at H
          have c13b0 : (a4 == 0) = false := beq_eq_false_iff_ne.mpr c13
          have c13b1 : (a4 != 0) = true := bne_iff_ne.mpr c13
          by_cases c15 : a3 = 0
          · rw [if_pos c15] at H
            have c15b0 : (a3 == 0) = true := beq_iff_eq.mpr c15
            have c15b1 : (a3 != 0) = false := bne_eq_false_iff_eq.mpr c15
            clear c15
            obtain rfl := Option.some.inj H
            have hcz16_0 : wc.cell? ⟨gb189, 0, none⟩ = some (.int .u32 t185) := (blk_cell BK189.out 0).trans rfl
            have hcz16_1 : wc.cell? ⟨gb189, 1, none⟩ = some (.int .u32 t186) := (blk_cell BK189.out 1).trans rfl
            have hcz16_2 : wc.cell? ⟨gb189, 2, none⟩ = some (.int .u32 t187) := (blk_cell BK189.out 2).trans rfl
            have hcz16_3 : wc.cell? ⟨gb189, 3, none⟩ = some (.int .u32 t188) := (blk_cell BK189.out 3).trans rfl
            have hfz16_0 := blk_frozen BK189.out 0
            have hfz16_1 := blk_frozen BK189.out 1
            have hfz16_2 := blk_frozen BK189.out 2
            have hfz16_3 := blk_frozen BK189.out 3
            go_wp2
            go_ret
            exact ⟨by first | rfl | (simp [errW_none, errW_some] <;> rfl) | (simp [*, errW_none, errW_some] <;> rfl), by repeat (first | (with_reducible first | exact HB.out | apply below_alloc | apply pw_below_drewN | apply below_drew1 | refine below_set ?_ GE189.out) | exact HB.out)⟩
          · rw [if_neg c15] at H
            have c15b0 : (a3 == 0) = false := beq_eq_false_iff_ne.mpr c15
            have c15b1 : (a3 != 0) = true := bne_iff_ne.mpr c15
            replace H := Option.bind_eq_some_iff.mp H
            obtain ⟨t190, A170, H⟩ := H
            replace H : (some t190) = some r := H
            have A17 := Aside0.mk A170
            clear A170
            obtain rfl := Option.some.inj H
            have hcz18_0 : wc.cell? ⟨gb189, 0, none⟩ = some (.int .u32 t185) := (blk_cell BK189.out 0).trans rfl
            have hcz18_1 : wc.cell? ⟨gb189, 1, none⟩ = some (.int .u32 t186) := (blk_cell BK189.out 1).trans rfl
            have hcz18_2 : wc.cell? ⟨gb189, 2, none⟩ = some (.int .u32 t187) := (blk_cell BK189.out 2).trans rfl
            have hcz18_3 : wc.cell? ⟨gb189, 3, none⟩ = some (.int .u32 t188) := (blk_cell BK189.out 3).trans rfl
            have hfz18_0 := blk_frozen BK189.out 0
            have hfz18_1 := blk_frozen BK189.out 1
            have hfz18_2 := blk_frozen BK189.out 2
            have hfz18_3 := blk_frozen BK189.out 3
            go_wp2_with (first | ((with_reducible refine gate_callee (f := 46) rfl ?_); refine goesL_ (some 43) rfl rfl Try.func46 (by kernel_rfl) rfl #[.int .i64 a2, .int .u32 t185, .int .u32 t186, .int .u32 t187, .int .u32 t188] rfl (by (try simp only [List.map_toArray, List.map_cons, List.map_nil]); first | done | rfl | (simp only [List.length_drop, List.length_take]; rfl)) ?_; (with_reducible refine (marquetryref11_Guess.calls kj6 a2 t185 t186 t187 t188 t190 _ A17.out).mono ?_); clear A17; rintro e w19 ⟨rfl, hb⟩; refine ⟨_, rfl, ?_⟩; have n0_ := Aside0.mk (blk_below (g := gb189) (o := .cells #[.int .u32 t185, .int .u32 t186, .int .u32 t187, .int .u32 t188] 64 (0, 0)) (by (with_reducible repeat (first | refine blk_drewN ?_ _ | refine blk_drew ?_ | refine blk_alloc ?_ _)); exact BK189.out) hb); have n1_ := Aside0.mk (below_step (by repeat (first | (with_reducible first | exact HB.out | apply below_alloc | apply pw_below_drewN | apply below_drew1 | refine below_set ?_ GE189.out) | exact HB.out)) hb); clear BK189; clear HB; have BK189 := n0_; have HB := n1_; clear n0_ n1_; (try clear hb); (try clear hb2); (try clear hk); (try clear hi)) | (go_at_call 46; (with_reducible refine (marquetryref11_Guess.calls kj6 a2 t185 t186 t187 t188 t190 _ A17.out).mono ?_); clear A17; rintro e w19 ⟨rfl, hb⟩; have n0_ := Aside0.mk (blk_below (g := gb189) (o := .cells #[.int .u32 t185, .int .u32 t186, .int .u32 t187, .int .u32 t188] 64 (0, 0)) (by (with_reducible repeat (first | refine blk_drewN ?_ _ | refine blk_drew ?_ | refine blk_alloc ?_ _)); exact BK189.out) hb); have n1_ := Aside0.mk (below_step (by repeat (first | (with_reducible first | exact HB.out | apply below_alloc | apply pw_below_drewN | apply below_drew1 | refine below_set ?_ GE189.out) | exact HB.out)) hb); clear BK189; clear HB; have BK189 := n0_; have HB := n1_; clear n0_ n1_; (try clear hb); (try clear hb2); (try clear hk); (try clear hi)))
            go_ret
            exact ⟨by first | rfl | (simp [errW_none, errW_some] <;> rfl) | (simp [*, errW_none, errW_some] <;> rfl), by repeat (first | (with_reducible first | exact HB.out | apply below_alloc | apply pw_below_drewN | apply below_drew1 | refine below_set ?_ GE189.out) | exact HB.out)⟩

end Go.Proofs.Ytnbocgmlcdcahaa.P
