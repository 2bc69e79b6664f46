-- Printed by mp.py (our own program over the kit's printer) out of the translation.
import Derived.Test.YtmehcbjkhooolaaPx0
import Derived.Test.YtmehcbjkhooolaaPx1
namespace Go.Proofs.Ytmehcbjkhooolaa.P
open Go.RowKit Go.Proofs.YtmehcbjkhooolaaW.PrintWords Go.Proofs.YtmehcbjkhooolaaW.PrintLast Go.Proofs.YtmehcbjkhooolaaW.PrintMore
attribute [local go_sem] max2_int min2_int max_two min_two max_three min_three max_four min_four   -- for this text's walks alone
set_option linter.unusedVariables false
set_option linter.unusedSimpArgs false

/-! ### marquetrylaw11_PixelPairs: function 6 -/
def marquetrylaw11_PixelPairs.f (a0 : Int) (a1 : Int) : Option (Bool) := (pixel_Parts.f a0).bind fun bt132 => ((marquetrylaw11_answers.f).bind fun t136 => (if t136 = true then ((marquetryref11_Part.f a0 0).bind fun t137 => (if (wrap64 (bt132.1)) = t137 then ((marquetryref11_Part.f a0 1).bind fun t138 => (if (wrap64 (bt132.2.1)) = t138 then ((marquetryref11_Part.f a0 2).bind fun t139 => (if (wrap64 (bt132.2.2.1)) = t139 then ((marquetryref11_Part.f a0 3).bind fun t140 => (if (wrap64 (bt132.2.2.2)) = t140 then ((pixel_Make.f bt132.1 bt132.2.1 bt132.2.2.1 bt132.2.2.2).bind fun t141 => (if t141 = a0 then ((pixel_Add.f a0 a1).bind fun t142 => ((marquetryref11_Add.f a0 a1).bind fun t143 => (if t142 = t143 then ((pixel_Sub.f a0 a1).bind fun t144 => ((marquetryref11_Sub.f a0 a1).bind fun t145 => (if t144 = t145 then ((pixel_Avg.f a0 a1).bind fun t146 => ((marquetryref11_Avg.f a0 a1).bind fun t147 => (if t146 = t147 then ((pixel_Half.f a0 a1).bind fun t148 => ((marquetryref11_Half.f a0 a1).bind fun t149 => (some (t148 == t149)))) else (some false)))) else (some false)))) else (some false)))) else (some false))) else (some false))) else (some false))) else (some false))) else (some false))) else (some false)))
set_option maxHeartbeats 8000000 in
set_option maxRecDepth 100000 in
theorem marquetrylaw11_PixelPairs.calls (a0 : Int) (a1 : Int) (r : Bool) (w : World) (h : marquetrylaw11_PixelPairs.f a0 a1 = some r) (hr : r = true) :
    Calls Try.prog 6 #[.int .u32 a0, .int .u32 a1] w fun e w' => e = .returned (.bool r) ∧ Below w.heap.size w w' := by
  have HB := Aside0.mk (Below.refl w.heap.size w)
  have H : ((pixel_Parts.f a0).bind fun bt132 => ((marquetrylaw11_answers.f).bind fun t136 => (if t136 = true then ((marquetryref11_Part.f a0 0).bind fun t137 => (if (wrap64 (bt132.1)) = t137 then ((marquetryref11_Part.f a0 1).bind fun t138 => (if (wrap64 (bt132.2.1)) = t138 then ((marquetryref11_Part.f a0 2).bind fun t139 => (if (wrap64 (bt132.2.2.1)) = t139 then ((marquetryref11_Part.f a0 3).bind fun t140 => (if (wrap64 (bt132.2.2.2)) = t140 then ((pixel_Make.f bt132.1 bt132.2.1 bt132.2.2.1 bt132.2.2.2).bind fun t141 => (if t141 = a0 then ((pixel_Add.f a0 a1).bind fun t142 => ((marquetryref11_Add.f a0 a1).bind fun t143 => (if t142 = t143 then ((pixel_Sub.f a0 a1).bind fun t144 => ((marquetryref11_Sub.f a0 a1).bind fun t145 => (if t144 = t145 then ((pixel_Avg.f a0 a1).bind fun t146 => ((marquetryref11_Avg.f a0 a1).bind fun t147 => (if t146 = t147 then ((pixel_Half.f a0 a1).bind fun t148 => ((marquetryref11_Half.f a0 a1).bind fun t149 => (some (t148 == t149)))) else (some false)))) else (some false)))) else (some false)))) else (some false))) else (some false))) else (some false))) else (some false))) else (some false))) else (some false)))) = some r := h
  clear h
  have Hr := Aside0.mk hr
  clear hr
  replace H := Option.bind_eq_some_iff.mp H
  obtain ⟨⟨t132, t133, t134, t135⟩, A30, H⟩ := H
  replace H : ((marquetrylaw11_answers.f).bind fun t136 => (if t136 = true then ((marquetryref11_Part.f a0 0).bind fun t137 => (if (wrap64 (t132)) = t137 then ((marquetryref11_Part.f a0 1).bind fun t138 => (if (wrap64 (t133)) = t138 then ((marquetryref11_Part.f a0 2).bind fun t139 => (if (wrap64 (t134)) = t139 then ((marquetryref11_Part.f a0 3).bind fun t140 => (if (wrap64 (t135)) = t140 then ((pixel_Make.f t132 t133 t134 t135).bind fun t141 => (if t141 = a0 then ((pixel_Add.f a0 a1).bind fun t142 => ((marquetryref11_Add.f a0 a1).bind fun t143 => (if t142 = t143 then ((pixel_Sub.f a0 a1).bind fun t144 => ((marquetryref11_Sub.f a0 a1).bind fun t145 => (if t144 = t145 then ((pixel_Avg.f a0 a1).bind fun t146 => ((marquetryref11_Avg.f a0 a1).bind fun t147 => (if t146 = t147 then ((pixel_Half.f a0 a1).bind fun t148 => ((marquetryref11_Half.f a0 a1).bind fun t149 => (some (t148 == t149)))) else (some false)))) else (some false)))) else (some false)))) else (some false))) else (some false))) else (some false))) else (some false))) else (some false))) else (some false))) = some r := H
  have A3 := Aside0.mk A30
  clear A30
  replace H := Option.bind_eq_some_iff.mp H
  obtain ⟨t136, A40, H⟩ := H
  replace H : (if t136 = true then ((marquetryref11_Part.f a0 0).bind fun t137 => (if (wrap64 (t132)) = t137 then ((marquetryref11_Part.f a0 1).bind fun t138 => (if (wrap64 (t133)) = t138 then ((marquetryref11_Part.f a0 2).bind fun t139 => (if (wrap64 (t134)) = t139 then ((marquetryref11_Part.f a0 3).bind fun t140 => (if (wrap64 (t135)) = t140 then ((pixel_Make.f t132 t133 t134 t135).bind fun t141 => (if t141 = a0 then ((pixel_Add.f a0 a1).bind fun t142 => ((marquetryref11_Add.f a0 a1).bind fun t143 => (if t142 = t143 then ((pixel_Sub.f a0 a1).bind fun t144 => ((marquetryref11_Sub.f a0 a1).bind fun t145 => (if t144 = t145 then ((pixel_Avg.f a0 a1).bind fun t146 => ((marquetryref11_Avg.f a0 a1).bind fun t147 => (if t146 = t147 then ((pixel_Half.f a0 a1).bind fun t148 => ((marquetryref11_Half.f a0 a1).bind fun t149 => (some (t148 == t149)))) else (some false)))) else (some false)))) else (some false)))) else (some false))) else (some false))) else (some false))) else (some false))) else (some false))) else (some false)) = some r := H
  have A4 := Aside0.mk A40
  clear A40
  by_cases c5 : t136 = true
  · subst c5
    have H1 : ((marquetryref11_Part.f a0 0).bind fun t137 => (if (wrap64 (t132)) = t137 then ((marquetryref11_Part.f a0 1).bind fun t138 => (if (wrap64 (t133)) = t138 then ((marquetryref11_Part.f a0 2).bind fun t139 => (if (wrap64 (t134)) = t139 then ((marquetryref11_Part.f a0 3).bind fun t140 => (if (wrap64 (t135)) = t140 then ((pixel_Make.f t132 t133 t134 t135).bind fun t141 => (if t141 = a0 then ((pixel_Add.f a0 a1).bind fun t142 => ((marquetryref11_Add.f a0 a1).bind fun t143 => (if t142 = t143 then ((pixel_Sub.f a0 a1).bind fun t144 => ((marquetryref11_Sub.f a0 a1).bind fun t145 => (if t144 = t145 then ((pixel_Avg.f a0 a1).bind fun t146 => ((marquetryref11_Avg.f a0 a1).bind fun t147 => (if t146 = t147 then ((pixel_Half.f a0 a1).bind fun t148 => ((marquetryref11_Half.f a0 a1).bind fun t149 => (some (t148 == t149)))) else (some false)))) else (some false)))) else (some false)))) else (some false))) else (some false))) else (some false))) else (some false))) else (some false))) = some r := by rw [if_pos rfl] at H; exact H
    clear H
    have H := H1
    clear H1
    replace H := Option.bind_eq_some_iff.mp H
    obtain ⟨t137, A60, H⟩ := H
    replace H : (if (wrap64 (t132)) = t137 then ((marquetryref11_Part.f a0 1).bind fun t138 => (if (wrap64 (t133)) = t138 then ((marquetryref11_Part.f a0 2).bind fun t139 => (if (wrap64 (t134)) = t139 then ((marquetryref11_Part.f a0 3).bind fun t140 => (if (wrap64 (t135)) = t140 then ((pixel_Make.f t132 t133 t134 t135).bind fun t141 => (if t141 = a0 then ((pixel_Add.f a0 a1).bind fun t142 => ((marquetryref11_Add.f a0 a1).bind fun t143 => (if t142 = t143 then ((pixel_Sub.f a0 a1).bind fun t144 => ((marquetryref11_Sub.f a0 a1).bind fun t145 => (if t144 = t145 then ((pixel_Avg.f a0 a1).bind fun t146 => ((marquetryref11_Avg.f a0 a1).bind fun t147 => (if t146 = t147 then ((pixel_Half.f a0 a1).bind fun t148 => ((marquetryref11_Half.f a0 a1).bind fun t149 => (some (t148 == t149)))) else (some false)))) else (some false)))) else (some false)))) else (some false))) else (some false))) else (some false))) else (some false))) else (some false)) = some r := H
    have A6 := Aside0.mk A60
    clear A60
    by_cases c7 : (wrap64 (t132)) = t137
    · rw [if_pos c7] at H
      have c7b0 : ((wrap64 (t132)) == t137) = true := beq_iff_eq.mpr c7
      have c7b1 : ((wrap64 (t132)) != t137) = false := bne_eq_false_iff_eq.mpr c7
      clear c7
      replace H := Option.bind_eq_some_iff.mp H
      obtain ⟨t138, A80, H⟩ := H
      replace H : (if (wrap64 (t133)) = t138 then ((marquetryref11_Part.f a0 2).bind fun t139 => (if (wrap64 (t134)) = t139 then ((marquetryref11_Part.f a0 3).bind fun t140 => (if (wrap64 (t135)) = t140 then ((pixel_Make.f t132 t133 t134 t135).bind fun t141 => (if t141 = a0 then ((pixel_Add.f a0 a1).bind fun t142 => ((marquetryref11_Add.f a0 a1).bind fun t143 => (if t142 = t143 then ((pixel_Sub.f a0 a1).bind fun t144 => ((marquetryref11_Sub.f a0 a1).bind fun t145 => (if t144 = t145 then ((pixel_Avg.f a0 a1).bind fun t146 => ((marquetryref11_Avg.f a0 a1).bind fun t147 => (if t146 = t147 then ((pixel_Half.f a0 a1).bind fun t148 => ((marquetryref11_Half.f a0 a1).bind fun t149 => (some (t148 == t149)))) else (some false)))) else (some false)))) else (some false)))) else (some false))) else (some false))) else (some false))) else (some false)) = some r := H
      have A8 := Aside0.mk A80
      clear A80
      by_cases c9 : (wrap64 (t133)) = t138
      · rw [if_pos c9] at H
        have c9b0 : ((wrap64 (t133)) == t138) = true := beq_iff_eq.mpr c9
        have c9b1 : ((wrap64 (t133)) != t138) = false := bne_eq_false_iff_eq.mpr c9
        clear c9
        replace H := Option.bind_eq_some_iff.mp H
        obtain ⟨t139, A100, H⟩ := H
        replace H : (if (wrap64 (t134)) = t139 then ((marquetryref11_Part.f a0 3).bind fun t140 => (if (wrap64 (t135)) = t140 then ((pixel_Make.f t132 t133 t134 t135).bind fun t141 => (if t141 = a0 then ((pixel_Add.f a0 a1).bind fun t142 => ((marquetryref11_Add.f a0 a1).bind fun t143 => (if t142 = t143 then ((pixel_Sub.f a0 a1).bind fun t144 => ((marquetryref11_Sub.f a0 a1).bind fun t145 => (if t144 = t145 then ((pixel_Avg.f a0 a1).bind fun t146 => ((marquetryref11_Avg.f a0 a1).bind fun t147 => (if t146 = t147 then ((pixel_Half.f a0 a1).bind fun t148 => ((marquetryref11_Half.f a0 a1).bind fun t149 => (some (t148 == t149)))) else (some false)))) else (some false)))) else (some false)))) else (some false))) else (some false))) else (some false)) = some r := H
        have A10 := Aside0.mk A100
        clear A100
        by_cases c11 : (wrap64 (t134)) = t139
        · rw [if_pos c11] at H
          have c11b0 : ((wrap64 (t134)) == t139) = true := beq_iff_eq.mpr c11
          have c11b1 : ((wrap64 (t134)) != t139) = false := bne_eq_false_iff_eq.mpr c11
          clear c11
          replace H := Option.bind_eq_some_iff.mp H
          obtain ⟨t140, A120, H⟩ := H
          replace H : (if (wrap64 (t135)) = t140 then ((pixel_Make.f t132 t133 t134 t135).bind fun t141 => (if t141 = a0 then ((pixel_Add.f a0 a1).bind fun t142 => ((marquetryref11_Add.f a0 a1).bind fun t143 => (if t142 = t143 then ((pixel_Sub.f a0 a1).bind fun t144 => ((marquetryref11_Sub.f a0 a1).bind fun t145 => (if t144 = t145 then ((pixel_Avg.f a0 a1).bind fun t146 => ((marquetryref11_Avg.f a0 a1).bind fun t147 => (if t146 = t147 then ((pixel_Half.f a0 a1).bind fun t148 => ((marquetryref11_Half.f a0 a1).bind fun t149 => (some (t148 == t149)))) else (some false)))) else (some false)))) else (some false)))) else (some false))) else (some false)) = some r := H
          have A12 := Aside0.mk A120
          clear A120
          by_cases c13 : (wrap64 (t135)) = t140
          · rw [if_pos c13] at H
            have c13b0 : ((wrap64 (t135)) == t140) = true := beq_iff_eq.mpr c13
            have c13b1 : ((wrap64 (t135)) != t140) = false := bne_eq_false_iff_eq.mpr c13
            clear c13
            replace H := Option.bind_eq_some_iff.mp H
            obtain ⟨t141, A140, H⟩ := H
            replace H : (if t141 = a0 then ((pixel_Add.f a0 a1).bind fun t142 => ((marquetryref11_Add.f a0 a1).bind fun t143 => (if t142 = t143 then ((pixel_Sub.f a0 a1).bind fun t144 => ((marquetryref11_Sub.f a0 a1).bind fun t145 => (if t144 = t145 then ((pixel_Avg.f a0 a1).bind fun t146 => ((marquetryref11_Avg.f a0 a1).bind fun t147 => (if t146 = t147 then ((pixel_Half.f a0 a1).bind fun t148 => ((marquetryref11_Half.f a0 a1).bind fun t149 => (some (t148 == t149)))) else (some false)))) else (some false)))) else (some false)))) else (some false)) = some r := H
            have A14 := Aside0.mk A140
            clear A140
            by_cases c15 : t141 = a0
            · rw [if_pos c15] at H
              have c15b0 : (t141 == a0) = true := beq_iff_eq.mpr c15
              have c15b1 : (t141 != a0) = false := bne_eq_false_iff_eq.mpr c15
              clear c15
              replace H := Option.bind_eq_some_iff.mp H
              obtain ⟨t142, A160, H⟩ := H
              replace H : ((marquetryref11_Add.f a0 a1).bind fun t143 => (if t142 = t143 then ((pixel_Sub.f a0 a1).bind fun t144 => ((marquetryref11_Sub.f a0 a1).bind fun t145 => (if t144 = t145 then ((pixel_Avg.f a0 a1).bind fun t146 => ((marquetryref11_Avg.f a0 a1).bind fun t147 => (if t146 = t147 then ((pixel_Half.f a0 a1).bind fun t148 => ((marquetryref11_Half.f a0 a1).bind fun t149 => (some (t148 == t149)))) else (some false)))) else (some false)))) else (some false))) = some r := H
              have A16 := Aside0.mk A160
              clear A160
              replace H := Option.bind_eq_some_iff.mp H
              obtain ⟨t143, A170, H⟩ := H
              replace H : (if t142 = t143 then ((pixel_Sub.f a0 a1).bind fun t144 => ((marquetryref11_Sub.f a0 a1).bind fun t145 => (if t144 = t145 then ((pixel_Avg.f a0 a1).bind fun t146 => ((marquetryref11_Avg.f a0 a1).bind fun t147 => (if t146 = t147 then ((pixel_Half.f a0 a1).bind fun t148 => ((marquetryref11_Half.f a0 a1).bind fun t149 => (some (t148 == t149)))) else (some false)))) else (some false)))) else (some false)) = some r := H
              have A17 := Aside0.mk A170
              clear A170
              by_cases c18 : t142 = t143
              · rw [if_pos c18] at H
                have c18b0 : (t142 == t143) = true := beq_iff_eq.mpr c18
                have c18b1 : (t142 != t143) = false := bne_eq_false_iff_eq.mpr c18
                clear c18
                replace H := Option.bind_eq_some_iff.mp H
                obtain ⟨t144, A190, H⟩ := H
                replace H : ((marquetryref11_Sub.f a0 a1).bind fun t145 => (if t144 = t145 then ((pixel_Avg.f a0 a1).bind fun t146 => ((marquetryref11_Avg.f a0 a1).bind fun t147 => (if t146 = t147 then ((pixel_Half.f a0 a1).bind fun t148 => ((marquetryref11_Half.f a0 a1).bind fun t149 => (some (t148 == t149)))) else (some false)))) else (some false))) = some r := H
                have A19 := Aside0.mk A190
                clear A190
                replace H := Option.bind_eq_some_iff.mp H
                obtain ⟨t145, A200, H⟩ := H
                replace H : (if t144 = t145 then ((pixel_Avg.f a0 a1).bind fun t146 => ((marquetryref11_Avg.f a0 a1).bind fun t147 => (if t146 = t147 then ((pixel_Half.f a0 a1).bind fun t148 => ((marquetryref11_Half.f a0 a1).bind fun t149 => (some (t148 == t149)))) else (some false)))) else (some false)) = some r := H
                have A20 := Aside0.mk A200
                clear A200
                by_cases c21 : t144 = t145
                · rw [if_pos c21] at H
                  have c21b0 : (t144 == t145) = true := beq_iff_eq.mpr c21
                  have c21b1 : (t144 != t145) = false := bne_eq_false_iff_eq.mpr c21
                  clear c21
                  replace H := Option.bind_eq_some_iff.mp H
                  obtain ⟨t146, A220, H⟩ := H
                  replace H : ((marquetryref11_Avg.f a0 a1).bind fun t147 => (if t146 = t147 then ((pixel_Half.f a0 a1).bind fun t148 => ((marquetryref11_Half.f a0 a1).bind fun t149 => (some (t148 == t149)))) else (some false))) = some r := H
                  have A22 := Aside0.mk A220
                  clear A220
                  replace H := Option.bind_eq_some_iff.mp H
                  obtain ⟨t147, A230, H⟩ := H
                  replace H : (if t146 = t147 then ((pixel_Half.f a0 a1).bind fun t148 => ((marquetryref11_Half.f a0 a1).bind fun t149 => (some (t148 == t149)))) else (some false)) = some r := H
                  have A23 := Aside0.mk A230
                  clear A230
                  by_cases c24 : t146 = t147
                  · rw [if_pos c24] at H
                    have c24b0 : (t146 == t147) = true := beq_iff_eq.mpr c24
                    have c24b1 : (t146 != t147) = false := bne_eq_false_iff_eq.mpr c24
                    clear c24
                    replace H := Option.bind_eq_some_iff.mp H
                    obtain ⟨t148, A250, H⟩ := H
                    replace H : ((marquetryref11_Half.f a0 a1).bind fun t149 => (some (t148 == t149))) = some r := H
                    have A25 := Aside0.mk A250
                    clear A250
                    replace H := Option.bind_eq_some_iff.mp H
                    obtain ⟨t149, A260, H⟩ := H
                    replace H : (some (t148 == t149)) = some r := H
                    have A26 := Aside0.mk A260
                    clear A260
                    obtain rfl := Option.some.inj H
                    go_enter Try.func6, Try.ntmps6
                    go_wp2_with (first | ((with_reducible refine gate_callee (f := 17) rfl ?_); refine goesL_ (some 11) rfl rfl Try.func17 (by kernel_rfl) rfl #[.int .u32 a0] rfl (by (try simp only [List.map_toArray, List.map_cons, List.map_nil]); first | done | rfl | (simp only [List.length_drop, List.length_take]; rfl)) ?_; (with_reducible refine (pixel_Parts.calls a0 t132 t133 t134 t135 _ A3.out).mono ?_); clear A3; rintro e w' ⟨rfl, ⟨nd, rfl⟩⟩; refine ⟨_, rfl, ?_⟩) | (go_at_call 17; (with_reducible refine (pixel_Parts.calls a0 t132 t133 t134 t135 _ A3.out).mono ?_); clear A3; rintro e w' ⟨rfl, ⟨nd, rfl⟩⟩) | ((with_reducible refine gate_callee (f := 10) rfl ?_); refine goesL_ (some 16) rfl rfl Try.func10 (by kernel_rfl) rfl #[] rfl (by (try simp only [List.map_toArray, List.map_cons, List.map_nil]); first | done | rfl | (simp only [List.length_drop, List.length_take]; rfl)) ?_; (with_reducible refine (marquetrylaw11_answers.calls  true _ A4.out).mono ?_); clear A4; rintro e w27 ⟨rfl, hb⟩; refine ⟨_, rfl, ?_⟩; have n0_ := Aside0.mk (below_step (by repeat (first | (with_reducible first | exact HB.out | apply below_alloc | apply pw_below_drewN | apply below_drew1) | exact HB.out)) hb); clear HB; have HB := n0_; clear n0_; (try clear hb); (try clear hb2); (try clear hk); (try clear hi)) | (go_at_call 10; (with_reducible refine (marquetrylaw11_answers.calls  true _ A4.out).mono ?_); clear A4; rintro e w27 ⟨rfl, hb⟩; have n0_ := Aside0.mk (below_step (by repeat (first | (with_reducible first | exact HB.out | apply below_alloc | apply pw_below_drewN | apply below_drew1) | exact HB.out)) hb); clear HB; have HB := n0_; clear n0_; (try clear hb); (try clear hb2); (try clear hk); (try clear hi)) | (go_at_call 9; (with_reducible refine (marquetryref11_Part.calls a0 0 t137 _ A6.out).mono ?_); clear A6; rintro e w' ⟨rfl, ⟨nd, rfl⟩⟩) | (go_at_call 9; (with_reducible refine (marquetryref11_Part.calls a0 1 t138 _ A8.out).mono ?_); clear A8; rintro e w' ⟨rfl, ⟨nd, rfl⟩⟩) | (go_at_call 9; (with_reducible refine (marquetryref11_Part.calls a0 2 t139 _ A10.out).mono ?_); clear A10; rintro e w' ⟨rfl, ⟨nd, rfl⟩⟩) | (go_at_call 9; (with_reducible refine (marquetryref11_Part.calls a0 3 t140 _ A12.out).mono ?_); clear A12; rintro e w' ⟨rfl, ⟨nd, rfl⟩⟩) | (go_at_call 18; (with_reducible refine (pixel_Make.calls t132 t133 t134 t135 t141 _ A14.out).mono ?_); clear A14; rintro e w' ⟨rfl, ⟨nd, rfl⟩⟩) | (go_at_call 12; (with_reducible refine (pixel_Add.calls a0 a1 t142 _ A16.out).mono ?_); clear A16; rintro e w28 ⟨rfl, hb⟩; have n0_ := Aside0.mk (below_step (by repeat (first | (with_reducible first | exact HB.out | apply below_alloc | apply pw_below_drewN | apply below_drew1) | exact HB.out)) hb); clear HB; have HB := n0_; clear n0_; (try clear hb); (try clear hb2); (try clear hk); (try clear hi)) | (go_at_call 19; (with_reducible refine (marquetryref11_Add.calls a0 a1 t143 _ A17.out).mono ?_); clear A17; rintro e w29 ⟨rfl, hb⟩; have n0_ := Aside0.mk (below_step (by repeat (first | (with_reducible first | exact HB.out | apply below_alloc | apply pw_below_drewN | apply below_drew1) | exact HB.out)) hb); clear HB; have HB := n0_; clear n0_; (try clear hb); (try clear hb2); (try clear hk); (try clear hi)) | (go_at_call 11; (with_reducible refine (pixel_Sub.calls a0 a1 t144 _ A19.out).mono ?_); clear A19; rintro e w30 ⟨rfl, hb⟩; have n0_ := Aside0.mk (below_step (by repeat (first | (with_reducible first | exact HB.out | apply below_alloc | apply pw_below_drewN | apply below_drew1) | exact HB.out)) hb); clear HB; have HB := n0_; clear n0_; (try clear hb); (try clear hb2); (try clear hk); (try clear hi)) | (go_at_call 20; (with_reducible refine (marquetryref11_Sub.calls a0 a1 t145 _ A20.out).mono ?_); clear A20; rintro e w31 ⟨rfl, hb⟩; have n0_ := Aside0.mk (below_step (by repeat (first | (with_reducible first | exact HB.out | apply below_alloc | apply pw_below_drewN | apply below_drew1) | exact HB.out)) hb); clear HB; have HB := n0_; clear n0_; (try clear hb); (try clear hb2); (try clear hk); (try clear hi)) | (go_at_call 8; (with_reducible refine (pixel_Avg.calls a0 a1 t146 _ A22.out).mono ?_); clear A22; rintro e w32 ⟨rfl, hb⟩; have n0_ := Aside0.mk (below_step (by repeat (first | (with_reducible first | exact HB.out | apply below_alloc | apply pw_below_drewN | apply below_drew1) | exact HB.out)) hb); clear HB; have HB := n0_; clear n0_; (try clear hb); (try clear hb2); (try clear hk); (try clear hi)) | (go_at_call 21; (with_reducible refine (marquetryref11_Avg.calls a0 a1 t147 _ A23.out).mono ?_); clear A23; rintro e w33 ⟨rfl, hb⟩; have n0_ := Aside0.mk (below_step (by repeat (first | (with_reducible first | exact HB.out | apply below_alloc | apply pw_below_drewN | apply below_drew1) | exact HB.out)) hb); clear HB; have HB := n0_; clear n0_; (try clear hb); (try clear hb2); (try clear hk); (try clear hi)) | (go_at_call 16; (with_reducible refine (pixel_Half.calls a0 a1 t148 _ A25.out).mono ?_); clear A25; rintro e w34 ⟨rfl, hb⟩; have n0_ := Aside0.mk (below_step (by repeat (first | (with_reducible first | exact HB.out | apply below_alloc | apply pw_below_drewN | apply below_drew1) | exact HB.out)) hb); clear HB; have HB := n0_; clear n0_; (try clear hb); (try clear hb2); (try clear hk); (try clear hi)) | (go_at_call 22; (with_reducible refine (marquetryref11_Half.calls a0 a1 t149 _ A26.out).mono ?_); clear A26; rintro e w35 ⟨rfl, hb⟩; have n0_ := Aside0.mk (below_step (by repeat (first | (with_reducible first | exact HB.out | apply below_alloc | apply pw_below_drewN | apply below_drew1) | exact HB.out)) hb); clear HB; have HB := n0_; clear n0_; (try clear hb); (try clear hb2); (try clear hk); (try clear hi)))
                    go_ret
                    exact ⟨by first | rfl | (simp [errW_none, errW_some] <;> rfl) | (simp [*, errW_none, errW_some] <;> rfl), by repeat (first | (with_reducible first | exact HB.out | apply below_alloc | apply pw_below_drewN | apply below_drew1) | exact HB.out)⟩
                  · rw [if_neg c24] at H
                    have c24b0 : (t146 == t147) = false := beq_eq_false_iff_ne.mpr c24
                    have c24b1 : (t146 != t147) = true := bne_iff_ne.mpr c24
                    exact absurd ((Option.some.inj H).trans Hr.out) (by decide)
                · rw [if_neg c21] at H
                  have c21b0 : (t144 == t145) = false := beq_eq_false_iff_ne.mpr c21
                  have c21b1 : (t144 != t145) = true := bne_iff_ne.mpr c21
                  exact absurd ((Option.some.inj H).trans Hr.out) (by decide)
              · rw [if_neg c18] at H
                have c18b0 : (t142 == t143) = false := beq_eq_false_iff_ne.mpr c18
                have c18b1 : (t142 != t143) = true := bne_iff_ne.mpr c18
                exact absurd ((Option.some.inj H).trans Hr.out) (by decide)
            · rw [if_neg c15] at H
              have c15b0 : (t141 == a0) = false := beq_eq_false_iff_ne.mpr c15
              have c15b1 : (t141 != a0) = true := bne_iff_ne.mpr c15
              exact absurd ((Option.some.inj H).trans Hr.out) (by decide)
          · rw [if_neg c13] at H
            have c13b0 : ((wrap64 (t135)) == t140) = false := beq_eq_false_iff_ne.mpr c13
            have c13b1 : ((wrap64 (t135)) != t140) = true := bne_iff_ne.mpr c13
            exact absurd ((Option.some.inj H).trans Hr.out) (by decide)
        · rw [if_neg c11] at H
          have c11b0 : ((wrap64 (t134)) == t139) = false := beq_eq_false_iff_ne.mpr c11
          have c11b1 : ((wrap64 (t134)) != t139) = true := bne_iff_ne.mpr c11
          exact absurd ((Option.some.inj H).trans Hr.out) (by decide)
      · rw [if_neg c9] at H
        have c9b0 : ((wrap64 (t133)) == t138) = false := beq_eq_false_iff_ne.mpr c9
        have c9b1 : ((wrap64 (t133)) != t138) = true := bne_iff_ne.mpr c9
        exact absurd ((Option.some.inj H).trans Hr.out) (by decide)
    · rw [if_neg c7] at H
      have c7b0 : ((wrap64 (t132)) == t137) = false := beq_eq_false_iff_ne.mpr c7
      have c7b1 : ((wrap64 (t132)) != t137) = true := bne_iff_ne.mpr c7
      exact absurd ((Option.some.inj H).trans Hr.out) (by decide)
  · replace c5 := Bool.eq_false_iff.mpr c5
    subst c5
    have H1 : (some false) = some r := by rw [if_neg (show ¬ (false = true) by decide)] at H; exact H
    clear H
    have H := H1
    clear H1
    exact absurd ((Option.some.inj H).trans Hr.out) (by decide)

/-- THE ONE PURE STATEMENT of marquetrylaw11_PixelPairs: yours. -/
def marquetrylaw11_PixelPairs.Pure : Prop := ∀ (a0 : Int) (a1 : Int), (Lit.int .u32 a0).wf = true → (Lit.int .u32 a1).wf = true → marquetrylaw11_PixelPairs.f a0 a1 = some true
theorem marquetrylaw11_PixelPairs.walk (P : marquetrylaw11_PixelPairs.Pure) (a0 : Int) (a1 : Int) (w : World) (w0 : (Lit.int .u32 a0).wf = true) (w1 : (Lit.int .u32 a1).wf = true) :
    Calls Try.prog 6 #[.int .u32 a0, .int .u32 a1] w fun e w' => e = .returned (.bool true) ∧ Below w.heap.size w w' := by
  have h := P a0 a1 w0 w1
  refine (marquetrylaw11_PixelPairs.calls a0 a1 true w h rfl).mono ?_
  rintro e w' ⟨rfl, hd⟩
  exact ⟨rfl, hd⟩

/-! ### pixel_gap: function 36 -/
def pixel_gap.f (a0 : Int) (a1 : Int) : Option (Int) := some (mx (wrap64 (a0 - a1)) (wrap64 (a1 - a0)))
set_option maxHeartbeats 8000000 in
set_option maxRecDepth 100000 in
theorem pixel_gap.calls (a0 : Int) (a1 : Int) (r : Int) (w : World) (h : pixel_gap.f a0 a1 = some r) :
    Calls Try.prog 36 #[.int .i64 a0, .int .i64 a1] w fun e w' => e = .returned (.int .i64 r) ∧ Below w.heap.size w w' := by
  have HB := Aside0.mk (Below.refl w.heap.size w)
  have H : (some (mx (wrap64 (a0 - a1)) (wrap64 (a1 - a0)))) = some r := h
  clear h
  obtain ⟨ji3, hji3⟩ : ∃ j_ : Int, (mx (wrap64 (a0 - a1)) (wrap64 (a1 - a0))) = j_ := ⟨_, rfl⟩
  replace H : (some ji3) = some r := by first | (rw [hji3] at H; exact H) | (simp only [hji3] at H ⊢; exact H)
  have hji3_ : (if (wrap64 (a0 - a1)) < (wrap64 (a1 - a0)) then (wrap64 (a1 - a0)) else (wrap64 (a0 - a1))) = ji3 := hji3
  obtain rfl := Option.some.inj H
  go_enter Try.func36, Try.ntmps36
  go_wp2
  go_ret
  exact ⟨by first | rfl | (simp [errW_none, errW_some] <;> rfl) | (simp only [← hji3]; first | rfl | (simp [errW_none, errW_some] <;> rfl)) | (simp [*, errW_none, errW_some] <;> rfl), by repeat (first | (with_reducible first | exact HB.out | apply below_alloc | apply pw_below_drewN | apply below_drew1) | exact HB.out)⟩

/-! ### marquetryref11_Pick: function 24 -/
def marquetryref11_Pick.l0 : Nat → Int → Int → Int → Int → Int → Int → Option (Int)
  | 0, _, _, _, _, _, _ => none
  | k + 1, x0, x1, x2, x7, x8, x9 => if x9 < 4 then ((marquetryref11_Part.f x1 x9).bind fun t150 => ((marquetryref11_Part.f x2 x9).bind fun t151 => ((marquetryref11_Part.f x0 x9).bind fun t152 => ((marquetryref11_Part.f x2 x9).bind fun t153 => (if (wrap64 (t150 - t151)) < 0 then (if (wrap64 (t152 - t153)) < 0 then (marquetryref11_Pick.l0 k x0 x1 x2 (wrap64 (x7 + (wrap64 (-(wrap64 (t150 - t151)))))) (wrap64 (x8 + (wrap64 (-(wrap64 (t152 - t153)))))) (wrap64 (x9 + 1))) else (marquetryref11_Pick.l0 k x0 x1 x2 (wrap64 (x7 + (wrap64 (-(wrap64 (t150 - t151)))))) (wrap64 (x8 + (wrap64 (t152 - t153)))) (wrap64 (x9 + 1)))) else (if (wrap64 (t152 - t153)) < 0 then (marquetryref11_Pick.l0 k x0 x1 x2 (wrap64 (x7 + (wrap64 (t150 - t151)))) (wrap64 (x8 + (wrap64 (-(wrap64 (t152 - t153)))))) (wrap64 (x9 + 1))) else (marquetryref11_Pick.l0 k x0 x1 x2 (wrap64 (x7 + (wrap64 (t150 - t151)))) (wrap64 (x8 + (wrap64 (t152 - t153)))) (wrap64 (x9 + 1))))))))) else (if x7 < x8 then (some x0) else (some x1))
def marquetryref11_Pick.f (k : Nat) (a0 : Int) (a1 : Int) (a2 : Int) : Option (Int) := marquetryref11_Pick.l0 k a0 a1 a2 0 0 0
theorem marquetryref11_Pick.mono_l : ∀ k, (∀ y0 y1 y2 y3 y4 y5, LeO (marquetryref11_Pick.l0 k y0 y1 y2 y3 y4 y5) (marquetryref11_Pick.l0 (k + 1) y0 y1 y2 y3 y4 y5))
  | 0 => fun _ _ _ _ _ _ r h => by simp [marquetryref11_Pick.l0] at h
  | k + 1 => by
    have ih0 := marquetryref11_Pick.mono_l k
    · intro y0 y1 y2 y3 y4 y5
      unfold marquetryref11_Pick.l0
      repeat' first
      | (with_reducible exact ih0 _ _ _ _ _ _)
      | (with_reducible exact LeO.refl _)
      | (with_reducible exact LeO.none _)
      | (with_reducible refine LeO.ite ?_ ?_)
      | (with_reducible refine LeO.bind ?_ (fun _ => ?_))
      | exact ih0 _ _ _ _ _ _
      | exact LeO.none _
      | refine LeO.ite ?_ ?_
      | refine LeO.bind ?_ (fun _ => ?_)
theorem marquetryref11_Pick.mono : ∀ a0 a1 a2 k, LeO (marquetryref11_Pick.f k a0 a1 a2) (marquetryref11_Pick.f (k + 1) a0 a1 a2) := by
  intro a0 a1 a2 k
  have ih0 := marquetryref11_Pick.mono_l k
  unfold marquetryref11_Pick.f
  repeat' first
      | (with_reducible exact ih0 _ _ _ _ _ _)
      | (with_reducible exact LeO.refl _)
      | (with_reducible exact LeO.none _)
      | (with_reducible refine LeO.ite ?_ ?_)
      | (with_reducible refine LeO.bind ?_ (fun _ => ?_))
      | exact ih0 _ _ _ _ _ _
      | exact LeO.none _
      | refine LeO.ite ?_ ?_
      | refine LeO.bind ?_ (fun _ => ?_)
set_option maxHeartbeats 8000000 in
set_option maxRecDepth 100000 in
theorem marquetryref11_Pick.calls (k : Nat) (a0 : Int) (a1 : Int) (a2 : Int) (r : Int) (w : World) (h : marquetryref11_Pick.f k a0 a1 a2 = some r) :
    Calls Try.prog 24 #[.int .u32 a0, .int .u32 a1, .int .u32 a2] w fun e w' => e = .returned (.int .u32 r) ∧ Drawn0 w w' := by
  have H : (marquetryref11_Pick.l0 k a0 a1 a2 0 0 0) = some r := h
  clear h
  have H' := Aside0.mk H
  clear H
  go_enter Try.func24, Try.ntmps24
  go_wp2
  go_loopg [7, 8, 9] k (fun kq v7 v8 v9 w' => ∃ (x7_1 : Int) (x8_1 : Int) (x9_1 : Int), v7 = .int .i64 x7_1 ∧ v8 = .int .i64 x8_1 ∧ v9 = .int .i64 x9_1 ∧ Aside0 (marquetryref11_Pick.l0 kq a0 a1 a2 x7_1 x8_1 x9_1 = some r) ∧ Aside0 (kq ≤ k) ∧ Drawn0 w w')
  case atStart => exact ⟨(0), (0), (0), (by first | rfl | (simp; done) | (simp [*]; done)), (by first | rfl | (simp; done) | (simp [*]; done)), (by first | rfl | (simp; done) | (simp [*]; done)), H', ⟨Nat.le_refl _⟩, by repeat (first | exact Drawn0.refl _ | apply Drawn0.step)⟩
  case round =>
    clear H'
    try clear c2
    try clear p2
    obtain ⟨x7_1, x8_1, x9_1, rfl, rfl, rfl, HA, HK1, ⟨m1, rfl⟩⟩ := hrel
    cases gk with
    | zero => exact absurd HA.out (by simp [marquetryref11_Pick.l0])
    | succ k1 =>
      have H := HA.out
      clear HA
      simp only [marquetryref11_Pick.l0] at H
      by_cases c4 : x9_1 < 4
      · rw [if_pos c4] at H
        have c4b0 : decide (x9_1 < 4) = true := decide_eq_true c4
        clear c4
        replace H := Option.bind_eq_some_iff.mp H
        obtain ⟨t150, A50, H⟩ := H
        replace H : ((marquetryref11_Part.f a2 x9_1).bind fun t151 => ((marquetryref11_Part.f a0 x9_1).bind fun t152 => ((marquetryref11_Part.f a2 x9_1).bind fun t153 => (if (wrap64 (t150 - t151)) < 0 then (if (wrap64 (t152 - t153)) < 0 then (marquetryref11_Pick.l0 k1 a0 a1 a2 (wrap64 (x7_1 + (wrap64 (-(wrap64 (t150 - t151)))))) (wrap64 (x8_1 + (wrap64 (-(wrap64 (t152 - t153)))))) (wrap64 (x9_1 + 1))) else (marquetryref11_Pick.l0 k1 a0 a1 a2 (wrap64 (x7_1 + (wrap64 (-(wrap64 (t150 - t151)))))) (wrap64 (x8_1 + (wrap64 (t152 - t153)))) (wrap64 (x9_1 + 1)))) else (if (wrap64 (t152 - t153)) < 0 then (marquetryref11_Pick.l0 k1 a0 a1 a2 (wrap64 (x7_1 + (wrap64 (t150 - t151)))) (wrap64 (x8_1 + (wrap64 (-(wrap64 (t152 - t153)))))) (wrap64 (x9_1 + 1))) else (marquetryref11_Pick.l0 k1 a0 a1 a2 (wrap64 (x7_1 + (wrap64 (t150 - t151)))) (wrap64 (x8_1 + (wrap64 (t152 - t153)))) (wrap64 (x9_1 + 1)))))))) = some r := H
        have A5 := Aside0.mk A50
        clear A50
        replace H := Option.bind_eq_some_iff.mp H
        obtain ⟨t151, A60, H⟩ := H
        replace H : ((marquetryref11_Part.f a0 x9_1).bind fun t152 => ((marquetryref11_Part.f a2 x9_1).bind fun t153 => (if (wrap64 (t150 - t151)) < 0 then (if (wrap64 (t152 - t153)) < 0 then (marquetryref11_Pick.l0 k1 a0 a1 a2 (wrap64 (x7_1 + (wrap64 (-(wrap64 (t150 - t151)))))) (wrap64 (x8_1 + (wrap64 (-(wrap64 (t152 - t153)))))) (wrap64 (x9_1 + 1))) else (marquetryref11_Pick.l0 k1 a0 a1 a2 (wrap64 (x7_1 + (wrap64 (-(wrap64 (t150 - t151)))))) (wrap64 (x8_1 + (wrap64 (t152 - t153)))) (wrap64 (x9_1 + 1)))) else (if (wrap64 (t152 - t153)) < 0 then (marquetryref11_Pick.l0 k1 a0 a1 a2 (wrap64 (x7_1 + (wrap64 (t150 - t151)))) (wrap64 (x8_1 + (wrap64 (-(wrap64 (t152 - t153)))))) (wrap64 (x9_1 + 1))) else (marquetryref11_Pick.l0 k1 a0 a1 a2 (wrap64 (x7_1 + (wrap64 (t150 - t151)))) (wrap64 (x8_1 + (wrap64 (t152 - t153)))) (wrap64 (x9_1 + 1))))))) = some r := H
        have A6 := Aside0.mk A60
        clear A60
        replace H := Option.bind_eq_some_iff.mp H
        obtain ⟨t152, A70, H⟩ := H
        replace H : ((marquetryref11_Part.f a2 x9_1).bind fun t153 => (if (wrap64 (t150 - t151)) < 0 then (if (wrap64 (t152 - t153)) < 0 then (marquetryref11_Pick.l0 k1 a0 a1 a2 (wrap64 (x7_1 + (wrap64 (-(wrap64 (t150 - t151)))))) (wrap64 (x8_1 + (wrap64 (-(wrap64 (t152 - t153)))))) (wrap64 (x9_1 + 1))) else (marquetryref11_Pick.l0 k1 a0 a1 a2 (wrap64 (x7_1 + (wrap64 (-(wrap64 (t150 - t151)))))) (wrap64 (x8_1 + (wrap64 (t152 - t153)))) (wrap64 (x9_1 + 1)))) else (if (wrap64 (t152 - t153)) < 0 then (marquetryref11_Pick.l0 k1 a0 a1 a2 (wrap64 (x7_1 + (wrap64 (t150 - t151)))) (wrap64 (x8_1 + (wrap64 (-(wrap64 (t152 - t153)))))) (wrap64 (x9_1 + 1))) else (marquetryref11_Pick.l0 k1 a0 a1 a2 (wrap64 (x7_1 + (wrap64 (t150 - t151)))) (wrap64 (x8_1 + (wrap64 (t152 - t153)))) (wrap64 (x9_1 + 1)))))) = some r := H
        have A7 := Aside0.mk A70
        clear A70
        replace H := Option.bind_eq_some_iff.mp H
        obtain ⟨t153, A80, H⟩ := H
        replace H : (if (wrap64 (t150 - t151)) < 0 then (if (wrap64 (t152 - t153)) < 0 then (marquetryref11_Pick.l0 k1 a0 a1 a2 (wrap64 (x7_1 + (wrap64 (-(wrap64 (t150 - t151)))))) (wrap64 (x8_1 + (wrap64 (-(wrap64 (t152 - t153)))))) (wrap64 (x9_1 + 1))) else (marquetryref11_Pick.l0 k1 a0 a1 a2 (wrap64 (x7_1 + (wrap64 (-(wrap64 (t150 - t151)))))) (wrap64 (x8_1 + (wrap64 (t152 - t153)))) (wrap64 (x9_1 + 1)))) else (if (wrap64 (t152 - t153)) < 0 then (marquetryref11_Pick.l0 k1 a0 a1 a2 (wrap64 (x7_1 + (wrap64 (t150 - t151)))) (wrap64 (x8_1 + (wrap64 (-(wrap64 (t152 - t153)))))) (wrap64 (x9_1 + 1))) else (marquetryref11_Pick.l0 k1 a0 a1 a2 (wrap64 (x7_1 + (wrap64 (t150 - t151)))) (wrap64 (x8_1 + (wrap64 (t152 - t153)))) (wrap64 (x9_1 + 1))))) = some r := H
        have A8 := Aside0.mk A80
        clear A80
        by_cases c9 : (wrap64 (t150 - t151)) < 0
        · rw [if_pos c9] at H
          have c9b0 : decide ((wrap64 (t150 - t151)) < 0) = true := decide_eq_true c9
          clear c9
          by_cases c10 : (wrap64 (t152 - t153)) < 0
          · rw [if_pos c10] at H
            have c10b0 : decide ((wrap64 (t152 - t153)) < 0) = true := decide_eq_true c10
            clear c10
            have H' := Aside0.mk H
            clear H
            go_wp2_with (first | ((with_reducible refine gate_callee (f := 9) rfl ?_); refine goesL_ (some 18) rfl rfl Try.func9 (by kernel_rfl) rfl #[.int .u32 a1, .int .i64 x9_1] rfl (by (try simp only [List.map_toArray, List.map_cons, List.map_nil]); first | done | rfl | (simp only [List.length_drop, List.length_take]; rfl)) ?_; (with_reducible refine (marquetryref11_Part.calls a1 x9_1 t150 _ A5.out).mono ?_); clear A5; rintro e w' ⟨rfl, ⟨nd, rfl⟩⟩; refine ⟨_, rfl, ?_⟩) | (go_at_call 9; (with_reducible refine (marquetryref11_Part.calls a1 x9_1 t150 _ A5.out).mono ?_); clear A5; rintro e w' ⟨rfl, ⟨nd, rfl⟩⟩) | ((with_reducible refine gate_callee (f := 9) rfl ?_); refine goesL_ (some 21) rfl rfl Try.func9 (by kernel_rfl) rfl #[.int .u32 a2, .int .i64 x9_1] rfl (by (try simp only [List.map_toArray, List.map_cons, List.map_nil]); first | done | rfl | (simp only [List.length_drop, List.length_take]; rfl)) ?_; (with_reducible refine (marquetryref11_Part.calls a2 x9_1 t151 _ A6.out).mono ?_); clear A6; rintro e w' ⟨rfl, ⟨nd, rfl⟩⟩; refine ⟨_, rfl, ?_⟩) | (go_at_call 9; (with_reducible refine (marquetryref11_Part.calls a2 x9_1 t151 _ A6.out).mono ?_); clear A6; rintro e w' ⟨rfl, ⟨nd, rfl⟩⟩) | ((with_reducible refine gate_callee (f := 9) rfl ?_); refine goesL_ (some 25) rfl rfl Try.func9 (by kernel_rfl) rfl #[.int .u32 a0, .int .i64 x9_1] rfl (by (try simp only [List.map_toArray, List.map_cons, List.map_nil]); first | done | rfl | (simp only [List.length_drop, List.length_take]; rfl)) ?_; (with_reducible refine (marquetryref11_Part.calls a0 x9_1 t152 _ A7.out).mono ?_); clear A7; rintro e w' ⟨rfl, ⟨nd, rfl⟩⟩; refine ⟨_, rfl, ?_⟩) | (go_at_call 9; (with_reducible refine (marquetryref11_Part.calls a0 x9_1 t152 _ A7.out).mono ?_); clear A7; rintro e w' ⟨rfl, ⟨nd, rfl⟩⟩) | ((with_reducible refine gate_callee (f := 9) rfl ?_); refine goesL_ (some 28) rfl rfl Try.func9 (by kernel_rfl) rfl #[.int .u32 a2, .int .i64 x9_1] rfl (by (try simp only [List.map_toArray, List.map_cons, List.map_nil]); first | done | rfl | (simp only [List.length_drop, List.length_take]; rfl)) ?_; (with_reducible refine (marquetryref11_Part.calls a2 x9_1 t153 _ A8.out).mono ?_); clear A8; rintro e w' ⟨rfl, ⟨nd, rfl⟩⟩; refine ⟨_, rfl, ?_⟩) | (go_at_call 9; (with_reducible refine (marquetryref11_Part.calls a2 x9_1 t153 _ A8.out).mono ?_); clear A8; rintro e w' ⟨rfl, ⟨nd, rfl⟩⟩))
            go_roundg k1
            case measure => have := HK1.out; omega
            case rel => exact ⟨(wrap64 (x7_1 + (wrap64 (-(wrap64 (t150 - t151)))))), (wrap64 (x8_1 + (wrap64 (-(wrap64 (t152 - t153)))))), (wrap64 (x9_1 + 1)), (by first | rfl | (simp; done) | (simp [*]; done)), (by first | rfl | (simp; done) | (simp [*]; done)), (by first | rfl | (simp; done) | (simp [*]; done)), H', ⟨by have := HK1.out; omega⟩, by repeat (first | exact Drawn0.refl _ | apply Drawn0.step)⟩
          · rw [if_neg c10] at H
            have c10b0 : decide ((wrap64 (t152 - t153)) < 0) = false := decide_eq_false c10
            clear c10
            have H' := Aside0.mk H
            clear H
            go_wp2_with (first | ((with_reducible refine gate_callee (f := 9) rfl ?_); refine goesL_ (some 18) rfl rfl Try.func9 (by kernel_rfl) rfl #[.int .u32 a1, .int .i64 x9_1] rfl (by (try simp only [List.map_toArray, List.map_cons, List.map_nil]); first | done | rfl | (simp only [List.length_drop, List.length_take]; rfl)) ?_; (with_reducible refine (marquetryref11_Part.calls a1 x9_1 t150 _ A5.out).mono ?_); clear A5; rintro e w' ⟨rfl, ⟨nd, rfl⟩⟩; refine ⟨_, rfl, ?_⟩) | (go_at_call 9; (with_reducible refine (marquetryref11_Part.calls a1 x9_1 t150 _ A5.out).mono ?_); clear A5; rintro e w' ⟨rfl, ⟨nd, rfl⟩⟩) | ((with_reducible refine gate_callee (f := 9) rfl ?_); refine goesL_ (some 21) rfl rfl Try.func9 (by kernel_rfl) rfl #[.int .u32 a2, .int .i64 x9_1] rfl (by (try simp only [List.map_toArray, List.map_cons, List.map_nil]); first | done | rfl | (simp only [List.length_drop, List.length_take]; rfl)) ?_; (with_reducible refine (marquetryref11_Part.calls a2 x9_1 t151 _ A6.out).mono ?_); clear A6; rintro e w' ⟨rfl, ⟨nd, rfl⟩⟩; refine ⟨_, rfl, ?_⟩) | (go_at_call 9; (with_reducible refine (marquetryref11_Part.calls a2 x9_1 t151 _ A6.out).mono ?_); clear A6; rintro e w' ⟨rfl, ⟨nd, rfl⟩⟩) | ((with_reducible refine gate_callee (f := 9) rfl ?_); refine goesL_ (some 25) rfl rfl Try.func9 (by kernel_rfl) rfl #[.int .u32 a0, .int .i64 x9_1] rfl (by (try simp only [List.map_toArray, List.map_cons, List.map_nil]); first | done | rfl | (simp only [List.length_drop, List.length_take]; rfl)) ?_; (with_reducible refine (marquetryref11_Part.calls a0 x9_1 t152 _ A7.out).mono ?_); clear A7; rintro e w' ⟨rfl, ⟨nd, rfl⟩⟩; refine ⟨_, rfl, ?_⟩) | (go_at_call 9; (with_reducible refine (marquetryref11_Part.calls a0 x9_1 t152 _ A7.out).mono ?_); clear A7; rintro e w' ⟨rfl, ⟨nd, rfl⟩⟩) | ((with_reducible refine gate_callee (f := 9) rfl ?_); refine goesL_ (some 28) rfl rfl Try.func9 (by kernel_rfl) rfl #[.int .u32 a2, .int .i64 x9_1] rfl (by (try simp only [List.map_toArray, List.map_cons, List.map_nil]); first | done | rfl | (simp only [List.length_drop, List.length_take]; rfl)) ?_; (with_reducible refine (marquetryref11_Part.calls a2 x9_1 t153 _ A8.out).mono ?_); clear A8; rintro e w' ⟨rfl, ⟨nd, rfl⟩⟩; refine ⟨_, rfl, ?_⟩) | (go_at_call 9; (with_reducible refine (marquetryref11_Part.calls a2 x9_1 t153 _ A8.out).mono ?_); clear A8; rintro e w' ⟨rfl, ⟨nd, rfl⟩⟩))
            go_roundg k1
            case measure => have := HK1.out; omega
            case rel => exact ⟨(wrap64 (x7_1 + (wrap64 (-(wrap64 (t150 - t151)))))), (wrap64 (x8_1 + (wrap64 (t152 - t153)))), (wrap64 (x9_1 + 1)), (by first | rfl | (simp; done) | (simp [*]; done)), (by first | rfl | (simp; done) | (simp [*]; done)), (by first | rfl | (simp; done) | (simp [*]; done)), H', ⟨by have := HK1.out; omega⟩, by repeat (first | exact Drawn0.refl _ | apply Drawn0.step)⟩
        · rw [if_neg c9] at H
          have c9b0 : decide ((wrap64 (t150 - t151)) < 0) = false := decide_eq_false c9
          clear c9
          by_cases c11 : (wrap64 (t152 - t153)) < 0
          · rw [if_pos c11] at H
            have c11b0 : decide ((wrap64 (t152 - t153)) < 0) = true := decide_eq_true c11
            clear c11
            have H' := Aside0.mk H
            clear H
            go_wp2_with (first | ((with_reducible refine gate_callee (f := 9) rfl ?_); refine goesL_ (some 18) rfl rfl Try.func9 (by kernel_rfl) rfl #[.int .u32 a1, .int .i64 x9_1] rfl (by (try simp only [List.map_toArray, List.map_cons, List.map_nil]); first | done | rfl | (simp only [List.length_drop, List.length_take]; rfl)) ?_; (with_reducible refine (marquetryref11_Part.calls a1 x9_1 t150 _ A5.out).mono ?_); clear A5; rintro e w' ⟨rfl, ⟨nd, rfl⟩⟩; refine ⟨_, rfl, ?_⟩) | (go_at_call 9; (with_reducible refine (marquetryref11_Part.calls a1 x9_1 t150 _ A5.out).mono ?_); clear A5; rintro e w' ⟨rfl, ⟨nd, rfl⟩⟩) | ((with_reducible refine gate_callee (f := 9) rfl ?_); refine goesL_ (some 21) rfl rfl Try.func9 (by kernel_rfl) rfl #[.int .u32 a2, .int .i64 x9_1] rfl (by (try simp only [List.map_toArray, List.map_cons, List.map_nil]); first | done | rfl | (simp only [List.length_drop, List.length_take]; rfl)) ?_; (with_reducible refine (marquetryref11_Part.calls a2 x9_1 t151 _ A6.out).mono ?_); clear A6; rintro e w' ⟨rfl, ⟨nd, rfl⟩⟩; refine ⟨_, rfl, ?_⟩) | (go_at_call 9; (with_reducible refine (marquetryref11_Part.calls a2 x9_1 t151 _ A6.out).mono ?_); clear A6; rintro e w' ⟨rfl, ⟨nd, rfl⟩⟩) | ((with_reducible refine gate_callee (f := 9) rfl ?_); refine goesL_ (some 25) rfl rfl Try.func9 (by kernel_rfl) rfl #[.int .u32 a0, .int .i64 x9_1] rfl (by (try simp only [List.map_toArray, List.map_cons, List.map_nil]); first | done | rfl | (simp only [List.length_drop, List.length_take]; rfl)) ?_; (with_reducible refine (marquetryref11_Part.calls a0 x9_1 t152 _ A7.out).mono ?_); clear A7; rintro e w' ⟨rfl, ⟨nd, rfl⟩⟩; refine ⟨_, rfl, ?_⟩) | (go_at_call 9; (with_reducible refine (marquetryref11_Part.calls a0 x9_1 t152 _ A7.out).mono ?_); clear A7; rintro e w' ⟨rfl, ⟨nd, rfl⟩⟩) | ((with_reducible refine gate_callee (f := 9) rfl ?_); refine goesL_ (some 28) rfl rfl Try.func9 (by kernel_rfl) rfl #[.int .u32 a2, .int .i64 x9_1] rfl (by (try simp only [List.map_toArray, List.map_cons, List.map_nil]); first | done | rfl | (simp only [List.length_drop, List.length_take]; rfl)) ?_; (with_reducible refine (marquetryref11_Part.calls a2 x9_1 t153 _ A8.out).mono ?_); clear A8; rintro e w' ⟨rfl, ⟨nd, rfl⟩⟩; refine ⟨_, rfl, ?_⟩) | (go_at_call 9; (with_reducible refine (marquetryref11_Part.calls a2 x9_1 t153 _ A8.out).mono ?_); clear A8; rintro e w' ⟨rfl, ⟨nd, rfl⟩⟩))
            go_roundg k1
            case measure => have := HK1.out; omega
            case rel => exact ⟨(wrap64 (x7_1 + (wrap64 (t150 - t151)))), (wrap64 (x8_1 + (wrap64 (-(wrap64 (t152 - t153)))))), (wrap64 (x9_1 + 1)), (by first | rfl | (simp; done) | (simp [*]; done)), (by first | rfl | (simp; done) | (simp [*]; done)), (by first | rfl | (simp; done) | (simp [*]; done)), H', ⟨by have := HK1.out; omega⟩, by repeat (first | exact Drawn0.refl _ | apply Drawn0.step)⟩
          · rw [if_neg c11] at H
            have c11b0 : decide ((wrap64 (t152 - t153)) < 0) = false := decide_eq_false c11
            clear c11
            have H' := Aside0.mk H
            clear H
            go_wp2_with (first | ((with_reducible refine gate_callee (f := 9) rfl ?_); refine goesL_ (some 18) rfl rfl Try.func9 (by kernel_rfl) rfl #[.int .u32 a1, .int .i64 x9_1] rfl (by (try simp only [List.map_toArray, List.map_cons, List.map_nil]); first | done | rfl | (simp only [List.length_drop, List.length_take]; rfl)) ?_; (with_reducible refine (marquetryref11_Part.calls a1 x9_1 t150 _ A5.out).mono ?_); clear A5; rintro e w' ⟨rfl, ⟨nd, rfl⟩⟩; refine ⟨_, rfl, ?_⟩) | (go_at_call 9; (with_reducible refine (marquetryref11_Part.calls a1 x9_1 t150 _ A5.out).mono ?_); clear A5; rintro e w' ⟨rfl, ⟨nd, rfl⟩⟩) | ((with_reducible refine gate_callee (f := 9) rfl ?_); refine goesL_ (some 21) rfl rfl Try.func9 (by kernel_rfl) rfl #[.int .u32 a2, .int .i64 x9_1] rfl (by (try simp only [List.map_toArray, List.map_cons, List.map_nil]); first | done | rfl | (simp only [List.length_drop, List.length_take]; rfl)) ?_; (with_reducible refine (marquetryref11_Part.calls a2 x9_1 t151 _ A6.out).mono ?_); clear A6; rintro e w' ⟨rfl, ⟨nd, rfl⟩⟩; refine ⟨_, rfl, ?_⟩) | (go_at_call 9; (with_reducible refine (marquetryref11_Part.calls a2 x9_1 t151 _ A6.out).mono ?_); clear A6; rintro e w' ⟨rfl, ⟨nd, rfl⟩⟩) | ((with_reducible refine gate_callee (f := 9) rfl ?_); refine goesL_ (some 25) rfl rfl Try.func9 (by kernel_rfl) rfl #[.int .u32 a0, .int .i64 x9_1] rfl (by (try simp only [List.map_toArray, List.map_cons, List.map_nil]); first | done | rfl | (simp only [List.length_drop, List.length_take]; rfl)) ?_; (with_reducible refine (marquetryref11_Part.calls a0 x9_1 t152 _ A7.out).mono ?_); clear A7; rintro e w' ⟨rfl, ⟨nd, rfl⟩⟩; refine ⟨_, rfl, ?_⟩) | (go_at_call 9; (with_reducible refine (marquetryref11_Part.calls a0 x9_1 t152 _ A7.out).mono ?_); clear A7; rintro e w' ⟨rfl, ⟨nd, rfl⟩⟩) | ((with_reducible refine gate_callee (f := 9) rfl ?_); refine goesL_ (some 28) rfl rfl Try.func9 (by kernel_rfl) rfl #[.int .u32 a2, .int .i64 x9_1] rfl (by (try simp only [List.map_toArray, List.map_cons, List.map_nil]); first | done | rfl | (simp only [List.length_drop, List.length_take]; rfl)) ?_; (with_reducible refine (marquetryref11_Part.calls a2 x9_1 t153 _ A8.out).mono ?_); clear A8; rintro e w' ⟨rfl, ⟨nd, rfl⟩⟩; refine ⟨_, rfl, ?_⟩) | (go_at_call 9; (with_reducible refine (marquetryref11_Part.calls a2 x9_1 t153 _ A8.out).mono ?_); clear A8; rintro e w' ⟨rfl, ⟨nd, rfl⟩⟩))
            go_roundg k1
            case measure => have := HK1.out; omega
            case rel => exact ⟨(wrap64 (x7_1 + (wrap64 (t150 - t151)))), (wrap64 (x8_1 + (wrap64 (t152 - t153)))), (wrap64 (x9_1 + 1)), (by first | rfl | (simp; done) | (simp [*]; done)), (by first | rfl | (simp; done) | (simp [*]; done)), (by first | rfl | (simp; done) | (simp [*]; done)), H', ⟨by have := HK1.out; omega⟩, by repeat (first | exact Drawn0.refl _ | apply Drawn0.step)⟩
      · rw [if_neg c4] at H
        have c4b0 : decide (x9_1 < 4) = false := decide_eq_false c4
        clear c4
        by_cases c12 : x7_1 < x8_1
        · rw [if_pos c12] at H
          have c12b0 : decide (x7_1 < x8_1) = true := decide_eq_true c12
          clear c12
          obtain rfl := Option.some.inj H
          go_wp2
          go_ret
          exact ⟨by first | rfl | (simp; done) | (simp [*]; done), by repeat (first | exact Drawn0.refl _ | apply Drawn0.step)⟩
        · rw [if_neg c12] at H
          have c12b0 : decide (x7_1 < x8_1) = false := decide_eq_false c12
          clear c12
          obtain rfl := Option.some.inj H
          go_wp2
          go_ret
          exact ⟨by first | rfl | (simp; done) | (simp [*]; done), by repeat (first | exact Drawn0.refl _ | apply Drawn0.step)⟩

/-! ### marquetrylaw11_PixelThree: function 7 -/
def marquetrylaw11_PixelThree.f (k : Nat) (a0 : Int) (a1 : Int) (a2 : Int) : Option (Bool) := (marquetrylaw11_answers.f).bind fun t154 => (if t154 = true then ((pixel_Pick.f a0 a1 a2).bind fun t155 => ((marquetryref11_Pick.f k a0 a1 a2).bind fun t156 => (if t155 = t156 then ((pixel_Full.f a0 a1 a2).bind fun t157 => ((marquetryref11_Full.f a0 a1 a2).bind fun t158 => (if t157 = t158 then ((pixel_Full.f a0 a1 a2).bind fun t159 => ((pixel_Full.f a1 a0 a2).bind fun t160 => (some (t159 == t160)))) else (some false)))) else (some false)))) else (some false))
theorem marquetrylaw11_PixelThree.mono : ∀ a0 a1 a2 k, LeO (marquetrylaw11_PixelThree.f k a0 a1 a2) (marquetrylaw11_PixelThree.f (k + 1) a0 a1 a2) := by
  intro a0 a1 a2 k
  unfold marquetrylaw11_PixelThree.f
  repeat' first
      | (with_reducible exact marquetryref11_Pick.mono _ _ _ _)
      | (with_reducible exact LeO.refl _)
      | (with_reducible exact LeO.none _)
      | (with_reducible refine LeO.ite ?_ ?_)
      | (with_reducible refine LeO.bind ?_ (fun _ => ?_))
      | exact marquetryref11_Pick.mono _ _ _ _
      | exact LeO.none _
      | refine LeO.ite ?_ ?_
      | refine LeO.bind ?_ (fun _ => ?_)
set_option maxHeartbeats 8000000 in
set_option maxRecDepth 100000 in
theorem marquetrylaw11_PixelThree.calls (k : Nat) (a0 : Int) (a1 : Int) (a2 : Int) (r : Bool) (w : World) (h : marquetrylaw11_PixelThree.f k a0 a1 a2 = some r) (hr : r = true) :
    Calls Try.prog 7 #[.int .u32 a0, .int .u32 a1, .int .u32 a2] w fun e w' => e = .returned (.bool r) ∧ Below w.heap.size w w' := by
  have HB := Aside0.mk (Below.refl w.heap.size w)
  have H : ((marquetrylaw11_answers.f).bind fun t154 => (if t154 = true then ((pixel_Pick.f a0 a1 a2).bind fun t155 => ((marquetryref11_Pick.f k a0 a1 a2).bind fun t156 => (if t155 = t156 then ((pixel_Full.f a0 a1 a2).bind fun t157 => ((marquetryref11_Full.f a0 a1 a2).bind fun t158 => (if t157 = t158 then ((pixel_Full.f a0 a1 a2).bind fun t159 => ((pixel_Full.f a1 a0 a2).bind fun t160 => (some (t159 == t160)))) else (some false)))) else (some false)))) else (some false))) = some r := h
  clear h
  have Hr := Aside0.mk hr
  clear hr
  replace H := Option.bind_eq_some_iff.mp H
  obtain ⟨t154, A40, H⟩ := H
  replace H : (if t154 = true then ((pixel_Pick.f a0 a1 a2).bind fun t155 => ((marquetryref11_Pick.f k a0 a1 a2).bind fun t156 => (if t155 = t156 then ((pixel_Full.f a0 a1 a2).bind fun t157 => ((marquetryref11_Full.f a0 a1 a2).bind fun t158 => (if t157 = t158 then ((pixel_Full.f a0 a1 a2).bind fun t159 => ((pixel_Full.f a1 a0 a2).bind fun t160 => (some (t159 == t160)))) else (some false)))) else (some false)))) else (some false)) = some r := H
  have A4 := Aside0.mk A40
  clear A40
  by_cases c5 : t154 = true
  · subst c5
    have H1 : ((pixel_Pick.f a0 a1 a2).bind fun t155 => ((marquetryref11_Pick.f k a0 a1 a2).bind fun t156 => (if t155 = t156 then ((pixel_Full.f a0 a1 a2).bind fun t157 => ((marquetryref11_Full.f a0 a1 a2).bind fun t158 => (if t157 = t158 then ((pixel_Full.f a0 a1 a2).bind fun t159 => ((pixel_Full.f a1 a0 a2).bind fun t160 => (some (t159 == t160)))) else (some false)))) else (some false)))) = some r := by rw [if_pos rfl] at H; exact H
    clear H
    have H := H1
    clear H1
    replace H := Option.bind_eq_some_iff.mp H
    obtain ⟨t155, A60, H⟩ := H
    replace H : ((marquetryref11_Pick.f k a0 a1 a2).bind fun t156 => (if t155 = t156 then ((pixel_Full.f a0 a1 a2).bind fun t157 => ((marquetryref11_Full.f a0 a1 a2).bind fun t158 => (if t157 = t158 then ((pixel_Full.f a0 a1 a2).bind fun t159 => ((pixel_Full.f a1 a0 a2).bind fun t160 => (some (t159 == t160)))) else (some false)))) else (some false))) = some r := H
    have A6 := Aside0.mk A60
    clear A60
    replace H := Option.bind_eq_some_iff.mp H
    obtain ⟨t156, A70, H⟩ := H
    replace H : (if t155 = t156 then ((pixel_Full.f a0 a1 a2).bind fun t157 => ((marquetryref11_Full.f a0 a1 a2).bind fun t158 => (if t157 = t158 then ((pixel_Full.f a0 a1 a2).bind fun t159 => ((pixel_Full.f a1 a0 a2).bind fun t160 => (some (t159 == t160)))) else (some false)))) else (some false)) = some r := H
    have A7 := Aside0.mk A70
    clear A70
    by_cases c8 : t155 = t156
    · rw [if_pos c8] at H
      have c8b0 : (t155 == t156) = true := beq_iff_eq.mpr c8
      have c8b1 : (t155 != t156) = false := bne_eq_false_iff_eq.mpr c8
      clear c8
      replace H := Option.bind_eq_some_iff.mp H
      obtain ⟨t157, A90, H⟩ := H
      replace H : ((marquetryref11_Full.f a0 a1 a2).bind fun t158 => (if t157 = t158 then ((pixel_Full.f a0 a1 a2).bind fun t159 => ((pixel_Full.f a1 a0 a2).bind fun t160 => (some (t159 == t160)))) else (some false))) = some r := H
      have A9 := Aside0.mk A90
      clear A90
      replace H := Option.bind_eq_some_iff.mp H
      obtain ⟨t158, A100, H⟩ := H
      replace H : (if t157 = t158 then ((pixel_Full.f a0 a1 a2).bind fun t159 => ((pixel_Full.f a1 a0 a2).bind fun t160 => (some (t159 == t160)))) else (some false)) = some r := H
      have A10 := Aside0.mk A100
      clear A100
      by_cases c11 : t157 = t158
      · rw [if_pos c11] at H
        have c11b0 : (t157 == t158) = true := beq_iff_eq.mpr c11
        have c11b1 : (t157 != t158) = false := bne_eq_false_iff_eq.mpr c11
        clear c11
        replace H := Option.bind_eq_some_iff.mp H
        obtain ⟨t159, A120, H⟩ := H
        replace H : ((pixel_Full.f a1 a0 a2).bind fun t160 => (some (t159 == t160))) = some r := H
        have A12 := Aside0.mk A120
        clear A120
        replace H := Option.bind_eq_some_iff.mp H
        obtain ⟨t160, A130, H⟩ := H
        replace H : (some (t159 == t160)) = some r := H
        have A13 := Aside0.mk A130
        clear A130
        obtain rfl := Option.some.inj H
        go_enter Try.func7, Try.ntmps7
        go_wp2_with (first | ((with_reducible refine gate_callee (f := 10) rfl ?_); refine goesL_ (some 7) rfl rfl Try.func10 (by kernel_rfl) rfl #[] rfl (by (try simp only [List.map_toArray, List.map_cons, List.map_nil]); first | done | rfl | (simp only [List.length_drop, List.length_take]; rfl)) ?_; (with_reducible refine (marquetrylaw11_answers.calls  true _ A4.out).mono ?_); clear A4; rintro e w14 ⟨rfl, hb⟩; refine ⟨_, rfl, ?_⟩; have n0_ := Aside0.mk (below_step (by repeat (first | (with_reducible first | exact HB.out | apply below_alloc | apply pw_below_drewN | apply below_drew1) | exact HB.out)) hb); clear HB; have HB := n0_; clear n0_; (try clear hb); (try clear hb2); (try clear hk); (try clear hi)) | (go_at_call 10; (with_reducible refine (marquetrylaw11_answers.calls  true _ A4.out).mono ?_); clear A4; rintro e w14 ⟨rfl, hb⟩; have n0_ := Aside0.mk (below_step (by repeat (first | (with_reducible first | exact HB.out | apply below_alloc | apply pw_below_drewN | apply below_drew1) | exact HB.out)) hb); clear HB; have HB := n0_; clear n0_; (try clear hb); (try clear hb2); (try clear hk); (try clear hi)) | (go_at_call 23; (with_reducible refine (pixel_Pick.calls a0 a1 a2 t155 _ A6.out).mono ?_); clear A6; rintro e w15 ⟨rfl, hb⟩; have n0_ := Aside0.mk (below_step (by repeat (first | (with_reducible first | exact HB.out | apply below_alloc | apply pw_below_drewN | apply below_drew1) | exact HB.out)) hb); clear HB; have HB := n0_; clear n0_; (try clear hb); (try clear hb2); (try clear hk); (try clear hi)) | (go_at_call 24; (with_reducible refine (marquetryref11_Pick.calls k a0 a1 a2 t156 _ A7.out).mono ?_); clear A7; rintro e w' ⟨rfl, ⟨nd, rfl⟩⟩) | (go_at_call 15; (with_reducible refine (pixel_Full.calls a0 a1 a2 t157 _ A9.out).mono ?_); clear A9; rintro e w16 ⟨rfl, hb⟩; have n0_ := Aside0.mk (below_step (by repeat (first | (with_reducible first | exact HB.out | apply below_alloc | apply pw_below_drewN | apply below_drew1) | exact HB.out)) hb); clear HB; have HB := n0_; clear n0_; (try clear hb); (try clear hb2); (try clear hk); (try clear hi)) | (go_at_call 25; (with_reducible refine (marquetryref11_Full.calls a0 a1 a2 t158 _ A10.out).mono ?_); clear A10; rintro e w17 ⟨rfl, hb⟩; have n0_ := Aside0.mk (below_step (by repeat (first | (with_reducible first | exact HB.out | apply below_alloc | apply pw_below_drewN | apply below_drew1) | exact HB.out)) hb); clear HB; have HB := n0_; clear n0_; (try clear hb); (try clear hb2); (try clear hk); (try clear hi)) | (go_at_call 15; (with_reducible refine (pixel_Full.calls a0 a1 a2 t159 _ A12.out).mono ?_); clear A12; rintro e w18 ⟨rfl, hb⟩; have n0_ := Aside0.mk (below_step (by repeat (first | (with_reducible first | exact HB.out | apply below_alloc | apply pw_below_drewN | apply below_drew1) | exact HB.out)) hb); clear HB; have HB := n0_; clear n0_; (try clear hb); (try clear hb2); (try clear hk); (try clear hi)) | (go_at_call 15; (with_reducible refine (pixel_Full.calls a1 a0 a2 t160 _ A13.out).mono ?_); clear A13; rintro e w19 ⟨rfl, hb⟩; have n0_ := Aside0.mk (below_step (by repeat (first | (with_reducible first | exact HB.out | apply below_alloc | apply pw_below_drewN | apply below_drew1) | exact HB.out)) hb); clear HB; have HB := n0_; clear n0_; (try clear hb); (try clear hb2); (try clear hk); (try clear hi)))
        go_ret
        exact ⟨by first | rfl | (simp [errW_none, errW_some] <;> rfl) | (simp [*, errW_none, errW_some] <;> rfl), by repeat (first | (with_reducible first | exact HB.out | apply below_alloc | apply pw_below_drewN | apply below_drew1) | exact HB.out)⟩
      · rw [if_neg c11] at H
        have c11b0 : (t157 == t158) = false := beq_eq_false_iff_ne.mpr c11
        have c11b1 : (t157 != t158) = true := bne_iff_ne.mpr c11
        exact absurd ((Option.some.inj H).trans Hr.out) (by decide)
    · rw [if_neg c8] at H
      have c8b0 : (t155 == t156) = false := beq_eq_false_iff_ne.mpr c8
      have c8b1 : (t155 != t156) = true := bne_iff_ne.mpr c8
      exact absurd ((Option.some.inj H).trans Hr.out) (by decide)
  · replace c5 := Bool.eq_false_iff.mpr c5
    subst c5
    have H1 : (some false) = some r := by rw [if_neg (show ¬ (false = true) by decide)] at H; exact H
    clear H
    have H := H1
    clear H1
    exact absurd ((Option.some.inj H).trans Hr.out) (by decide)

/-- THE ONE PURE STATEMENT of marquetrylaw11_PixelThree: yours. -/
def marquetrylaw11_PixelThree.Pure : Prop := ∀ (a0 : Int) (a1 : Int) (a2 : Int), (Lit.int .u32 a0).wf = true → (Lit.int .u32 a1).wf = true → (Lit.int .u32 a2).wf = true → ∃ k, marquetrylaw11_PixelThree.f k a0 a1 a2 = some true
theorem marquetrylaw11_PixelThree.walk (P : marquetrylaw11_PixelThree.Pure) (a0 : Int) (a1 : Int) (a2 : Int) (w : World) (w0 : (Lit.int .u32 a0).wf = true) (w1 : (Lit.int .u32 a1).wf = true) (w2 : (Lit.int .u32 a2).wf = true) :
    Calls Try.prog 7 #[.int .u32 a0, .int .u32 a1, .int .u32 a2] w fun e w' => e = .returned (.bool true) ∧ Below w.heap.size w w' := by
  obtain ⟨k, h⟩ := P a0 a1 a2 w0 w1 w2
  refine (marquetrylaw11_PixelThree.calls k a0 a1 a2 true w h rfl).mono ?_
  rintro e w' ⟨rfl, hd⟩
  exact ⟨rfl, hd⟩

end Go.Proofs.Ytmehcbjkhooolaa.P
