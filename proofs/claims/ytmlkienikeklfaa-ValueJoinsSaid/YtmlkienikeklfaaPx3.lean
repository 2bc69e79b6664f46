-- Printed by mp.py (our own program over the kit's printer) out of the translation.
import Derived.Test.YtmlkienikeklfaaPx0
import Derived.Test.YtmlkienikeklfaaPx1
namespace Go.Proofs.Ytmlkienikeklfaa.P
open Go.RowKit Go.Proofs.YtmlkienikeklfaaW.PrintWords Go.Proofs.YtmlkienikeklfaaW.PrintLast Go.Proofs.YtmlkienikeklfaaW.PrintMore
attribute [local go_sem] max2_int min2_int max_two min_two max_three min_three max_four min_four   -- for this text's walks alone
set_option linter.unusedVariables false
set_option linter.unusedSimpArgs false

/-! ### marquetrylaw08_ValueNext: function 6 -/
def marquetrylaw08_ValueNext.f (k : Nat) (a0 : Int) : Option (Bool) := (value_Extra.f (wrap64 (Int.tmod a0 39))).bind fun t132 => (if 0 ≤ (IntKind.u64.wrap (t132)) then ((value_Join.f k (wrap64 (Int.tmod a0 39)) (((shl .u32 1 (IntKind.u64.wrap (t132))) - 1) % 4294967296)).bind fun t133 => ((value_Split.f k (wrap64 (t133 + 1))).bind fun bt134 => ((marquetrylaw08_answers.f k).bind fun t137 => (if t137 = true then ((value_Join.f k (wrap64 ((wrap64 (Int.tmod a0 39)) + 1)) 0).bind fun t138 => (if t138 = (wrap64 (t133 + 1)) then (if bt134.1 = (wrap64 ((wrap64 (Int.tmod a0 39)) + 1)) then (if bt134.2.2 = 0 then ((value_Join.f k (wrap64 (Int.tmod a0 39)) (shl .u32 1 (IntKind.u64.wrap (t132)))).bind fun t139 => (some (t139 == 0))) else (some false)) else (some false)) else (some false))) else (some false))))) else (none))
theorem marquetrylaw08_ValueNext.mono : ∀ a0 k, LeO (marquetrylaw08_ValueNext.f k a0) (marquetrylaw08_ValueNext.f (k + 1) a0) := by
  intro a0 k
  unfold marquetrylaw08_ValueNext.f
  repeat' first
      | (with_reducible exact marquetrylaw08_answers.mono _)
      | (with_reducible exact value_Join.mono _ _ _)
      | (with_reducible exact value_Split.mono _ _)
      | (with_reducible exact LeO.refl _)
      | (with_reducible exact LeO.none _)
      | (with_reducible refine LeO.ite ?_ ?_)
      | (with_reducible refine LeO.bind ?_ (fun _ => ?_))
      | exact marquetrylaw08_answers.mono _
      | exact value_Join.mono _ _ _
      | exact value_Split.mono _ _
      | exact LeO.none _
      | refine LeO.ite ?_ ?_
      | refine LeO.bind ?_ (fun _ => ?_)
set_option maxHeartbeats 8000000 in
set_option maxRecDepth 100000 in
theorem marquetrylaw08_ValueNext.calls (k : Nat) (a0 : Int) (r : Bool) (w : World) (h : marquetrylaw08_ValueNext.f k a0 = some r) :
    Calls Try.prog 6 #[.int .u8 a0] w fun e w' => e = .returned (.bool r) ∧ Drawn0 w w' := by
  have H : ((value_Extra.f (wrap64 (Int.tmod a0 39))).bind fun t132 => (if 0 ≤ (IntKind.u64.wrap (t132)) then ((value_Join.f k (wrap64 (Int.tmod a0 39)) (((shl .u32 1 (IntKind.u64.wrap (t132))) - 1) % 4294967296)).bind fun t133 => ((value_Split.f k (wrap64 (t133 + 1))).bind fun bt134 => ((marquetrylaw08_answers.f k).bind fun t137 => (if t137 = true then ((value_Join.f k (wrap64 ((wrap64 (Int.tmod a0 39)) + 1)) 0).bind fun t138 => (if t138 = (wrap64 (t133 + 1)) then (if bt134.1 = (wrap64 ((wrap64 (Int.tmod a0 39)) + 1)) then (if bt134.2.2 = 0 then ((value_Join.f k (wrap64 (Int.tmod a0 39)) (shl .u32 1 (IntKind.u64.wrap (t132)))).bind fun t139 => (some (t139 == 0))) else (some false)) else (some false)) else (some false))) else (some false))))) else (none))) = some r := h
  clear h
  replace H := Option.bind_eq_some_iff.mp H
  obtain ⟨t132, A20, H⟩ := H
  replace H : (if 0 ≤ (IntKind.u64.wrap (t132)) then ((value_Join.f k (wrap64 (Int.tmod a0 39)) (((shl .u32 1 (IntKind.u64.wrap (t132))) - 1) % 4294967296)).bind fun t133 => ((value_Split.f k (wrap64 (t133 + 1))).bind fun bt134 => ((marquetrylaw08_answers.f k).bind fun t137 => (if t137 = true then ((value_Join.f k (wrap64 ((wrap64 (Int.tmod a0 39)) + 1)) 0).bind fun t138 => (if t138 = (wrap64 (t133 + 1)) then (if bt134.1 = (wrap64 ((wrap64 (Int.tmod a0 39)) + 1)) then (if bt134.2.2 = 0 then ((value_Join.f k (wrap64 (Int.tmod a0 39)) (shl .u32 1 (IntKind.u64.wrap (t132)))).bind fun t139 => (some (t139 == 0))) else (some false)) else (some false)) else (some false))) else (some false))))) else (none)) = some r := H
  have A2 := Aside0.mk A20
  clear A20
  obtain ⟨ji3, hji3⟩ : ∃ j_ : Int, (IntKind.u64.wrap (t132)) = j_ := ⟨_, rfl⟩
  replace H : (if 0 ≤ (ji3) then ((value_Join.f k (wrap64 (Int.tmod a0 39)) (((shl .u32 1 (ji3)) - 1) % 4294967296)).bind fun t133 => ((value_Split.f k (wrap64 (t133 + 1))).bind fun bt134 => ((marquetrylaw08_answers.f k).bind fun t137 => (if t137 = true then ((value_Join.f k (wrap64 ((wrap64 (Int.tmod a0 39)) + 1)) 0).bind fun t138 => (if t138 = (wrap64 (t133 + 1)) then (if bt134.1 = (wrap64 ((wrap64 (Int.tmod a0 39)) + 1)) then (if bt134.2.2 = 0 then ((value_Join.f k (wrap64 (Int.tmod a0 39)) (shl .u32 1 (ji3))).bind fun t139 => (some (t139 == 0))) else (some false)) else (some false)) else (some false))) else (some false))))) else (none)) = some r := by first | (rw [hji3] at H; exact H) | (simp only [hji3] at H ⊢; exact H)
  (try rw [hji3] at A2)
  by_cases c4 : 0 ≤ (ji3)
  · rw [if_pos c4] at H
    have c4b0 := eq_true c4
    have c4b1 : decide (0 ≤ (ji3)) = true := decide_eq_true c4
    clear c4
    obtain ⟨ji5, hji5⟩ : ∃ j_ : Int, (shl .u32 1 (ji3)) = j_ := ⟨_, rfl⟩
    replace H : ((value_Join.f k (wrap64 (Int.tmod a0 39)) (((ji5) - 1) % 4294967296)).bind fun t133 => ((value_Split.f k (wrap64 (t133 + 1))).bind fun bt134 => ((marquetrylaw08_answers.f k).bind fun t137 => (if t137 = true then ((value_Join.f k (wrap64 ((wrap64 (Int.tmod a0 39)) + 1)) 0).bind fun t138 => (if t138 = (wrap64 (t133 + 1)) then (if bt134.1 = (wrap64 ((wrap64 (Int.tmod a0 39)) + 1)) then (if bt134.2.2 = 0 then ((value_Join.f k (wrap64 (Int.tmod a0 39)) (ji5)).bind fun t139 => (some (t139 == 0))) else (some false)) else (some false)) else (some false))) else (some false))))) = some r := by first | (rw [hji5] at H; exact H) | (simp only [hji5] at H ⊢; exact H)
    (try rw [hji5] at A2)
    have hji5_ : (IntKind.u32.wrap (1 * 2 ^ min (ji3).toNat 32)) = ji5 := hji5
    have hji5z : (ji3) ≤ 32 → (IntKind.u32.wrap (1 * 2 ^ (ji3).toNat)) = ji5 := shl_small hji5
    have hji5u : (IntKind.u32.wrap (2 ^ min (ji3).toNat 32)) = ji5 := by have h_ := hji5_; rw [Int.one_mul] at h_; exact h_
    have hji5v : (ji3) ≤ 32 → (IntKind.u32.wrap (2 ^ (ji3).toNat)) = ji5 := fun hle_ => by have h_ := hji5z hle_; rw [Int.one_mul] at h_; exact h_
    replace H := Option.bind_eq_some_iff.mp H
    obtain ⟨t133, A60, H⟩ := H
    replace H : ((value_Split.f k (wrap64 (t133 + 1))).bind fun bt134 => ((marquetrylaw08_answers.f k).bind fun t137 => (if t137 = true then ((value_Join.f k (wrap64 ((wrap64 (Int.tmod a0 39)) + 1)) 0).bind fun t138 => (if t138 = (wrap64 (t133 + 1)) then (if bt134.1 = (wrap64 ((wrap64 (Int.tmod a0 39)) + 1)) then (if bt134.2.2 = 0 then ((value_Join.f k (wrap64 (Int.tmod a0 39)) (ji5)).bind fun t139 => (some (t139 == 0))) else (some false)) else (some false)) else (some false))) else (some false)))) = some r := H
    have A6 := Aside0.mk A60
    clear A60
    replace H := Option.bind_eq_some_iff.mp H
    obtain ⟨⟨t134, t135, t136⟩, A70, H⟩ := H
    replace H : ((marquetrylaw08_answers.f k).bind fun t137 => (if t137 = true then ((value_Join.f k (wrap64 ((wrap64 (Int.tmod a0 39)) + 1)) 0).bind fun t138 => (if t138 = (wrap64 (t133 + 1)) then (if t134 = (wrap64 ((wrap64 (Int.tmod a0 39)) + 1)) then (if t136 = 0 then ((value_Join.f k (wrap64 (Int.tmod a0 39)) (ji5)).bind fun t139 => (some (t139 == 0))) else (some false)) else (some false)) else (some false))) else (some false))) = some r := H
    have A7 := Aside0.mk A70
    clear A70
    replace H := Option.bind_eq_some_iff.mp H
    obtain ⟨t137, A80, H⟩ := H
    replace H : (if t137 = true then ((value_Join.f k (wrap64 ((wrap64 (Int.tmod a0 39)) + 1)) 0).bind fun t138 => (if t138 = (wrap64 (t133 + 1)) then (if t134 = (wrap64 ((wrap64 (Int.tmod a0 39)) + 1)) then (if t136 = 0 then ((value_Join.f k (wrap64 (Int.tmod a0 39)) (ji5)).bind fun t139 => (some (t139 == 0))) else (some false)) else (some false)) else (some false))) else (some false)) = some r := H
    have A8 := Aside0.mk A80
    clear A80
    by_cases c9 : t137 = true
    · subst c9
      have H1 : ((value_Join.f k (wrap64 ((wrap64 (Int.tmod a0 39)) + 1)) 0).bind fun t138 => (if t138 = (wrap64 (t133 + 1)) then (if t134 = (wrap64 ((wrap64 (Int.tmod a0 39)) + 1)) then (if t136 = 0 then ((value_Join.f k (wrap64 (Int.tmod a0 39)) (ji5)).bind fun t139 => (some (t139 == 0))) else (some false)) else (some false)) else (some false))) = some r := by rw [if_pos rfl] at H; exact H
      clear H
      have H := H1
      clear H1
      replace H := Option.bind_eq_some_iff.mp H
      obtain ⟨t138, A100, H⟩ := H
      replace H : (if t138 = (wrap64 (t133 + 1)) then (if t134 = (wrap64 ((wrap64 (Int.tmod a0 39)) + 1)) then (if t136 = 0 then ((value_Join.f k (wrap64 (Int.tmod a0 39)) (ji5)).bind fun t139 => (some (t139 == 0))) else (some false)) else (some false)) else (some false)) = some r := H
      have A10 := Aside0.mk A100
      clear A100
      by_cases c11 : t138 = (wrap64 (t133 + 1))
      · rw [if_pos c11] at H
        have c11b0 : (t138 == (wrap64 (t133 + 1))) = true := beq_iff_eq.mpr c11
        have c11b1 : (t138 != (wrap64 (t133 + 1))) = false := bne_eq_false_iff_eq.mpr c11
        clear c11
        by_cases c12 : t134 = (wrap64 ((wrap64 (Int.tmod a0 39)) + 1))
        · rw [if_pos c12] at H
          have c12b0 : (t134 == (wrap64 ((wrap64 (Int.tmod a0 39)) + 1))) = true := beq_iff_eq.mpr c12
          have c12b1 : (t134 != (wrap64 ((wrap64 (Int.tmod a0 39)) + 1))) = false := bne_eq_false_iff_eq.mpr c12
          clear c12
          by_cases c13 : t136 = 0
          · rw [if_pos c13] at H
            have c13b0 : (t136 == 0) = true := beq_iff_eq.mpr c13
            have c13b1 : (t136 != 0) = false := bne_eq_false_iff_eq.mpr c13
            clear c13
            have c14b0 := eq_true (of_decide_eq_true (by first | (with_reducible assumption) | assumption) : 0 ≤ (ji3))
            replace H := Option.bind_eq_some_iff.mp H
            obtain ⟨t139, A150, H⟩ := H
            replace H : (some (t139 == 0)) = some r := H
            have A15 := Aside0.mk A150
            clear A150
            obtain rfl := Option.some.inj H
            go_enter Try.func6, Try.ntmps6
            go_wp2_with (first | ((with_reducible refine gate_callee (f := 8) rfl ?_); refine goesL_ (some 13) rfl rfl Try.func8 (by kernel_rfl) rfl #[.int .i64 (wrap64 (Int.tmod a0 39))] rfl (by (try simp only [List.map_toArray, List.map_cons, List.map_nil]); first | done | rfl | (simp only [List.length_drop, List.length_take]; rfl)) ?_; (with_reducible refine (value_Extra.calls (wrap64 (Int.tmod a0 39)) t132 _ A2.out).mono ?_); rintro e w' ⟨rfl, ⟨nd, rfl⟩⟩; refine ⟨_, rfl, ?_⟩) | ((with_reducible refine gate_callee (f := 10) rfl ?_); refine goesL_ (some 19) rfl rfl Try.func10 (by kernel_rfl) rfl #[.int .i64 (wrap64 (Int.tmod a0 39)), .int .u32 (((ji5) - 1) % 4294967296)] rfl (by (try simp only [List.map_toArray, List.map_cons, List.map_nil]); first | done | (simp only [hji5]; rfl) | rfl | (simp only [List.length_drop, List.length_take]; rfl)) ?_; (with_reducible refine (value_Join.calls k (wrap64 (Int.tmod a0 39)) (((ji5) - 1) % 4294967296) t133 _ A6.out).mono ?_); rintro e w' ⟨rfl, ⟨nd, rfl⟩⟩; refine ⟨_, rfl, ?_⟩) | ((with_reducible refine gate_callee (f := 12) rfl ?_); refine goesL_ (some 23) rfl rfl Try.func12 (by kernel_rfl) rfl #[.int .i64 (wrap64 (t133 + 1))] rfl (by (try simp only [List.map_toArray, List.map_cons, List.map_nil]); first | done | rfl | (simp only [List.length_drop, List.length_take]; rfl)) ?_; (with_reducible refine (value_Split.calls k (wrap64 (t133 + 1)) t134 t135 t136 _ A7.out).mono ?_); rintro e w' ⟨rfl, ⟨nd, rfl⟩⟩; refine ⟨_, rfl, ?_⟩) | ((with_reducible refine gate_callee (f := 7) rfl ?_); refine goesL_ (some 27) rfl rfl Try.func7 (by kernel_rfl) rfl #[] rfl (by (try simp only [List.map_toArray, List.map_cons, List.map_nil]); first | done | rfl | (simp only [List.length_drop, List.length_take]; rfl)) ?_; (with_reducible refine (marquetrylaw08_answers.calls k  true _ A8.out).mono ?_); rintro e w' ⟨rfl, ⟨nd, rfl⟩⟩; refine ⟨_, rfl, ?_⟩) | (go_at_call 10; (with_reducible refine (value_Join.calls k (wrap64 ((wrap64 (Int.tmod a0 39)) + 1)) 0 t138 _ A10.out).mono ?_); rintro e w' ⟨rfl, ⟨nd, rfl⟩⟩) | (go_at_call 10; (with_reducible refine (value_Join.calls k (wrap64 (Int.tmod a0 39)) ji5 t139 _ A15.out).mono ?_); rintro e w' ⟨rfl, ⟨nd, rfl⟩⟩))
            go_ret
            exact ⟨by first | rfl | (simp; done) | (simp only [← hji3, ← hji5] <;> (first | rfl | simp)) | (simp [*]; done), by repeat (first | exact Drawn0.refl _ | apply Drawn0.step)⟩
          · rw [if_neg c13] at H
            have c13b0 : (t136 == 0) = false := beq_eq_false_iff_ne.mpr c13
            have c13b1 : (t136 != 0) = true := bne_iff_ne.mpr c13
            obtain rfl := Option.some.inj H
            go_enter Try.func6, Try.ntmps6
            go_wp2_with (first | ((with_reducible refine gate_callee (f := 8) rfl ?_); refine goesL_ (some 13) rfl rfl Try.func8 (by kernel_rfl) rfl #[.int .i64 (wrap64 (Int.tmod a0 39))] rfl (by (try simp only [List.map_toArray, List.map_cons, List.map_nil]); first | done | rfl | (simp only [List.length_drop, List.length_take]; rfl)) ?_; (with_reducible refine (value_Extra.calls (wrap64 (Int.tmod a0 39)) t132 _ A2.out).mono ?_); rintro e w' ⟨rfl, ⟨nd, rfl⟩⟩; refine ⟨_, rfl, ?_⟩) | ((with_reducible refine gate_callee (f := 10) rfl ?_); refine goesL_ (some 19) rfl rfl Try.func10 (by kernel_rfl) rfl #[.int .i64 (wrap64 (Int.tmod a0 39)), .int .u32 (((ji5) - 1) % 4294967296)] rfl (by (try simp only [List.map_toArray, List.map_cons, List.map_nil]); first | done | (simp only [hji5]; rfl) | rfl | (simp only [List.length_drop, List.length_take]; rfl)) ?_; (with_reducible refine (value_Join.calls k (wrap64 (Int.tmod a0 39)) (((ji5) - 1) % 4294967296) t133 _ A6.out).mono ?_); rintro e w' ⟨rfl, ⟨nd, rfl⟩⟩; refine ⟨_, rfl, ?_⟩) | ((with_reducible refine gate_callee (f := 12) rfl ?_); refine goesL_ (some 23) rfl rfl Try.func12 (by kernel_rfl) rfl #[.int .i64 (wrap64 (t133 + 1))] rfl (by (try simp only [List.map_toArray, List.map_cons, List.map_nil]); first | done | rfl | (simp only [List.length_drop, List.length_take]; rfl)) ?_; (with_reducible refine (value_Split.calls k (wrap64 (t133 + 1)) t134 t135 t136 _ A7.out).mono ?_); rintro e w' ⟨rfl, ⟨nd, rfl⟩⟩; refine ⟨_, rfl, ?_⟩) | ((with_reducible refine gate_callee (f := 7) rfl ?_); refine goesL_ (some 27) rfl rfl Try.func7 (by kernel_rfl) rfl #[] rfl (by (try simp only [List.map_toArray, List.map_cons, List.map_nil]); first | done | rfl | (simp only [List.length_drop, List.length_take]; rfl)) ?_; (with_reducible refine (marquetrylaw08_answers.calls k  true _ A8.out).mono ?_); rintro e w' ⟨rfl, ⟨nd, rfl⟩⟩; refine ⟨_, rfl, ?_⟩) | (go_at_call 10; (with_reducible refine (value_Join.calls k (wrap64 ((wrap64 (Int.tmod a0 39)) + 1)) 0 t138 _ A10.out).mono ?_); rintro e w' ⟨rfl, ⟨nd, rfl⟩⟩))
            go_ret
            exact ⟨by first | rfl | (simp; done) | (simp only [← hji3, ← hji5] <;> (first | rfl | simp)) | (simp [*]; done), by repeat (first | exact Drawn0.refl _ | apply Drawn0.step)⟩
        · rw [if_neg c12] at H
          have c12b0 : (t134 == (wrap64 ((wrap64 (Int.tmod a0 39)) + 1))) = false := beq_eq_false_iff_ne.mpr c12
          have c12b1 : (t134 != (wrap64 ((wrap64 (Int.tmod a0 39)) + 1))) = true := bne_iff_ne.mpr c12
          obtain rfl := Option.some.inj H
          go_enter Try.func6, Try.ntmps6
          go_wp2_with (first | ((with_reducible refine gate_callee (f := 8) rfl ?_); refine goesL_ (some 13) rfl rfl Try.func8 (by kernel_rfl) rfl #[.int .i64 (wrap64 (Int.tmod a0 39))] rfl (by (try simp only [List.map_toArray, List.map_cons, List.map_nil]); first | done | rfl | (simp only [List.length_drop, List.length_take]; rfl)) ?_; (with_reducible refine (value_Extra.calls (wrap64 (Int.tmod a0 39)) t132 _ A2.out).mono ?_); rintro e w' ⟨rfl, ⟨nd, rfl⟩⟩; refine ⟨_, rfl, ?_⟩) | ((with_reducible refine gate_callee (f := 10) rfl ?_); refine goesL_ (some 19) rfl rfl Try.func10 (by kernel_rfl) rfl #[.int .i64 (wrap64 (Int.tmod a0 39)), .int .u32 (((ji5) - 1) % 4294967296)] rfl (by (try simp only [List.map_toArray, List.map_cons, List.map_nil]); first | done | (simp only [hji5]; rfl) | rfl | (simp only [List.length_drop, List.length_take]; rfl)) ?_; (with_reducible refine (value_Join.calls k (wrap64 (Int.tmod a0 39)) (((ji5) - 1) % 4294967296) t133 _ A6.out).mono ?_); rintro e w' ⟨rfl, ⟨nd, rfl⟩⟩; refine ⟨_, rfl, ?_⟩) | ((with_reducible refine gate_callee (f := 12) rfl ?_); refine goesL_ (some 23) rfl rfl Try.func12 (by kernel_rfl) rfl #[.int .i64 (wrap64 (t133 + 1))] rfl (by (try simp only [List.map_toArray, List.map_cons, List.map_nil]); first | done | rfl | (simp only [List.length_drop, List.length_take]; rfl)) ?_; (with_reducible refine (value_Split.calls k (wrap64 (t133 + 1)) t134 t135 t136 _ A7.out).mono ?_); rintro e w' ⟨rfl, ⟨nd, rfl⟩⟩; refine ⟨_, rfl, ?_⟩) | ((with_reducible refine gate_callee (f := 7) rfl ?_); refine goesL_ (some 27) rfl rfl Try.func7 (by kernel_rfl) rfl #[] rfl (by (try simp only [List.map_toArray, List.map_cons, List.map_nil]); first | done | rfl | (simp only [List.length_drop, List.length_take]; rfl)) ?_; (with_reducible refine (marquetrylaw08_answers.calls k  true _ A8.out).mono ?_); rintro e w' ⟨rfl, ⟨nd, rfl⟩⟩; refine ⟨_, rfl, ?_⟩) | (go_at_call 10; (with_reducible refine (value_Join.calls k (wrap64 ((wrap64 (Int.tmod a0 39)) + 1)) 0 t138 _ A10.out).mono ?_); rintro e w' ⟨rfl, ⟨nd, rfl⟩⟩))
          go_ret
          exact ⟨by first | rfl | (simp; done) | (simp only [← hji3, ← hji5] <;> (first | rfl | simp)) | (simp [*]; done), by repeat (first | exact Drawn0.refl _ | apply Drawn0.step)⟩
      · rw [if_neg c11] at H
        have c11b0 : (t138 == (wrap64 (t133 + 1))) = false := beq_eq_false_iff_ne.mpr c11
        have c11b1 : (t138 != (wrap64 (t133 + 1))) = true := bne_iff_ne.mpr c11
        obtain rfl := Option.some.inj H
        go_enter Try.func6, Try.ntmps6
        go_wp2_with (first | ((with_reducible refine gate_callee (f := 8) rfl ?_); refine goesL_ (some 13) rfl rfl Try.func8 (by kernel_rfl) rfl #[.int .i64 (wrap64 (Int.tmod a0 39))] rfl (by (try simp only [List.map_toArray, List.map_cons, List.map_nil]); first | done | rfl | (simp only [List.length_drop, List.length_take]; rfl)) ?_; (with_reducible refine (value_Extra.calls (wrap64 (Int.tmod a0 39)) t132 _ A2.out).mono ?_); rintro e w' ⟨rfl, ⟨nd, rfl⟩⟩; refine ⟨_, rfl, ?_⟩) | ((with_reducible refine gate_callee (f := 10) rfl ?_); refine goesL_ (some 19) rfl rfl Try.func10 (by kernel_rfl) rfl #[.int .i64 (wrap64 (Int.tmod a0 39)), .int .u32 (((ji5) - 1) % 4294967296)] rfl (by (try simp only [List.map_toArray, List.map_cons, List.map_nil]); first | done | (simp only [hji5]; rfl) | rfl | (simp only [List.length_drop, List.length_take]; rfl)) ?_; (with_reducible refine (value_Join.calls k (wrap64 (Int.tmod a0 39)) (((ji5) - 1) % 4294967296) t133 _ A6.out).mono ?_); rintro e w' ⟨rfl, ⟨nd, rfl⟩⟩; refine ⟨_, rfl, ?_⟩) | ((with_reducible refine gate_callee (f := 12) rfl ?_); refine goesL_ (some 23) rfl rfl Try.func12 (by kernel_rfl) rfl #[.int .i64 (wrap64 (t133 + 1))] rfl (by (try simp only [List.map_toArray, List.map_cons, List.map_nil]); first | done | rfl | (simp only [List.length_drop, List.length_take]; rfl)) ?_; (with_reducible refine (value_Split.calls k (wrap64 (t133 + 1)) t134 t135 t136 _ A7.out).mono ?_); rintro e w' ⟨rfl, ⟨nd, rfl⟩⟩; refine ⟨_, rfl, ?_⟩) | ((with_reducible refine gate_callee (f := 7) rfl ?_); refine goesL_ (some 27) rfl rfl Try.func7 (by kernel_rfl) rfl #[] rfl (by (try simp only [List.map_toArray, List.map_cons, List.map_nil]); first | done | rfl | (simp only [List.length_drop, List.length_take]; rfl)) ?_; (with_reducible refine (marquetrylaw08_answers.calls k  true _ A8.out).mono ?_); rintro e w' ⟨rfl, ⟨nd, rfl⟩⟩; refine ⟨_, rfl, ?_⟩) | (go_at_call 10; (with_reducible refine (value_Join.calls k (wrap64 ((wrap64 (Int.tmod a0 39)) + 1)) 0 t138 _ A10.out).mono ?_); rintro e w' ⟨rfl, ⟨nd, rfl⟩⟩))
        go_ret
        exact ⟨by first | rfl | (simp; done) | (simp only [← hji3, ← hji5] <;> (first | rfl | simp)) | (simp [*]; done), by repeat (first | exact Drawn0.refl _ | apply Drawn0.step)⟩
    · replace c9 := Bool.eq_false_iff.mpr c9
      subst c9
      have H1 : (some false) = some r := by rw [if_neg (show ¬ (false = true) by decide)] at H; exact H
      clear H
      have H := H1
      clear H1
      obtain rfl := Option.some.inj H
      go_enter Try.func6, Try.ntmps6
      go_wp2_with (first | ((with_reducible refine gate_callee (f := 8) rfl ?_); refine goesL_ (some 13) rfl rfl Try.func8 (by kernel_rfl) rfl #[.int .i64 (wrap64 (Int.tmod a0 39))] rfl (by (try simp only [List.map_toArray, List.map_cons, List.map_nil]); first | done | rfl | (simp only [List.length_drop, List.length_take]; rfl)) ?_; (with_reducible refine (value_Extra.calls (wrap64 (Int.tmod a0 39)) t132 _ A2.out).mono ?_); rintro e w' ⟨rfl, ⟨nd, rfl⟩⟩; refine ⟨_, rfl, ?_⟩) | ((with_reducible refine gate_callee (f := 10) rfl ?_); refine goesL_ (some 19) rfl rfl Try.func10 (by kernel_rfl) rfl #[.int .i64 (wrap64 (Int.tmod a0 39)), .int .u32 (((ji5) - 1) % 4294967296)] rfl (by (try simp only [List.map_toArray, List.map_cons, List.map_nil]); first | done | (simp only [hji5]; rfl) | rfl | (simp only [List.length_drop, List.length_take]; rfl)) ?_; (with_reducible refine (value_Join.calls k (wrap64 (Int.tmod a0 39)) (((ji5) - 1) % 4294967296) t133 _ A6.out).mono ?_); rintro e w' ⟨rfl, ⟨nd, rfl⟩⟩; refine ⟨_, rfl, ?_⟩) | ((with_reducible refine gate_callee (f := 12) rfl ?_); refine goesL_ (some 23) rfl rfl Try.func12 (by kernel_rfl) rfl #[.int .i64 (wrap64 (t133 + 1))] rfl (by (try simp only [List.map_toArray, List.map_cons, List.map_nil]); first | done | rfl | (simp only [List.length_drop, List.length_take]; rfl)) ?_; (with_reducible refine (value_Split.calls k (wrap64 (t133 + 1)) t134 t135 t136 _ A7.out).mono ?_); rintro e w' ⟨rfl, ⟨nd, rfl⟩⟩; refine ⟨_, rfl, ?_⟩) | ((with_reducible refine gate_callee (f := 7) rfl ?_); refine goesL_ (some 27) rfl rfl Try.func7 (by kernel_rfl) rfl #[] rfl (by (try simp only [List.map_toArray, List.map_cons, List.map_nil]); first | done | rfl | (simp only [List.length_drop, List.length_take]; rfl)) ?_; (with_reducible refine (marquetrylaw08_answers.calls k  false _ A8.out).mono ?_); rintro e w' ⟨rfl, ⟨nd, rfl⟩⟩; refine ⟨_, rfl, ?_⟩))
      go_ret
      exact ⟨by first | rfl | (simp; done) | (simp only [← hji3, ← hji5] <;> (first | rfl | simp)) | (simp [*]; done), by repeat (first | exact Drawn0.refl _ | apply Drawn0.step)⟩
  · rw [if_neg c4] at H
    exact absurd H (by simp)

/-- THE ONE PURE STATEMENT of marquetrylaw08_ValueNext: yours. -/
def marquetrylaw08_ValueNext.Pure : Prop := ∀ (a0 : Int), (Lit.int .u8 a0).wf = true → ∃ k, marquetrylaw08_ValueNext.f k a0 = some true
theorem marquetrylaw08_ValueNext.walk (P : marquetrylaw08_ValueNext.Pure) (a0 : Int) (w : World) (w0 : (Lit.int .u8 a0).wf = true) :
    Calls Try.prog 6 #[.int .u8 a0] w fun e w' => e = .returned (.bool true) ∧ Below w.heap.size w w' := by
  obtain ⟨k, h⟩ := P a0 w0
  refine (marquetrylaw08_ValueNext.calls k a0 true w h).mono ?_
  rintro e w' ⟨rfl, hd⟩
  exact ⟨rfl, hd.below⟩

end Go.Proofs.Ytmlkienikeklfaa.P
