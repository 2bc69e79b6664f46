-- Printed by mp.py (our own program over the kit's printer) out of the translation.
import Derived.Test.YtmlkienikeklfaaPx0
import Derived.Test.YtmlkienikeklfaaPx1
namespace Go.Proofs.Ytmlkienikeklfaa.P
open Go.RowKit Go.Proofs.YtmlkienikeklfaaW.PrintWords Go.Proofs.YtmlkienikeklfaaW.PrintLast Go.Proofs.YtmlkienikeklfaaW.PrintMore
attribute [local go_sem] max2_int min2_int max_two min_two max_three min_three max_four min_four   -- for this text's walks alone
set_option linter.unusedVariables false
set_option linter.unusedSimpArgs false

/-! ### marquetryref01_Join: function 11 -/
mutual
def marquetryref01_Join.j0 : Nat → Int → Int → Bool → Option (Int)
  | 0, _, _, _ => none
  | k + 1, x0, x1, x21 => if x21 = true then (some 0) else (marquetryref01_Join.l0 k x0 x1 1 0)
def marquetryref01_Join.l0 : Nat → Int → Int → Int → Int → Option (Int)
  | 0, _, _, _, _ => none
  | k + 1, x0, x1, x5, x6 => if x6 < x0 then ((marquetryref01_Extra.f x6).bind fun t112 => (if 0 ≤ (IntKind.u64.wrap (t112)) then (marquetryref01_Join.l0 k x0 x1 (wrap64 (x5 + (shl .i64 1 (IntKind.u64.wrap (t112))))) (wrap64 (x6 + 1))) else (none))) else (some (wrap64 (x5 + (wrap64 (x1)))))
end
def marquetryref01_Join.f (k : Nat) (a0 : Int) (a1 : Int) : Option (Int) := if a0 < 0 then (marquetryref01_Join.j0 k a0 a1 true) else (if a0 > 39 then (marquetryref01_Join.j0 k a0 a1 true) else ((marquetryref01_Extra.f a0).bind fun t111 => (if 0 ≤ (IntKind.u64.wrap (t111)) then (marquetryref01_Join.j0 k a0 a1 (decide ((IntKind.u64.wrap (a1)) ≥ (shl .u64 1 (IntKind.u64.wrap (t111)))))) else (none))))
theorem marquetryref01_Join.mono_l : ∀ k, (∀ y0 y1 y2, LeO (marquetryref01_Join.j0 k y0 y1 y2) (marquetryref01_Join.j0 (k + 1) y0 y1 y2)) ∧ (∀ y0 y1 y2 y3, LeO (marquetryref01_Join.l0 k y0 y1 y2 y3) (marquetryref01_Join.l0 (k + 1) y0 y1 y2 y3))
  | 0 => ⟨fun _ _ _ r h => by simp [marquetryref01_Join.j0] at h, fun _ _ _ _ r h => by simp [marquetryref01_Join.l0] at h⟩
  | k + 1 => by
    obtain ⟨ih0, ih1⟩ := marquetryref01_Join.mono_l k
    refine ⟨?_, ?_⟩
    · intro y0 y1 y2
      unfold marquetryref01_Join.j0
      repeat' first
      | (with_reducible exact ih0 _ _ _)
      | (with_reducible exact ih1 _ _ _ _)
      | (with_reducible exact LeO.refl _)
      | (with_reducible exact LeO.none _)
      | (with_reducible refine LeO.ite ?_ ?_)
      | (with_reducible refine LeO.bind ?_ (fun _ => ?_))
      | exact ih0 _ _ _
      | exact ih1 _ _ _ _
      | exact LeO.none _
      | refine LeO.ite ?_ ?_
      | refine LeO.bind ?_ (fun _ => ?_)
    · intro y0 y1 y2 y3
      unfold marquetryref01_Join.l0
      repeat' first
      | (with_reducible exact ih0 _ _ _)
      | (with_reducible exact ih1 _ _ _ _)
      | (with_reducible exact LeO.refl _)
      | (with_reducible exact LeO.none _)
      | (with_reducible refine LeO.ite ?_ ?_)
      | (with_reducible refine LeO.bind ?_ (fun _ => ?_))
      | exact ih0 _ _ _
      | exact ih1 _ _ _ _
      | exact LeO.none _
      | refine LeO.ite ?_ ?_
      | refine LeO.bind ?_ (fun _ => ?_)
theorem marquetryref01_Join.mono : ∀ a0 a1 k, LeO (marquetryref01_Join.f k a0 a1) (marquetryref01_Join.f (k + 1) a0 a1) := by
  intro a0 a1 k
  obtain ⟨ih0, ih1⟩ := marquetryref01_Join.mono_l k
  unfold marquetryref01_Join.f
  repeat' first
      | (with_reducible exact ih0 _ _ _)
      | (with_reducible exact ih1 _ _ _ _)
      | (with_reducible exact LeO.refl _)
      | (with_reducible exact LeO.none _)
      | (with_reducible refine LeO.ite ?_ ?_)
      | (with_reducible refine LeO.bind ?_ (fun _ => ?_))
      | exact ih0 _ _ _
      | exact ih1 _ _ _ _
      | exact LeO.none _
      | refine LeO.ite ?_ ?_
      | refine LeO.bind ?_ (fun _ => ?_)
set_option maxHeartbeats 8000000 in
set_option maxRecDepth 100000 in
theorem marquetryref01_Join.calls (k : Nat) (a0 : Int) (a1 : Int) (r : Int) (w : World) (h : marquetryref01_Join.f k a0 a1 = some r) :
    Calls Try.prog 11 #[.int .i64 a0, .int .u32 a1] w fun e w' => e = .returned (.int .i64 r) ∧ Drawn0 w w' := by
  have H : (if a0 < 0 then (marquetryref01_Join.j0 k a0 a1 true) else (if a0 > 39 then (marquetryref01_Join.j0 k a0 a1 true) else ((marquetryref01_Extra.f a0).bind fun t111 => (if 0 ≤ (IntKind.u64.wrap (t111)) then (marquetryref01_Join.j0 k a0 a1 (decide ((IntKind.u64.wrap (a1)) ≥ (shl .u64 1 (IntKind.u64.wrap (t111)))))) else (none))))) = some r := h
  clear h
  have HC3 := Aside0.mk H
  clear H
  go_enter Try.func11, Try.ntmps11
  go_upto_region 1 with (fail)
  go_cut [21] (fun v21 wc => ∃ (kq : Nat) (x21_2 : Bool), v21 = .bool x21_2 ∧ Aside0 (marquetryref01_Join.j0 kq a0 a1 x21_2 = some r) ∧ Aside0 (kq ≤ k) ∧ Drawn0 w wc)
  case first =>
    have H := HC3.out
    clear HC3
    by_cases c4 : a0 < 0
    · rw [if_pos c4] at H
      have c4b0 : decide (a0 < 0) = true := decide_eq_true c4
      clear c4
      (first | rw [c4b0] | (simp only [i64_w, i32_w]; rw [c4b0]) | skip)
      have H' := Aside0.mk H
      clear H
      go_wp2
      go_meet
      case rel => exact ⟨_, (true), (by first | rfl | (simp; done) | (simp [*]; done)), H', ⟨by first | omega | exact Nat.le_refl _⟩, by repeat (first | exact Drawn0.refl _ | apply Drawn0.step)⟩
    · rw [if_neg c4] at H
      have c4b0 : decide (a0 < 0) = false := decide_eq_false c4
      clear c4
      (first | rw [c4b0] | (simp only [i64_w, i32_w]; rw [c4b0]) | skip)
      by_cases c5 : a0 > 39
      · rw [if_pos c5] at H
        have c5b0 : decide (39 < a0) = true := decide_eq_true c5
        clear c5
        have H' := Aside0.mk H
        clear H
        go_wp2
        go_meet
        case rel => exact ⟨_, (true), (by first | rfl | (simp; done) | (simp [*]; done)), H', ⟨by first | omega | exact Nat.le_refl _⟩, by repeat (first | exact Drawn0.refl _ | apply Drawn0.step)⟩
      · rw [if_neg c5] at H
        have c5b0 : decide (39 < a0) = false := decide_eq_false c5
        clear c5
        replace H := Option.bind_eq_some_iff.mp H
        obtain ⟨t111, A60, H⟩ := H
        replace H : (if 0 ≤ (IntKind.u64.wrap (t111)) then (marquetryref01_Join.j0 k a0 a1 (decide ((IntKind.u64.wrap (a1)) ≥ (shl .u64 1 (IntKind.u64.wrap (t111)))))) else (none)) = some r := H
        have A6 := Aside0.mk A60
        clear A60
        obtain ⟨ji7, hji7⟩ : ∃ j_ : Int, (IntKind.u64.wrap (t111)) = j_ := ⟨_, rfl⟩
        replace H : (if 0 ≤ (ji7) then (marquetryref01_Join.j0 k a0 a1 (decide ((IntKind.u64.wrap (a1)) ≥ (shl .u64 1 (ji7))))) else (none)) = some r := by first | (rw [hji7] at H; exact H) | (simp only [hji7] at H ⊢; exact H)
        (try rw [hji7] at A6)
        by_cases c8 : 0 ≤ (ji7)
        · rw [if_pos c8] at H
          have c8b0 := eq_true c8
          have c8b1 : decide (0 ≤ (ji7)) = true := decide_eq_true c8
          clear c8
          obtain ⟨ji9, hji9⟩ : ∃ j_ : Int, (shl .u64 1 (ji7)) = j_ := ⟨_, rfl⟩
          replace H : (marquetryref01_Join.j0 k a0 a1 (decide ((IntKind.u64.wrap (a1)) ≥ (ji9)))) = some r := by first | (rw [hji9] at H; exact H) | (simp only [hji9] at H ⊢; exact H)
          (try rw [hji9] at A6)
          have hji9_ : (IntKind.u64.wrap (1 * 2 ^ min (ji7).toNat 64)) = ji9 := hji9
          have hji9z : (ji7) ≤ 64 → (IntKind.u64.wrap (1 * 2 ^ (ji7).toNat)) = ji9 := shl_small hji9
          have hji9u : (IntKind.u64.wrap (2 ^ min (ji7).toNat 64)) = ji9 := by have h_ := hji9_; rw [Int.one_mul] at h_; exact h_
          have hji9v : (ji7) ≤ 64 → (IntKind.u64.wrap (2 ^ (ji7).toNat)) = ji9 := fun hle_ => by have h_ := hji9z hle_; rw [Int.one_mul] at h_; exact h_
          have H' := Aside0.mk H
          clear H
          go_wp2_with (first | (go_at_call 9; (with_reducible refine (marquetryref01_Extra.calls a0 t111 _ A6.out).mono ?_); rintro e w' ⟨rfl, ⟨nd, rfl⟩⟩))
          go_meet
          case rel => exact ⟨_, (decide ((IntKind.u64.wrap (a1)) ≥ (ji9))), (by first | rfl | (simp; done) | (simp only [← hji9] <;> (first | rfl | simp)) | (simp [*]; done)), H', ⟨by first | omega | exact Nat.le_refl _⟩, by repeat (first | exact Drawn0.refl _ | apply Drawn0.step)⟩
        · rw [if_neg c8] at H
          exact absurd H (by simp)
  case rest =>
    clear HC3
    try clear c1
    try clear p2
    try clear c4
    try clear c4b0
    try clear c5
    try clear c5b0
    try clear c8
    try clear c8b0
    try clear c8b1
    obtain ⟨kq, x21_2, rfl, HA, HJ2, ⟨mc2, rfl⟩⟩ := hcut
    cases kq with
    | zero => exact absurd HA.out (by simp [marquetryref01_Join.j0])
    | succ kj2 =>
      have H := HA.out
      clear HA
      simp only [marquetryref01_Join.j0] at H
      by_cases c10 : x21_2 = true
      · subst c10
        have H1 : (some 0) = some r := by rw [if_pos rfl] at H; exact H
        clear H
        have H := H1
        clear H1
        obtain rfl := Option.some.inj H
        go_wp2
        go_ret
        exact ⟨by first | rfl | (simp; done) | (simp [*]; done), by repeat (first | exact Drawn0.refl _ | apply Drawn0.step)⟩
      · replace c10 := Bool.eq_false_iff.mpr c10
        subst c10
        have H1 : (marquetryref01_Join.l0 kj2 a0 a1 1 0) = some r := by rw [if_neg (show ¬ (false = true) by decide)] at H; exact H
        clear H
        have H := H1
        clear H1
        have H' := Aside0.mk H
        clear H
        go_wp2
        go_loopg [5, 6] kj2 (fun kq v5 v6 w' => ∃ (x5_2 : Int) (x6_2 : Int), v5 = .int .i64 x5_2 ∧ v6 = .int .i64 x6_2 ∧ Aside0 (marquetryref01_Join.l0 kq a0 a1 x5_2 x6_2 = some r) ∧ Aside0 (kq ≤ kj2) ∧ Drawn0 w w')
        case atStart => exact ⟨(1), (0), (by first | rfl | (simp; done) | (simp [*]; done)), (by first | rfl | (simp; done) | (simp [*]; done)), H', ⟨Nat.le_refl _⟩, by repeat (first | exact Drawn0.refl _ | apply Drawn0.step)⟩
        case round =>
          clear H'
          try clear c1
          try clear c2
          try clear p2
          try clear c4
          try clear c4b0
          try clear c5
          try clear c5b0
          try clear c8
          try clear c8b0
          try clear c8b1
          try clear c10
          try clear p2
          obtain ⟨x5_2, x6_2, rfl, rfl, HA, HK2, ⟨m2, rfl⟩⟩ := hrel
          cases gk with
          | zero => exact absurd HA.out (by simp [marquetryref01_Join.l0])
          | succ k2 =>
            have H := HA.out
            clear HA
            simp only [marquetryref01_Join.l0] at H
            by_cases c11 : x6_2 < a0
            · rw [if_pos c11] at H
              have c11b0 : decide (x6_2 < a0) = true := decide_eq_true c11
              clear c11
              replace H := Option.bind_eq_some_iff.mp H
              obtain ⟨t112, A120, H⟩ := H
              replace H : (if 0 ≤ (IntKind.u64.wrap (t112)) then (marquetryref01_Join.l0 k2 a0 a1 (wrap64 (x5_2 + (shl .i64 1 (IntKind.u64.wrap (t112))))) (wrap64 (x6_2 + 1))) else (none)) = some r := H
              have A12 := Aside0.mk A120
              clear A120
              obtain ⟨ji13, hji13⟩ : ∃ j_ : Int, (IntKind.u64.wrap (t112)) = j_ := ⟨_, rfl⟩
              replace H : (if 0 ≤ (ji13) then (marquetryref01_Join.l0 k2 a0 a1 (wrap64 (x5_2 + (shl .i64 1 (ji13)))) (wrap64 (x6_2 + 1))) else (none)) = some r := by first | (rw [hji13] at H; exact H) | (simp only [hji13] at H ⊢; exact H)
              (try rw [hji13] at A12)
              by_cases c14 : 0 ≤ (ji13)
              · rw [if_pos c14] at H
                have c14b0 := eq_true c14
                have c14b1 : decide (0 ≤ (ji13)) = true := decide_eq_true c14
                clear c14
                obtain ⟨ji15, hji15⟩ : ∃ j_ : Int, (shl .i64 1 (ji13)) = j_ := ⟨_, rfl⟩
                replace H : (marquetryref01_Join.l0 k2 a0 a1 (wrap64 (x5_2 + (ji15))) (wrap64 (x6_2 + 1))) = some r := by first | (rw [hji15] at H; exact H) | (simp only [hji15] at H ⊢; exact H)
                (try rw [hji15] at A12)
                have hji15_ : (IntKind.i64.wrap (1 * 2 ^ min (ji13).toNat 64)) = ji15 := hji15
                have hji15z : (ji13) ≤ 64 → (IntKind.i64.wrap (1 * 2 ^ (ji13).toNat)) = ji15 := shl_small hji15
                have hji15u : (IntKind.i64.wrap (2 ^ min (ji13).toNat 64)) = ji15 := by have h_ := hji15_; rw [Int.one_mul] at h_; exact h_
                have hji15v : (ji13) ≤ 64 → (IntKind.i64.wrap (2 ^ (ji13).toNat)) = ji15 := fun hle_ => by have h_ := hji15z hle_; rw [Int.one_mul] at h_; exact h_
                have hji15y : (wrap64 (1 * 2 ^ min (ji13).toNat 64)) = ji15 := (i64_w _).symm.trans hji15_
                have hji15x : (ji13) ≤ 64 → (wrap64 (1 * 2 ^ (ji13).toNat)) = ji15 := fun h_ => (i64_w _).symm.trans (hji15z h_)
                have H' := Aside0.mk H
                clear H
                go_wp2_with (first | ((with_reducible refine gate_callee (f := 9) rfl ?_); refine goesL_ (some 29) rfl rfl Try.func9 (by kernel_rfl) rfl #[.int .i64 x6_2] rfl (by (try simp only [List.map_toArray, List.map_cons, List.map_nil]); first | done | rfl | (simp only [List.length_drop, List.length_take]; rfl)) ?_; (with_reducible refine (marquetryref01_Extra.calls x6_2 t112 _ A12.out).mono ?_); rintro e w' ⟨rfl, ⟨nd, rfl⟩⟩; refine ⟨_, rfl, ?_⟩))
                go_roundg k2
                case measure => have := HJ2.out; have := HK2.out; omega
                case rel => exact ⟨(wrap64 (x5_2 + (ji15))), (wrap64 (x6_2 + 1)), (by first | rfl | (simp; done) | (simp only [← hji15] <;> (first | rfl | simp)) | (simp [*]; done)), (by first | rfl | (simp; done) | (simp [*]; done)), H', ⟨by have := HJ2.out; have := HK2.out; omega⟩, by repeat (first | exact Drawn0.refl _ | apply Drawn0.step)⟩
              · rw [if_neg c14] at H
                exact absurd H (by simp)
            · rw [if_neg c11] at H
              have c11b0 : decide (x6_2 < a0) = false := decide_eq_false c11
              clear c11
              obtain rfl := Option.some.inj H
              go_wp2
              go_ret
              exact ⟨by first | rfl | (simp; done) | (simp [*]; done), by repeat (first | exact Drawn0.refl _ | apply Drawn0.step)⟩

/-! ### marquetrylaw08_ValueJoins: function 3 -/
def marquetrylaw08_ValueJoins.f (k : Nat) (a0 : Int) (a1 : Int) : Option (Bool) := (marquetrylaw08_answers.f k).bind fun t113 => (if t113 = true then ((value_Extra.f a0).bind fun t114 => ((marquetryref01_Extra.f a0).bind fun t115 => (if t114 = t115 then ((value_Join.f k a0 a1).bind fun t116 => ((marquetryref01_Join.f k a0 a1).bind fun t117 => (some (t116 == t117)))) else (some false)))) else (some false))
theorem marquetrylaw08_ValueJoins.mono : ∀ a0 a1 k, LeO (marquetrylaw08_ValueJoins.f k a0 a1) (marquetrylaw08_ValueJoins.f (k + 1) a0 a1) := by
  intro a0 a1 k
  unfold marquetrylaw08_ValueJoins.f
  repeat' first
      | (with_reducible exact marquetrylaw08_answers.mono _)
      | (with_reducible exact marquetryref01_Join.mono _ _ _)
      | (with_reducible exact value_Join.mono _ _ _)
      | (with_reducible exact LeO.refl _)
      | (with_reducible exact LeO.none _)
      | (with_reducible refine LeO.ite ?_ ?_)
      | (with_reducible refine LeO.bind ?_ (fun _ => ?_))
      | exact marquetrylaw08_answers.mono _
      | exact marquetryref01_Join.mono _ _ _
      | exact value_Join.mono _ _ _
      | exact LeO.none _
      | refine LeO.ite ?_ ?_
      | refine LeO.bind ?_ (fun _ => ?_)
set_option maxHeartbeats 8000000 in
set_option maxRecDepth 100000 in
theorem marquetrylaw08_ValueJoins.calls (k : Nat) (a0 : Int) (a1 : Int) (r : Bool) (w : World) (h : marquetrylaw08_ValueJoins.f k a0 a1 = some r) :
    Calls Try.prog 3 #[.int .i64 a0, .int .u32 a1] w fun e w' => e = .returned (.bool r) ∧ Drawn0 w w' := by
  have H : ((marquetrylaw08_answers.f k).bind fun t113 => (if t113 = true then ((value_Extra.f a0).bind fun t114 => ((marquetryref01_Extra.f a0).bind fun t115 => (if t114 = t115 then ((value_Join.f k a0 a1).bind fun t116 => ((marquetryref01_Join.f k a0 a1).bind fun t117 => (some (t116 == t117)))) else (some false)))) else (some false))) = some r := h
  clear h
  replace H := Option.bind_eq_some_iff.mp H
  obtain ⟨t113, A30, H⟩ := H
  replace H : (if t113 = true then ((value_Extra.f a0).bind fun t114 => ((marquetryref01_Extra.f a0).bind fun t115 => (if t114 = t115 then ((value_Join.f k a0 a1).bind fun t116 => ((marquetryref01_Join.f k a0 a1).bind fun t117 => (some (t116 == t117)))) else (some false)))) else (some false)) = some r := H
  have A3 := Aside0.mk A30
  clear A30
  by_cases c4 : t113 = true
  · subst c4
    have H1 : ((value_Extra.f a0).bind fun t114 => ((marquetryref01_Extra.f a0).bind fun t115 => (if t114 = t115 then ((value_Join.f k a0 a1).bind fun t116 => ((marquetryref01_Join.f k a0 a1).bind fun t117 => (some (t116 == t117)))) else (some false)))) = some r := by rw [if_pos rfl] at H; exact H
    clear H
    have H := H1
    clear H1
    replace H := Option.bind_eq_some_iff.mp H
    obtain ⟨t114, A50, H⟩ := H
    replace H : ((marquetryref01_Extra.f a0).bind fun t115 => (if t114 = t115 then ((value_Join.f k a0 a1).bind fun t116 => ((marquetryref01_Join.f k a0 a1).bind fun t117 => (some (t116 == t117)))) else (some false))) = some r := H
    have A5 := Aside0.mk A50
    clear A50
    replace H := Option.bind_eq_some_iff.mp H
    obtain ⟨t115, A60, H⟩ := H
    replace H : (if t114 = t115 then ((value_Join.f k a0 a1).bind fun t116 => ((marquetryref01_Join.f k a0 a1).bind fun t117 => (some (t116 == t117)))) else (some false)) = some r := H
    have A6 := Aside0.mk A60
    clear A60
    by_cases c7 : t114 = t115
    · rw [if_pos c7] at H
      have c7b0 : (t114 == t115) = true := beq_iff_eq.mpr c7
      have c7b1 : (t114 != t115) = false := bne_eq_false_iff_eq.mpr c7
      clear c7
      replace H := Option.bind_eq_some_iff.mp H
      obtain ⟨t116, A80, H⟩ := H
      replace H : ((marquetryref01_Join.f k a0 a1).bind fun t117 => (some (t116 == t117))) = some r := H
      have A8 := Aside0.mk A80
      clear A80
      replace H := Option.bind_eq_some_iff.mp H
      obtain ⟨t117, A90, H⟩ := H
      replace H : (some (t116 == t117)) = some r := H
      have A9 := Aside0.mk A90
      clear A90
      obtain rfl := Option.some.inj H
      go_enter Try.func3, Try.ntmps3
      go_wp2_with (first | ((with_reducible refine gate_callee (f := 7) rfl ?_); refine goesL_ (some 5) rfl rfl Try.func7 (by kernel_rfl) rfl #[] rfl (by (try simp only [List.map_toArray, List.map_cons, List.map_nil]); first | done | rfl | (simp only [List.length_drop, List.length_take]; rfl)) ?_; (with_reducible refine (marquetrylaw08_answers.calls k  true _ A3.out).mono ?_); rintro e w' ⟨rfl, ⟨nd, rfl⟩⟩; refine ⟨_, rfl, ?_⟩) | (go_at_call 8; (with_reducible refine (value_Extra.calls a0 t114 _ A5.out).mono ?_); rintro e w' ⟨rfl, ⟨nd, rfl⟩⟩) | (go_at_call 9; (with_reducible refine (marquetryref01_Extra.calls a0 t115 _ A6.out).mono ?_); rintro e w' ⟨rfl, ⟨nd, rfl⟩⟩) | (go_at_call 10; (with_reducible refine (value_Join.calls k a0 a1 t116 _ A8.out).mono ?_); rintro e w' ⟨rfl, ⟨nd, rfl⟩⟩) | (go_at_call 11; (with_reducible refine (marquetryref01_Join.calls k a0 a1 t117 _ A9.out).mono ?_); rintro e w' ⟨rfl, ⟨nd, rfl⟩⟩))
      go_ret
      exact ⟨by first | rfl | (simp; done) | (simp [*]; done), by repeat (first | exact Drawn0.refl _ | apply Drawn0.step)⟩
    · rw [if_neg c7] at H
      have c7b0 : (t114 == t115) = false := beq_eq_false_iff_ne.mpr c7
      have c7b1 : (t114 != t115) = true := bne_iff_ne.mpr c7
      obtain rfl := Option.some.inj H
      go_enter Try.func3, Try.ntmps3
      go_wp2_with (first | ((with_reducible refine gate_callee (f := 7) rfl ?_); refine goesL_ (some 5) rfl rfl Try.func7 (by kernel_rfl) rfl #[] rfl (by (try simp only [List.map_toArray, List.map_cons, List.map_nil]); first | done | rfl | (simp only [List.length_drop, List.length_take]; rfl)) ?_; (with_reducible refine (marquetrylaw08_answers.calls k  true _ A3.out).mono ?_); rintro e w' ⟨rfl, ⟨nd, rfl⟩⟩; refine ⟨_, rfl, ?_⟩) | (go_at_call 8; (with_reducible refine (value_Extra.calls a0 t114 _ A5.out).mono ?_); rintro e w' ⟨rfl, ⟨nd, rfl⟩⟩) | (go_at_call 9; (with_reducible refine (marquetryref01_Extra.calls a0 t115 _ A6.out).mono ?_); rintro e w' ⟨rfl, ⟨nd, rfl⟩⟩))
      go_ret
      exact ⟨by first | rfl | (simp; done) | (simp [*]; done), by repeat (first | exact Drawn0.refl _ | apply Drawn0.step)⟩
  · replace c4 := Bool.eq_false_iff.mpr c4
    subst c4
    have H1 : (some false) = some r := by rw [if_neg (show ¬ (false = true) by decide)] at H; exact H
    clear H
    have H := H1
    clear H1
    obtain rfl := Option.some.inj H
    go_enter Try.func3, Try.ntmps3
    go_wp2_with (first | ((with_reducible refine gate_callee (f := 7) rfl ?_); refine goesL_ (some 5) rfl rfl Try.func7 (by kernel_rfl) rfl #[] rfl (by (try simp only [List.map_toArray, List.map_cons, List.map_nil]); first | done | rfl | (simp only [List.length_drop, List.length_take]; rfl)) ?_; (with_reducible refine (marquetrylaw08_answers.calls k  false _ A3.out).mono ?_); rintro e w' ⟨rfl, ⟨nd, rfl⟩⟩; refine ⟨_, rfl, ?_⟩))
    go_ret
    exact ⟨by first | rfl | (simp; done) | (simp [*]; done), by repeat (first | exact Drawn0.refl _ | apply Drawn0.step)⟩

/-- THE ONE PURE STATEMENT of marquetrylaw08_ValueJoins: yours. -/
def marquetrylaw08_ValueJoins.Pure : Prop := ∀ (a0 : Int) (a1 : Int), (Lit.int .i64 a0).wf = true → (Lit.int .u32 a1).wf = true → ∃ k, marquetrylaw08_ValueJoins.f k a0 a1 = some true
theorem marquetrylaw08_ValueJoins.walk (P : marquetrylaw08_ValueJoins.Pure) (a0 : Int) (a1 : Int) (w : World) (w0 : (Lit.int .i64 a0).wf = true) (w1 : (Lit.int .u32 a1).wf = true) :
    Calls Try.prog 3 #[.int .i64 a0, .int .u32 a1] w fun e w' => e = .returned (.bool true) ∧ Below w.heap.size w w' := by
  obtain ⟨k, h⟩ := P a0 a1 w0 w1
  refine (marquetrylaw08_ValueJoins.calls k a0 a1 true w h).mono ?_
  rintro e w' ⟨rfl, hd⟩
  exact ⟨rfl, hd.below⟩

/-! ### marquetrylaw08_ValueBack: function 4 -/
def marquetrylaw08_ValueBack.j0 : Nat → Int → Int → Int → Int → Bool → Option (Bool)
  | 0, _, _, _, _, _ => none
  | k + 1, x0, x3, x4, x5, x17 => if x17 = true then ((marquetrylaw08_answers.f k).bind fun t121 => (if t121 = true then (if x3 = 0 then (if x4 = 0 then (some (x5 == 0)) else (some false)) else (some false)) else (some false))) else ((marquetrylaw08_answers.f k).bind fun t122 => (if t122 = true then (if x3 ≥ 0 then (if x3 < 40 then ((marquetryref01_Extra.f x3).bind fun t123 => (if x4 = t123 then (if 0 ≤ (IntKind.u64.wrap (x4)) then (if (IntKind.u64.wrap (x5)) < (shl .u64 1 (IntKind.u64.wrap (x4))) then ((marquetryref01_Join.f k x3 x5).bind fun t124 => (some (t124 == x0))) else (some false)) else (none)) else (some false))) else (some false)) else (some false)) else (some false)))
def marquetrylaw08_ValueBack.f (k : Nat) (a0 : Int) : Option (Bool) := (value_Split.f k a0).bind fun bt118 => (if a0 < 1 then (marquetrylaw08_ValueBack.j0 k a0 bt118.1 bt118.2.1 bt118.2.2 true) else (marquetrylaw08_ValueBack.j0 k a0 bt118.1 bt118.2.1 bt118.2.2 (decide (a0 > 1048576))))
theorem marquetrylaw08_ValueBack.mono_l : ∀ k, (∀ y0 y1 y2 y3 y4, LeO (marquetrylaw08_ValueBack.j0 k y0 y1 y2 y3 y4) (marquetrylaw08_ValueBack.j0 (k + 1) y0 y1 y2 y3 y4))
  | 0 => fun _ _ _ _ _ r h => by simp [marquetrylaw08_ValueBack.j0] at h
  | k + 1 => by
    have ih0 := marquetrylaw08_ValueBack.mono_l k
    · intro y0 y1 y2 y3 y4
      unfold marquetrylaw08_ValueBack.j0
      repeat' first
      | (with_reducible exact ih0 _ _ _ _ _)
      | (with_reducible exact marquetrylaw08_answers.mono _)
      | (with_reducible exact marquetryref01_Join.mono _ _ _)
      | (with_reducible exact value_Split.mono _ _)
      | (with_reducible exact LeO.refl _)
      | (with_reducible exact LeO.none _)
      | (with_reducible refine LeO.ite ?_ ?_)
      | (with_reducible refine LeO.bind ?_ (fun _ => ?_))
      | exact ih0 _ _ _ _ _
      | exact marquetrylaw08_answers.mono _
      | exact marquetryref01_Join.mono _ _ _
      | exact value_Split.mono _ _
      | exact LeO.none _
      | refine LeO.ite ?_ ?_
      | refine LeO.bind ?_ (fun _ => ?_)
theorem marquetrylaw08_ValueBack.mono : ∀ a0 k, LeO (marquetrylaw08_ValueBack.f k a0) (marquetrylaw08_ValueBack.f (k + 1) a0) := by
  intro a0 k
  have ih0 := marquetrylaw08_ValueBack.mono_l k
  unfold marquetrylaw08_ValueBack.f
  repeat' first
      | (with_reducible exact ih0 _ _ _ _ _)
      | (with_reducible exact marquetrylaw08_answers.mono _)
      | (with_reducible exact marquetryref01_Join.mono _ _ _)
      | (with_reducible exact value_Split.mono _ _)
      | (with_reducible exact LeO.refl _)
      | (with_reducible exact LeO.none _)
      | (with_reducible refine LeO.ite ?_ ?_)
      | (with_reducible refine LeO.bind ?_ (fun _ => ?_))
      | exact ih0 _ _ _ _ _
      | exact marquetrylaw08_answers.mono _
      | exact marquetryref01_Join.mono _ _ _
      | exact value_Split.mono _ _
      | exact LeO.none _
      | refine LeO.ite ?_ ?_
      | refine LeO.bind ?_ (fun _ => ?_)
set_option maxHeartbeats 8000000 in
set_option maxRecDepth 100000 in
theorem marquetrylaw08_ValueBack.calls (k : Nat) (a0 : Int) (r : Bool) (w : World) (h : marquetrylaw08_ValueBack.f k a0 = some r) :
    Calls Try.prog 4 #[.int .i64 a0] w fun e w' => e = .returned (.bool r) ∧ Drawn0 w w' := by
  have H : ((value_Split.f k a0).bind fun bt118 => (if a0 < 1 then (marquetrylaw08_ValueBack.j0 k a0 bt118.1 bt118.2.1 bt118.2.2 true) else (marquetrylaw08_ValueBack.j0 k a0 bt118.1 bt118.2.1 bt118.2.2 (decide (a0 > 1048576))))) = some r := h
  clear h
  replace H := Option.bind_eq_some_iff.mp H
  obtain ⟨⟨t118, t119, t120⟩, A20, H⟩ := H
  replace H : (if a0 < 1 then (marquetrylaw08_ValueBack.j0 k a0 t118 t119 t120 true) else (marquetrylaw08_ValueBack.j0 k a0 t118 t119 t120 (decide (a0 > 1048576)))) = some r := H
  have A2 := Aside0.mk A20
  clear A20
  have HC3 := Aside0.mk H
  clear H
  go_enter Try.func4, Try.ntmps4
  go_upto_region 2 with (first | ((with_reducible refine gate_callee (f := 12) rfl ?_); refine goesL_ (some 8) rfl rfl Try.func12 (by kernel_rfl) rfl #[.int .i64 a0] rfl (by (try simp only [List.map_toArray, List.map_cons, List.map_nil]); first | done | rfl | (simp only [List.length_drop, List.length_take]; rfl)) ?_; (with_reducible refine (value_Split.calls k a0 t118 t119 t120 _ A2.out).mono ?_); rintro e w' ⟨rfl, ⟨nd, rfl⟩⟩; refine ⟨_, rfl, ?_⟩))
  (try simp only [Act.put, List.setIfInBounds_toArray, List.set_cons_zero, List.set_cons_succ])
  go_cut [17] (fun v17 wc => ∃ (kq : Nat) (x17_2 : Bool), v17 = .bool x17_2 ∧ Aside0 (marquetrylaw08_ValueBack.j0 kq a0 t118 t119 t120 x17_2 = some r) ∧ Aside0 (kq ≤ k) ∧ Drawn0 w wc)
  case first =>
    have H := HC3.out
    clear HC3
    by_cases c4 : a0 < 1
    · rw [if_pos c4] at H
      have c4b0 : decide (a0 < 1) = true := decide_eq_true c4
      clear c4
      (first | rw [c4b0] | (simp only [i64_w, i32_w]; rw [c4b0]) | skip)
      have H' := Aside0.mk H
      clear H
      go_wp2
      go_meet
      case rel => exact ⟨_, (true), (by first | rfl | (simp; done) | (simp [*]; done)), H', ⟨by first | omega | exact Nat.le_refl _⟩, by repeat (first | exact Drawn0.refl _ | apply Drawn0.step)⟩
    · rw [if_neg c4] at H
      have c4b0 : decide (a0 < 1) = false := decide_eq_false c4
      clear c4
      (first | rw [c4b0] | (simp only [i64_w, i32_w]; rw [c4b0]) | skip)
      have H' := Aside0.mk H
      clear H
      go_wp2
      go_meet
      case rel => exact ⟨_, (decide (a0 > 1048576)), (by first | rfl | (simp; done) | (simp [*]; done)), H', ⟨by first | omega | exact Nat.le_refl _⟩, by repeat (first | exact Drawn0.refl _ | apply Drawn0.step)⟩
  case rest =>
    clear HC3
    try clear c1
    try clear p2
    try clear c4
    try clear c4b0
    obtain ⟨kq, x17_2, rfl, HA, HJ2, ⟨mc2, rfl⟩⟩ := hcut
    cases kq with
    | zero => exact absurd HA.out (by simp [marquetrylaw08_ValueBack.j0])
    | succ kj2 =>
      have H := HA.out
      clear HA
      simp only [marquetrylaw08_ValueBack.j0] at H
      by_cases c5 : x17_2 = true
      · subst c5
        have H1 : ((marquetrylaw08_answers.f kj2).bind fun t121 => (if t121 = true then (if t118 = 0 then (if t119 = 0 then (some (t120 == 0)) else (some false)) else (some false)) else (some false))) = some r := by rw [if_pos rfl] at H; exact H
        clear H
        have H := H1
        clear H1
        replace H := Option.bind_eq_some_iff.mp H
        obtain ⟨t121, A60, H⟩ := H
        replace H : (if t121 = true then (if t118 = 0 then (if t119 = 0 then (some (t120 == 0)) else (some false)) else (some false)) else (some false)) = some r := H
        have A6 := Aside0.mk A60
        clear A60
        by_cases c7 : t121 = true
        · subst c7
          have H1 : (if t118 = 0 then (if t119 = 0 then (some (t120 == 0)) else (some false)) else (some false)) = some r := by rw [if_pos rfl] at H; exact H
          clear H
          have H := H1
          clear H1
          by_cases c8 : t118 = 0
          · rw [if_pos c8] at H
            have c8b0 : (t118 == 0) = true := beq_iff_eq.mpr c8
            have c8b1 : (t118 != 0) = false := bne_eq_false_iff_eq.mpr c8
            clear c8
            by_cases c9 : t119 = 0
            · rw [if_pos c9] at H
              have c9b0 : (t119 == 0) = true := beq_iff_eq.mpr c9
              have c9b1 : (t119 != 0) = false := bne_eq_false_iff_eq.mpr c9
              clear c9
              obtain rfl := Option.some.inj H
              go_wp2_with (first | ((with_reducible refine gate_callee (f := 7) rfl ?_); refine goesL_ (some 18) rfl rfl Try.func7 (by kernel_rfl) rfl #[] rfl (by (try simp only [List.map_toArray, List.map_cons, List.map_nil]); first | done | rfl | (simp only [List.length_drop, List.length_take]; rfl)) ?_; (with_reducible refine (marquetrylaw08_answers.calls kj2  true _ A6.out).mono ?_); rintro e w' ⟨rfl, ⟨nd, rfl⟩⟩; refine ⟨_, rfl, ?_⟩))
              go_ret
              exact ⟨by first | rfl | (simp; done) | (simp [*]; done), by repeat (first | exact Drawn0.refl _ | apply Drawn0.step)⟩
            · rw [if_neg c9] at H
              have c9b0 : (t119 == 0) = false := beq_eq_false_iff_ne.mpr c9
              have c9b1 : (t119 != 0) = true := bne_iff_ne.mpr c9
              obtain rfl := Option.some.inj H
              go_wp2_with (first | ((with_reducible refine gate_callee (f := 7) rfl ?_); refine goesL_ (some 18) rfl rfl Try.func7 (by kernel_rfl) rfl #[] rfl (by (try simp only [List.map_toArray, List.map_cons, List.map_nil]); first | done | rfl | (simp only [List.length_drop, List.length_take]; rfl)) ?_; (with_reducible refine (marquetrylaw08_answers.calls kj2  true _ A6.out).mono ?_); rintro e w' ⟨rfl, ⟨nd, rfl⟩⟩; refine ⟨_, rfl, ?_⟩))
              go_ret
              exact ⟨by first | rfl | (simp; done) | (simp [*]; done), by repeat (first | exact Drawn0.refl _ | apply Drawn0.step)⟩
          · rw [if_neg c8] at H
            have c8b0 : (t118 == 0) = false := beq_eq_false_iff_ne.mpr c8
            have c8b1 : (t118 != 0) = true := bne_iff_ne.mpr c8
            obtain rfl := Option.some.inj H
            go_wp2_with (first | ((with_reducible refine gate_callee (f := 7) rfl ?_); refine goesL_ (some 18) rfl rfl Try.func7 (by kernel_rfl) rfl #[] rfl (by (try simp only [List.map_toArray, List.map_cons, List.map_nil]); first | done | rfl | (simp only [List.length_drop, List.length_take]; rfl)) ?_; (with_reducible refine (marquetrylaw08_answers.calls kj2  true _ A6.out).mono ?_); rintro e w' ⟨rfl, ⟨nd, rfl⟩⟩; refine ⟨_, rfl, ?_⟩))
            go_ret
            exact ⟨by first | rfl | (simp; done) | (simp [*]; done), by repeat (first | exact Drawn0.refl _ | apply Drawn0.step)⟩
        · replace c7 := Bool.eq_false_iff.mpr c7
          subst c7
          have H1 : (some false) = some r := by rw [if_neg (show ¬ (false = true) by decide)] at H; exact H
          clear H
          have H := H1
          clear H1
          obtain rfl := Option.some.inj H
          go_wp2_with (first | ((with_reducible refine gate_callee (f := 7) rfl ?_); refine goesL_ (some 18) rfl rfl Try.func7 (by kernel_rfl) rfl #[] rfl (by (try simp only [List.map_toArray, List.map_cons, List.map_nil]); first | done | rfl | (simp only [List.length_drop, List.length_take]; rfl)) ?_; (with_reducible refine (marquetrylaw08_answers.calls kj2  false _ A6.out).mono ?_); rintro e w' ⟨rfl, ⟨nd, rfl⟩⟩; refine ⟨_, rfl, ?_⟩))
          go_ret
          exact ⟨by first | rfl | (simp; done) | (simp [*]; done), by repeat (first | exact Drawn0.refl _ | apply Drawn0.step)⟩
      · replace c5 := Bool.eq_false_iff.mpr c5
        subst c5
        have H1 : ((marquetrylaw08_answers.f kj2).bind fun t122 => (if t122 = true then (if t118 ≥ 0 then (if t118 < 40 then ((marquetryref01_Extra.f t118).bind fun t123 => (if t119 = t123 then (if 0 ≤ (IntKind.u64.wrap (t119)) then (if (IntKind.u64.wrap (t120)) < (shl .u64 1 (IntKind.u64.wrap (t119))) then ((marquetryref01_Join.f kj2 t118 t120).bind fun t124 => (some (t124 == a0))) else (some false)) else (none)) else (some false))) else (some false)) else (some false)) else (some false))) = some r := by rw [if_neg (show ¬ (false = true) by decide)] at H; exact H
        clear H
        have H := H1
        clear H1
        replace H := Option.bind_eq_some_iff.mp H
        obtain ⟨t122, A100, H⟩ := H
        replace H : (if t122 = true then (if t118 ≥ 0 then (if t118 < 40 then ((marquetryref01_Extra.f t118).bind fun t123 => (if t119 = t123 then (if 0 ≤ (IntKind.u64.wrap (t119)) then (if (IntKind.u64.wrap (t120)) < (shl .u64 1 (IntKind.u64.wrap (t119))) then ((marquetryref01_Join.f kj2 t118 t120).bind fun t124 => (some (t124 == a0))) else (some false)) else (none)) else (some false))) else (some false)) else (some false)) else (some false)) = some r := H
        have A10 := Aside0.mk A100
        clear A100
        by_cases c11 : t122 = true
        · subst c11
          have H1 : (if t118 ≥ 0 then (if t118 < 40 then ((marquetryref01_Extra.f t118).bind fun t123 => (if t119 = t123 then (if 0 ≤ (IntKind.u64.wrap (t119)) then (if (IntKind.u64.wrap (t120)) < (shl .u64 1 (IntKind.u64.wrap (t119))) then ((marquetryref01_Join.f kj2 t118 t120).bind fun t124 => (some (t124 == a0))) else (some false)) else (none)) else (some false))) else (some false)) else (some false)) = some r := by rw [if_pos rfl] at H; exact H
          clear H
          have H := H1
          clear H1
          by_cases c12 : t118 ≥ 0
          · rw [if_pos c12] at H
            have c12b0 : decide (0 ≤ t118) = true := decide_eq_true c12
            clear c12
            by_cases c13 : t118 < 40
            · rw [if_pos c13] at H
              have c13b0 : decide (t118 < 40) = true := decide_eq_true c13
              clear c13
              replace H := Option.bind_eq_some_iff.mp H
              obtain ⟨t123, A140, H⟩ := H
              replace H : (if t119 = t123 then (if 0 ≤ (IntKind.u64.wrap (t119)) then (if (IntKind.u64.wrap (t120)) < (shl .u64 1 (IntKind.u64.wrap (t119))) then ((marquetryref01_Join.f kj2 t118 t120).bind fun t124 => (some (t124 == a0))) else (some false)) else (none)) else (some false)) = some r := H
              have A14 := Aside0.mk A140
              clear A140
              by_cases c15 : t119 = t123
              · rw [if_pos c15] at H
                have c15b0 : (t119 == t123) = true := beq_iff_eq.mpr c15
                have c15b1 : (t119 != t123) = false := bne_eq_false_iff_eq.mpr c15
                clear c15
                obtain ⟨ji16, hji16⟩ : ∃ j_ : Int, (IntKind.u64.wrap (t119)) = j_ := ⟨_, rfl⟩
                replace H : (if 0 ≤ (ji16) then (if (IntKind.u64.wrap (t120)) < (shl .u64 1 (ji16)) then ((marquetryref01_Join.f kj2 t118 t120).bind fun t124 => (some (t124 == a0))) else (some false)) else (none)) = some r := by first | (rw [hji16] at H; exact H) | (simp only [hji16] at H ⊢; exact H)
                (try rw [hji16] at A10)
                (try rw [hji16] at A14)
                by_cases c17 : 0 ≤ (ji16)
                · rw [if_pos c17] at H
                  have c17b0 := eq_true c17
                  have c17b1 : decide (0 ≤ (ji16)) = true := decide_eq_true c17
                  clear c17
                  obtain ⟨ji18, hji18⟩ : ∃ j_ : Int, (shl .u64 1 (ji16)) = j_ := ⟨_, rfl⟩
                  replace H : (if (IntKind.u64.wrap (t120)) < (ji18) then ((marquetryref01_Join.f kj2 t118 t120).bind fun t124 => (some (t124 == a0))) else (some false)) = some r := by first | (rw [hji18] at H; exact H) | (simp only [hji18] at H ⊢; exact H)
                  (try rw [hji18] at A10)
                  (try rw [hji18] at A14)
                  have hji18_ : (IntKind.u64.wrap (1 * 2 ^ min (ji16).toNat 64)) = ji18 := hji18
                  have hji18z : (ji16) ≤ 64 → (IntKind.u64.wrap (1 * 2 ^ (ji16).toNat)) = ji18 := shl_small hji18
                  have hji18u : (IntKind.u64.wrap (2 ^ min (ji16).toNat 64)) = ji18 := by have h_ := hji18_; rw [Int.one_mul] at h_; exact h_
                  have hji18v : (ji16) ≤ 64 → (IntKind.u64.wrap (2 ^ (ji16).toNat)) = ji18 := fun hle_ => by have h_ := hji18z hle_; rw [Int.one_mul] at h_; exact h_
                  by_cases c19 : (IntKind.u64.wrap (t120)) < (ji18)
                  · rw [if_pos c19] at H
                    have c19b0 : decide ((IntKind.u64.wrap (t120)) < (ji18)) = true := decide_eq_true c19
                    clear c19
                    replace H := Option.bind_eq_some_iff.mp H
                    obtain ⟨t124, A200, H⟩ := H
                    replace H : (some (t124 == a0)) = some r := H
                    have A20 := Aside0.mk A200
                    clear A200
                    obtain rfl := Option.some.inj H
                    go_wp2_with (first | ((with_reducible refine gate_callee (f := 7) rfl ?_); refine goesL_ (some 31) rfl rfl Try.func7 (by kernel_rfl) rfl #[] rfl (by (try simp only [List.map_toArray, List.map_cons, List.map_nil]); first | done | rfl | (simp only [List.length_drop, List.length_take]; rfl)) ?_; (with_reducible refine (marquetrylaw08_answers.calls kj2  true _ A10.out).mono ?_); rintro e w' ⟨rfl, ⟨nd, rfl⟩⟩; refine ⟨_, rfl, ?_⟩) | (go_at_call 9; (with_reducible refine (marquetryref01_Extra.calls t118 t123 _ A14.out).mono ?_); rintro e w' ⟨rfl, ⟨nd, rfl⟩⟩) | (go_at_call 11; (with_reducible refine (marquetryref01_Join.calls kj2 t118 t120 t124 _ A20.out).mono ?_); rintro e w' ⟨rfl, ⟨nd, rfl⟩⟩))
                    go_ret
                    exact ⟨by first | rfl | (simp; done) | (simp only [← hji16, ← hji18] <;> (first | rfl | simp)) | (simp [*]; done), by repeat (first | exact Drawn0.refl _ | apply Drawn0.step)⟩
                  · rw [if_neg c19] at H
                    have c19b0 : decide ((IntKind.u64.wrap (t120)) < (ji18)) = false := decide_eq_false c19
                    clear c19
                    obtain rfl := Option.some.inj H
                    go_wp2_with (first | ((with_reducible refine gate_callee (f := 7) rfl ?_); refine goesL_ (some 31) rfl rfl Try.func7 (by kernel_rfl) rfl #[] rfl (by (try simp only [List.map_toArray, List.map_cons, List.map_nil]); first | done | rfl | (simp only [List.length_drop, List.length_take]; rfl)) ?_; (with_reducible refine (marquetrylaw08_answers.calls kj2  true _ A10.out).mono ?_); rintro e w' ⟨rfl, ⟨nd, rfl⟩⟩; refine ⟨_, rfl, ?_⟩) | (go_at_call 9; (with_reducible refine (marquetryref01_Extra.calls t118 t123 _ A14.out).mono ?_); rintro e w' ⟨rfl, ⟨nd, rfl⟩⟩))
                    go_ret
                    exact ⟨by first | rfl | (simp; done) | (simp only [← hji16, ← hji18] <;> (first | rfl | simp)) | (simp [*]; done), by repeat (first | exact Drawn0.refl _ | apply Drawn0.step)⟩
                · rw [if_neg c17] at H
                  exact absurd H (by simp)
              · rw [if_neg c15] at H
                have c15b0 : (t119 == t123) = false := beq_eq_false_iff_ne.mpr c15
                have c15b1 : (t119 != t123) = true := bne_iff_ne.mpr c15
                obtain rfl := Option.some.inj H
                go_wp2_with (first | ((with_reducible refine gate_callee (f := 7) rfl ?_); refine goesL_ (some 31) rfl rfl Try.func7 (by kernel_rfl) rfl #[] rfl (by (try simp only [List.map_toArray, List.map_cons, List.map_nil]); first | done | rfl | (simp only [List.length_drop, List.length_take]; rfl)) ?_; (with_reducible refine (marquetrylaw08_answers.calls kj2  true _ A10.out).mono ?_); rintro e w' ⟨rfl, ⟨nd, rfl⟩⟩; refine ⟨_, rfl, ?_⟩) | (go_at_call 9; (with_reducible refine (marquetryref01_Extra.calls t118 t123 _ A14.out).mono ?_); rintro e w' ⟨rfl, ⟨nd, rfl⟩⟩))
                go_ret
                exact ⟨by first | rfl | (simp; done) | (simp [*]; done), by repeat (first | exact Drawn0.refl _ | apply Drawn0.step)⟩
            · rw [if_neg c13] at H
              have c13b0 : decide (t118 < 40) = false := decide_eq_false c13
              clear c13
              obtain rfl := Option.some.inj H
              go_wp2_with (first | ((with_reducible refine gate_callee (f := 7) rfl ?_); refine goesL_ (some 31) rfl rfl Try.func7 (by kernel_rfl) rfl #[] rfl (by (try simp only [List.map_toArray, List.map_cons, List.map_nil]); first | done | rfl | (simp only [List.length_drop, List.length_take]; rfl)) ?_; (with_reducible refine (marquetrylaw08_answers.calls kj2  true _ A10.out).mono ?_); rintro e w' ⟨rfl, ⟨nd, rfl⟩⟩; refine ⟨_, rfl, ?_⟩))
              go_ret
              exact ⟨by first | rfl | (simp; done) | (simp [*]; done), by repeat (first | exact Drawn0.refl _ | apply Drawn0.step)⟩
          · rw [if_neg c12] at H
            have c12b0 : decide (0 ≤ t118) = false := decide_eq_false c12
            clear c12
            obtain rfl := Option.some.inj H
            go_wp2_with (first | ((with_reducible refine gate_callee (f := 7) rfl ?_); refine goesL_ (some 31) rfl rfl Try.func7 (by kernel_rfl) rfl #[] rfl (by (try simp only [List.map_toArray, List.map_cons, List.map_nil]); first | done | rfl | (simp only [List.length_drop, List.length_take]; rfl)) ?_; (with_reducible refine (marquetrylaw08_answers.calls kj2  true _ A10.out).mono ?_); rintro e w' ⟨rfl, ⟨nd, rfl⟩⟩; refine ⟨_, rfl, ?_⟩))
            go_ret
            exact ⟨by first | rfl | (simp; done) | (simp [*]; done), by repeat (first | exact Drawn0.refl _ | apply Drawn0.step)⟩
        · replace c11 := Bool.eq_false_iff.mpr c11
          subst c11
          have H1 : (some false) = some r := by rw [if_neg (show ¬ (false = true) by decide)] at H; exact H
          clear H
          have H := H1
          clear H1
          obtain rfl := Option.some.inj H
          go_wp2_with (first | ((with_reducible refine gate_callee (f := 7) rfl ?_); refine goesL_ (some 31) rfl rfl Try.func7 (by kernel_rfl) rfl #[] rfl (by (try simp only [List.map_toArray, List.map_cons, List.map_nil]); first | done | rfl | (simp only [List.length_drop, List.length_take]; rfl)) ?_; (with_reducible refine (marquetrylaw08_answers.calls kj2  false _ A10.out).mono ?_); rintro e w' ⟨rfl, ⟨nd, rfl⟩⟩; refine ⟨_, rfl, ?_⟩))
          go_ret
          exact ⟨by first | rfl | (simp; done) | (simp [*]; done), by repeat (first | exact Drawn0.refl _ | apply Drawn0.step)⟩

/-- THE ONE PURE STATEMENT of marquetrylaw08_ValueBack: yours. -/
def marquetrylaw08_ValueBack.Pure : Prop := ∀ (a0 : Int), (Lit.int .i64 a0).wf = true → ∃ k, marquetrylaw08_ValueBack.f k a0 = some true
theorem marquetrylaw08_ValueBack.walk (P : marquetrylaw08_ValueBack.Pure) (a0 : Int) (w : World) (w0 : (Lit.int .i64 a0).wf = true) :
    Calls Try.prog 4 #[.int .i64 a0] w fun e w' => e = .returned (.bool true) ∧ Below w.heap.size w w' := by
  obtain ⟨k, h⟩ := P a0 w0
  refine (marquetrylaw08_ValueBack.calls k a0 true w h).mono ?_
  rintro e w' ⟨rfl, hd⟩
  exact ⟨rfl, hd.below⟩

/-! ### marquetrylaw08_ValueOrder: function 5 -/
def marquetrylaw08_ValueOrder.f (k : Nat) (a0 : Int) (a1 : Int) : Option (Bool) := (value_Split.f k (wrap64 ((wrap64 (Int.tmod a0 1048576)) + 1))).bind fun bt125 => ((value_Split.f k (wrap64 ((wrap64 (Int.tmod a1 1048576)) + 1))).bind fun bt128 => ((marquetrylaw08_answers.f k).bind fun t131 => (if t131 = true then (if (wrap64 ((wrap64 (Int.tmod a0 1048576)) + 1)) ≥ (wrap64 ((wrap64 (Int.tmod a1 1048576)) + 1)) then (if (wrap64 ((wrap64 (Int.tmod a0 1048576)) + 1)) = (wrap64 ((wrap64 (Int.tmod a1 1048576)) + 1)) then (if bt125.1 = bt128.1 then (some (bt125.2.2 == bt128.2.2)) else (some false)) else (some true)) else (if bt125.1 < bt128.1 then (if (wrap64 ((wrap64 (Int.tmod a0 1048576)) + 1)) = (wrap64 ((wrap64 (Int.tmod a1 1048576)) + 1)) then (if bt125.1 = bt128.1 then (some (bt125.2.2 == bt128.2.2)) else (some false)) else (some true)) else (if bt125.1 = bt128.1 then (if bt125.2.2 < bt128.2.2 then (if (wrap64 ((wrap64 (Int.tmod a0 1048576)) + 1)) = (wrap64 ((wrap64 (Int.tmod a1 1048576)) + 1)) then (some (bt125.2.2 == bt128.2.2)) else (some true)) else (some false)) else (some false)))) else (some false))))
theorem marquetrylaw08_ValueOrder.mono : ∀ a0 a1 k, LeO (marquetrylaw08_ValueOrder.f k a0 a1) (marquetrylaw08_ValueOrder.f (k + 1) a0 a1) := by
  intro a0 a1 k
  unfold marquetrylaw08_ValueOrder.f
  repeat' first
      | (with_reducible exact marquetrylaw08_answers.mono _)
      | (with_reducible exact value_Split.mono _ _)
      | (with_reducible exact LeO.refl _)
      | (with_reducible exact LeO.none _)
      | (with_reducible refine LeO.ite ?_ ?_)
      | (with_reducible refine LeO.bind ?_ (fun _ => ?_))
      | exact marquetrylaw08_answers.mono _
      | exact value_Split.mono _ _
      | exact LeO.none _
      | refine LeO.ite ?_ ?_
      | refine LeO.bind ?_ (fun _ => ?_)
set_option maxHeartbeats 8000000 in
set_option maxRecDepth 100000 in
theorem marquetrylaw08_ValueOrder.calls (k : Nat) (a0 : Int) (a1 : Int) (r : Bool) (w : World) (h : marquetrylaw08_ValueOrder.f k a0 a1 = some r) :
    Calls Try.prog 5 #[.int .u32 a0, .int .u32 a1] w fun e w' => e = .returned (.bool r) ∧ Drawn0 w w' := by
  have H : ((value_Split.f k (wrap64 ((wrap64 (Int.tmod a0 1048576)) + 1))).bind fun bt125 => ((value_Split.f k (wrap64 ((wrap64 (Int.tmod a1 1048576)) + 1))).bind fun bt128 => ((marquetrylaw08_answers.f k).bind fun t131 => (if t131 = true then (if (wrap64 ((wrap64 (Int.tmod a0 1048576)) + 1)) ≥ (wrap64 ((wrap64 (Int.tmod a1 1048576)) + 1)) then (if (wrap64 ((wrap64 (Int.tmod a0 1048576)) + 1)) = (wrap64 ((wrap64 (Int.tmod a1 1048576)) + 1)) then (if bt125.1 = bt128.1 then (some (bt125.2.2 == bt128.2.2)) else (some false)) else (some true)) else (if bt125.1 < bt128.1 then (if (wrap64 ((wrap64 (Int.tmod a0 1048576)) + 1)) = (wrap64 ((wrap64 (Int.tmod a1 1048576)) + 1)) then (if bt125.1 = bt128.1 then (some (bt125.2.2 == bt128.2.2)) else (some false)) else (some true)) else (if bt125.1 = bt128.1 then (if bt125.2.2 < bt128.2.2 then (if (wrap64 ((wrap64 (Int.tmod a0 1048576)) + 1)) = (wrap64 ((wrap64 (Int.tmod a1 1048576)) + 1)) then (some (bt125.2.2 == bt128.2.2)) else (some true)) else (some false)) else (some false)))) else (some false))))) = some r := h
  clear h
  replace H := Option.bind_eq_some_iff.mp H
  obtain ⟨⟨t125, t126, t127⟩, A30, H⟩ := H
  replace H : ((value_Split.f k (wrap64 ((wrap64 (Int.tmod a1 1048576)) + 1))).bind fun bt128 => ((marquetrylaw08_answers.f k).bind fun t131 => (if t131 = true then (if (wrap64 ((wrap64 (Int.tmod a0 1048576)) + 1)) ≥ (wrap64 ((wrap64 (Int.tmod a1 1048576)) + 1)) then (if (wrap64 ((wrap64 (Int.tmod a0 1048576)) + 1)) = (wrap64 ((wrap64 (Int.tmod a1 1048576)) + 1)) then (if t125 = bt128.1 then (some (t127 == bt128.2.2)) else (some false)) else (some true)) else (if t125 < bt128.1 then (if (wrap64 ((wrap64 (Int.tmod a0 1048576)) + 1)) = (wrap64 ((wrap64 (Int.tmod a1 1048576)) + 1)) then (if t125 = bt128.1 then (some (t127 == bt128.2.2)) else (some false)) else (some true)) else (if t125 = bt128.1 then (if t127 < bt128.2.2 then (if (wrap64 ((wrap64 (Int.tmod a0 1048576)) + 1)) = (wrap64 ((wrap64 (Int.tmod a1 1048576)) + 1)) then (some (t127 == bt128.2.2)) else (some true)) else (some false)) else (some false)))) else (some false)))) = some r := H
  have A3 := Aside0.mk A30
  clear A30
  replace H := Option.bind_eq_some_iff.mp H
  obtain ⟨⟨t128, t129, t130⟩, A40, H⟩ := H
  replace H : ((marquetrylaw08_answers.f k).bind fun t131 => (if t131 = true then (if (wrap64 ((wrap64 (Int.tmod a0 1048576)) + 1)) ≥ (wrap64 ((wrap64 (Int.tmod a1 1048576)) + 1)) then (if (wrap64 ((wrap64 (Int.tmod a0 1048576)) + 1)) = (wrap64 ((wrap64 (Int.tmod a1 1048576)) + 1)) then (if t125 = t128 then (some (t127 == t130)) else (some false)) else (some true)) else (if t125 < t128 then (if (wrap64 ((wrap64 (Int.tmod a0 1048576)) + 1)) = (wrap64 ((wrap64 (Int.tmod a1 1048576)) + 1)) then (if t125 = t128 then (some (t127 == t130)) else (some false)) else (some true)) else (if t125 = t128 then (if t127 < t130 then (if (wrap64 ((wrap64 (Int.tmod a0 1048576)) + 1)) = (wrap64 ((wrap64 (Int.tmod a1 1048576)) + 1)) then (some (t127 == t130)) else (some true)) else (some false)) else (some false)))) else (some false))) = some r := H
  have A4 := Aside0.mk A40
  clear A40
  replace H := Option.bind_eq_some_iff.mp H
  obtain ⟨t131, A50, H⟩ := H
  replace H : (if t131 = true then (if (wrap64 ((wrap64 (Int.tmod a0 1048576)) + 1)) ≥ (wrap64 ((wrap64 (Int.tmod a1 1048576)) + 1)) then (if (wrap64 ((wrap64 (Int.tmod a0 1048576)) + 1)) = (wrap64 ((wrap64 (Int.tmod a1 1048576)) + 1)) then (if t125 = t128 then (some (t127 == t130)) else (some false)) else (some true)) else (if t125 < t128 then (if (wrap64 ((wrap64 (Int.tmod a0 1048576)) + 1)) = (wrap64 ((wrap64 (Int.tmod a1 1048576)) + 1)) then (if t125 = t128 then (some (t127 == t130)) else (some false)) else (some true)) else (if t125 = t128 then (if t127 < t130 then (if (wrap64 ((wrap64 (Int.tmod a0 1048576)) + 1)) = (wrap64 ((wrap64 (Int.tmod a1 1048576)) + 1)) then (some (t127 == t130)) else (some true)) else (some false)) else (some false)))) else (some false)) = some r := H
  have A5 := Aside0.mk A50
  clear A50
  by_cases c6 : t131 = true
  · subst c6
    have H1 : (if (wrap64 ((wrap64 (Int.tmod a0 1048576)) + 1)) ≥ (wrap64 ((wrap64 (Int.tmod a1 1048576)) + 1)) then (if (wrap64 ((wrap64 (Int.tmod a0 1048576)) + 1)) = (wrap64 ((wrap64 (Int.tmod a1 1048576)) + 1)) then (if t125 = t128 then (some (t127 == t130)) else (some false)) else (some true)) else (if t125 < t128 then (if (wrap64 ((wrap64 (Int.tmod a0 1048576)) + 1)) = (wrap64 ((wrap64 (Int.tmod a1 1048576)) + 1)) then (if t125 = t128 then (some (t127 == t130)) else (some false)) else (some true)) else (if t125 = t128 then (if t127 < t130 then (if (wrap64 ((wrap64 (Int.tmod a0 1048576)) + 1)) = (wrap64 ((wrap64 (Int.tmod a1 1048576)) + 1)) then (some (t127 == t130)) else (some true)) else (some false)) else (some false)))) = some r := by rw [if_pos rfl] at H; exact H
    clear H
    have H := H1
    clear H1
    by_cases c7 : (wrap64 ((wrap64 (Int.tmod a0 1048576)) + 1)) ≥ (wrap64 ((wrap64 (Int.tmod a1 1048576)) + 1))
    · rw [if_pos c7] at H
      have c7b0 : decide ((wrap64 ((wrap64 (Int.tmod a1 1048576)) + 1)) ≤ (wrap64 ((wrap64 (Int.tmod a0 1048576)) + 1))) = true := decide_eq_true c7
      clear c7
      by_cases c8 : (wrap64 ((wrap64 (Int.tmod a0 1048576)) + 1)) = (wrap64 ((wrap64 (Int.tmod a1 1048576)) + 1))
      · rw [if_pos c8] at H
        have c8b0 : ((wrap64 ((wrap64 (Int.tmod a0 1048576)) + 1)) == (wrap64 ((wrap64 (Int.tmod a1 1048576)) + 1))) = true := beq_iff_eq.mpr c8
        have c8b1 : ((wrap64 ((wrap64 (Int.tmod a0 1048576)) + 1)) != (wrap64 ((wrap64 (Int.tmod a1 1048576)) + 1))) = false := bne_eq_false_iff_eq.mpr c8
        clear c8
        by_cases c9 : t125 = t128
        · rw [if_pos c9] at H
          have c9b0 : (t125 == t128) = true := beq_iff_eq.mpr c9
          have c9b1 : (t125 != t128) = false := bne_eq_false_iff_eq.mpr c9
          clear c9
          obtain rfl := Option.some.inj H
          go_enter Try.func5, Try.ntmps5
          go_wp2_with (first | ((with_reducible refine gate_callee (f := 12) rfl ?_); refine goesL_ (some 23) rfl rfl Try.func12 (by kernel_rfl) rfl #[.int .i64 (wrap64 ((wrap64 (Int.tmod a0 1048576)) + 1))] rfl (by (try simp only [List.map_toArray, List.map_cons, List.map_nil]); first | done | rfl | (simp only [List.length_drop, List.length_take]; rfl)) ?_; (with_reducible refine (value_Split.calls k (wrap64 ((wrap64 (Int.tmod a0 1048576)) + 1)) t125 t126 t127 _ A3.out).mono ?_); rintro e w' ⟨rfl, ⟨nd, rfl⟩⟩; refine ⟨_, rfl, ?_⟩) | ((with_reducible refine gate_callee (f := 12) rfl ?_); refine goesL_ (some 29) rfl rfl Try.func12 (by kernel_rfl) rfl #[.int .i64 (wrap64 ((wrap64 (Int.tmod a1 1048576)) + 1))] rfl (by (try simp only [List.map_toArray, List.map_cons, List.map_nil]); first | done | rfl | (simp only [List.length_drop, List.length_take]; rfl)) ?_; (with_reducible refine (value_Split.calls k (wrap64 ((wrap64 (Int.tmod a1 1048576)) + 1)) t128 t129 t130 _ A4.out).mono ?_); rintro e w' ⟨rfl, ⟨nd, rfl⟩⟩; refine ⟨_, rfl, ?_⟩) | ((with_reducible refine gate_callee (f := 7) rfl ?_); refine goesL_ (some 33) rfl rfl Try.func7 (by kernel_rfl) rfl #[] rfl (by (try simp only [List.map_toArray, List.map_cons, List.map_nil]); first | done | rfl | (simp only [List.length_drop, List.length_take]; rfl)) ?_; (with_reducible refine (marquetrylaw08_answers.calls k  true _ A5.out).mono ?_); rintro e w' ⟨rfl, ⟨nd, rfl⟩⟩; refine ⟨_, rfl, ?_⟩))
          go_ret
          exact ⟨by first | rfl | (simp; done) | (simp [*]; done), by repeat (first | exact Drawn0.refl _ | apply Drawn0.step)⟩
        · rw [if_neg c9] at H
          have c9b0 : (t125 == t128) = false := beq_eq_false_iff_ne.mpr c9
          have c9b1 : (t125 != t128) = true := bne_iff_ne.mpr c9
          obtain rfl := Option.some.inj H
          go_enter Try.func5, Try.ntmps5
          go_wp2_with (first | ((with_reducible refine gate_callee (f := 12) rfl ?_); refine goesL_ (some 23) rfl rfl Try.func12 (by kernel_rfl) rfl #[.int .i64 (wrap64 ((wrap64 (Int.tmod a0 1048576)) + 1))] rfl (by (try simp only [List.map_toArray, List.map_cons, List.map_nil]); first | done | rfl | (simp only [List.length_drop, List.length_take]; rfl)) ?_; (with_reducible refine (value_Split.calls k (wrap64 ((wrap64 (Int.tmod a0 1048576)) + 1)) t125 t126 t127 _ A3.out).mono ?_); rintro e w' ⟨rfl, ⟨nd, rfl⟩⟩; refine ⟨_, rfl, ?_⟩) | ((with_reducible refine gate_callee (f := 12) rfl ?_); refine goesL_ (some 29) rfl rfl Try.func12 (by kernel_rfl) rfl #[.int .i64 (wrap64 ((wrap64 (Int.tmod a1 1048576)) + 1))] rfl (by (try simp only [List.map_toArray, List.map_cons, List.map_nil]); first | done | rfl | (simp only [List.length_drop, List.length_take]; rfl)) ?_; (with_reducible refine (value_Split.calls k (wrap64 ((wrap64 (Int.tmod a1 1048576)) + 1)) t128 t129 t130 _ A4.out).mono ?_); rintro e w' ⟨rfl, ⟨nd, rfl⟩⟩; refine ⟨_, rfl, ?_⟩) | ((with_reducible refine gate_callee (f := 7) rfl ?_); refine goesL_ (some 33) rfl rfl Try.func7 (by kernel_rfl) rfl #[] rfl (by (try simp only [List.map_toArray, List.map_cons, List.map_nil]); first | done | rfl | (simp only [List.length_drop, List.length_take]; rfl)) ?_; (with_reducible refine (marquetrylaw08_answers.calls k  true _ A5.out).mono ?_); rintro e w' ⟨rfl, ⟨nd, rfl⟩⟩; refine ⟨_, rfl, ?_⟩))
          go_ret
          exact ⟨by first | rfl | (simp; done) | (simp [*]; done), by repeat (first | exact Drawn0.refl _ | apply Drawn0.step)⟩
      · rw [if_neg c8] at H
        have c8b0 : ((wrap64 ((wrap64 (Int.tmod a0 1048576)) + 1)) == (wrap64 ((wrap64 (Int.tmod a1 1048576)) + 1))) = false := beq_eq_false_iff_ne.mpr c8
        have c8b1 : ((wrap64 ((wrap64 (Int.tmod a0 1048576)) + 1)) != (wrap64 ((wrap64 (Int.tmod a1 1048576)) + 1))) = true := bne_iff_ne.mpr c8
        obtain rfl := Option.some.inj H
        go_enter Try.func5, Try.ntmps5
        go_wp2_with (first | ((with_reducible refine gate_callee (f := 12) rfl ?_); refine goesL_ (some 23) rfl rfl Try.func12 (by kernel_rfl) rfl #[.int .i64 (wrap64 ((wrap64 (Int.tmod a0 1048576)) + 1))] rfl (by (try simp only [List.map_toArray, List.map_cons, List.map_nil]); first | done | rfl | (simp only [List.length_drop, List.length_take]; rfl)) ?_; (with_reducible refine (value_Split.calls k (wrap64 ((wrap64 (Int.tmod a0 1048576)) + 1)) t125 t126 t127 _ A3.out).mono ?_); rintro e w' ⟨rfl, ⟨nd, rfl⟩⟩; refine ⟨_, rfl, ?_⟩) | ((with_reducible refine gate_callee (f := 12) rfl ?_); refine goesL_ (some 29) rfl rfl Try.func12 (by kernel_rfl) rfl #[.int .i64 (wrap64 ((wrap64 (Int.tmod a1 1048576)) + 1))] rfl (by (try simp only [List.map_toArray, List.map_cons, List.map_nil]); first | done | rfl | (simp only [List.length_drop, List.length_take]; rfl)) ?_; (with_reducible refine (value_Split.calls k (wrap64 ((wrap64 (Int.tmod a1 1048576)) + 1)) t128 t129 t130 _ A4.out).mono ?_); rintro e w' ⟨rfl, ⟨nd, rfl⟩⟩; refine ⟨_, rfl, ?_⟩) | ((with_reducible refine gate_callee (f := 7) rfl ?_); refine goesL_ (some 33) rfl rfl Try.func7 (by kernel_rfl) rfl #[] rfl (by (try simp only [List.map_toArray, List.map_cons, List.map_nil]); first | done | rfl | (simp only [List.length_drop, List.length_take]; rfl)) ?_; (with_reducible refine (marquetrylaw08_answers.calls k  true _ A5.out).mono ?_); rintro e w' ⟨rfl, ⟨nd, rfl⟩⟩; refine ⟨_, rfl, ?_⟩))
        go_ret
        exact ⟨by first | rfl | (simp; done) | (simp [*]; done), by repeat (first | exact Drawn0.refl _ | apply Drawn0.step)⟩
    · rw [if_neg c7] at H
      have c7b0 : decide ((wrap64 ((wrap64 (Int.tmod a1 1048576)) + 1)) ≤ (wrap64 ((wrap64 (Int.tmod a0 1048576)) + 1))) = false := decide_eq_false c7
      clear c7
      by_cases c10 : t125 < t128
      · rw [if_pos c10] at H
        have c10b0 : decide (t125 < t128) = true := decide_eq_true c10
        clear c10
        by_cases c11 : (wrap64 ((wrap64 (Int.tmod a0 1048576)) + 1)) = (wrap64 ((wrap64 (Int.tmod a1 1048576)) + 1))
        · rw [if_pos c11] at H
          have c11b0 : ((wrap64 ((wrap64 (Int.tmod a0 1048576)) + 1)) == (wrap64 ((wrap64 (Int.tmod a1 1048576)) + 1))) = true := beq_iff_eq.mpr c11
          have c11b1 : ((wrap64 ((wrap64 (Int.tmod a0 1048576)) + 1)) != (wrap64 ((wrap64 (Int.tmod a1 1048576)) + 1))) = false := bne_eq_false_iff_eq.mpr c11
          clear c11
          by_cases c12 : t125 = t128
          · rw [if_pos c12] at H
            have c12b0 : (t125 == t128) = true := beq_iff_eq.mpr c12
            have c12b1 : (t125 != t128) = false := bne_eq_false_iff_eq.mpr c12
            clear c12
            obtain rfl := Option.some.inj H
            go_enter Try.func5, Try.ntmps5
            go_wp2_with (first | ((with_reducible refine gate_callee (f := 12) rfl ?_); refine goesL_ (some 23) rfl rfl Try.func12 (by kernel_rfl) rfl #[.int .i64 (wrap64 ((wrap64 (Int.tmod a0 1048576)) + 1))] rfl (by (try simp only [List.map_toArray, List.map_cons, List.map_nil]); first | done | rfl | (simp only [List.length_drop, List.length_take]; rfl)) ?_; (with_reducible refine (value_Split.calls k (wrap64 ((wrap64 (Int.tmod a0 1048576)) + 1)) t125 t126 t127 _ A3.out).mono ?_); rintro e w' ⟨rfl, ⟨nd, rfl⟩⟩; refine ⟨_, rfl, ?_⟩) | ((with_reducible refine gate_callee (f := 12) rfl ?_); refine goesL_ (some 29) rfl rfl Try.func12 (by kernel_rfl) rfl #[.int .i64 (wrap64 ((wrap64 (Int.tmod a1 1048576)) + 1))] rfl (by (try simp only [List.map_toArray, List.map_cons, List.map_nil]); first | done | rfl | (simp only [List.length_drop, List.length_take]; rfl)) ?_; (with_reducible refine (value_Split.calls k (wrap64 ((wrap64 (Int.tmod a1 1048576)) + 1)) t128 t129 t130 _ A4.out).mono ?_); rintro e w' ⟨rfl, ⟨nd, rfl⟩⟩; refine ⟨_, rfl, ?_⟩) | ((with_reducible refine gate_callee (f := 7) rfl ?_); refine goesL_ (some 33) rfl rfl Try.func7 (by kernel_rfl) rfl #[] rfl (by (try simp only [List.map_toArray, List.map_cons, List.map_nil]); first | done | rfl | (simp only [List.length_drop, List.length_take]; rfl)) ?_; (with_reducible refine (marquetrylaw08_answers.calls k  true _ A5.out).mono ?_); rintro e w' ⟨rfl, ⟨nd, rfl⟩⟩; refine ⟨_, rfl, ?_⟩))
            go_ret
            exact ⟨by first | rfl | (simp; done) | (simp [*]; done), by repeat (first | exact Drawn0.refl _ | apply Drawn0.step)⟩
          · rw [if_neg c12] at H
            have c12b0 : (t125 == t128) = false := beq_eq_false_iff_ne.mpr c12
            have c12b1 : (t125 != t128) = true := bne_iff_ne.mpr c12
            obtain rfl := Option.some.inj H
            go_enter Try.func5, Try.ntmps5
            go_wp2_with (first | ((with_reducible refine gate_callee (f := 12) rfl ?_); refine goesL_ (some 23) rfl rfl Try.func12 (by kernel_rfl) rfl #[.int .i64 (wrap64 ((wrap64 (Int.tmod a0 1048576)) + 1))] rfl (by (try simp only [List.map_toArray, List.map_cons, List.map_nil]); first | done | rfl | (simp only [List.length_drop, List.length_take]; rfl)) ?_; (with_reducible refine (value_Split.calls k (wrap64 ((wrap64 (Int.tmod a0 1048576)) + 1)) t125 t126 t127 _ A3.out).mono ?_); rintro e w' ⟨rfl, ⟨nd, rfl⟩⟩; refine ⟨_, rfl, ?_⟩) | ((with_reducible refine gate_callee (f := 12) rfl ?_); refine goesL_ (some 29) rfl rfl Try.func12 (by kernel_rfl) rfl #[.int .i64 (wrap64 ((wrap64 (Int.tmod a1 1048576)) + 1))] rfl (by (try simp only [List.map_toArray, List.map_cons, List.map_nil]); first | done | rfl | (simp only [List.length_drop, List.length_take]; rfl)) ?_; (with_reducible refine (value_Split.calls k (wrap64 ((wrap64 (Int.tmod a1 1048576)) + 1)) t128 t129 t130 _ A4.out).mono ?_); rintro e w' ⟨rfl, ⟨nd, rfl⟩⟩; refine ⟨_, rfl, ?_⟩) | ((with_reducible refine gate_callee (f := 7) rfl ?_); refine goesL_ (some 33) rfl rfl Try.func7 (by kernel_rfl) rfl #[] rfl (by (try simp only [List.map_toArray, List.map_cons, List.map_nil]); first | done | rfl | (simp only [List.length_drop, List.length_take]; rfl)) ?_; (with_reducible refine (marquetrylaw08_answers.calls k  true _ A5.out).mono ?_); rintro e w' ⟨rfl, ⟨nd, rfl⟩⟩; refine ⟨_, rfl, ?_⟩))
            go_ret
            exact ⟨by first | rfl | (simp; done) | (simp [*]; done), by repeat (first | exact Drawn0.refl _ | apply Drawn0.step)⟩
        · rw [if_neg c11] at H
          have c11b0 : ((wrap64 ((wrap64 (Int.tmod a0 1048576)) + 1)) == (wrap64 ((wrap64 (Int.tmod a1 1048576)) + 1))) = false := beq_eq_false_iff_ne.mpr c11
          have c11b1 : ((wrap64 ((wrap64 (Int.tmod a0 1048576)) + 1)) != (wrap64 ((wrap64 (Int.tmod a1 1048576)) + 1))) = true := bne_iff_ne.mpr c11
          obtain rfl := Option.some.inj H
          go_enter Try.func5, Try.ntmps5
          go_wp2_with (first | ((with_reducible refine gate_callee (f := 12) rfl ?_); refine goesL_ (some 23) rfl rfl Try.func12 (by kernel_rfl) rfl #[.int .i64 (wrap64 ((wrap64 (Int.tmod a0 1048576)) + 1))] rfl (by (try simp only [List.map_toArray, List.map_cons, List.map_nil]); first | done | rfl | (simp only [List.length_drop, List.length_take]; rfl)) ?_; (with_reducible refine (value_Split.calls k (wrap64 ((wrap64 (Int.tmod a0 1048576)) + 1)) t125 t126 t127 _ A3.out).mono ?_); rintro e w' ⟨rfl, ⟨nd, rfl⟩⟩; refine ⟨_, rfl, ?_⟩) | ((with_reducible refine gate_callee (f := 12) rfl ?_); refine goesL_ (some 29) rfl rfl Try.func12 (by kernel_rfl) rfl #[.int .i64 (wrap64 ((wrap64 (Int.tmod a1 1048576)) + 1))] rfl (by (try simp only [List.map_toArray, List.map_cons, List.map_nil]); first | done | rfl | (simp only [List.length_drop, List.length_take]; rfl)) ?_; (with_reducible refine (value_Split.calls k (wrap64 ((wrap64 (Int.tmod a1 1048576)) + 1)) t128 t129 t130 _ A4.out).mono ?_); rintro e w' ⟨rfl, ⟨nd, rfl⟩⟩; refine ⟨_, rfl, ?_⟩) | ((with_reducible refine gate_callee (f := 7) rfl ?_); refine goesL_ (some 33) rfl rfl Try.func7 (by kernel_rfl) rfl #[] rfl (by (try simp only [List.map_toArray, List.map_cons, List.map_nil]); first | done | rfl | (simp only [List.length_drop, List.length_take]; rfl)) ?_; (with_reducible refine (marquetrylaw08_answers.calls k  true _ A5.out).mono ?_); rintro e w' ⟨rfl, ⟨nd, rfl⟩⟩; refine ⟨_, rfl, ?_⟩))
          go_ret
          exact ⟨by first | rfl | (simp; done) | (simp [*]; done), by repeat (first | exact Drawn0.refl _ | apply Drawn0.step)⟩
      · rw [if_neg c10] at H
        have c10b0 : decide (t125 < t128) = false := decide_eq_false c10
        clear c10
        by_cases c13 : t125 = t128
        · rw [if_pos c13] at H
          have c13b0 : (t125 == t128) = true := beq_iff_eq.mpr c13
          have c13b1 : (t125 != t128) = false := bne_eq_false_iff_eq.mpr c13
          clear c13
          by_cases c14 : t127 < t130
          · rw [if_pos c14] at H
            have c14b0 : decide (t127 < t130) = true := decide_eq_true c14
            clear c14
            by_cases c15 : (wrap64 ((wrap64 (Int.tmod a0 1048576)) + 1)) = (wrap64 ((wrap64 (Int.tmod a1 1048576)) + 1))
            · rw [if_pos c15] at H
              have c15b0 : ((wrap64 ((wrap64 (Int.tmod a0 1048576)) + 1)) == (wrap64 ((wrap64 (Int.tmod a1 1048576)) + 1))) = true := beq_iff_eq.mpr c15
              have c15b1 : ((wrap64 ((wrap64 (Int.tmod a0 1048576)) + 1)) != (wrap64 ((wrap64 (Int.tmod a1 1048576)) + 1))) = false := bne_eq_false_iff_eq.mpr c15
              clear c15
              obtain rfl := Option.some.inj H
              go_enter Try.func5, Try.ntmps5
              go_wp2_with (first | ((with_reducible refine gate_callee (f := 12) rfl ?_); refine goesL_ (some 23) rfl rfl Try.func12 (by kernel_rfl) rfl #[.int .i64 (wrap64 ((wrap64 (Int.tmod a0 1048576)) + 1))] rfl (by (try simp only [List.map_toArray, List.map_cons, List.map_nil]); first | done | rfl | (simp only [List.length_drop, List.length_take]; rfl)) ?_; (with_reducible refine (value_Split.calls k (wrap64 ((wrap64 (Int.tmod a0 1048576)) + 1)) t125 t126 t127 _ A3.out).mono ?_); rintro e w' ⟨rfl, ⟨nd, rfl⟩⟩; refine ⟨_, rfl, ?_⟩) | ((with_reducible refine gate_callee (f := 12) rfl ?_); refine goesL_ (some 29) rfl rfl Try.func12 (by kernel_rfl) rfl #[.int .i64 (wrap64 ((wrap64 (Int.tmod a1 1048576)) + 1))] rfl (by (try simp only [List.map_toArray, List.map_cons, List.map_nil]); first | done | rfl | (simp only [List.length_drop, List.length_take]; rfl)) ?_; (with_reducible refine (value_Split.calls k (wrap64 ((wrap64 (Int.tmod a1 1048576)) + 1)) t128 t129 t130 _ A4.out).mono ?_); rintro e w' ⟨rfl, ⟨nd, rfl⟩⟩; refine ⟨_, rfl, ?_⟩) | ((with_reducible refine gate_callee (f := 7) rfl ?_); refine goesL_ (some 33) rfl rfl Try.func7 (by kernel_rfl) rfl #[] rfl (by (try simp only [List.map_toArray, List.map_cons, List.map_nil]); first | done | rfl | (simp only [List.length_drop, List.length_take]; rfl)) ?_; (with_reducible refine (marquetrylaw08_answers.calls k  true _ A5.out).mono ?_); rintro e w' ⟨rfl, ⟨nd, rfl⟩⟩; refine ⟨_, rfl, ?_⟩))
              go_ret
              exact ⟨by first | rfl | (simp; done) | (simp [*]; done), by repeat (first | exact Drawn0.refl _ | apply Drawn0.step)⟩
            · rw [if_neg c15] at H
              have c15b0 : ((wrap64 ((wrap64 (Int.tmod a0 1048576)) + 1)) == (wrap64 ((wrap64 (Int.tmod a1 1048576)) + 1))) = false := beq_eq_false_iff_ne.mpr c15
              have c15b1 : ((wrap64 ((wrap64 (Int.tmod a0 1048576)) + 1)) != (wrap64 ((wrap64 (Int.tmod a1 1048576)) + 1))) = true := bne_iff_ne.mpr c15
              obtain rfl := Option.some.inj H
              go_enter Try.func5, Try.ntmps5
              go_wp2_with (first | ((with_reducible refine gate_callee (f := 12) rfl ?_); refine goesL_ (some 23) rfl rfl Try.func12 (by kernel_rfl) rfl #[.int .i64 (wrap64 ((wrap64 (Int.tmod a0 1048576)) + 1))] rfl (by (try simp only [List.map_toArray, List.map_cons, List.map_nil]); first | done | rfl | (simp only [List.length_drop, List.length_take]; rfl)) ?_; (with_reducible refine (value_Split.calls k (wrap64 ((wrap64 (Int.tmod a0 1048576)) + 1)) t125 t126 t127 _ A3.out).mono ?_); rintro e w' ⟨rfl, ⟨nd, rfl⟩⟩; refine ⟨_, rfl, ?_⟩) | ((with_reducible refine gate_callee (f := 12) rfl ?_); refine goesL_ (some 29) rfl rfl Try.func12 (by kernel_rfl) rfl #[.int .i64 (wrap64 ((wrap64 (Int.tmod a1 1048576)) + 1))] rfl (by (try simp only [List.map_toArray, List.map_cons, List.map_nil]); first | done | rfl | (simp only [List.length_drop, List.length_take]; rfl)) ?_; (with_reducible refine (value_Split.calls k (wrap64 ((wrap64 (Int.tmod a1 1048576)) + 1)) t128 t129 t130 _ A4.out).mono ?_); rintro e w' ⟨rfl, ⟨nd, rfl⟩⟩; refine ⟨_, rfl, ?_⟩) | ((with_reducible refine gate_callee (f := 7) rfl ?_); refine goesL_ (some 33) rfl rfl Try.func7 (by kernel_rfl) rfl #[] rfl (by (try simp only [List.map_toArray, List.map_cons, List.map_nil]); first | done | rfl | (simp only [List.length_drop, List.length_take]; rfl)) ?_; (with_reducible refine (marquetrylaw08_answers.calls k  true _ A5.out).mono ?_); rintro e w' ⟨rfl, ⟨nd, rfl⟩⟩; refine ⟨_, rfl, ?_⟩))
              go_ret
              exact ⟨by first | rfl | (simp; done) | (simp [*]; done), by repeat (first | exact Drawn0.refl _ | apply Drawn0.step)⟩
          · rw [if_neg c14] at H
            have c14b0 : decide (t127 < t130) = false := decide_eq_false c14
            clear c14
            obtain rfl := Option.some.inj H
            go_enter Try.func5, Try.ntmps5
            go_wp2_with (first | ((with_reducible refine gate_callee (f := 12) rfl ?_); refine goesL_ (some 23) rfl rfl Try.func12 (by kernel_rfl) rfl #[.int .i64 (wrap64 ((wrap64 (Int.tmod a0 1048576)) + 1))] rfl (by (try simp only [List.map_toArray, List.map_cons, List.map_nil]); first | done | rfl | (simp only [List.length_drop, List.length_take]; rfl)) ?_; (with_reducible refine (value_Split.calls k (wrap64 ((wrap64 (Int.tmod a0 1048576)) + 1)) t125 t126 t127 _ A3.out).mono ?_); rintro e w' ⟨rfl, ⟨nd, rfl⟩⟩; refine ⟨_, rfl, ?_⟩) | ((with_reducible refine gate_callee (f := 12) rfl ?_); refine goesL_ (some 29) rfl rfl Try.func12 (by kernel_rfl) rfl #[.int .i64 (wrap64 ((wrap64 (Int.tmod a1 1048576)) + 1))] rfl (by (try simp only [List.map_toArray, List.map_cons, List.map_nil]); first | done | rfl | (simp only [List.length_drop, List.length_take]; rfl)) ?_; (with_reducible refine (value_Split.calls k (wrap64 ((wrap64 (Int.tmod a1 1048576)) + 1)) t128 t129 t130 _ A4.out).mono ?_); rintro e w' ⟨rfl, ⟨nd, rfl⟩⟩; refine ⟨_, rfl, ?_⟩) | ((with_reducible refine gate_callee (f := 7) rfl ?_); refine goesL_ (some 33) rfl rfl Try.func7 (by kernel_rfl) rfl #[] rfl (by (try simp only [List.map_toArray, List.map_cons, List.map_nil]); first | done | rfl | (simp only [List.length_drop, List.length_take]; rfl)) ?_; (with_reducible refine (marquetrylaw08_answers.calls k  true _ A5.out).mono ?_); rintro e w' ⟨rfl, ⟨nd, rfl⟩⟩; refine ⟨_, rfl, ?_⟩))
            go_ret
            exact ⟨by first | rfl | (simp; done) | (simp [*]; done), by repeat (first | exact Drawn0.refl _ | apply Drawn0.step)⟩
        · rw [if_neg c13] at H
          have c13b0 : (t125 == t128) = false := beq_eq_false_iff_ne.mpr c13
          have c13b1 : (t125 != t128) = true := bne_iff_ne.mpr c13
          obtain rfl := Option.some.inj H
          go_enter Try.func5, Try.ntmps5
          go_wp2_with (first | ((with_reducible refine gate_callee (f := 12) rfl ?_); refine goesL_ (some 23) rfl rfl Try.func12 (by kernel_rfl) rfl #[.int .i64 (wrap64 ((wrap64 (Int.tmod a0 1048576)) + 1))] rfl (by (try simp only [List.map_toArray, List.map_cons, List.map_nil]); first | done | rfl | (simp only [List.length_drop, List.length_take]; rfl)) ?_; (with_reducible refine (value_Split.calls k (wrap64 ((wrap64 (Int.tmod a0 1048576)) + 1)) t125 t126 t127 _ A3.out).mono ?_); rintro e w' ⟨rfl, ⟨nd, rfl⟩⟩; refine ⟨_, rfl, ?_⟩) | ((with_reducible refine gate_callee (f := 12) rfl ?_); refine goesL_ (some 29) rfl rfl Try.func12 (by kernel_rfl) rfl #[.int .i64 (wrap64 ((wrap64 (Int.tmod a1 1048576)) + 1))] rfl (by (try simp only [List.map_toArray, List.map_cons, List.map_nil]); first | done | rfl | (simp only [List.length_drop, List.length_take]; rfl)) ?_; (with_reducible refine (value_Split.calls k (wrap64 ((wrap64 (Int.tmod a1 1048576)) + 1)) t128 t129 t130 _ A4.out).mono ?_); rintro e w' ⟨rfl, ⟨nd, rfl⟩⟩; refine ⟨_, rfl, ?_⟩) | ((with_reducible refine gate_callee (f := 7) rfl ?_); refine goesL_ (some 33) rfl rfl Try.func7 (by kernel_rfl) rfl #[] rfl (by (try simp only [List.map_toArray, List.map_cons, List.map_nil]); first | done | rfl | (simp only [List.length_drop, List.length_take]; rfl)) ?_; (with_reducible refine (marquetrylaw08_answers.calls k  true _ A5.out).mono ?_); rintro e w' ⟨rfl, ⟨nd, rfl⟩⟩; refine ⟨_, rfl, ?_⟩))
          go_ret
          exact ⟨by first | rfl | (simp; done) | (simp [*]; done), by repeat (first | exact Drawn0.refl _ | apply Drawn0.step)⟩
  · replace c6 := Bool.eq_false_iff.mpr c6
    subst c6
    have H1 : (some false) = some r := by rw [if_neg (show ¬ (false = true) by decide)] at H; exact H
    clear H
    have H := H1
    clear H1
    obtain rfl := Option.some.inj H
    go_enter Try.func5, Try.ntmps5
    go_wp2_with (first | ((with_reducible refine gate_callee (f := 12) rfl ?_); refine goesL_ (some 23) rfl rfl Try.func12 (by kernel_rfl) rfl #[.int .i64 (wrap64 ((wrap64 (Int.tmod a0 1048576)) + 1))] rfl (by (try simp only [List.map_toArray, List.map_cons, List.map_nil]); first | done | rfl | (simp only [List.length_drop, List.length_take]; rfl)) ?_; (with_reducible refine (value_Split.calls k (wrap64 ((wrap64 (Int.tmod a0 1048576)) + 1)) t125 t126 t127 _ A3.out).mono ?_); rintro e w' ⟨rfl, ⟨nd, rfl⟩⟩; refine ⟨_, rfl, ?_⟩) | ((with_reducible refine gate_callee (f := 12) rfl ?_); refine goesL_ (some 29) rfl rfl Try.func12 (by kernel_rfl) rfl #[.int .i64 (wrap64 ((wrap64 (Int.tmod a1 1048576)) + 1))] rfl (by (try simp only [List.map_toArray, List.map_cons, List.map_nil]); first | done | rfl | (simp only [List.length_drop, List.length_take]; rfl)) ?_; (with_reducible refine (value_Split.calls k (wrap64 ((wrap64 (Int.tmod a1 1048576)) + 1)) t128 t129 t130 _ A4.out).mono ?_); rintro e w' ⟨rfl, ⟨nd, rfl⟩⟩; refine ⟨_, rfl, ?_⟩) | ((with_reducible refine gate_callee (f := 7) rfl ?_); refine goesL_ (some 33) rfl rfl Try.func7 (by kernel_rfl) rfl #[] rfl (by (try simp only [List.map_toArray, List.map_cons, List.map_nil]); first | done | rfl | (simp only [List.length_drop, List.length_take]; rfl)) ?_; (with_reducible refine (marquetrylaw08_answers.calls k  false _ A5.out).mono ?_); rintro e w' ⟨rfl, ⟨nd, rfl⟩⟩; refine ⟨_, rfl, ?_⟩))
    go_ret
    exact ⟨by first | rfl | (simp; done) | (simp [*]; done), by repeat (first | exact Drawn0.refl _ | apply Drawn0.step)⟩

/-- THE ONE PURE STATEMENT of marquetrylaw08_ValueOrder: yours. -/
def marquetrylaw08_ValueOrder.Pure : Prop := ∀ (a0 : Int) (a1 : Int), (Lit.int .u32 a0).wf = true → (Lit.int .u32 a1).wf = true → ∃ k, marquetrylaw08_ValueOrder.f k a0 a1 = some true
theorem marquetrylaw08_ValueOrder.walk (P : marquetrylaw08_ValueOrder.Pure) (a0 : Int) (a1 : Int) (w : World) (w0 : (Lit.int .u32 a0).wf = true) (w1 : (Lit.int .u32 a1).wf = true) :
    Calls Try.prog 5 #[.int .u32 a0, .int .u32 a1] w fun e w' => e = .returned (.bool true) ∧ Below w.heap.size w w' := by
  obtain ⟨k, h⟩ := P a0 a1 w0 w1
  refine (marquetrylaw08_ValueOrder.calls k a0 a1 true w h).mono ?_
  rintro e w' ⟨rfl, hd⟩
  exact ⟨rfl, hd.below⟩

end Go.Proofs.Ytmlkienikeklfaa.P
