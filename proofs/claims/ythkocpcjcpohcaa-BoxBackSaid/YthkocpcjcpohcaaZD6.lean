/- The part of our texts, and of the print's, that these laws' proofs use. -/
import Derived.Test.YthkocpcjcpohcaaZD5
set_option linter.unusedVariables false
set_option linter.unusedSimpArgs false
section
namespace Go.Proofs.Ythkocpcjcpohcaa.P
open Go.RowKit Go.Proofs.YthkocpcjcpohcaaW.PrintWords Go.Proofs.YthkocpcjcpohcaaW.PrintLast Go.Proofs.YthkocpcjcpohcaaW.PrintMore
attribute [local go_sem] max2_int min2_int max_two min_two max_three min_three max_four min_four   -- for this text's walks alone
mutual
def le_Get.j0 : Nat → List Int → Int → Int → Bool → Option (Int × Bool)
  | 0, _, _, _, _ => none
  | k + 1, x0, x1, x2, x30 => if x30 = true then (some (0, false)) else (le_Get.l0 k x0 x1 0 x2 0)
def le_Get.l0 : Nat → List Int → Int → Int → Int → Int → Option (Int × Bool)
  | 0, _, _, _, _, _ => none
  | k + 1, x0, x1, x8, x31, x32 => if x32 < x31 then (if 0 ≤ (wrap64 (x1 + x32)) then (if (wrap64 (x1 + x32)) < (x0.length : Int) then (if 0 ≤ (wrap64 (8 * x32)) then (le_Get.l0 k x0 x1 (Go.bits .or .u64 x8 (shl .u64 (IntKind.u64.wrap (rd x0 (wrap64 (x1 + x32)))) (wrap64 (8 * x32)))) x31 (wrap64 (x32 + 1))) else (none)) else (none)) else (none)) else (some (x8, true))
end
def le_Get.f (k : Nat) (l0 : List Int) (a1 : Int) (a2 : Int) : Option (Int × Bool) := (le_size.f a2).bind fun t155 => (if t155 = true then (if a1 < 0 then (le_Get.j0 k l0 a1 a2 true) else (if a1 > (l0.length : Int) then (le_Get.j0 k l0 a1 a2 true) else (le_Get.j0 k l0 a1 a2 (decide ((wrap64 ((l0.length : Int) - a1)) < a2))))) else (le_Get.j0 k l0 a1 a2 true))
theorem le_Get.mono_l : ∀ k, (∀ y0 y1 y2 y3, LeO (le_Get.j0 k y0 y1 y2 y3) (le_Get.j0 (k + 1) y0 y1 y2 y3)) ∧ (∀ y0 y1 y2 y3 y4, LeO (le_Get.l0 k y0 y1 y2 y3 y4) (le_Get.l0 (k + 1) y0 y1 y2 y3 y4))
  | 0 => ⟨fun _ _ _ _ r h => by simp [le_Get.j0] at h, fun _ _ _ _ _ r h => by simp [le_Get.l0] at h⟩
  | k + 1 => by
    obtain ⟨ih0, ih1⟩ := le_Get.mono_l k
    refine ⟨?_, ?_⟩
    · intro y0 y1 y2 y3
      unfold le_Get.j0
      repeat' first
      | (with_reducible exact ih0 _ _ _ _)
      | (with_reducible exact ih1 _ _ _ _ _)
      | (with_reducible exact LeO.refl _)
      | (with_reducible exact LeO.none _)
      | (with_reducible refine LeO.ite ?_ ?_)
      | (with_reducible refine LeO.bind ?_ (fun _ => ?_))
      | exact ih0 _ _ _ _
      | exact ih1 _ _ _ _ _
      | exact LeO.none _
      | refine LeO.ite ?_ ?_
      | refine LeO.bind ?_ (fun _ => ?_)
    · intro y0 y1 y2 y3 y4
      unfold le_Get.l0
      repeat' first
      | (with_reducible exact ih0 _ _ _ _)
      | (with_reducible exact ih1 _ _ _ _ _)
      | (with_reducible exact LeO.refl _)
      | (with_reducible exact LeO.none _)
      | (with_reducible refine LeO.ite ?_ ?_)
      | (with_reducible refine LeO.bind ?_ (fun _ => ?_))
      | exact ih0 _ _ _ _
      | exact ih1 _ _ _ _ _
      | exact LeO.none _
      | refine LeO.ite ?_ ?_
      | refine LeO.bind ?_ (fun _ => ?_)
theorem le_Get.mono : ∀ a0 a1 a2 k, LeO (le_Get.f k a0 a1 a2) (le_Get.f (k + 1) a0 a1 a2) := by
  intro a0 a1 a2 k
  obtain ⟨ih0, ih1⟩ := le_Get.mono_l k
  unfold le_Get.f
  repeat' first
      | (with_reducible exact ih0 _ _ _ _)
      | (with_reducible exact ih1 _ _ _ _ _)
      | (with_reducible exact LeO.refl _)
      | (with_reducible exact LeO.none _)
      | (with_reducible refine LeO.ite ?_ ?_)
      | (with_reducible refine LeO.bind ?_ (fun _ => ?_))
      | exact ih0 _ _ _ _
      | exact ih1 _ _ _ _ _
      | exact LeO.none _
      | refine LeO.ite ?_ ?_
      | refine LeO.bind ?_ (fun _ => ?_)
set_option maxHeartbeats 8000000 in
set_option maxRecDepth 100000 in
theorem le_Get.calls (k : Nat) (A0 : Option Addr) (c0 : Nat) (l0 : List Int) (a1 : Int) (a2 : Int) (r1 : Int) (r2 : Bool) (w : World) (hr0 : Kd.C (Kd.int .u8) w A0 l0.length l0) (hc0 : l0.length ≤ c0) (h : le_Get.f k l0 a1 a2 = some (r1, r2)) :
    Calls Try.prog 68 #[.slice A0 l0.length c0, .int .i64 a1, .int .i64 a2] w fun e w' => e = .returned (.tuple #[.int .u64 r1, .bool r2]) ∧ Drawn0 w w' := by
  have HR0 := asiD hr0
  have HC0 := asiD hc0
  clear hr0 hc0
  have H : ((le_size.f a2).bind fun t155 => (if t155 = true then (if a1 < 0 then (le_Get.j0 k l0 a1 a2 true) else (if a1 > (l0.length : Int) then (le_Get.j0 k l0 a1 a2 true) else (le_Get.j0 k l0 a1 a2 (decide ((wrap64 ((l0.length : Int) - a1)) < a2))))) else (le_Get.j0 k l0 a1 a2 true))) = some (r1, r2) := h
  clear h
  have HC4 := asiD H
  clear H
  go_enter Try.func68, Try.ntmps68
  go_upto_region 1 with (fail)
  go_cut [30] (fun v30 wc => ∃ (kq : Nat) (x30_3 : Bool), v30 = .bool x30_3 ∧ Aside0 (le_Get.j0 kq l0 a1 a2 x30_3 = some (r1, r2)) ∧ Aside0 (kq ≤ k) ∧ Drawn0 w wc)
  case first =>
    have H := HC4.out
    clear HC4
    replace H := Option.bind_eq_some_iff.mp H
    obtain ⟨t155, A50, H⟩ := H
    replace H : (if t155 = true then (if a1 < 0 then (le_Get.j0 k l0 a1 a2 true) else (if a1 > (l0.length : Int) then (le_Get.j0 k l0 a1 a2 true) else (le_Get.j0 k l0 a1 a2 (decide ((wrap64 ((l0.length : Int) - a1)) < a2))))) else (le_Get.j0 k l0 a1 a2 true)) = some (r1, r2) := H
    have A5 := asiD A50
    clear A50
    by_cases c6 : t155 = true
    · subst c6
      have H1 : (if a1 < 0 then (le_Get.j0 k l0 a1 a2 true) else (if a1 > (l0.length : Int) then (le_Get.j0 k l0 a1 a2 true) else (le_Get.j0 k l0 a1 a2 (decide ((wrap64 ((l0.length : Int) - a1)) < a2))))) = some (r1, r2) := by rw [if_pos rfl] at H; exact H
      clear H
      have H := H1
      clear H1
      by_cases c7 : a1 < 0
      · rw [if_pos c7] at H
        have c7b0 : decide (a1 < 0) = true := decide_eq_true c7
        clear c7
        (first | rw [c7b0] | (simp only [i64_w, i32_w]; rw [c7b0]) | skip)
        have H' := asiD H
        clear H
        go_wp2_with (first | ((with_reducible refine gate_callee (f := 79) rfl ?_); refine goesL_ (some 11) rfl rfl Try.func79 (by kernel_rfl) rfl #[.int .i64 a2] rfl (by (try simp only [List.map_toArray, List.map_cons, List.map_nil]); first | done | rfl | (simp only [List.length_drop, List.length_take]; rfl)) ?_; (with_reducible refine (le_size.calls a2 true _ A5.out).mono ?_); clear A5; rintro e w' ⟨rfl, ⟨nd, rfl⟩⟩; refine ⟨_, rfl, ?_⟩) | (go_at_call 79; (with_reducible refine (le_size.calls a2 true _ A5.out).mono ?_); clear A5; rintro e w' ⟨rfl, ⟨nd, rfl⟩⟩))
        go_meet
        case rel => exact ⟨_, (true), (by first | rfl | (simp; done) | (simp [*]; done)), H', ⟨by first | omega | exact Nat.le_refl _⟩, by repeat (first | exact Drawn0.refl _ | apply Drawn0.step)⟩
      · rw [if_neg c7] at H
        have c7b0 : decide (a1 < 0) = false := decide_eq_false c7
        clear c7
        (first | rw [c7b0] | (simp only [i64_w, i32_w]; rw [c7b0]) | skip)
        by_cases c8 : a1 > (l0.length : Int)
        · rw [if_pos c8] at H
          have c8b0 : decide ((l0.length : Int) < a1) = true := decide_eq_true c8
          clear c8
          have H' := asiD H
          clear H
          go_wp2_with (first | ((with_reducible refine gate_callee (f := 79) rfl ?_); refine goesL_ (some 11) rfl rfl Try.func79 (by kernel_rfl) rfl #[.int .i64 a2] rfl (by (try simp only [List.map_toArray, List.map_cons, List.map_nil]); first | done | rfl | (simp only [List.length_drop, List.length_take]; rfl)) ?_; (with_reducible refine (le_size.calls a2 true _ A5.out).mono ?_); clear A5; rintro e w' ⟨rfl, ⟨nd, rfl⟩⟩; refine ⟨_, rfl, ?_⟩) | (go_at_call 79; (with_reducible refine (le_size.calls a2 true _ A5.out).mono ?_); clear A5; rintro e w' ⟨rfl, ⟨nd, rfl⟩⟩))
          go_meet
          case rel => exact ⟨_, (true), (by first | rfl | (simp; done) | (simp [*]; done)), H', ⟨by first | omega | exact Nat.le_refl _⟩, by repeat (first | exact Drawn0.refl _ | apply Drawn0.step)⟩
        · rw [if_neg c8] at H
          have c8b0 : decide ((l0.length : Int) < a1) = false := decide_eq_false c8
          clear c8
          have H' := asiD H
          clear H
          go_wp2_with (first | ((with_reducible refine gate_callee (f := 79) rfl ?_); refine goesL_ (some 11) rfl rfl Try.func79 (by kernel_rfl) rfl #[.int .i64 a2] rfl (by (try simp only [List.map_toArray, List.map_cons, List.map_nil]); first | done | rfl | (simp only [List.length_drop, List.length_take]; rfl)) ?_; (with_reducible refine (le_size.calls a2 true _ A5.out).mono ?_); clear A5; rintro e w' ⟨rfl, ⟨nd, rfl⟩⟩; refine ⟨_, rfl, ?_⟩) | (go_at_call 79; (with_reducible refine (le_size.calls a2 true _ A5.out).mono ?_); clear A5; rintro e w' ⟨rfl, ⟨nd, rfl⟩⟩))
          go_meet
          case rel => exact ⟨_, (decide ((wrap64 ((l0.length : Int) - a1)) < a2)), (by first | rfl | (simp; done) | (simp [*]; done)), H', ⟨by first | omega | exact Nat.le_refl _⟩, by repeat (first | exact Drawn0.refl _ | apply Drawn0.step)⟩
    · replace c6 := Bool.eq_false_iff.mpr c6
      subst c6
      have H1 : (le_Get.j0 k l0 a1 a2 true) = some (r1, r2) := by rw [if_neg (show ¬ (false = true) by decide)] at H; exact H
      clear H
      have H := H1
      clear H1
      have H' := asiD H
      clear H
      go_wp2_with (first | ((with_reducible refine gate_callee (f := 79) rfl ?_); refine goesL_ (some 11) rfl rfl Try.func79 (by kernel_rfl) rfl #[.int .i64 a2] rfl (by (try simp only [List.map_toArray, List.map_cons, List.map_nil]); first | done | rfl | (simp only [List.length_drop, List.length_take]; rfl)) ?_; (with_reducible refine (le_size.calls a2 false _ A5.out).mono ?_); clear A5; rintro e w' ⟨rfl, ⟨nd, rfl⟩⟩; refine ⟨_, rfl, ?_⟩) | (go_at_call 79; (with_reducible refine (le_size.calls a2 false _ A5.out).mono ?_); clear A5; rintro e w' ⟨rfl, ⟨nd, rfl⟩⟩))
      go_meet
      case rel => exact ⟨_, (true), (by first | rfl | (simp; done) | (simp [*]; done)), H', ⟨by first | omega | exact Nat.le_refl _⟩, by repeat (first | exact Drawn0.refl _ | apply Drawn0.step)⟩
  case rest =>
    clear HC4
    try clear p2
    try clear c6
    try clear p6
    try clear c7
    try clear c7b0
    try clear c8
    try clear c8b0
    obtain ⟨kq, x30_3, rfl, HA, HJ3, ⟨mc3, rfl⟩⟩ := hcut
    cases kq with
    | zero => exact absurd HA.out (by simp [le_Get.j0])
    | succ kj3 =>
      have H := HA.out
      clear HA
      simp only [le_Get.j0] at H
      by_cases c9 : x30_3 = true
      · subst c9
        have H1 : (some (0, false)) = some (r1, r2) := by rw [if_pos rfl] at H; exact H
        clear H
        have H := H1
        clear H1
        simp only [Option.some.injEq, Prod.mk.injEq] at H
        obtain ⟨rfl, rfl⟩ := H
        go_wp2
        go_ret2
        exact ⟨by first | rfl | (simp; done) | (simp [*]; done), by repeat (first | exact Drawn0.refl _ | apply Drawn0.step)⟩
      · replace c9 := Bool.eq_false_iff.mpr c9
        subst c9
        have H1 : (le_Get.l0 kj3 l0 a1 0 a2 0) = some (r1, r2) := by rw [if_neg (show ¬ (false = true) by decide)] at H; exact H
        clear H
        have H := H1
        clear H1
        have H' := asiD H
        clear H
        go_wp2
        go_loopg [8, 32] kj3 (fun kq v8 v32 w' => ∃ (x8_2 : Int) (x32_2 : Int), v8 = .int .u64 x8_2 ∧ v32 = .int .i64 x32_2 ∧ Aside0 (le_Get.l0 kq l0 a1 x8_2 a2 x32_2 = some (r1, r2)) ∧ Aside0 (kq ≤ kj3) ∧ Drawn0 w w')
        case atStart => exact ⟨(0), (0), (by first | rfl | (simp; done) | (simp [*]; done)), (by first | rfl | (simp; done) | (simp [*]; done)), H', ⟨Nat.le_refl _⟩, by repeat (first | exact Drawn0.refl _ | apply Drawn0.step)⟩
        case round =>
          clear H'
          try clear p2
          try clear c3
          try clear c6
          try clear p6
          try clear c7
          try clear c7b0
          try clear c8
          try clear c8b0
          try clear c9
          try clear p2
          try clear p6
          obtain ⟨x8_2, x32_2, rfl, rfl, HA, HK2, ⟨m2, rfl⟩⟩ := hrel
          cases gk with
          | zero => exact absurd HA.out (by simp [le_Get.l0])
          | succ k2 =>
            have H := HA.out
            clear HA
            simp only [le_Get.l0] at H
            by_cases c10 : x32_2 < a2
            · rw [if_pos c10] at H
              have c10b0 : decide (x32_2 < a2) = true := decide_eq_true c10
              clear c10
              obtain ⟨ji11, hji11⟩ : ∃ j_ : Int, (wrap64 (a1 + x32_2)) = j_ := ⟨_, rfl⟩
              replace H : (if 0 ≤ (ji11) then (if (ji11) < (l0.length : Int) then (if 0 ≤ (wrap64 (8 * x32_2)) then (le_Get.l0 k2 l0 a1 (Go.bits .or .u64 x8_2 (shl .u64 (IntKind.u64.wrap (rd l0 (ji11))) (wrap64 (8 * x32_2)))) a2 (wrap64 (x32_2 + 1))) else (none)) else (none)) else (none)) = some (r1, r2) := by first | (rw [hji11] at H; exact H) | (simp only [hji11] at H ⊢; exact H)
              have hji11w : (IntKind.i64.wrap (a1 + x32_2)) = ji11 := (i64_w _).trans hji11
              by_cases c12 : 0 ≤ (ji11)
              · rw [if_pos c12] at H
                have c12b0 : decide (0 ≤ (ji11)) = true := decide_eq_true c12
                clear c12
                by_cases c13 : (ji11) < (l0.length : Int)
                · rw [if_pos c13] at H
                  have c13b0 : decide ((ji11) < (l0.length : Int)) = true := decide_eq_true c13
                  clear c13
                  obtain ⟨ji14, hji14⟩ : ∃ j_ : Int, (wrap64 (8 * x32_2)) = j_ := ⟨_, rfl⟩
                  replace H : (if 0 ≤ (ji14) then (le_Get.l0 k2 l0 a1 (Go.bits .or .u64 x8_2 (shl .u64 (IntKind.u64.wrap (rd l0 (ji11))) (ji14))) a2 (wrap64 (x32_2 + 1))) else (none)) = some (r1, r2) := by first | (rw [hji14] at H; exact H) | (simp only [hji14] at H ⊢; exact H)
                  have hji14w : (IntKind.i64.wrap (8 * x32_2)) = ji14 := (i64_w _).trans hji14
                  by_cases c15 : 0 ≤ (ji14)
                  · rw [if_pos c15] at H
                    have c15b0 := eq_true c15
                    have c15b1 : decide (0 ≤ (ji14)) = true := decide_eq_true c15
                    clear c15
                    obtain ⟨ji16, hji16⟩ : ∃ j_ : Int, (shl .u64 (IntKind.u64.wrap (rd l0 (ji11))) (ji14)) = j_ := ⟨_, rfl⟩
                    replace H : (le_Get.l0 k2 l0 a1 (Go.bits .or .u64 x8_2 (ji16)) a2 (wrap64 (x32_2 + 1))) = some (r1, r2) := by first | (rw [hji16] at H; exact H) | (simp only [hji16] at H ⊢; exact H)
                    (try (have hji16k : 0 ≤ (ji14) := by omega))
                    (try (have hji16K := eq_true hji16k))
                    (try (have hji16D : decide (0 ≤ (ji14)) = true := decide_eq_true hji16k))
                    have hji16_ : (IntKind.u64.wrap ((IntKind.u64.wrap (rd l0 (ji11))) * 2 ^ min (ji14).toNat 64)) = ji16 := hji16
                    have hji16z : (ji14) ≤ 64 → (IntKind.u64.wrap ((IntKind.u64.wrap (rd l0 (ji11))) * 2 ^ (ji14).toNat)) = ji16 := shl_small hji16
                    have H' := asiD H
                    clear H
                    have p156 : 0 ≤ ((ji11) : Int) := of_decide_eq_true (by first | (with_reducible assumption) | assumption)
                    have q156 : (ji11) < (l0.length : Int) := of_decide_eq_true (by first | (with_reducible assumption) | assumption)
                    obtain ⟨ad156, e156, hx156_0⟩ := Kd.at_int HR0.out (ji11) p156 q156
                    cases e156
                    replace p156 := eq_true p156
                    replace q156 := eq_true q156
                    go_wp2
                    go_roundg k2
                    case measure => have := HJ3.out; have := HK2.out; omega
                    case rel => exact ⟨(Go.bits .or .u64 x8_2 (ji16)), (wrap64 (x32_2 + 1)), (by first | rfl | (simp; done) | (simp only [← hji16] <;> (first | rfl | simp)) | (simp [*]; done)), (by first | rfl | (simp; done) | (simp [*]; done)), H', ⟨by have := HJ3.out; have := HK2.out; omega⟩, by repeat (first | exact Drawn0.refl _ | apply Drawn0.step)⟩
                  · rw [if_neg c15] at H
                    exact absurd H (by simp)
                · rw [if_neg c13] at H
                  exact absurd H (by simp)
              · rw [if_neg c12] at H
                exact absurd H (by simp)
            · rw [if_neg c10] at H
              have c10b0 : decide (x32_2 < a2) = false := decide_eq_false c10
              clear c10
              simp only [Option.some.injEq, Prod.mk.injEq] at H
              obtain ⟨rfl, rfl⟩ := H
              go_wp2
              go_ret2
              exact ⟨by first | rfl | (simp; done) | (simp [*]; done), by repeat (first | exact Drawn0.refl _ | apply Drawn0.step)⟩
def chunk_one.j0 : Nat → List Int → ByteArray → Int → Bool → Option (ByteArray × List Int × Int × Int)
  | 0, _, _, _, _ => none
  | k + 1, x0, x5, x6, x35 => if x35 = true then (some ((⟨#[]⟩ : ByteArray), ([] : List Int), 0, 2)) else (if 8 ≤ (wrap64 (8 + (wrap64 (x6)))) then (if (wrap64 (8 + (wrap64 (x6)))) ≤ (x0.length : Int) then ((bytes_Clone.f ((x0.take ((wrap64 (8 + (wrap64 (x6)))) : Int).toNat).drop 8)).bind fun t163 => (if (Int.tmod x6 2) = 0 then (some (x5, t163, wrap64 (8 + (wrap64 (x6))), 0)) else (if (wrap64 (8 + (wrap64 (x6)))) ≥ (x0.length : Int) then (some ((⟨#[]⟩ : ByteArray), ([] : List Int), 0, 2)) else (if 0 ≤ (wrap64 (8 + (wrap64 (x6)))) then (if (wrap64 (8 + (wrap64 (x6)))) < (x0.length : Int) then (if (rd x0 (wrap64 (8 + (wrap64 (x6))))) = 0 then (some (x5, t163, wrap64 ((wrap64 (8 + (wrap64 (x6)))) + 1), 0)) else (some ((⟨#[]⟩ : ByteArray), ([] : List Int), 0, 3))) else (none)) else (none))))) else (none)) else (none))
def chunk_one.f (k : Nat) (l0 : List Int) : Option (ByteArray × List Int × Int × Int) := if (l0.length : Int) < 4 then (some ((⟨#[]⟩ : ByteArray), ([] : List Int), 0, 2)) else (if 4 ≤ (l0.length : Int) then ((chunk_Name.f (strOfNums (l0.take 4))).bind fun t159 => (if t159 = true then ((le_Get.f k l0 4 4).bind fun bt160 => (if bt160.2 = true then (chunk_one.j0 k l0 (strOfNums (l0.take 4)) bt160.1 (decide (bt160.1 > (IntKind.u64.wrap (wrap64 ((l0.length : Int) - 8)))))) else (chunk_one.j0 k l0 (strOfNums (l0.take 4)) bt160.1 true))) else (some ((⟨#[]⟩ : ByteArray), ([] : List Int), 0, 3)))) else (none))
theorem chunk_one.mono_l : ∀ k, (∀ y0 y1 y2 y3, LeO (chunk_one.j0 k y0 y1 y2 y3) (chunk_one.j0 (k + 1) y0 y1 y2 y3))
  | 0 => fun _ _ _ _ r h => by simp [chunk_one.j0] at h
  | k + 1 => by
    have ih0 := chunk_one.mono_l k
    · intro y0 y1 y2 y3
      unfold chunk_one.j0
      repeat' first
      | (with_reducible exact ih0 _ _ _ _)
      | (with_reducible exact le_Get.mono _ _ _ _)
      | (with_reducible exact LeO.refl _)
      | (with_reducible exact LeO.none _)
      | (with_reducible refine LeO.ite ?_ ?_)
      | (with_reducible refine LeO.bind ?_ (fun _ => ?_))
      | exact ih0 _ _ _ _
      | exact le_Get.mono _ _ _ _
      | exact LeO.none _
      | refine LeO.ite ?_ ?_
      | refine LeO.bind ?_ (fun _ => ?_)
theorem chunk_one.mono : ∀ a0 k, LeO (chunk_one.f k a0) (chunk_one.f (k + 1) a0) := by
  intro a0 k
  have ih0 := chunk_one.mono_l k
  unfold chunk_one.f
  repeat' first
      | (with_reducible exact ih0 _ _ _ _)
      | (with_reducible exact le_Get.mono _ _ _ _)
      | (with_reducible exact LeO.refl _)
      | (with_reducible exact LeO.none _)
      | (with_reducible refine LeO.ite ?_ ?_)
      | (with_reducible refine LeO.bind ?_ (fun _ => ?_))
      | exact ih0 _ _ _ _
      | exact le_Get.mono _ _ _ _
      | exact LeO.none _
      | refine LeO.ite ?_ ?_
      | refine LeO.bind ?_ (fun _ => ?_)
set_option maxHeartbeats 8000000 in
set_option maxRecDepth 100000 in
theorem chunk_one.calls (k : Nat) (A0 : Option Addr) (c0 : Nat) (l0 : List Int) (r1 : ByteArray) (r2 : List Int) (r3 : Int) (r4 : Int) (w : World) (hr0 : Kd.C (Kd.int .u8) w A0 l0.length l0) (hc0 : l0.length ≤ c0) (h : chunk_one.f k l0 = some (r1, r2, r3, r4)) :
    Calls Try.prog 84 #[.slice A0 l0.length c0] w fun e w' => ∃ v1_ : Value, e = .returned (.tuple #[.agg #[.string r1, v1_], .int .i64 r3, .int .i64 r4]) ∧ Kd.R (Kd.int .u8) 5 w' w.heap.size (fun _ => True) v1_ r2 ∧ Below w.heap.size w w' := by
  have hu42 := Try.underlying42
  have HR0 := asiD hr0
  have HC0 := asiD hc0
  clear hr0 hc0
  have HB := asiD (Below.refl w.heap.size w)
  have H : (if (l0.length : Int) < 4 then (some ((⟨#[]⟩ : ByteArray), ([] : List Int), 0, 2)) else (if 4 ≤ (l0.length : Int) then ((chunk_Name.f (strOfNums (l0.take 4))).bind fun t159 => (if t159 = true then ((le_Get.f k l0 4 4).bind fun bt160 => (if bt160.2 = true then (chunk_one.j0 k l0 (strOfNums (l0.take 4)) bt160.1 (decide (bt160.1 > (IntKind.u64.wrap (wrap64 ((l0.length : Int) - 8)))))) else (chunk_one.j0 k l0 (strOfNums (l0.take 4)) bt160.1 true))) else (some ((⟨#[]⟩ : ByteArray), ([] : List Int), 0, 3)))) else (none))) = some (r1, r2, r3, r4) := h
  clear h
  by_cases c2 : (l0.length : Int) < 4
  · rw [if_pos c2] at H
    have c2b0 : decide ((l0.length : Int) < 4) = true := decide_eq_true c2
    have c2b1 : decide (l0.length < 4) = true := decide_eq_true (by omega)
    clear c2
    simp only [Option.some.injEq, Prod.mk.injEq] at H
    obtain ⟨rfl, rfl, rfl, rfl⟩ := H
    go_enter Try.func84, Try.ntmps84
    go_wp2_with (first | ((with_reducible refine gate_dst (N := 2) rfl ?_); (try (refine gate_guard (by rfl) ?_; dsimp only)); refine box_event ?hg (N := 2) ?hd (cs := #[.string (⟨#[]⟩ : ByteArray), .slice none 0 0]) (t := 42) ?hr ?_; (case hd => rfl); (case hg => rfl); (case hr => first | (go_simp; done) | (go_simp; rfl)); intro gb157 hg w3 hbox hb; have n0_ := asiD (below_step (by repeat (first | (with_reducible first | exact HB.out | apply below_alloc | apply pw_below_drewN | apply below_drew1) | exact HB.out)) hb); have n1_ := asiD (hbox); have n2_ := asiD ((by rw [hg]; exact (below_size (by repeat (first | (with_reducible first | exact HB.out | apply below_alloc | apply pw_below_drewN | apply below_drew1) | exact HB.out))) : w.heap.size ≤ gb157)); have n3_ := asiD ((by rw [hg]; exact (below_size (by repeat (first | (with_reducible first | exact HB.out | apply below_alloc | apply pw_below_drewN | apply below_drew1) | exact HB.out))) : w.heap.size ≤ gb157)); clear HB; have HB := n0_; have BK157 := n1_; have GW157 := n2_; have GE157 := n3_; clear n0_ n1_ n2_ n3_; clear hb hbox hg; have hcz4_0 : w3.cell? ⟨gb157, 0, none⟩ = some (.string (⟨#[]⟩ : ByteArray)) := (blk_cell BK157.out 0).trans rfl; have hcz4_1 : w3.cell? ⟨gb157, 1, none⟩ = some (.slice none 0 0) := (blk_cell BK157.out 1).trans rfl; have hfz4_0 := blk_frozen BK157.out 0; have hfz4_1 := blk_frozen BK157.out 1))
    refine bodyPost_ret (results_ctt rfl _ _ gb157 42 #[.string (⟨#[]⟩ : ByteArray), .slice none 0 0] (0, 0) _ rfl (by (with_reducible repeat (first | refine blk_drewN ?_ _ | refine blk_drew ?_ | refine blk_alloc ?_ _)); refine blk_put (cs := #[.string (⟨#[]⟩ : ByteArray), .slice none 0 0]) ?_ 1 _ rfl; (with_reducible repeat (first | refine blk_drewN ?_ _ | refine blk_drew ?_ | refine blk_alloc ?_ _)); refine blk_put (cs := #[.string (⟨#[]⟩ : ByteArray), .slice none 0 0]) ?_ 0 _ rfl; (with_reducible repeat (first | refine blk_drewN ?_ _ | refine blk_drew ?_ | refine blk_alloc ?_ _)); exact BK157.out) Try.underlying42 rfl (by kernel_rfl)) rfl ?_
    exact ⟨_, by first | rfl | (simp [errW_none, errW_some] <;> rfl) | (simp [*, errW_none, errW_some] <;> rfl), by first | exact Kd.R_nil _ _ _ _ _ | exact Kd.N_nil _ _ _ _ _ | exact Kd.V_nil _ _ _ _ _ | exact Kd.Q_nil _ _ _ _ _ | exact Kd.S_nil _ _ _ _ _, by repeat (first | (with_reducible first | exact HB.out | apply below_alloc | apply pw_below_drewN | apply below_drew1 | refine below_set ?_ GE157.out) | exact HB.out)⟩
  · rw [if_neg c2] at H
    have c2b0 : decide ((l0.length : Int) < 4) = false := decide_eq_false c2
    have c2b1 : decide (l0.length < 4) = false := decide_eq_false (by omega)
    clear c2
    by_cases c5 : 4 ≤ (l0.length : Int)
    · rw [if_pos c5] at H
      have c5b0 := eq_true c5
      have c5b1 : decide (4 ≤ (l0.length : Int)) = true := decide_eq_true c5
      clear c5
      replace H := Option.bind_eq_some_iff.mp H
      obtain ⟨t159, A60, H⟩ := H
      replace H : (if t159 = true then ((le_Get.f k l0 4 4).bind fun bt160 => (if bt160.2 = true then (chunk_one.j0 k l0 (strOfNums (l0.take 4)) bt160.1 (decide (bt160.1 > (IntKind.u64.wrap (wrap64 ((l0.length : Int) - 8)))))) else (chunk_one.j0 k l0 (strOfNums (l0.take 4)) bt160.1 true))) else (some ((⟨#[]⟩ : ByteArray), ([] : List Int), 0, 3))) = some (r1, r2, r3, r4) := H
      have A6 := asiD A60
      clear A60
      by_cases c7 : t159 = true
      · subst c7
        have H1 : ((le_Get.f k l0 4 4).bind fun bt160 => (if bt160.2 = true then (chunk_one.j0 k l0 (strOfNums (l0.take 4)) bt160.1 (decide (bt160.1 > (IntKind.u64.wrap (wrap64 ((l0.length : Int) - 8)))))) else (chunk_one.j0 k l0 (strOfNums (l0.take 4)) bt160.1 true))) = some (r1, r2, r3, r4) := by rw [if_pos rfl] at H; exact H
        clear H
        have H := H1
        clear H1
        replace H := Option.bind_eq_some_iff.mp H
        obtain ⟨⟨t160, t161⟩, A80, H⟩ := H
        replace H : (if t161 = true then (chunk_one.j0 k l0 (strOfNums (l0.take 4)) t160 (decide (t160 > (IntKind.u64.wrap (wrap64 ((l0.length : Int) - 8)))))) else (chunk_one.j0 k l0 (strOfNums (l0.take 4)) t160 true)) = some (r1, r2, r3, r4) := H
        have A8 := asiD A80
        clear A80
        have HC9 := asiD H
        clear H
        go_enter Try.func84, Try.ntmps84
        go_upto_region 7 with (first | ((with_reducible refine gate_dst (N := 2) rfl ?_); (try (refine gate_guard (by rfl) ?_; dsimp only)); refine box_event ?hg (N := 2) ?hd (cs := #[.string (⟨#[]⟩ : ByteArray), .slice none 0 0]) (t := 42) ?hr ?_; (case hd => rfl); (case hg => rfl); (case hr => first | (go_simp; done) | (go_simp; rfl)); intro gb157 hg w10 hbox hb; have n0_ := asiD (below_step (by repeat (first | (with_reducible first | exact HB.out | apply below_alloc | apply pw_below_drewN | apply below_drew1) | exact HB.out)) hb); have n1_ := asiD (hbox); have n2_ := asiD ((by rw [hg]; exact (below_size (by repeat (first | (with_reducible first | exact HB.out | apply below_alloc | apply pw_below_drewN | apply below_drew1) | exact HB.out))) : w.heap.size ≤ gb157)); have n3_ := asiD ((by rw [hg]; exact (below_size (by repeat (first | (with_reducible first | exact HB.out | apply below_alloc | apply pw_below_drewN | apply below_drew1) | exact HB.out))) : w.heap.size ≤ gb157)); clear HB; have HB := n0_; have BK157 := n1_; have GW157 := n2_; have GE157 := n3_; clear n0_ n1_ n2_ n3_; clear hb hbox hg; obtain ⟨i011, hi011, _, hsz11, _⟩ := info_parts info5; obtain ⟨hcut11, hA11, hC11⟩ := print_take_of (P := Try.prog) (Value.int .u8) 0 23 5 .i64 Try.underlying23 hi011 hsz11 A0 c0 l0 4 (by omega) (of_decide_eq_true (by first | (with_reducible assumption) | assumption)) HC0.out; have HR158 := asiD (Kd.C_of_reads (h1 := fun _ => rfl) (hA11 _ (Kd.reads_of_C HR0.out))); have HC158 := asiD hC11; clear hA11 hC11 hi011 hsz11; have hcv12 := Kd.C_string (P := Try.prog) (A := A0) (c := c0) Try.underlying23 Try.underlying5 Try.underlying9 (Kd.C_below HR158.out HB.out); have hcv12q := hcv12; (try simp only [List.length_take, List.length_drop, Int.reduceToNat] at hcv12q); have hcv12d := fun nd => Kd.C_string (P := Try.prog) (A := A0) (c := c0) Try.underlying23 Try.underlying5 Try.underlying9 (Kd.C_drewN (Kd.C_below HR158.out HB.out) nd); (try simp only [List.length_take, List.length_drop, Int.reduceToNat] at hcv12d); have hcv12e := hcv12; have hcv12f := hcv12d) | ((with_reducible refine gate_callee (f := 78) rfl ?_); refine goesL_ (some 18) rfl rfl Try.func78 (by kernel_rfl) rfl #[.string (strOfNums (l0.take 4))] rfl (by (try simp only [List.map_toArray, List.map_cons, List.map_nil]); first | done | rfl | (simp only [List.length_drop, List.length_take]; rfl)) ?_; (with_reducible refine (chunk_Name.calls (strOfNums (l0.take 4)) true _ A6.out).mono ?_); clear A6; rintro e w13 ⟨rfl, hb⟩; refine ⟨_, rfl, ?_⟩; have n0_ := asiD (blk_below (g := gb157) (o := .cells #[.string (⟨#[]⟩ : ByteArray), .slice none 0 0] 42 (0, 0)) (by (with_reducible repeat (first | refine blk_drewN ?_ _ | refine blk_drew ?_ | refine blk_alloc ?_ _)); exact BK157.out) hb); have n1_ := asiD (below_step (by repeat (first | (with_reducible first | exact HB.out | apply below_alloc | apply pw_below_drewN | apply below_drew1 | refine below_set ?_ GE157.out) | exact HB.out)) hb); clear BK157; clear HB; have BK157 := n0_; have HB := n1_; clear n0_ n1_; (try clear hb); (try clear hb2); (try clear hk); (try clear hi)) | (go_at_call 78; (with_reducible refine (chunk_Name.calls (strOfNums (l0.take 4)) true _ A6.out).mono ?_); clear A6; rintro e w13 ⟨rfl, hb⟩; have n0_ := asiD (blk_below (g := gb157) (o := .cells #[.string (⟨#[]⟩ : ByteArray), .slice none 0 0] 42 (0, 0)) (by (with_reducible repeat (first | refine blk_drewN ?_ _ | refine blk_drew ?_ | refine blk_alloc ?_ _)); exact BK157.out) hb); have n1_ := asiD (below_step (by repeat (first | (with_reducible first | exact HB.out | apply below_alloc | apply pw_below_drewN | apply below_drew1 | refine below_set ?_ GE157.out) | exact HB.out)) hb); clear BK157; clear HB; have BK157 := n0_; have HB := n1_; clear n0_ n1_; (try clear hb); (try clear hb2); (try clear hk); (try clear hi)) | ((with_reducible refine gate_callee (f := 68) rfl ?_); refine goesL_ (some 23) rfl rfl Try.func68 (by kernel_rfl) rfl #[.slice A0 l0.length c0, .int .i64 4, .int .i64 4] rfl (by (try simp only [List.map_toArray, List.map_cons, List.map_nil]); first | done | rfl | (simp only [List.length_drop, List.length_take]; rfl)) ?_; (with_reducible refine (le_Get.calls k _ _ l0 4 4 t160 t161 _ ?side1 ?side2 A8.out).mono ?_); (case side1 => repeat (first | exact (Kd.C_below HR0.out HB.out) | (with_reducible refine Kd.C_alloc ?_ _) | (with_reducible refine Kd.C_drewN ?_ _) | (with_reducible refine Kd.C_drew ?_))); (case side2 => exact HC0.out); rintro e w' ⟨rfl, ⟨nd, rfl⟩⟩; refine ⟨_, rfl, ?_⟩) | (go_at_call 68; (with_reducible refine (le_Get.calls k _ _ l0 4 4 t160 t161 _ ?side1 ?side2 A8.out).mono ?_); (case side1 => repeat (first | exact (Kd.C_below HR0.out HB.out) | (with_reducible refine Kd.C_alloc ?_ _) | (with_reducible refine Kd.C_drewN ?_ _) | (with_reducible refine Kd.C_drew ?_))); (case side2 => exact HC0.out); rintro e w' ⟨rfl, ⟨nd, rfl⟩⟩))
        (try simp only [Act.put, List.setIfInBounds_toArray, List.set_cons_zero, List.set_cons_succ])
        go_cut [35] (fun v35 wc => ∃ (kq : Nat) (x35_8 : Bool), v35 = .bool x35_8 ∧ Aside0 (chunk_one.j0 kq l0 (strOfNums (l0.take 4)) t160 x35_8 = some (r1, r2, r3, r4)) ∧ Aside0 (kq ≤ k) ∧ Aside0 (wc.heap[gb157]? = some (.cells #[.string (⟨#[]⟩ : ByteArray), (.slice none 0 0)] 42 (0, 0))) ∧ Aside0 (Below w.heap.size w wc))
        case first =>
          have H := HC9.out
          clear HC9
          by_cases c14 : t161 = true
          · subst c14
            have H1 : (chunk_one.j0 k l0 (strOfNums (l0.take 4)) t160 (decide (t160 > (IntKind.u64.wrap (wrap64 ((l0.length : Int) - 8)))))) = some (r1, r2, r3, r4) := by rw [if_pos rfl] at H; exact H
            clear H
            have H := H1
            clear H1
            have H' := asiD H
            clear H
            go_wp2
            go_meet
            case rel => exact ⟨_, (decide (t160 > (IntKind.u64.wrap (wrap64 ((l0.length : Int) - 8))))), (by first | rfl | (simp; done) | (simp [*]; done)), H', ⟨by first | omega | exact Nat.le_refl _⟩, ⟨by (with_reducible repeat (first | refine blk_drewN ?_ _ | refine blk_drew ?_ | refine blk_alloc ?_ _)); exact BK157.out⟩, ⟨by repeat (first | (with_reducible first | exact HB.out | apply below_alloc | apply pw_below_drewN | apply below_drew1 | refine below_set ?_ GE157.out) | exact HB.out)⟩⟩
          · replace c14 := Bool.eq_false_iff.mpr c14
            subst c14
            have H1 : (chunk_one.j0 k l0 (strOfNums (l0.take 4)) t160 true) = some (r1, r2, r3, r4) := by rw [if_neg (show ¬ (false = true) by decide)] at H; exact H
            clear H
            have H := H1
            clear H1
            have H' := asiD H
            clear H
            go_wp2
            go_meet
            case rel => exact ⟨_, (true), (by first | rfl | (simp; done) | (simp [*]; done)), H', ⟨by first | omega | exact Nat.le_refl _⟩, ⟨by (with_reducible repeat (first | refine blk_drewN ?_ _ | refine blk_drew ?_ | refine blk_alloc ?_ _)); exact BK157.out⟩, ⟨by repeat (first | (with_reducible first | exact HB.out | apply below_alloc | apply pw_below_drewN | apply below_drew1 | refine below_set ?_ GE157.out) | exact HB.out)⟩⟩
        case rest =>
          clear HC9
          try clear c1
          try clear hcv1
          try clear c2
          try clear c2b0
          try clear c2b1
          try clear p2
          try clear c5
          try clear c5b0
          try clear c5b1
          try clear c6
          try clear p6
          try clear c7
          try clear c8
          try clear hcv12
          try clear c14
          try clear hcz4_0
          try clear hcz4_1
          try clear hfz4_0
          try clear hfz4_1
          obtain ⟨kq, x35_8, rfl, HA, HJ8, BK157, HB⟩ := hcut
          cases kq with
          | zero => exact absurd HA.out (by simp [chunk_one.j0])
          | succ kj8 =>
            have H := HA.out
            clear HA
            simp only [chunk_one.j0] at H
            by_cases c15 : x35_8 = true
            · subst c15
              have H1 : (some ((⟨#[]⟩ : ByteArray), ([] : List Int), 0, 2)) = some (r1, r2, r3, r4) := by rw [if_pos rfl] at H; exact H
              clear H
              have H := H1
              clear H1
              simp only [Option.some.injEq, Prod.mk.injEq] at H
              obtain ⟨rfl, rfl, rfl, rfl⟩ := H
              have hcz16_0 : wc.cell? ⟨gb157, 0, none⟩ = some (.string (⟨#[]⟩ : ByteArray)) := (blk_cell BK157.out 0).trans rfl
              have hcz16_1 : wc.cell? ⟨gb157, 1, none⟩ = some (.slice none 0 0) := (blk_cell BK157.out 1).trans rfl
              have hfz16_0 := blk_frozen BK157.out 0
              have hfz16_1 := blk_frozen BK157.out 1
              go_wp2
              refine bodyPost_ret (results_ctt rfl _ _ gb157 42 #[.string (⟨#[]⟩ : ByteArray), .slice none 0 0] (0, 0) _ rfl (by (with_reducible repeat (first | refine blk_drewN ?_ _ | refine blk_drew ?_ | refine blk_alloc ?_ _)); refine blk_put (cs := #[.string (⟨#[]⟩ : ByteArray), .slice none 0 0]) ?_ 1 _ rfl; (with_reducible repeat (first | refine blk_drewN ?_ _ | refine blk_drew ?_ | refine blk_alloc ?_ _)); refine blk_put (cs := #[.string (⟨#[]⟩ : ByteArray), .slice none 0 0]) ?_ 0 _ rfl; (with_reducible repeat (first | refine blk_drewN ?_ _ | refine blk_drew ?_ | refine blk_alloc ?_ _)); exact BK157.out) Try.underlying42 rfl (by kernel_rfl)) rfl ?_
              exact ⟨_, by first | rfl | (simp [errW_none, errW_some] <;> rfl) | (simp [*, errW_none, errW_some] <;> rfl), by first | exact Kd.R_nil _ _ _ _ _ | exact Kd.N_nil _ _ _ _ _ | exact Kd.V_nil _ _ _ _ _ | exact Kd.Q_nil _ _ _ _ _ | exact Kd.S_nil _ _ _ _ _, by repeat (first | (with_reducible first | exact HB.out | apply below_alloc | apply pw_below_drewN | apply below_drew1 | refine below_set ?_ GE157.out) | exact HB.out)⟩
            · replace c15 := Bool.eq_false_iff.mpr c15
              subst c15
              have H1 : (if 8 ≤ (wrap64 (8 + (wrap64 (t160)))) then (if (wrap64 (8 + (wrap64 (t160)))) ≤ (l0.length : Int) then ((bytes_Clone.f ((l0.take ((wrap64 (8 + (wrap64 (t160)))) : Int).toNat).drop 8)).bind fun t163 => (if (Int.tmod t160 2) = 0 then (some ((strOfNums (l0.take 4)), t163, wrap64 (8 + (wrap64 (t160))), 0)) else (if (wrap64 (8 + (wrap64 (t160)))) ≥ (l0.length : Int) then (some ((⟨#[]⟩ : ByteArray), ([] : List Int), 0, 2)) else (if 0 ≤ (wrap64 (8 + (wrap64 (t160)))) then (if (wrap64 (8 + (wrap64 (t160)))) < (l0.length : Int) then (if (rd l0 (wrap64 (8 + (wrap64 (t160))))) = 0 then (some ((strOfNums (l0.take 4)), t163, wrap64 ((wrap64 (8 + (wrap64 (t160)))) + 1), 0)) else (some ((⟨#[]⟩ : ByteArray), ([] : List Int), 0, 3))) else (none)) else (none))))) else (none)) else (none)) = some (r1, r2, r3, r4) := by rw [if_neg (show ¬ (false = true) by decide)] at H; exact H
              clear H
              have H := H1
              clear H1
              by_cases c17 : 8 ≤ (wrap64 (8 + (wrap64 (t160))))
              · rw [if_pos c17] at H
                have c17b0 := eq_true c17
                have c17b1 : decide (8 ≤ (wrap64 (8 + (wrap64 (t160))))) = true := decide_eq_true c17
                by_cases c18 : (wrap64 (8 + (wrap64 (t160)))) ≤ (l0.length : Int)
                · rw [if_pos c18] at H
                  have c18b0 := eq_true c18
                  have c18b1 : decide ((wrap64 (8 + (wrap64 (t160)))) ≤ (l0.length : Int)) = true := decide_eq_true c18
                  replace H := Option.bind_eq_some_iff.mp H
                  obtain ⟨t163, A190, H⟩ := H
                  replace H : (if (Int.tmod t160 2) = 0 then (some ((strOfNums (l0.take 4)), t163, wrap64 (8 + (wrap64 (t160))), 0)) else (if (wrap64 (8 + (wrap64 (t160)))) ≥ (l0.length : Int) then (some ((⟨#[]⟩ : ByteArray), ([] : List Int), 0, 2)) else (if 0 ≤ (wrap64 (8 + (wrap64 (t160)))) then (if (wrap64 (8 + (wrap64 (t160)))) < (l0.length : Int) then (if (rd l0 (wrap64 (8 + (wrap64 (t160))))) = 0 then (some ((strOfNums (l0.take 4)), t163, wrap64 ((wrap64 (8 + (wrap64 (t160)))) + 1), 0)) else (some ((⟨#[]⟩ : ByteArray), ([] : List Int), 0, 3))) else (none)) else (none)))) = some (r1, r2, r3, r4) := H
                  have A19 := asiD A190
                  clear A190
                  by_cases c20 : (Int.tmod t160 2) = 0
                  · rw [if_pos c20] at H
                    have c20b0 : ((Int.tmod t160 2) == 0) = true := beq_iff_eq.mpr c20
                    have c20b1 : ((Int.tmod t160 2) != 0) = false := bne_eq_false_iff_eq.mpr c20
                    clear c20
                    simp only [Option.some.injEq, Prod.mk.injEq] at H
                    obtain ⟨rfl, rfl, rfl, rfl⟩ := H
                    obtain ⟨i021, hi021, _, hsz21, _⟩ := info_parts info5
                    obtain ⟨A21, hcut21, hA21, hC21⟩ := print_mid_of (P := Try.prog) (Value.int .u8) 0 23 5 .i64 .i64 Try.underlying23 hi021 hsz21 A0 c0 l0 8 (wrap64 (8 + (wrap64 (t160)))) (by omega) (by first | omega | exact of_decide_eq_true (by first | (with_reducible assumption) | assumption)) (of_decide_eq_true (by first | (with_reducible assumption) | assumption)) HC0.out
                    have HR162 := asiD (Kd.C_of_reads (h1 := fun _ => rfl) (hA21 _ (Kd.reads_of_C HR0.out)))
                    have HC162 := asiD hC21
                    clear hA21 hC21 hi021 hsz21
                    go_wp2_with (first | ((with_reducible refine gate_callee (f := 88) rfl ?_); refine goesL_ (some 44) rfl rfl Try.func88 (by kernel_rfl) rfl #[.slice A21 ((l0.take ((wrap64 (8 + (wrap64 (t160)))) : Int).toNat).drop 8).length (c0 - 8)] rfl (by (try simp only [List.map_toArray, List.map_cons, List.map_nil]); first | done | (rw [show ((l0.take ((wrap64 (8 + (wrap64 (t160)))) : Int).toNat).drop 8).length = ((wrap64 (8 + (wrap64 (t160)))).toNat - 8) from (by rw [List.length_drop, List.length_take]; have h_ : ((wrap64 (8 + (wrap64 (t160)))) : Int) ≤ (l0.length : Int) := of_decide_eq_true (by first | (with_reducible assumption) | assumption); omega)] <;> rfl) | rfl | (simp only [List.length_drop, List.length_take]; rfl)) ?_; (with_reducible refine (bytes_Clone.calls _ _ ((l0.take ((wrap64 (8 + (wrap64 (t160)))) : Int).toNat).drop 8) t163 _ ?side1 ?side2 A19.out).mono ?_); (case side1 => repeat (first | exact (Kd.C_below HR162.out HB.out) | (with_reducible refine Kd.C_alloc ?_ _) | (with_reducible refine Kd.C_drewN ?_ _) | (with_reducible refine Kd.C_drew ?_))); (case side2 => exact HC162.out); rintro e w22 ⟨v164, rfl, ho0, hb⟩; refine ⟨_, rfl, ?_⟩; have n0_ := asiD (Kd.R_lower ho0 (below_size (by repeat (first | (with_reducible first | exact HB.out | apply below_alloc | apply pw_below_drewN | apply below_drew1 | refine below_set ?_ GE157.out) | exact HB.out)))); have n1_ := asiD (blk_below (g := gb157) (o := .cells #[.string (⟨#[]⟩ : ByteArray), .slice none 0 0] 42 (0, 0)) (by (with_reducible repeat (first | refine blk_drewN ?_ _ | refine blk_drew ?_ | refine blk_alloc ?_ _)); exact BK157.out) hb); have n2_ := asiD (below_step (by repeat (first | (with_reducible first | exact HB.out | apply below_alloc | apply pw_below_drewN | apply below_drew1 | refine below_set ?_ GE157.out) | exact HB.out)) hb); clear BK157; clear HB; have HO165 := n0_; have BK157 := n1_; have HB := n2_; clear n0_ n1_ n2_; (try clear hb); (try clear hb2); (try clear hk); (try clear hi); (try clear ho0); obtain ⟨Ao23, co23, eo23⟩ := Kd.R_slice HO165.out; subst eo23) | (go_at_call 88; (with_reducible refine (bytes_Clone.calls _ _ ((l0.take ((wrap64 (8 + (wrap64 (t160)))) : Int).toNat).drop 8) t163 _ ?side1 ?side2 A19.out).mono ?_); (case side1 => repeat (first | exact (Kd.C_below HR162.out HB.out) | (with_reducible refine Kd.C_alloc ?_ _) | (with_reducible refine Kd.C_drewN ?_ _) | (with_reducible refine Kd.C_drew ?_))); (case side2 => exact HC162.out); rintro e w22 ⟨v164, rfl, ho0, hb⟩; have n0_ := asiD (Kd.R_lower ho0 (below_size (by repeat (first | (with_reducible first | exact HB.out | apply below_alloc | apply pw_below_drewN | apply below_drew1 | refine below_set ?_ GE157.out) | exact HB.out)))); have n1_ := asiD (blk_below (g := gb157) (o := .cells #[.string (⟨#[]⟩ : ByteArray), .slice none 0 0] 42 (0, 0)) (by (with_reducible repeat (first | refine blk_drewN ?_ _ | refine blk_drew ?_ | refine blk_alloc ?_ _)); exact BK157.out) hb); have n2_ := asiD (below_step (by repeat (first | (with_reducible first | exact HB.out | apply below_alloc | apply pw_below_drewN | apply below_drew1 | refine below_set ?_ GE157.out) | exact HB.out)) hb); clear BK157; clear HB; have HO165 := n0_; have BK157 := n1_; have HB := n2_; clear n0_ n1_ n2_; (try clear hb); (try clear hb2); (try clear hk); (try clear hi); (try clear ho0); obtain ⟨Ao23, co23, eo23⟩ := Kd.R_slice HO165.out; subst eo23) | ((with_reducible refine gate_dst (N := 9) rfl ?_); (try (refine gate_guard (by rfl) ?_; dsimp only)); refine box_event ?hg (N := 9) ?hd (cs := #[.string (⟨#[]⟩ : ByteArray), .slice none 0 0]) (t := 42) ?hr ?_; (case hd => rfl); (case hg => rfl); (case hr => first | (go_simp; done) | (go_simp; rfl)); intro gb166 hg w24 hbox hb; have n0_ := asiD (Kd.R_below (by (with_reducible repeat (first | apply Kd.R_alloc | apply Kd.R_drewN | apply Kd.R_drew)); exact HO165.out) hb); have n1_ := asiD (blk_below (g := gb157) (o := .cells #[.string (⟨#[]⟩ : ByteArray), .slice none 0 0] 42 (0, 0)) (by (with_reducible repeat (first | refine blk_drewN ?_ _ | refine blk_drew ?_ | refine blk_alloc ?_ _)); exact BK157.out) hb); have n2_ := asiD (below_step (by repeat (first | (with_reducible first | exact HB.out | apply below_alloc | apply pw_below_drewN | apply below_drew1 | refine below_set ?_ GE157.out) | exact HB.out)) hb); have n3_ := asiD (hbox); have n4_ := asiD ((by rw [hg]; exact (below_size (by repeat (first | (with_reducible first | exact HB.out | apply below_alloc | apply pw_below_drewN | apply below_drew1 | refine below_set ?_ GE157.out) | exact HB.out))) : w.heap.size ≤ gb166)); have n5_ := asiD ((by rw [hg]; exact (below_size (by repeat (first | (with_reducible first | exact HB.out | apply below_alloc | apply pw_below_drewN | apply below_drew1 | refine below_set ?_ GE157.out) | exact HB.out))) : w.heap.size ≤ gb166)); have n6_ := asiD ((by rw [hg]; exact Nat.ne_of_lt (blk_lt (g := gb157) (o := .cells #[.string (⟨#[]⟩ : ByteArray), .slice none 0 0] 42 (0, 0)) (by (with_reducible repeat (first | refine blk_drewN ?_ _ | refine blk_drew ?_ | refine blk_alloc ?_ _)); exact BK157.out)) : gb157 ≠ gb166)); have n7_ := asiD ((by rw [hg]; exact Nat.ne_of_gt (blk_lt (g := gb157) (o := .cells #[.string (⟨#[]⟩ : ByteArray), .slice none 0 0] 42 (0, 0)) (by (with_reducible repeat (first | refine blk_drewN ?_ _ | refine blk_drew ?_ | refine blk_alloc ?_ _)); exact BK157.out)) : gb166 ≠ gb157)); clear HO165; clear BK157; clear HB; have HO165 := n0_; have BK157 := n1_; have HB := n2_; have BK166 := n3_; have GW166 := n4_; have GE166 := n5_; have NB157_166 := n6_; have NB166_157 := n7_; clear n0_ n1_ n2_ n3_ n4_ n5_ n6_ n7_; clear hb hbox hg; have hnb25 := NB166_157.out; have hnc25 := NB157_166.out; have hcz26_0 : w24.cell? ⟨gb166, 0, none⟩ = some (.string (⟨#[]⟩ : ByteArray)) := (blk_cell BK166.out 0).trans rfl; have hcz26_1 : w24.cell? ⟨gb166, 1, none⟩ = some (.slice none 0 0) := (blk_cell BK166.out 1).trans rfl; have hfz26_0 := blk_frozen BK166.out 0; have hfz26_1 := blk_frozen BK166.out 1; have hcz27_0 : w24.cell? ⟨gb157, 0, none⟩ = some (.string (⟨#[]⟩ : ByteArray)) := (blk_cell BK157.out 0).trans rfl; have hcz27_1 : w24.cell? ⟨gb157, 1, none⟩ = some (.slice none 0 0) := (blk_cell BK157.out 1).trans rfl; have hfz27_0 := blk_frozen BK157.out 0; have hfz27_1 := blk_frozen BK157.out 1))
                    refine bodyPost_ret (results_ctt rfl _ _ gb157 42 #[.string (strOfNums (l0.take 4)), .slice Ao23 t163.length co23] (0, 0) _ rfl (by (with_reducible repeat (first | refine blk_drewN ?_ _ | refine blk_drew ?_ | refine blk_alloc ?_ _)); refine blk_put (cs := #[.string (strOfNums (l0.take 4)), .slice none 0 0]) ?_ 1 _ rfl; (with_reducible repeat (first | refine blk_drewN ?_ _ | refine blk_drew ?_ | refine blk_alloc ?_ _)); refine blk_put (cs := #[.string (⟨#[]⟩ : ByteArray), .slice none 0 0]) ?_ 0 _ rfl; (with_reducible repeat (first | refine blk_drewN ?_ _ | refine blk_drew ?_ | refine blk_alloc ?_ _)); refine blk_far ?_ NB157_166.out _; (with_reducible repeat (first | refine blk_drewN ?_ _ | refine blk_drew ?_ | refine blk_alloc ?_ _)); refine blk_far ?_ NB157_166.out _; (with_reducible repeat (first | refine blk_drewN ?_ _ | refine blk_drew ?_ | refine blk_alloc ?_ _)); exact BK157.out) Try.underlying42 rfl (by kernel_rfl)) rfl ?_
                    exact ⟨_, by first | rfl | (simp [errW_none, errW_some] <;> rfl) | (simp [*, errW_none, errW_some] <;> rfl), by (with_reducible repeat (first | apply Kd.R_alloc | apply Kd.R_drewN | apply Kd.R_drew)); exact Kd.R_mono (Kd.R_far (p := ⟨gb157, 1, none⟩) (Kd.R_far (p := ⟨gb157, 0, none⟩) (Kd.R_far (p := ⟨gb166, 1, none⟩) (Kd.R_far (p := ⟨gb166, 0, none⟩) (Kd.R_types (Kd.R_types HO165.out BK166.out (by decide)) BK157.out (by decide)) (fun _ hk => hk.1.2) (.string (strOfNums (l0.take 4)))) (fun _ hk => hk.1.2) (.slice Ao23 t163.length co23)) (fun _ hk => hk.2) (.string (strOfNums (l0.take 4)))) (fun _ hk => hk.2) (.slice Ao23 t163.length co23)) (fun _ hk => trivial), by repeat (first | (with_reducible first | exact HB.out | apply below_alloc | apply pw_below_drewN | apply below_drew1 | refine below_set ?_ GE157.out | refine below_set ?_ GE166.out) | exact HB.out)⟩
                  · rw [if_neg c20] at H
                    have c20b0 : ((Int.tmod t160 2) == 0) = false := beq_eq_false_iff_ne.mpr c20
                    have c20b1 : ((Int.tmod t160 2) != 0) = true := bne_iff_ne.mpr c20
                    by_cases c28 : (wrap64 (8 + (wrap64 (t160)))) ≥ (l0.length : Int)
                    · rw [if_pos c28] at H
                      have c28b0 : decide ((l0.length : Int) ≤ (wrap64 (8 + (wrap64 (t160))))) = true := decide_eq_true c28
                      clear c28
                      simp only [Option.some.injEq, Prod.mk.injEq] at H
                      obtain ⟨rfl, rfl, rfl, rfl⟩ := H
                      obtain ⟨i029, hi029, _, hsz29, _⟩ := info_parts info5
                      obtain ⟨A29, hcut29, hA29, hC29⟩ := print_mid_of (P := Try.prog) (Value.int .u8) 0 23 5 .i64 .i64 Try.underlying23 hi029 hsz29 A0 c0 l0 8 (wrap64 (8 + (wrap64 (t160)))) (by omega) (by first | omega | exact of_decide_eq_true (by first | (with_reducible assumption) | assumption)) (of_decide_eq_true (by first | (with_reducible assumption) | assumption)) HC0.out
                      have HR162 := asiD (Kd.C_of_reads (h1 := fun _ => rfl) (hA29 _ (Kd.reads_of_C HR0.out)))
                      have HC162 := asiD hC29
                      clear hA29 hC29 hi029 hsz29
                      go_wp2_with (first | ((with_reducible refine gate_callee (f := 88) rfl ?_); refine goesL_ (some 44) rfl rfl Try.func88 (by kernel_rfl) rfl #[.slice A29 ((l0.take ((wrap64 (8 + (wrap64 (t160)))) : Int).toNat).drop 8).length (c0 - 8)] rfl (by (try simp only [List.map_toArray, List.map_cons, List.map_nil]); first | done | (rw [show ((l0.take ((wrap64 (8 + (wrap64 (t160)))) : Int).toNat).drop 8).length = ((wrap64 (8 + (wrap64 (t160)))).toNat - 8) from (by rw [List.length_drop, List.length_take]; have h_ : ((wrap64 (8 + (wrap64 (t160)))) : Int) ≤ (l0.length : Int) := of_decide_eq_true (by first | (with_reducible assumption) | assumption); omega)] <;> rfl) | rfl | (simp only [List.length_drop, List.length_take]; rfl)) ?_; (with_reducible refine (bytes_Clone.calls _ _ ((l0.take ((wrap64 (8 + (wrap64 (t160)))) : Int).toNat).drop 8) t163 _ ?side1 ?side2 A19.out).mono ?_); (case side1 => repeat (first | exact (Kd.C_below HR162.out HB.out) | (with_reducible refine Kd.C_alloc ?_ _) | (with_reducible refine Kd.C_drewN ?_ _) | (with_reducible refine Kd.C_drew ?_))); (case side2 => exact HC162.out); rintro e w30 ⟨v164, rfl, ho0, hb⟩; refine ⟨_, rfl, ?_⟩; have n0_ := asiD (Kd.R_lower ho0 (below_size (by repeat (first | (with_reducible first | exact HB.out | apply below_alloc | apply pw_below_drewN | apply below_drew1 | refine below_set ?_ GE157.out) | exact HB.out)))); have n1_ := asiD (blk_below (g := gb157) (o := .cells #[.string (⟨#[]⟩ : ByteArray), .slice none 0 0] 42 (0, 0)) (by (with_reducible repeat (first | refine blk_drewN ?_ _ | refine blk_drew ?_ | refine blk_alloc ?_ _)); exact BK157.out) hb); have n2_ := asiD (below_step (by repeat (first | (with_reducible first | exact HB.out | apply below_alloc | apply pw_below_drewN | apply below_drew1 | refine below_set ?_ GE157.out) | exact HB.out)) hb); clear BK157; clear HB; have HO165 := n0_; have BK157 := n1_; have HB := n2_; clear n0_ n1_ n2_; (try clear hb); (try clear hb2); (try clear hk); (try clear hi); (try clear ho0); obtain ⟨Ao31, co31, eo31⟩ := Kd.R_slice HO165.out; subst eo31) | (go_at_call 88; (with_reducible refine (bytes_Clone.calls _ _ ((l0.take ((wrap64 (8 + (wrap64 (t160)))) : Int).toNat).drop 8) t163 _ ?side1 ?side2 A19.out).mono ?_); (case side1 => repeat (first | exact (Kd.C_below HR162.out HB.out) | (with_reducible refine Kd.C_alloc ?_ _) | (with_reducible refine Kd.C_drewN ?_ _) | (with_reducible refine Kd.C_drew ?_))); (case side2 => exact HC162.out); rintro e w30 ⟨v164, rfl, ho0, hb⟩; have n0_ := asiD (Kd.R_lower ho0 (below_size (by repeat (first | (with_reducible first | exact HB.out | apply below_alloc | apply pw_below_drewN | apply below_drew1 | refine below_set ?_ GE157.out) | exact HB.out)))); have n1_ := asiD (blk_below (g := gb157) (o := .cells #[.string (⟨#[]⟩ : ByteArray), .slice none 0 0] 42 (0, 0)) (by (with_reducible repeat (first | refine blk_drewN ?_ _ | refine blk_drew ?_ | refine blk_alloc ?_ _)); exact BK157.out) hb); have n2_ := asiD (below_step (by repeat (first | (with_reducible first | exact HB.out | apply below_alloc | apply pw_below_drewN | apply below_drew1 | refine below_set ?_ GE157.out) | exact HB.out)) hb); clear BK157; clear HB; have HO165 := n0_; have BK157 := n1_; have HB := n2_; clear n0_ n1_ n2_; (try clear hb); (try clear hb2); (try clear hk); (try clear hi); (try clear ho0); obtain ⟨Ao31, co31, eo31⟩ := Kd.R_slice HO165.out; subst eo31) | ((with_reducible refine gate_dst (N := 9) rfl ?_); (try (refine gate_guard (by rfl) ?_; dsimp only)); refine box_event ?hg (N := 9) ?hd (cs := #[.string (⟨#[]⟩ : ByteArray), .slice none 0 0]) (t := 42) ?hr ?_; (case hd => rfl); (case hg => rfl); (case hr => first | (go_simp; done) | (go_simp; rfl)); intro gb166 hg w32 hbox hb; have n0_ := asiD (Kd.R_below (by (with_reducible repeat (first | apply Kd.R_alloc | apply Kd.R_drewN | apply Kd.R_drew)); exact HO165.out) hb); have n1_ := asiD (blk_below (g := gb157) (o := .cells #[.string (⟨#[]⟩ : ByteArray), .slice none 0 0] 42 (0, 0)) (by (with_reducible repeat (first | refine blk_drewN ?_ _ | refine blk_drew ?_ | refine blk_alloc ?_ _)); exact BK157.out) hb); have n2_ := asiD (below_step (by repeat (first | (with_reducible first | exact HB.out | apply below_alloc | apply pw_below_drewN | apply below_drew1 | refine below_set ?_ GE157.out) | exact HB.out)) hb); have n3_ := asiD (hbox); have n4_ := asiD ((by rw [hg]; exact (below_size (by repeat (first | (with_reducible first | exact HB.out | apply below_alloc | apply pw_below_drewN | apply below_drew1 | refine below_set ?_ GE157.out) | exact HB.out))) : w.heap.size ≤ gb166)); have n5_ := asiD ((by rw [hg]; exact (below_size (by repeat (first | (with_reducible first | exact HB.out | apply below_alloc | apply pw_below_drewN | apply below_drew1 | refine below_set ?_ GE157.out) | exact HB.out))) : w.heap.size ≤ gb166)); have n6_ := asiD ((by rw [hg]; exact Nat.ne_of_lt (blk_lt (g := gb157) (o := .cells #[.string (⟨#[]⟩ : ByteArray), .slice none 0 0] 42 (0, 0)) (by (with_reducible repeat (first | refine blk_drewN ?_ _ | refine blk_drew ?_ | refine blk_alloc ?_ _)); exact BK157.out)) : gb157 ≠ gb166)); have n7_ := asiD ((by rw [hg]; exact Nat.ne_of_gt (blk_lt (g := gb157) (o := .cells #[.string (⟨#[]⟩ : ByteArray), .slice none 0 0] 42 (0, 0)) (by (with_reducible repeat (first | refine blk_drewN ?_ _ | refine blk_drew ?_ | refine blk_alloc ?_ _)); exact BK157.out)) : gb166 ≠ gb157)); clear HO165; clear BK157; clear HB; have HO165 := n0_; have BK157 := n1_; have HB := n2_; have BK166 := n3_; have GW166 := n4_; have GE166 := n5_; have NB157_166 := n6_; have NB166_157 := n7_; clear n0_ n1_ n2_ n3_ n4_ n5_ n6_ n7_; clear hb hbox hg; have hnb33 := NB166_157.out; have hnc33 := NB157_166.out; have hcz34_0 : w32.cell? ⟨gb166, 0, none⟩ = some (.string (⟨#[]⟩ : ByteArray)) := (blk_cell BK166.out 0).trans rfl; have hcz34_1 : w32.cell? ⟨gb166, 1, none⟩ = some (.slice none 0 0) := (blk_cell BK166.out 1).trans rfl; have hfz34_0 := blk_frozen BK166.out 0; have hfz34_1 := blk_frozen BK166.out 1; have hcz35_0 : w32.cell? ⟨gb157, 0, none⟩ = some (.string (⟨#[]⟩ : ByteArray)) := (blk_cell BK157.out 0).trans rfl; have hcz35_1 : w32.cell? ⟨gb157, 1, none⟩ = some (.slice none 0 0) := (blk_cell BK157.out 1).trans rfl; have hfz35_0 := blk_frozen BK157.out 0; have hfz35_1 := blk_frozen BK157.out 1))
                      refine bodyPost_ret (results_ctt rfl _ _ gb157 42 #[.string (⟨#[]⟩ : ByteArray), .slice none 0 0] (0, 0) _ rfl (by (with_reducible repeat (first | refine blk_drewN ?_ _ | refine blk_drew ?_ | refine blk_alloc ?_ _)); refine blk_put (cs := #[.string (⟨#[]⟩ : ByteArray), .slice none 0 0]) ?_ 1 _ rfl; (with_reducible repeat (first | refine blk_drewN ?_ _ | refine blk_drew ?_ | refine blk_alloc ?_ _)); refine blk_put (cs := #[.string (⟨#[]⟩ : ByteArray), .slice none 0 0]) ?_ 0 _ rfl; (with_reducible repeat (first | refine blk_drewN ?_ _ | refine blk_drew ?_ | refine blk_alloc ?_ _)); refine blk_far ?_ NB157_166.out _; (with_reducible repeat (first | refine blk_drewN ?_ _ | refine blk_drew ?_ | refine blk_alloc ?_ _)); refine blk_far ?_ NB157_166.out _; (with_reducible repeat (first | refine blk_drewN ?_ _ | refine blk_drew ?_ | refine blk_alloc ?_ _)); exact BK157.out) Try.underlying42 rfl (by kernel_rfl)) rfl ?_
                      exact ⟨_, by first | rfl | (simp [errW_none, errW_some] <;> rfl) | (simp [*, errW_none, errW_some] <;> rfl), by first | exact Kd.R_nil _ _ _ _ _ | exact Kd.N_nil _ _ _ _ _ | exact Kd.V_nil _ _ _ _ _ | exact Kd.Q_nil _ _ _ _ _ | exact Kd.S_nil _ _ _ _ _, by repeat (first | (with_reducible first | exact HB.out | apply below_alloc | apply pw_below_drewN | apply below_drew1 | refine below_set ?_ GE157.out | refine below_set ?_ GE166.out) | exact HB.out)⟩
                    · rw [if_neg c28] at H
                      have c28b0 : decide ((l0.length : Int) ≤ (wrap64 (8 + (wrap64 (t160))))) = false := decide_eq_false c28
                      clear c28
                      obtain ⟨ji36, hji36⟩ : ∃ j_ : Int, (wrap64 (8 + (wrap64 (t160)))) = j_ := ⟨_, rfl⟩
                      replace H : (if 0 ≤ (ji36) then (if (ji36) < (l0.length : Int) then (if (rd l0 (ji36)) = 0 then (some ((strOfNums (l0.take 4)), t163, wrap64 ((ji36) + 1), 0)) else (some ((⟨#[]⟩ : ByteArray), ([] : List Int), 0, 3))) else (none)) else (none)) = some (r1, r2, r3, r4) := by first | (rw [hji36] at H; exact H) | (simp only [hji36] at H ⊢; exact H)
                      (try rw [hji36] at c17b0)
                      (try rw [hji36] at c17b1)
                      (try rw [hji36] at c17)
                      (try rw [hji36] at c18b0)
                      (try rw [hji36] at c18b1)
                      (try rw [hji36] at c18)
                      (try rw [hji36] at c28b0)
                      (try rw [hji36] at A19)
                      have hji36w : (IntKind.i64.wrap (8 + (wrap64 (t160)))) = ji36 := (i64_w _).trans hji36
                      (try rw [hji36] at hcut11)
                      (try rw [hji36] at hcut21)
                      (try rw [hji36] at hcut29)
                      by_cases c37 : 0 ≤ (ji36)
                      · rw [if_pos c37] at H
                        have c37b0 : decide (0 ≤ (ji36)) = true := decide_eq_true c37
                        clear c37
                        by_cases c38 : (ji36) < (l0.length : Int)
                        · rw [if_pos c38] at H
                          have c38b0 : decide ((ji36) < (l0.length : Int)) = true := decide_eq_true c38
                          clear c38
                          by_cases c39 : (rd l0 (ji36)) = 0
                          · rw [if_pos c39] at H
                            have c39b0 : ((rd l0 (ji36)) == 0) = true := beq_iff_eq.mpr c39
                            have c39b1 : ((rd l0 (ji36)) != 0) = false := bne_eq_false_iff_eq.mpr c39
                            clear c39
                            simp only [Option.some.injEq, Prod.mk.injEq] at H
                            obtain ⟨rfl, rfl, rfl, rfl⟩ := H
                            obtain ⟨i040, hi040, _, hsz40, _⟩ := info_parts info5
                            obtain ⟨A40, hcut40, hA40, hC40⟩ := print_mid_of (P := Try.prog) (Value.int .u8) 0 23 5 .i64 .i64 Try.underlying23 hi040 hsz40 A0 c0 l0 8 (ji36) (by omega) (by first | omega | exact of_decide_eq_true (by first | (with_reducible assumption) | assumption)) (of_decide_eq_true (by first | (with_reducible assumption) | assumption)) HC0.out
                            have HR162 := asiD (Kd.C_of_reads (h1 := fun _ => rfl) (hA40 _ (Kd.reads_of_C HR0.out)))
                            have HC162 := asiD hC40
                            clear hA40 hC40 hi040 hsz40
                            go_wp2_with (first | ((with_reducible refine gate_callee (f := 88) rfl ?_); refine goesL_ (some 44) rfl rfl Try.func88 (by kernel_rfl) rfl #[.slice A40 ((l0.take ((ji36) : Int).toNat).drop 8).length (c0 - 8)] rfl (by (try simp only [List.map_toArray, List.map_cons, List.map_nil]); first | done | (rw [show ((l0.take ((ji36) : Int).toNat).drop 8).length = ((ji36).toNat - 8) from (by rw [List.length_drop, List.length_take]; have h_ : ((ji36) : Int) ≤ (l0.length : Int) := of_decide_eq_true (by first | (with_reducible assumption) | assumption); omega)] <;> rfl) | (simp only [hji36]; rfl) | rfl | (simp only [List.length_drop, List.length_take]; rfl)) ?_; (with_reducible refine (bytes_Clone.calls _ _ ((l0.take ((ji36) : Int).toNat).drop 8) t163 _ ?side1 ?side2 A19.out).mono ?_); (case side1 => repeat (first | exact (Kd.C_below HR162.out HB.out) | (with_reducible refine Kd.C_alloc ?_ _) | (with_reducible refine Kd.C_drewN ?_ _) | (with_reducible refine Kd.C_drew ?_))); (case side2 => exact HC162.out); rintro e w41 ⟨v164, rfl, ho0, hb⟩; refine ⟨_, rfl, ?_⟩; have n0_ := asiD (Kd.R_lower ho0 (below_size (by repeat (first | (with_reducible first | exact HB.out | apply below_alloc | apply pw_below_drewN | apply below_drew1 | refine below_set ?_ GE157.out) | exact HB.out)))); have n1_ := asiD (blk_below (g := gb157) (o := .cells #[.string (⟨#[]⟩ : ByteArray), .slice none 0 0] 42 (0, 0)) (by (with_reducible repeat (first | refine blk_drewN ?_ _ | refine blk_drew ?_ | refine blk_alloc ?_ _)); exact BK157.out) hb); have n2_ := asiD (below_step (by repeat (first | (with_reducible first | exact HB.out | apply below_alloc | apply pw_below_drewN | apply below_drew1 | refine below_set ?_ GE157.out) | exact HB.out)) hb); clear BK157; clear HB; have HO165 := n0_; have BK157 := n1_; have HB := n2_; clear n0_ n1_ n2_; (try clear hb); (try clear hb2); (try clear hk); (try clear hi); (try clear ho0); obtain ⟨Ao42, co42, eo42⟩ := Kd.R_slice HO165.out; subst eo42) | (go_at_call 88; (with_reducible refine (bytes_Clone.calls _ _ ((l0.take ((ji36) : Int).toNat).drop 8) t163 _ ?side1 ?side2 A19.out).mono ?_); (case side1 => repeat (first | exact (Kd.C_below HR162.out HB.out) | (with_reducible refine Kd.C_alloc ?_ _) | (with_reducible refine Kd.C_drewN ?_ _) | (with_reducible refine Kd.C_drew ?_))); (case side2 => exact HC162.out); rintro e w41 ⟨v164, rfl, ho0, hb⟩; have n0_ := asiD (Kd.R_lower ho0 (below_size (by repeat (first | (with_reducible first | exact HB.out | apply below_alloc | apply pw_below_drewN | apply below_drew1 | refine below_set ?_ GE157.out) | exact HB.out)))); have n1_ := asiD (blk_below (g := gb157) (o := .cells #[.string (⟨#[]⟩ : ByteArray), .slice none 0 0] 42 (0, 0)) (by (with_reducible repeat (first | refine blk_drewN ?_ _ | refine blk_drew ?_ | refine blk_alloc ?_ _)); exact BK157.out) hb); have n2_ := asiD (below_step (by repeat (first | (with_reducible first | exact HB.out | apply below_alloc | apply pw_below_drewN | apply below_drew1 | refine below_set ?_ GE157.out) | exact HB.out)) hb); clear BK157; clear HB; have HO165 := n0_; have BK157 := n1_; have HB := n2_; clear n0_ n1_ n2_; (try clear hb); (try clear hb2); (try clear hk); (try clear hi); (try clear ho0); obtain ⟨Ao42, co42, eo42⟩ := Kd.R_slice HO165.out; subst eo42) | ((with_reducible refine gate_dst (N := 9) rfl ?_); (try (refine gate_guard (by rfl) ?_; dsimp only)); refine box_event ?hg (N := 9) ?hd (cs := #[.string (⟨#[]⟩ : ByteArray), .slice none 0 0]) (t := 42) ?hr ?_; (case hd => rfl); (case hg => rfl); (case hr => first | (go_simp; done) | (go_simp; rfl)); intro gb166 hg w43 hbox hb; have n0_ := asiD (Kd.R_below (by (with_reducible repeat (first | apply Kd.R_alloc | apply Kd.R_drewN | apply Kd.R_drew)); exact HO165.out) hb); have n1_ := asiD (blk_below (g := gb157) (o := .cells #[.string (⟨#[]⟩ : ByteArray), .slice none 0 0] 42 (0, 0)) (by (with_reducible repeat (first | refine blk_drewN ?_ _ | refine blk_drew ?_ | refine blk_alloc ?_ _)); exact BK157.out) hb); have n2_ := asiD (below_step (by repeat (first | (with_reducible first | exact HB.out | apply below_alloc | apply pw_below_drewN | apply below_drew1 | refine below_set ?_ GE157.out) | exact HB.out)) hb); have n3_ := asiD (hbox); have n4_ := asiD ((by rw [hg]; exact (below_size (by repeat (first | (with_reducible first | exact HB.out | apply below_alloc | apply pw_below_drewN | apply below_drew1 | refine below_set ?_ GE157.out) | exact HB.out))) : w.heap.size ≤ gb166)); have n5_ := asiD ((by rw [hg]; exact (below_size (by repeat (first | (with_reducible first | exact HB.out | apply below_alloc | apply pw_below_drewN | apply below_drew1 | refine below_set ?_ GE157.out) | exact HB.out))) : w.heap.size ≤ gb166)); have n6_ := asiD ((by rw [hg]; exact Nat.ne_of_lt (blk_lt (g := gb157) (o := .cells #[.string (⟨#[]⟩ : ByteArray), .slice none 0 0] 42 (0, 0)) (by (with_reducible repeat (first | refine blk_drewN ?_ _ | refine blk_drew ?_ | refine blk_alloc ?_ _)); exact BK157.out)) : gb157 ≠ gb166)); have n7_ := asiD ((by rw [hg]; exact Nat.ne_of_gt (blk_lt (g := gb157) (o := .cells #[.string (⟨#[]⟩ : ByteArray), .slice none 0 0] 42 (0, 0)) (by (with_reducible repeat (first | refine blk_drewN ?_ _ | refine blk_drew ?_ | refine blk_alloc ?_ _)); exact BK157.out)) : gb166 ≠ gb157)); clear HO165; clear BK157; clear HB; have HO165 := n0_; have BK157 := n1_; have HB := n2_; have BK166 := n3_; have GW166 := n4_; have GE166 := n5_; have NB157_166 := n6_; have NB166_157 := n7_; clear n0_ n1_ n2_ n3_ n4_ n5_ n6_ n7_; clear hb hbox hg; have hnb44 := NB166_157.out; have hnc44 := NB157_166.out; have hcz45_0 : w43.cell? ⟨gb166, 0, none⟩ = some (.string (⟨#[]⟩ : ByteArray)) := (blk_cell BK166.out 0).trans rfl; have hcz45_1 : w43.cell? ⟨gb166, 1, none⟩ = some (.slice none 0 0) := (blk_cell BK166.out 1).trans rfl; have hfz45_0 := blk_frozen BK166.out 0; have hfz45_1 := blk_frozen BK166.out 1; have p167 : 0 ≤ ((ji36) : Int) := of_decide_eq_true (by first | (with_reducible assumption) | assumption); have q167 : (ji36) < (l0.length : Int) := of_decide_eq_true (by first | (with_reducible assumption) | assumption); obtain ⟨ad167, e167, hx167_0⟩ := Kd.at_int HR0.out (ji36) p167 q167; cases e167; have hn167_0 : ad167.block ≠ gb166 := Nat.ne_of_lt (Nat.lt_of_lt_of_le (by have := World.block_lt_of_cell? _ _ hx167_0; first | rwa [add_block] at this | exact this) GW166.out); have hn167_1 : ad167.block ≠ gb166 := Nat.ne_of_lt (Nat.lt_of_lt_of_le (by have := World.block_lt_of_cell? _ _ hx167_0; first | rwa [add_block] at this | exact this) GW166.out); replace hx167_0 := (cellL HB.out hx167_0); replace hx167_0 := (cell_far (p := ⟨gb166, 0, none⟩) (by first | (rw [add_block]; exact hn167_0) | (show (Addr.add _ _).block ≠ _; rw [add_block]; exact hn167_0) | exact hn167_0) (.string (strOfNums (l0.take 4)))).trans hx167_0; replace hx167_0 := (cell_far (p := ⟨gb166, 1, none⟩) (by first | (rw [add_block]; exact hn167_1) | (show (Addr.add _ _).block ≠ _; rw [add_block]; exact hn167_1) | exact hn167_1) (.slice Ao42 t163.length co42)).trans hx167_0; clear hn167_0; clear hn167_1; replace p167 := eq_true p167; replace q167 := eq_true q167; have hcz46_0 : w43.cell? ⟨gb157, 0, none⟩ = some (.string (⟨#[]⟩ : ByteArray)) := (blk_cell BK157.out 0).trans rfl; have hcz46_1 : w43.cell? ⟨gb157, 1, none⟩ = some (.slice none 0 0) := (blk_cell BK157.out 1).trans rfl; have hfz46_0 := blk_frozen BK157.out 0; have hfz46_1 := blk_frozen BK157.out 1))
                            refine bodyPost_ret (results_ctt rfl _ _ gb157 42 #[.string (strOfNums (l0.take 4)), .slice Ao42 t163.length co42] (0, 0) _ rfl (by (with_reducible repeat (first | refine blk_drewN ?_ _ | refine blk_drew ?_ | refine blk_alloc ?_ _)); refine blk_put (cs := #[.string (strOfNums (l0.take 4)), .slice none 0 0]) ?_ 1 _ rfl; (with_reducible repeat (first | refine blk_drewN ?_ _ | refine blk_drew ?_ | refine blk_alloc ?_ _)); refine blk_put (cs := #[.string (⟨#[]⟩ : ByteArray), .slice none 0 0]) ?_ 0 _ rfl; (with_reducible repeat (first | refine blk_drewN ?_ _ | refine blk_drew ?_ | refine blk_alloc ?_ _)); refine blk_far ?_ NB157_166.out _; (with_reducible repeat (first | refine blk_drewN ?_ _ | refine blk_drew ?_ | refine blk_alloc ?_ _)); refine blk_far ?_ NB157_166.out _; (with_reducible repeat (first | refine blk_drewN ?_ _ | refine blk_drew ?_ | refine blk_alloc ?_ _)); exact BK157.out) Try.underlying42 rfl (by kernel_rfl)) rfl ?_
                            exact ⟨_, by first | rfl | (simp [errW_none, errW_some] <;> rfl) | (simp only [← hji36]; first | rfl | (simp [errW_none, errW_some] <;> rfl)) | (simp [*, errW_none, errW_some] <;> rfl), by (with_reducible repeat (first | apply Kd.R_alloc | apply Kd.R_drewN | apply Kd.R_drew)); exact Kd.R_mono (Kd.R_far (p := ⟨gb157, 1, none⟩) (Kd.R_far (p := ⟨gb157, 0, none⟩) (Kd.R_far (p := ⟨gb166, 1, none⟩) (Kd.R_far (p := ⟨gb166, 0, none⟩) (Kd.R_types (Kd.R_types HO165.out BK166.out (by decide)) BK157.out (by decide)) (fun _ hk => hk.1.2) (.string (strOfNums (l0.take 4)))) (fun _ hk => hk.1.2) (.slice Ao42 t163.length co42)) (fun _ hk => hk.2) (.string (strOfNums (l0.take 4)))) (fun _ hk => hk.2) (.slice Ao42 t163.length co42)) (fun _ hk => trivial), by repeat (first | (with_reducible first | exact HB.out | apply below_alloc | apply pw_below_drewN | apply below_drew1 | refine below_set ?_ GE157.out | refine below_set ?_ GE166.out) | exact HB.out)⟩
                          · rw [if_neg c39] at H
                            have c39b0 : ((rd l0 (ji36)) == 0) = false := beq_eq_false_iff_ne.mpr c39
                            have c39b1 : ((rd l0 (ji36)) != 0) = true := bne_iff_ne.mpr c39
                            simp only [Option.some.injEq, Prod.mk.injEq] at H
                            obtain ⟨rfl, rfl, rfl, rfl⟩ := H
                            obtain ⟨i047, hi047, _, hsz47, _⟩ := info_parts info5
                            obtain ⟨A47, hcut47, hA47, hC47⟩ := print_mid_of (P := Try.prog) (Value.int .u8) 0 23 5 .i64 .i64 Try.underlying23 hi047 hsz47 A0 c0 l0 8 (ji36) (by omega) (by first | omega | exact of_decide_eq_true (by first | (with_reducible assumption) | assumption)) (of_decide_eq_true (by first | (with_reducible assumption) | assumption)) HC0.out
                            have HR162 := asiD (Kd.C_of_reads (h1 := fun _ => rfl) (hA47 _ (Kd.reads_of_C HR0.out)))
                            have HC162 := asiD hC47
                            clear hA47 hC47 hi047 hsz47
                            go_wp2_with (first | ((with_reducible refine gate_callee (f := 88) rfl ?_); refine goesL_ (some 44) rfl rfl Try.func88 (by kernel_rfl) rfl #[.slice A47 ((l0.take ((ji36) : Int).toNat).drop 8).length (c0 - 8)] rfl (by (try simp only [List.map_toArray, List.map_cons, List.map_nil]); first | done | (rw [show ((l0.take ((ji36) : Int).toNat).drop 8).length = ((ji36).toNat - 8) from (by rw [List.length_drop, List.length_take]; have h_ : ((ji36) : Int) ≤ (l0.length : Int) := of_decide_eq_true (by first | (with_reducible assumption) | assumption); omega)] <;> rfl) | (simp only [hji36]; rfl) | rfl | (simp only [List.length_drop, List.length_take]; rfl)) ?_; (with_reducible refine (bytes_Clone.calls _ _ ((l0.take ((ji36) : Int).toNat).drop 8) t163 _ ?side1 ?side2 A19.out).mono ?_); (case side1 => repeat (first | exact (Kd.C_below HR162.out HB.out) | (with_reducible refine Kd.C_alloc ?_ _) | (with_reducible refine Kd.C_drewN ?_ _) | (with_reducible refine Kd.C_drew ?_))); (case side2 => exact HC162.out); rintro e w48 ⟨v164, rfl, ho0, hb⟩; refine ⟨_, rfl, ?_⟩; have n0_ := asiD (Kd.R_lower ho0 (below_size (by repeat (first | (with_reducible first | exact HB.out | apply below_alloc | apply pw_below_drewN | apply below_drew1 | refine below_set ?_ GE157.out) | exact HB.out)))); have n1_ := asiD (blk_below (g := gb157) (o := .cells #[.string (⟨#[]⟩ : ByteArray), .slice none 0 0] 42 (0, 0)) (by (with_reducible repeat (first | refine blk_drewN ?_ _ | refine blk_drew ?_ | refine blk_alloc ?_ _)); exact BK157.out) hb); have n2_ := asiD (below_step (by repeat (first | (with_reducible first | exact HB.out | apply below_alloc | apply pw_below_drewN | apply below_drew1 | refine below_set ?_ GE157.out) | exact HB.out)) hb); clear BK157; clear HB; have HO165 := n0_; have BK157 := n1_; have HB := n2_; clear n0_ n1_ n2_; (try clear hb); (try clear hb2); (try clear hk); (try clear hi); (try clear ho0); obtain ⟨Ao49, co49, eo49⟩ := Kd.R_slice HO165.out; subst eo49) | (go_at_call 88; (with_reducible refine (bytes_Clone.calls _ _ ((l0.take ((ji36) : Int).toNat).drop 8) t163 _ ?side1 ?side2 A19.out).mono ?_); (case side1 => repeat (first | exact (Kd.C_below HR162.out HB.out) | (with_reducible refine Kd.C_alloc ?_ _) | (with_reducible refine Kd.C_drewN ?_ _) | (with_reducible refine Kd.C_drew ?_))); (case side2 => exact HC162.out); rintro e w48 ⟨v164, rfl, ho0, hb⟩; have n0_ := asiD (Kd.R_lower ho0 (below_size (by repeat (first | (with_reducible first | exact HB.out | apply below_alloc | apply pw_below_drewN | apply below_drew1 | refine below_set ?_ GE157.out) | exact HB.out)))); have n1_ := asiD (blk_below (g := gb157) (o := .cells #[.string (⟨#[]⟩ : ByteArray), .slice none 0 0] 42 (0, 0)) (by (with_reducible repeat (first | refine blk_drewN ?_ _ | refine blk_drew ?_ | refine blk_alloc ?_ _)); exact BK157.out) hb); have n2_ := asiD (below_step (by repeat (first | (with_reducible first | exact HB.out | apply below_alloc | apply pw_below_drewN | apply below_drew1 | refine below_set ?_ GE157.out) | exact HB.out)) hb); clear BK157; clear HB; have HO165 := n0_; have BK157 := n1_; have HB := n2_; clear n0_ n1_ n2_; (try clear hb); (try clear hb2); (try clear hk); (try clear hi); (try clear ho0); obtain ⟨Ao49, co49, eo49⟩ := Kd.R_slice HO165.out; subst eo49) | ((with_reducible refine gate_dst (N := 9) rfl ?_); (try (refine gate_guard (by rfl) ?_; dsimp only)); refine box_event ?hg (N := 9) ?hd (cs := #[.string (⟨#[]⟩ : ByteArray), .slice none 0 0]) (t := 42) ?hr ?_; (case hd => rfl); (case hg => rfl); (case hr => first | (go_simp; done) | (go_simp; rfl)); intro gb166 hg w50 hbox hb; have n0_ := asiD (Kd.R_below (by (with_reducible repeat (first | apply Kd.R_alloc | apply Kd.R_drewN | apply Kd.R_drew)); exact HO165.out) hb); have n1_ := asiD (blk_below (g := gb157) (o := .cells #[.string (⟨#[]⟩ : ByteArray), .slice none 0 0] 42 (0, 0)) (by (with_reducible repeat (first | refine blk_drewN ?_ _ | refine blk_drew ?_ | refine blk_alloc ?_ _)); exact BK157.out) hb); have n2_ := asiD (below_step (by repeat (first | (with_reducible first | exact HB.out | apply below_alloc | apply pw_below_drewN | apply below_drew1 | refine below_set ?_ GE157.out) | exact HB.out)) hb); have n3_ := asiD (hbox); have n4_ := asiD ((by rw [hg]; exact (below_size (by repeat (first | (with_reducible first | exact HB.out | apply below_alloc | apply pw_below_drewN | apply below_drew1 | refine below_set ?_ GE157.out) | exact HB.out))) : w.heap.size ≤ gb166)); have n5_ := asiD ((by rw [hg]; exact (below_size (by repeat (first | (with_reducible first | exact HB.out | apply below_alloc | apply pw_below_drewN | apply below_drew1 | refine below_set ?_ GE157.out) | exact HB.out))) : w.heap.size ≤ gb166)); have n6_ := asiD ((by rw [hg]; exact Nat.ne_of_lt (blk_lt (g := gb157) (o := .cells #[.string (⟨#[]⟩ : ByteArray), .slice none 0 0] 42 (0, 0)) (by (with_reducible repeat (first | refine blk_drewN ?_ _ | refine blk_drew ?_ | refine blk_alloc ?_ _)); exact BK157.out)) : gb157 ≠ gb166)); have n7_ := asiD ((by rw [hg]; exact Nat.ne_of_gt (blk_lt (g := gb157) (o := .cells #[.string (⟨#[]⟩ : ByteArray), .slice none 0 0] 42 (0, 0)) (by (with_reducible repeat (first | refine blk_drewN ?_ _ | refine blk_drew ?_ | refine blk_alloc ?_ _)); exact BK157.out)) : gb166 ≠ gb157)); clear HO165; clear BK157; clear HB; have HO165 := n0_; have BK157 := n1_; have HB := n2_; have BK166 := n3_; have GW166 := n4_; have GE166 := n5_; have NB157_166 := n6_; have NB166_157 := n7_; clear n0_ n1_ n2_ n3_ n4_ n5_ n6_ n7_; clear hb hbox hg; have hnb51 := NB166_157.out; have hnc51 := NB157_166.out; have hcz52_0 : w50.cell? ⟨gb166, 0, none⟩ = some (.string (⟨#[]⟩ : ByteArray)) := (blk_cell BK166.out 0).trans rfl; have hcz52_1 : w50.cell? ⟨gb166, 1, none⟩ = some (.slice none 0 0) := (blk_cell BK166.out 1).trans rfl; have hfz52_0 := blk_frozen BK166.out 0; have hfz52_1 := blk_frozen BK166.out 1; have p167 : 0 ≤ ((ji36) : Int) := of_decide_eq_true (by first | (with_reducible assumption) | assumption); have q167 : (ji36) < (l0.length : Int) := of_decide_eq_true (by first | (with_reducible assumption) | assumption); obtain ⟨ad167, e167, hx167_0⟩ := Kd.at_int HR0.out (ji36) p167 q167; cases e167; have hn167_0 : ad167.block ≠ gb166 := Nat.ne_of_lt (Nat.lt_of_lt_of_le (by have := World.block_lt_of_cell? _ _ hx167_0; first | rwa [add_block] at this | exact this) GW166.out); have hn167_1 : ad167.block ≠ gb166 := Nat.ne_of_lt (Nat.lt_of_lt_of_le (by have := World.block_lt_of_cell? _ _ hx167_0; first | rwa [add_block] at this | exact this) GW166.out); replace hx167_0 := (cellL HB.out hx167_0); replace hx167_0 := (cell_far (p := ⟨gb166, 0, none⟩) (by first | (rw [add_block]; exact hn167_0) | (show (Addr.add _ _).block ≠ _; rw [add_block]; exact hn167_0) | exact hn167_0) (.string (strOfNums (l0.take 4)))).trans hx167_0; replace hx167_0 := (cell_far (p := ⟨gb166, 1, none⟩) (by first | (rw [add_block]; exact hn167_1) | (show (Addr.add _ _).block ≠ _; rw [add_block]; exact hn167_1) | exact hn167_1) (.slice Ao49 t163.length co49)).trans hx167_0; clear hn167_0; clear hn167_1; replace p167 := eq_true p167; replace q167 := eq_true q167; have hcz53_0 : w50.cell? ⟨gb157, 0, none⟩ = some (.string (⟨#[]⟩ : ByteArray)) := (blk_cell BK157.out 0).trans rfl; have hcz53_1 : w50.cell? ⟨gb157, 1, none⟩ = some (.slice none 0 0) := (blk_cell BK157.out 1).trans rfl; have hfz53_0 := blk_frozen BK157.out 0; have hfz53_1 := blk_frozen BK157.out 1))
                            refine bodyPost_ret (results_ctt rfl _ _ gb157 42 #[.string (⟨#[]⟩ : ByteArray), .slice none 0 0] (0, 0) _ rfl (by (with_reducible repeat (first | refine blk_drewN ?_ _ | refine blk_drew ?_ | refine blk_alloc ?_ _)); refine blk_put (cs := #[.string (⟨#[]⟩ : ByteArray), .slice none 0 0]) ?_ 1 _ rfl; (with_reducible repeat (first | refine blk_drewN ?_ _ | refine blk_drew ?_ | refine blk_alloc ?_ _)); refine blk_put (cs := #[.string (⟨#[]⟩ : ByteArray), .slice none 0 0]) ?_ 0 _ rfl; (with_reducible repeat (first | refine blk_drewN ?_ _ | refine blk_drew ?_ | refine blk_alloc ?_ _)); refine blk_far ?_ NB157_166.out _; (with_reducible repeat (first | refine blk_drewN ?_ _ | refine blk_drew ?_ | refine blk_alloc ?_ _)); refine blk_far ?_ NB157_166.out _; (with_reducible repeat (first | refine blk_drewN ?_ _ | refine blk_drew ?_ | refine blk_alloc ?_ _)); exact BK157.out) Try.underlying42 rfl (by kernel_rfl)) rfl ?_
                            exact ⟨_, by first | rfl | (simp [errW_none, errW_some] <;> rfl) | (simp only [← hji36]; first | rfl | (simp [errW_none, errW_some] <;> rfl)) | (simp [*, errW_none, errW_some] <;> rfl), by first | exact Kd.R_nil _ _ _ _ _ | exact Kd.N_nil _ _ _ _ _ | exact Kd.V_nil _ _ _ _ _ | exact Kd.Q_nil _ _ _ _ _ | exact Kd.S_nil _ _ _ _ _, by repeat (first | (with_reducible first | exact HB.out | apply below_alloc | apply pw_below_drewN | apply below_drew1 | refine below_set ?_ GE157.out | refine below_set ?_ GE166.out) | exact HB.out)⟩
                        · rw [if_neg c38] at H
                          exact absurd H (by simp)
                      · rw [if_neg c37] at H
                        exact absurd H (by simp)
                · rw [if_neg c18] at H
                  exact absurd H (by simp)
              · rw [if_neg c17] at H
                exact absurd H (by simp)
      · replace c7 := Bool.eq_false_iff.mpr c7
        subst c7
        have H1 : (some ((⟨#[]⟩ : ByteArray), ([] : List Int), 0, 3)) = some (r1, r2, r3, r4) := by rw [if_neg (show ¬ (false = true) by decide)] at H; exact H
        clear H
        have H := H1
        clear H1
        simp only [Option.some.injEq, Prod.mk.injEq] at H
        obtain ⟨rfl, rfl, rfl, rfl⟩ := H
        go_enter Try.func84, Try.ntmps84
        go_wp2_with (first | ((with_reducible refine gate_dst (N := 2) rfl ?_); (try (refine gate_guard (by rfl) ?_; dsimp only)); refine box_event ?hg (N := 2) ?hd (cs := #[.string (⟨#[]⟩ : ByteArray), .slice none 0 0]) (t := 42) ?hr ?_; (case hd => rfl); (case hg => rfl); (case hr => first | (go_simp; done) | (go_simp; rfl)); intro gb157 hg w54 hbox hb; have n0_ := asiD (below_step (by repeat (first | (with_reducible first | exact HB.out | apply below_alloc | apply pw_below_drewN | apply below_drew1) | exact HB.out)) hb); have n1_ := asiD (hbox); have n2_ := asiD ((by rw [hg]; exact (below_size (by repeat (first | (with_reducible first | exact HB.out | apply below_alloc | apply pw_below_drewN | apply below_drew1) | exact HB.out))) : w.heap.size ≤ gb157)); have n3_ := asiD ((by rw [hg]; exact (below_size (by repeat (first | (with_reducible first | exact HB.out | apply below_alloc | apply pw_below_drewN | apply below_drew1) | exact HB.out))) : w.heap.size ≤ gb157)); clear HB; have HB := n0_; have BK157 := n1_; have GW157 := n2_; have GE157 := n3_; clear n0_ n1_ n2_ n3_; clear hb hbox hg; obtain ⟨i055, hi055, _, hsz55, _⟩ := info_parts info5; obtain ⟨hcut55, hA55, hC55⟩ := print_take_of (P := Try.prog) (Value.int .u8) 0 23 5 .i64 Try.underlying23 hi055 hsz55 A0 c0 l0 4 (by omega) (of_decide_eq_true (by first | (with_reducible assumption) | assumption)) HC0.out; have HR158 := asiD (Kd.C_of_reads (h1 := fun _ => rfl) (hA55 _ (Kd.reads_of_C HR0.out))); have HC158 := asiD hC55; clear hA55 hC55 hi055 hsz55; have hcv56 := Kd.C_string (P := Try.prog) (A := A0) (c := c0) Try.underlying23 Try.underlying5 Try.underlying9 (Kd.C_below HR158.out HB.out); have hcv56q := hcv56; (try simp only [List.length_take, List.length_drop, Int.reduceToNat] at hcv56q); have hcv56d := fun nd => Kd.C_string (P := Try.prog) (A := A0) (c := c0) Try.underlying23 Try.underlying5 Try.underlying9 (Kd.C_drewN (Kd.C_below HR158.out HB.out) nd); (try simp only [List.length_take, List.length_drop, Int.reduceToNat] at hcv56d); have hcv56e := hcv56; have hcv56f := hcv56d; (try (have hmn_ : ((ji36) : Int) ≤ (l0.length : Int) := (by first | omega | exact of_decide_eq_true (by assumption)); (try simp only [List.length_take, List.length_drop, Int.reduceToNat] at hcv56e); rw [Nat.min_eq_left (by omega)] at hcv56e; (try (rw [Nat.min_eq_left (by omega)] at hcv56d)); clear hmn_))) | ((with_reducible refine gate_callee (f := 78) rfl ?_); refine goesL_ (some 18) rfl rfl Try.func78 (by kernel_rfl) rfl #[.string (strOfNums (l0.take 4))] rfl (by (try simp only [List.map_toArray, List.map_cons, List.map_nil]); first | done | rfl | (simp only [List.length_drop, List.length_take]; rfl)) ?_; (with_reducible refine (chunk_Name.calls (strOfNums (l0.take 4)) false _ A6.out).mono ?_); clear A6; rintro e w57 ⟨rfl, hb⟩; refine ⟨_, rfl, ?_⟩; have n0_ := asiD (blk_below (g := gb157) (o := .cells #[.string (⟨#[]⟩ : ByteArray), .slice none 0 0] 42 (0, 0)) (by (with_reducible repeat (first | refine blk_drewN ?_ _ | refine blk_drew ?_ | refine blk_alloc ?_ _)); exact BK157.out) hb); have n1_ := asiD (below_step (by repeat (first | (with_reducible first | exact HB.out | apply below_alloc | apply pw_below_drewN | apply below_drew1 | refine below_set ?_ GE157.out) | exact HB.out)) hb); clear BK157; clear HB; have BK157 := n0_; have HB := n1_; clear n0_ n1_; (try clear hb); (try clear hb2); (try clear hk); (try clear hi); have hcz58_0 : w57.cell? ⟨gb157, 0, none⟩ = some (.string (⟨#[]⟩ : ByteArray)) := (blk_cell BK157.out 0).trans rfl; have hcz58_1 : w57.cell? ⟨gb157, 1, none⟩ = some (.slice none 0 0) := (blk_cell BK157.out 1).trans rfl; have hfz58_0 := blk_frozen BK157.out 0; have hfz58_1 := blk_frozen BK157.out 1) | (go_at_call 78; (with_reducible refine (chunk_Name.calls (strOfNums (l0.take 4)) false _ A6.out).mono ?_); clear A6; rintro e w57 ⟨rfl, hb⟩; have n0_ := asiD (blk_below (g := gb157) (o := .cells #[.string (⟨#[]⟩ : ByteArray), .slice none 0 0] 42 (0, 0)) (by (with_reducible repeat (first | refine blk_drewN ?_ _ | refine blk_drew ?_ | refine blk_alloc ?_ _)); exact BK157.out) hb); have n1_ := asiD (below_step (by repeat (first | (with_reducible first | exact HB.out | apply below_alloc | apply pw_below_drewN | apply below_drew1 | refine below_set ?_ GE157.out) | exact HB.out)) hb); clear BK157; clear HB; have BK157 := n0_; have HB := n1_; clear n0_ n1_; (try clear hb); (try clear hb2); (try clear hk); (try clear hi); have hcz58_0 : w57.cell? ⟨gb157, 0, none⟩ = some (.string (⟨#[]⟩ : ByteArray)) := (blk_cell BK157.out 0).trans rfl; have hcz58_1 : w57.cell? ⟨gb157, 1, none⟩ = some (.slice none 0 0) := (blk_cell BK157.out 1).trans rfl; have hfz58_0 := blk_frozen BK157.out 0; have hfz58_1 := blk_frozen BK157.out 1))
        refine bodyPost_ret (results_ctt rfl _ _ gb157 42 #[.string (⟨#[]⟩ : ByteArray), .slice none 0 0] (0, 0) _ rfl (by (with_reducible repeat (first | refine blk_drewN ?_ _ | refine blk_drew ?_ | refine blk_alloc ?_ _)); refine blk_put (cs := #[.string (⟨#[]⟩ : ByteArray), .slice none 0 0]) ?_ 1 _ rfl; (with_reducible repeat (first | refine blk_drewN ?_ _ | refine blk_drew ?_ | refine blk_alloc ?_ _)); refine blk_put (cs := #[.string (⟨#[]⟩ : ByteArray), .slice none 0 0]) ?_ 0 _ rfl; (with_reducible repeat (first | refine blk_drewN ?_ _ | refine blk_drew ?_ | refine blk_alloc ?_ _)); exact BK157.out) Try.underlying42 rfl (by kernel_rfl)) rfl ?_
        exact ⟨_, by first | rfl | (simp [errW_none, errW_some] <;> rfl) | (simp [*, errW_none, errW_some] <;> rfl), by first | exact Kd.R_nil _ _ _ _ _ | exact Kd.N_nil _ _ _ _ _ | exact Kd.V_nil _ _ _ _ _ | exact Kd.Q_nil _ _ _ _ _ | exact Kd.S_nil _ _ _ _ _, by repeat (first | (with_reducible first | exact HB.out | apply below_alloc | apply pw_below_drewN | apply below_drew1 | refine below_set ?_ GE157.out) | exact HB.out)⟩
    · rw [if_neg c5] at H
      exact absurd H (by simp)
def chunk_Inner.l0 : Nat → List Int → List (S42) → Option ((List (S42)) × Int)
  | 0, _, _ => none
  | k + 1, x0, x4 => if (x0.length : Int) > 0 then ((chunk_one.f k x0).bind fun bt168 => (if bt168.2.2.2 = 0 then (if x4.length < 3518437208883 then (if 0 ≤ bt168.2.2.1 then (if bt168.2.2.1 ≤ (x0.length : Int) then (chunk_Inner.l0 k (x0.drop (bt168.2.2.1 : Int).toNat) (x4 ++ [(⟨bt168.1, bt168.2.1⟩ : S42)])) else (none)) else (none)) else (none)) else (some (([] : List (S42)), bt168.2.2.2)))) else (some (x4, 0))
def chunk_Inner.f (k : Nat) (l0 : List Int) : Option ((List (S42)) × Int) := chunk_Inner.l0 k l0 ([] : List (S42))
theorem chunk_Inner.mono_l : ∀ k, (∀ y0 y1, LeO (chunk_Inner.l0 k y0 y1) (chunk_Inner.l0 (k + 1) y0 y1))
  | 0 => fun _ _ r h => by simp [chunk_Inner.l0] at h
  | k + 1 => by
    have ih0 := chunk_Inner.mono_l k
    · intro y0 y1
      unfold chunk_Inner.l0
      repeat' first
      | (with_reducible exact ih0 _ _)
      | (with_reducible exact chunk_one.mono _ _)
      | (with_reducible exact LeO.refl _)
      | (with_reducible exact LeO.none _)
      | (with_reducible refine LeO.ite ?_ ?_)
      | (with_reducible refine LeO.bind ?_ (fun _ => ?_))
      | exact ih0 _ _
      | exact chunk_one.mono _ _
      | exact LeO.none _
      | refine LeO.ite ?_ ?_
      | refine LeO.bind ?_ (fun _ => ?_)
theorem chunk_Inner.mono : ∀ a0 k, LeO (chunk_Inner.f k a0) (chunk_Inner.f (k + 1) a0) := by
  intro a0 k
  have ih0 := chunk_Inner.mono_l k
  unfold chunk_Inner.f
  repeat' first
      | (with_reducible exact ih0 _ _)
      | (with_reducible exact chunk_one.mono _ _)
      | (with_reducible exact LeO.refl _)
      | (with_reducible exact LeO.none _)
      | (with_reducible refine LeO.ite ?_ ?_)
      | (with_reducible refine LeO.bind ?_ (fun _ => ?_))
      | exact ih0 _ _
      | exact chunk_one.mono _ _
      | exact LeO.none _
      | refine LeO.ite ?_ ?_
      | refine LeO.bind ?_ (fun _ => ?_)
set_option maxHeartbeats 8000000 in
set_option maxRecDepth 100000 in
theorem chunk_Inner.calls (k : Nat) (P0_ : Nat → Prop) (A0 : Option Addr) (c0 : Nat) (l0 : List Int) (r1 : List (S42)) (r2 : Int) (w : World) (hs0 : Kd.V (Kd.int .u8) 5 w w.heap.size (fun k_ => P0_ k_) (.slice A0 l0.length c0) l0) (h : chunk_Inner.f k l0 = some (r1, r2)) :
    Calls Try.prog 69 #[.slice A0 l0.length c0] w fun e w' => ∃ v0_ : Value, e = .returned (.tuple #[v0_, .int .i64 r2]) ∧ Kd.S k42 42 w' w.heap.size (fun k_ => (w.heap.size ≤ k_)) v0_ r1 ∧ Below w.heap.size w w' := by
  have hu42 := Try.underlying42
  have HO0 := asiD (show Kd.V (Kd.int .u8) 5 w w.heap.size (fun k_ => (P0_ k_ ∨ w.heap.size ≤ k_)) (.slice A0 l0.length c0) l0 from Kd.V_mono hs0 (fun k_ hk => .inl hk))
  have HB := asiD (Below.refl w.heap.size w)
  have H : (chunk_Inner.l0 k l0 ([] : List (S42))) = some (r1, r2) := h
  clear h
  have H' := asiD H
  clear H
  go_enter Try.func69, Try.ntmps69
  go_wp2
  go_loopg [0, 4] k (fun kq v0 v4 w' => ∃ (x0_1 : List Int) (x4_1 : List (S42)), Aside0 (chunk_Inner.l0 kq x0_1 x4_1 = some (r1, r2)) ∧ Aside0 (kq ≤ k) ∧ Aside0 (Kd.V (Kd.int .u8) 5 w' w.heap.size (fun k_ => (P0_ k_ ∨ w.heap.size ≤ k_) ∧ some k_ ≠ (v4 : Value).ownBlock) v0 x0_1) ∧ Aside0 (Kd.S k42 42 w' w.heap.size (fun k_ => (w.heap.size ≤ k_)) v4 x4_1) ∧ Aside0 (Below w.heap.size w w'))
  case atStart => exact ⟨(l0), (([] : List (S42))), H', ⟨Nat.le_refl _⟩, ⟨by (with_reducible repeat (first | apply Kd.V_alloc | apply Kd.V_drewN | apply Kd.V_drew)); exact Kd.V_mono HO0.out (fun _ hk => ⟨hk, (by simp [Value.ownBlock])⟩)⟩, ⟨by first | exact Kd.S_nil _ _ _ _ _ | exact Kd.N_nil _ _ _ _ _ | exact Kd.V_nil _ _ _ _ _ | exact Kd.Q_nil _ _ _ _ _ | exact Kd.R_nil _ _ _ _ _⟩, ⟨by repeat (first | (with_reducible first | exact HB.out | apply below_alloc | apply pw_below_drewN | apply below_drew1) | exact HB.out)⟩⟩
  case round =>
    clear H'
    obtain ⟨x0_1, x4_1, HA, HK1, HO_0, HO_4, HB⟩ := hrel
    cases gk with
    | zero => exact absurd HA.out (by simp [chunk_Inner.l0])
    | succ k1 =>
      have H := HA.out
      clear HA
      simp only [chunk_Inner.l0] at H
      by_cases c2 : (x0_1.length : Int) > 0
      · rw [if_pos c2] at H
        have c2b0 : decide (0 < (x0_1.length : Int)) = true := decide_eq_true c2
        have c2b1 : decide (0 < x0_1.length) = true := decide_eq_true (by omega)
        clear c2
        replace H := Option.bind_eq_some_iff.mp H
        obtain ⟨⟨t168, t169, t172, t173⟩, A30, H⟩ := H
        replace H : (if t173 = 0 then (if x4_1.length < 3518437208883 then (if 0 ≤ t172 then (if t172 ≤ (x0_1.length : Int) then (chunk_Inner.l0 k1 (x0_1.drop (t172 : Int).toNat) (x4_1 ++ [(⟨t168, t169⟩ : S42)])) else (none)) else (none)) else (none)) else (some (([] : List (S42)), t173))) = some (r1, r2) := H
        have A3 := asiD A30
        clear A30
        by_cases c4 : t173 = 0
        · rw [if_pos c4] at H
          have c4b0 : (t173 == 0) = true := beq_iff_eq.mpr c4
          have c4b1 : (t173 != 0) = false := bne_eq_false_iff_eq.mpr c4
          clear c4
          by_cases c5 : x4_1.length < 3518437208883
          · rw [if_pos c5] at H
            have LMc5 := asiD c5
            clear c5
            obtain ⟨y175, hy175⟩ : ∃ y_ : List (S42), y_ = (x4_1 ++ [(⟨t168, t169⟩ : S42)]) := ⟨_, rfl⟩
            replace H : (if 0 ≤ t172 then (if t172 ≤ (x0_1.length : Int) then (chunk_Inner.l0 k1 (x0_1.drop (t172 : Int).toNat) y175) else (none)) else (none)) = some (r1, r2) := by first | (rw [hy175]; with_reducible exact H) | (have H2_ := (Option.bind_some _ _).symm.trans H; rw [hy175]; with_reducible exact H2_) | (have H2_ := (Option.bind_some _ _).symm.trans H; with_reducible exact H2_) | with_reducible exact H | (rw [hy175]; exact H) | exact H
            have Ny175 := asiD hy175
            clear hy175
            by_cases c6 : 0 ≤ t172
            · rw [if_pos c6] at H
              have c6b0 := eq_true c6
              have c6b1 : decide (0 ≤ t172) = true := decide_eq_true c6
              clear c6
              by_cases c7 : t172 ≤ (x0_1.length : Int)
              · rw [if_pos c7] at H
                have c7b0 := eq_true c7
                have c7b1 : decide (t172 ≤ (x0_1.length : Int)) = true := decide_eq_true c7
                clear c7
                obtain ⟨y178, hy178⟩ : ∃ y_ : List Int, y_ = (x0_1.drop (t172 : Int).toNat) := ⟨_, rfl⟩
                replace H : (chunk_Inner.l0 k1 y178 y175) = some (r1, r2) := by first | (rw [hy178]; with_reducible exact H) | (have H2_ := (Option.bind_some _ _).symm.trans H; rw [hy178]; with_reducible exact H2_) | (have H2_ := (Option.bind_some _ _).symm.trans H; with_reducible exact H2_) | with_reducible exact H | (rw [hy178]; exact H) | exact H
                have Ny178 := asiD hy178
                clear hy178
                have H' := asiD H
                clear H
                obtain ⟨Ao8, co8, eo8⟩ := Kd.V_slice HO_0.out
                subst eo8
                go_wp2_with (first | ((with_reducible refine gate_callee (f := 84) rfl ?_); refine goesL_ (some 13) rfl rfl Try.func84 (by kernel_rfl) rfl #[.slice Ao8 x0_1.length co8] rfl (by (try simp only [List.map_toArray, List.map_cons, List.map_nil]); first | done | rfl | (simp only [List.length_drop, List.length_take]; rfl)) ?_; (with_reducible refine (chunk_one.calls k1 _ _ x0_1 t168 t169 t172 t173 _ ?side1 ?side2 A3.out).mono ?_); (case side1 => repeat (first | exact (Kd.V_reads' HO_0.out).2.2 | (with_reducible refine Kd.C_alloc ?_ _) | (with_reducible refine Kd.C_drewN ?_ _) | (with_reducible refine Kd.C_drew ?_))); (case side2 => exact (Kd.V_reads' HO_0.out).2.1); rintro e w9 ⟨v170, rfl, ho0, hb⟩; refine ⟨_, rfl, ?_⟩; have n0_ := asiD (Kd.V_elder' (by (with_reducible repeat (first | apply Kd.V_alloc | apply Kd.V_drewN | apply Kd.V_drew)); exact HO_0.out) (Kd.R_base ho0) hb); have n1_ := asiD (Kd.S_elder' (by (with_reducible repeat (first | apply Kd.S_alloc | apply Kd.S_drewN | apply Kd.S_drew)); exact HO_4.out) (Kd.R_base ho0) hb); have n2_ := asiD (Kd.R_lower (Kd.R_newM (M := fun k_ => (w.heap.size ≤ k_)) ho0 (below_size (by repeat (first | (with_reducible first | exact HB.out | apply below_alloc | apply pw_below_drewN | apply below_drew1) | exact HB.out))) (fun k_ h_ => h_)) (below_size (by repeat (first | (with_reducible first | exact HB.out | apply below_alloc | apply pw_below_drewN | apply below_drew1) | exact HB.out)))); have n3_ := asiD (below_step (by repeat (first | (with_reducible first | exact HB.out | apply below_alloc | apply pw_below_drewN | apply below_drew1) | exact HB.out)) hb); clear HO_0; clear HO_4; clear HB; have HO_0 := n0_; have HO_4 := n1_; have HO171 := n2_; have HB := n3_; clear n0_ n1_ n2_ n3_; (try clear hb); (try clear hb2); (try clear hk); (try clear hi); (try clear ho0)) | (go_at_call 84; (with_reducible refine (chunk_one.calls k1 _ _ x0_1 t168 t169 t172 t173 _ ?side1 ?side2 A3.out).mono ?_); (case side1 => repeat (first | exact (Kd.V_reads' HO_0.out).2.2 | (with_reducible refine Kd.C_alloc ?_ _) | (with_reducible refine Kd.C_drewN ?_ _) | (with_reducible refine Kd.C_drew ?_))); (case side2 => exact (Kd.V_reads' HO_0.out).2.1); rintro e w9 ⟨v170, rfl, ho0, hb⟩; have n0_ := asiD (Kd.V_elder' (by (with_reducible repeat (first | apply Kd.V_alloc | apply Kd.V_drewN | apply Kd.V_drew)); exact HO_0.out) (Kd.R_base ho0) hb); have n1_ := asiD (Kd.S_elder' (by (with_reducible repeat (first | apply Kd.S_alloc | apply Kd.S_drewN | apply Kd.S_drew)); exact HO_4.out) (Kd.R_base ho0) hb); have n2_ := asiD (Kd.R_lower (Kd.R_newM (M := fun k_ => (w.heap.size ≤ k_)) ho0 (below_size (by repeat (first | (with_reducible first | exact HB.out | apply below_alloc | apply pw_below_drewN | apply below_drew1) | exact HB.out))) (fun k_ h_ => h_)) (below_size (by repeat (first | (with_reducible first | exact HB.out | apply below_alloc | apply pw_below_drewN | apply below_drew1) | exact HB.out)))); have n3_ := asiD (below_step (by repeat (first | (with_reducible first | exact HB.out | apply below_alloc | apply pw_below_drewN | apply below_drew1) | exact HB.out)) hb); clear HO_0; clear HO_4; clear HB; have HO_0 := n0_; have HO_4 := n1_; have HO171 := n2_; have HB := n3_; clear n0_ n1_ n2_ n3_; (try clear hb); (try clear hb2); (try clear hk); (try clear hi); (try clear ho0)) | ((with_reducible refine gate_dst (N := 5) rfl ?_); refine box_event ?hg (N := 5) ?hd (cs := #[.string (⟨#[]⟩ : ByteArray), .slice none 0 0]) (t := 42) ?hr ?_; (case hd => rfl); (case hg => rfl); (case hr => first | (go_simp; done) | (go_simp; rfl)); intro gb174 hg w10 hbox hb; have n0_ := asiD (Kd.V_below (Kd.V_elderB (by (with_reducible repeat (first | apply Kd.V_alloc | apply Kd.V_drewN | apply Kd.V_drew)); exact HO_0.out) gb174 (Nat.le_of_eq hg.symm)) hb); have n1_ := asiD (Kd.S_below (Kd.S_elderB (by (with_reducible repeat (first | apply Kd.S_alloc | apply Kd.S_drewN | apply Kd.S_drew)); exact HO_4.out) gb174 (Nat.le_of_eq hg.symm)) hb); have n2_ := asiD (Kd.R_below (by (with_reducible repeat (first | apply Kd.R_alloc | apply Kd.R_drewN | apply Kd.R_drew)); exact HO171.out) hb); have n3_ := asiD (below_step (by repeat (first | (with_reducible first | exact HB.out | apply below_alloc | apply pw_below_drewN | apply below_drew1) | exact HB.out)) hb); have n4_ := asiD (hbox); have n5_ := asiD ((by rw [hg]; exact (below_size (by repeat (first | (with_reducible first | exact HB.out | apply below_alloc | apply pw_below_drewN | apply below_drew1) | exact HB.out))) : w.heap.size ≤ gb174)); have n6_ := asiD ((by rw [hg]; exact (below_size (by repeat (first | (with_reducible first | exact HB.out | apply below_alloc | apply pw_below_drewN | apply below_drew1) | exact HB.out))) : w.heap.size ≤ gb174)); clear HO_0; clear HO_4; clear HO171; clear HB; have HO_0 := n0_; have HO_4 := n1_; have HO171 := n2_; have HB := n3_; have BK174 := n4_; have GW174 := n5_; have GE174 := n6_; clear n0_ n1_ n2_ n3_ n4_ n5_ n6_; clear hb hbox hg; have hcz11_0 : w10.cell? ⟨gb174, 0, none⟩ = some (.string (⟨#[]⟩ : ByteArray)) := (blk_cell BK174.out 0).trans rfl; have hcz11_1 : w10.cell? ⟨gb174, 1, none⟩ = some (.slice none 0 0) := (blk_cell BK174.out 1).trans rfl; have hfz11_0 := blk_frozen BK174.out 0; have hfz11_1 := blk_frozen BK174.out 1; obtain ⟨Ao12, co12, eo12⟩ := Kd.R_slice HO171.out; subst eo12) | ((with_reducible refine gate_store (t := 42) (p := 5) rfl ?_); refine store_event (t := 42) (p := 5) (v := ?vo_w13) (w1 := ((w10.setCell ⟨gb174, 0, none⟩ (.string t168)).setCell ⟨gb174, 1, none⟩ (.slice Ao12 t169.length co12))) ?hg ?ho ?hn ?hr ?_; (case ho => rfl); (case hg => rfl); (case hn => rfl); (case hr => first | (go_simp; done) | (go_simp; rfl)); intro w13 hw; have n0_ : Aside0 (Kd.V (Kd.int .u8) 5 w13 w.heap.size (fun k_ => (P0_ k_ ∨ w.heap.size ≤ k_) ∧ some k_ ≠ (u4 : Value).ownBlock ∧ some k_ ≠ (.slice Ao12 t169.length co12 : Value).ownBlock ∧ k_ ≠ gb174) (.slice Ao8 x0_1.length co8) x0_1) := ⟨(by rw [hw]; exact (by (with_reducible repeat (first | apply Kd.V_alloc | apply Kd.V_drewN | apply Kd.V_drew)); exact Kd.V_mono (Kd.V_far (p := ⟨gb174, 1, none⟩) (Kd.V_far (p := ⟨gb174, 0, none⟩) (Kd.V_mono HO_0.out (fun k_ hk => (⟨hk, hk.2⟩ : _ ∧ k_ ≠ gb174))) (fun _ hk => hk.2) (.string t168)) (fun _ hk => hk.2) (.slice Ao12 t169.length co12)) (fun _ hk => ⟨hk.1.1.1.1, ⟨hk.1.1.1.2, ⟨hk.1.1.2, hk.1.2⟩⟩⟩)))⟩; have n1_ : Aside0 (Kd.S k42 42 w13 w.heap.size (fun k_ => (w.heap.size ≤ k_) ∧ some k_ ≠ (.slice Ao12 t169.length co12 : Value).ownBlock ∧ k_ ≠ gb174) u4 x4_1) := ⟨(by rw [hw]; exact (by (with_reducible repeat (first | apply Kd.S_alloc | apply Kd.S_drewN | apply Kd.S_drew)); exact Kd.S_mono (Kd.S_far (p := ⟨gb174, 1, none⟩) (Kd.S_far (p := ⟨gb174, 0, none⟩) (Kd.S_mono HO_4.out (fun k_ hk => (⟨hk, hk.2⟩ : _ ∧ k_ ≠ gb174))) (fun _ hk => hk.2) (.string t168)) (fun _ hk => hk.2) (.slice Ao12 t169.length co12)) (fun _ hk => ⟨hk.1.1.1, ⟨hk.1.1.2, hk.1.2⟩⟩)))⟩; have n2_ : Aside0 (Kd.R (Kd.int .u8) 5 w13 w.heap.size (fun k_ => (w.heap.size ≤ k_)) (.slice Ao12 t169.length co12) t169) := ⟨(by rw [hw]; exact (by (with_reducible repeat (first | apply Kd.R_alloc | apply Kd.R_drewN | apply Kd.R_drew)); exact Kd.R_mono (Kd.R_far (p := ⟨gb174, 1, none⟩) (Kd.R_far (p := ⟨gb174, 0, none⟩) (Kd.R_types HO171.out BK174.out (by decide)) (fun _ hk => hk.2) (.string t168)) (fun _ hk => hk.2) (.slice Ao12 t169.length co12)) (fun _ hk => hk.1.1)))⟩; have n3_ : Aside0 (w13.heap[gb174]? = some (.cells #[.string t168, .slice Ao12 t169.length co12] 42 (0, 0))) := ⟨(by rw [hw]; exact (by (with_reducible repeat (first | refine blk_drewN ?_ _ | refine blk_drew ?_ | refine blk_alloc ?_ _)); refine blk_put (cs := #[.string t168, .slice none 0 0]) ?_ 1 _ rfl; (with_reducible repeat (first | refine blk_drewN ?_ _ | refine blk_drew ?_ | refine blk_alloc ?_ _)); refine blk_put (cs := #[.string (⟨#[]⟩ : ByteArray), .slice none 0 0]) ?_ 0 _ rfl; (with_reducible repeat (first | refine blk_drewN ?_ _ | refine blk_drew ?_ | refine blk_alloc ?_ _)); exact BK174.out))⟩; have n4_ : Aside0 (Below w.heap.size w w13) := ⟨(by rw [hw]; exact (by repeat (first | (with_reducible first | exact HB.out | apply below_alloc | apply pw_below_drewN | apply below_drew1 | refine below_set ?_ GE174.out) | exact HB.out)))⟩; clear hw; clear HO_0; clear HO_4; clear HO171; clear BK174; clear HB; have HO_0 := n0_; have HO_4 := n1_; have HO171 := n2_; have BK174 := n3_; have HB := n4_; clear n0_ n1_ n2_ n3_ n4_; have hcz14_0 : w13.cell? ⟨gb174, 0, none⟩ = some (.string t168) := (blk_cell BK174.out 0).trans rfl; have hcz14_1 : w13.cell? ⟨gb174, 1, none⟩ = some (.slice Ao12 t169.length co12) := (blk_cell BK174.out 1).trans rfl; have hfz14_0 := blk_frozen BK174.out 0; have hfz14_1 := blk_frozen BK174.out 1) | ((with_reducible refine gate_builtin (b := .append) (xs := #[.tmp 20, .tmp 22]) rfl ?_); at_builtin; refine Kd.S_append k42 (w0 := w) w.heap.size rfl (.tmp 20) (.tmp 22) 25 42 (.agg #[(.string ⟨#[]⟩), (.slice none 0 0)]) 40 rfl Try.underlying25 info42 rfl (by decide) (by omega) u4 x4_1 (⟨t168, t169⟩ : S42) [.string t168, .slice Ao12 t169.length co12] (fun k_ => (w.heap.size ≤ k_) ∧ k_ ≠ gb174) (fun k_ => some k_ = (.slice Ao12 t169.length co12 : Value).ownBlock) rfl rfl ?aP (fun k_ hk_ => ((Kd.R_mono (ok' := fun k_ => ((fun k_ => (w.heap.size ≤ k_) ∧ k_ ≠ gb174)) k_ ∧ some k_ ≠ (u4 : Value).ownBlock) (Kd.R_types (Kd.R_apart' (HO171.out) (Kd.S_typed HO_4.out) (by decide)) BK174.out (by decide)) (fun k_ hk => ⟨⟨hk.1.1, hk.2⟩, hk.1.2⟩))).1 k_ hk_.symm) ?aF ?aO ?aB ?aS ?aL ?_; (case aP => exact k42_mkM _ _ _ (⟨t168, t169⟩ : S42) (Kd.R_mono (Kd.R_tight rfl (Kd.R_mono (ok' := fun k_ => ((fun k_ => (w.heap.size ≤ k_) ∧ k_ ≠ gb174)) k_ ∧ some k_ ≠ (u4 : Value).ownBlock) (Kd.R_types (Kd.R_apart' (HO171.out) (Kd.S_typed HO_4.out) (by decide)) BK174.out (by decide)) (fun k_ hk => ⟨⟨hk.1.1, hk.2⟩, hk.1.2⟩))) (fun _ h_ => h_))); (case aB => exact (by repeat (first | (with_reducible first | exact HB.out | apply below_alloc | apply pw_below_drewN | apply below_drew1 | refine below_set ?_ GE174.out) | exact HB.out))); (case aF => exact (fun k_ hk => ⟨(Nat.le_trans (below_size (by repeat (first | (with_reducible first | exact HB.out | apply below_alloc | apply pw_below_drewN | apply below_drew1 | refine below_set ?_ GE174.out) | exact HB.out))) hk), Kd.freshB (g := gb174) (o := .cells #[.string t168, .slice Ao12 t169.length co12] 42 (0, 0)) (by (with_reducible repeat (first | refine blk_drewN ?_ _ | refine blk_drew ?_ | refine blk_alloc ?_ _)); exact BK174.out) k_ hk⟩)); (case aO => exact (by (with_reducible repeat (first | apply Kd.S_alloc | apply Kd.S_drewN | apply Kd.S_drew)); exact Kd.S_mono HO_4.out (fun k_ hk => ⟨⟨hk.1, hk.2.2⟩, fun e_ => hk.2.1 e_⟩))); (case aS => exact (below_size (by repeat (first | (with_reducible first | exact HB.out | apply below_alloc | apply pw_below_drewN | apply below_drew1 | refine below_set ?_ GE174.out) | exact HB.out)))); (case aL => have := LMc5.out; omega); intro v176 w15 ho hb hg hat; rw [← Ny175.out] at ho; have n0_ := asiD (Kd.V_afterv (ok := (fun k_ => (P0_ k_ ∨ w.heap.size ≤ k_) ∧ some k_ ≠ (.slice Ao12 t169.length co12 : Value).ownBlock ∧ k_ ≠ gb174)) (by (with_reducible repeat (first | apply Kd.V_alloc | apply Kd.V_drewN | apply Kd.V_drew)); exact Kd.V_mono HO_0.out (fun _ hk => ⟨⟨hk.1, ⟨hk.2.2.1, hk.2.2.2⟩⟩, hk.2.1⟩)) hg hat); have n1_ := asiD (blk_grown (g := gb174) (o := .cells #[.string t168, .slice Ao12 t169.length co12] 42 (0, 0)) (by (with_reducible repeat (first | refine blk_drewN ?_ _ | refine blk_drew ?_ | refine blk_alloc ?_ _)); exact BK174.out) hg (Kd.S_away HO_4.out (fun _ hk => hk.2.2))); have n2_ := asiD (hb); have n3_ := asiD (ho); clear HO_0; clear BK174; clear HB; clear HO_4; clear HO171; have HO_0 := n0_; have BK174 := n1_; have HB := n2_; have HO177 := n3_; clear n0_ n1_ n2_ n3_; clear ho hb hg hat; have q16 : (t172 : Int) ≤ ((x0_1.length : Int) : Int) := of_decide_eq_true (by first | (with_reducible assumption) | assumption); obtain ⟨i016, hi016, _, hsz16, _⟩ := info_parts info5; have hroom16 : x0_1.length ≤ co8 := (Kd.V_reads' HO_0.out).2.1; have hC16 : Kd.F (Kd.int .u8) _ _ Ao8 x0_1.length x0_1 := (Kd.V_at (base := w.heap.size) HO_0.out).2.2; have q016 : (0 : Int) ≤ (t172 : Int) := of_decide_eq_true (by first | (with_reducible assumption) | assumption); have hcut16 := cut_from (P := Try.prog) 23 5 .i64 Try.underlying23 hi016 1 hsz16 Ao8 x0_1.length co8 t172 q016 q16; have hr16 := Kd.F_cut (m := (t172 : Int).toNat) (c := co8) hC16 (by omega) hroom16; obtain ⟨A16, hA16⟩ : ∃ A1, A1 = (if co8 = (t172 : Int).toNat then Ao8 else (Ao8 : Option Addr).map (·.add ((t172 : Int).toNat * 1))) := ⟨_, rfl⟩; obtain ⟨c16, hc16⟩ : ∃ c1, c1 = co8 - (t172 : Int).toNat := ⟨_, rfl⟩; have hy16 : y178.length = x0_1.length - (t172 : Int).toNat := (by rw [Ny178.out, List.length_drop] <;> omega); rw [show (x0_1).drop (t172 : Int).toNat = y178 from Ny178.out.symm] at hr16; replace hr16 : Kd.F (Kd.int .u8) _ _ A16 y178.length y178 := (by rw [hA16]; exact hr16); rw [← hy16, ← hA16, ← hc16] at hcut16; have HO182 := asiD (show Kd.V (Kd.int .u8) 5 _ w.heap.size _ (.slice A16 y178.length c16) y178 from Kd.V_mk (by rw [hy16, hc16]; exact Nat.sub_le_sub_right hroom16 _) hr16); have HC182 := asiD (show y178.length ≤ c16 from by rw [hy16, hc16]; exact Nat.sub_le_sub_right hroom16 _); clear hr16 hC16 hroom16 hi016 hsz16 hc16; have KY16 := asiD hy16; have KA16 := asiD hA16; clear hy16 hA16; replace q16 := eq_true q16))
                go_roundg k1
                case measure => have := HK1.out; omega
                case rel => exact ⟨(y178), (y175), H', ⟨by have := HK1.out; omega⟩, ⟨by (with_reducible repeat (first | apply Kd.V_alloc | apply Kd.V_drewN | apply Kd.V_drew)); exact Kd.V_mono HO182.out (fun _ hk => ⟨hk.1.1, hk.2⟩)⟩, ⟨by (with_reducible repeat (first | apply Kd.S_alloc | apply Kd.S_drewN | apply Kd.S_drew)); exact Kd.S_mono HO177.out (fun _ hk => hk.1)⟩, ⟨by repeat (first | (with_reducible first | exact HB.out | apply below_alloc | apply pw_below_drewN | apply below_drew1 | refine below_set ?_ GE174.out) | exact HB.out)⟩⟩
              · rw [if_neg c7] at H
                exact absurd H (by simp)
            · rw [if_neg c6] at H
              exact absurd H (by simp)
          · rw [if_neg c5] at H
            exact absurd H (by simp)
        · rw [if_neg c4] at H
          have c4b0 : (t173 == 0) = false := beq_eq_false_iff_ne.mpr c4
          have c4b1 : (t173 != 0) = true := bne_iff_ne.mpr c4
          simp only [Option.some.injEq, Prod.mk.injEq] at H
          obtain ⟨rfl, rfl⟩ := H
          obtain ⟨Ao17, co17, eo17⟩ := Kd.V_slice HO_0.out
          subst eo17
          go_wp2_with (first | ((with_reducible refine gate_callee (f := 84) rfl ?_); refine goesL_ (some 13) rfl rfl Try.func84 (by kernel_rfl) rfl #[.slice Ao17 x0_1.length co17] rfl (by (try simp only [List.map_toArray, List.map_cons, List.map_nil]); first | done | rfl | (simp only [List.length_drop, List.length_take]; rfl)) ?_; (with_reducible refine (chunk_one.calls k1 _ _ x0_1 t168 t169 t172 t173 _ ?side1 ?side2 A3.out).mono ?_); (case side1 => repeat (first | exact (Kd.V_reads' HO_0.out).2.2 | (with_reducible refine Kd.C_alloc ?_ _) | (with_reducible refine Kd.C_drewN ?_ _) | (with_reducible refine Kd.C_drew ?_))); (case side2 => exact (Kd.V_reads' HO_0.out).2.1); rintro e w18 ⟨v170, rfl, ho0, hb⟩; refine ⟨_, rfl, ?_⟩; have n0_ := asiD (Kd.V_elder' (by (with_reducible repeat (first | apply Kd.V_alloc | apply Kd.V_drewN | apply Kd.V_drew)); exact HO_0.out) (Kd.R_base ho0) hb); have n1_ := asiD (Kd.S_elder' (by (with_reducible repeat (first | apply Kd.S_alloc | apply Kd.S_drewN | apply Kd.S_drew)); exact HO_4.out) (Kd.R_base ho0) hb); have n2_ := asiD (Kd.R_lower (Kd.R_newM (M := fun k_ => (w.heap.size ≤ k_)) ho0 (below_size (by repeat (first | (with_reducible first | exact HB.out | apply below_alloc | apply pw_below_drewN | apply below_drew1) | exact HB.out))) (fun k_ h_ => h_)) (below_size (by repeat (first | (with_reducible first | exact HB.out | apply below_alloc | apply pw_below_drewN | apply below_drew1) | exact HB.out)))); have n3_ := asiD (below_step (by repeat (first | (with_reducible first | exact HB.out | apply below_alloc | apply pw_below_drewN | apply below_drew1) | exact HB.out)) hb); clear HO_0; clear HO_4; clear HB; have HO_0 := n0_; have HO_4 := n1_; have HO171 := n2_; have HB := n3_; clear n0_ n1_ n2_ n3_; (try clear hb); (try clear hb2); (try clear hk); (try clear hi); (try clear ho0)) | (go_at_call 84; (with_reducible refine (chunk_one.calls k1 _ _ x0_1 t168 t169 t172 t173 _ ?side1 ?side2 A3.out).mono ?_); (case side1 => repeat (first | exact (Kd.V_reads' HO_0.out).2.2 | (with_reducible refine Kd.C_alloc ?_ _) | (with_reducible refine Kd.C_drewN ?_ _) | (with_reducible refine Kd.C_drew ?_))); (case side2 => exact (Kd.V_reads' HO_0.out).2.1); rintro e w18 ⟨v170, rfl, ho0, hb⟩; have n0_ := asiD (Kd.V_elder' (by (with_reducible repeat (first | apply Kd.V_alloc | apply Kd.V_drewN | apply Kd.V_drew)); exact HO_0.out) (Kd.R_base ho0) hb); have n1_ := asiD (Kd.S_elder' (by (with_reducible repeat (first | apply Kd.S_alloc | apply Kd.S_drewN | apply Kd.S_drew)); exact HO_4.out) (Kd.R_base ho0) hb); have n2_ := asiD (Kd.R_lower (Kd.R_newM (M := fun k_ => (w.heap.size ≤ k_)) ho0 (below_size (by repeat (first | (with_reducible first | exact HB.out | apply below_alloc | apply pw_below_drewN | apply below_drew1) | exact HB.out))) (fun k_ h_ => h_)) (below_size (by repeat (first | (with_reducible first | exact HB.out | apply below_alloc | apply pw_below_drewN | apply below_drew1) | exact HB.out)))); have n3_ := asiD (below_step (by repeat (first | (with_reducible first | exact HB.out | apply below_alloc | apply pw_below_drewN | apply below_drew1) | exact HB.out)) hb); clear HO_0; clear HO_4; clear HB; have HO_0 := n0_; have HO_4 := n1_; have HO171 := n2_; have HB := n3_; clear n0_ n1_ n2_ n3_; (try clear hb); (try clear hb2); (try clear hk); (try clear hi); (try clear ho0)) | ((with_reducible refine gate_dst (N := 5) rfl ?_); refine box_event ?hg (N := 5) ?hd (cs := #[.string (⟨#[]⟩ : ByteArray), .slice none 0 0]) (t := 42) ?hr ?_; (case hd => rfl); (case hg => rfl); (case hr => first | (go_simp; done) | (go_simp; rfl)); intro gb174 hg w19 hbox hb; have n0_ := asiD (Kd.V_below (Kd.V_elderB (by (with_reducible repeat (first | apply Kd.V_alloc | apply Kd.V_drewN | apply Kd.V_drew)); exact HO_0.out) gb174 (Nat.le_of_eq hg.symm)) hb); have n1_ := asiD (Kd.S_below (Kd.S_elderB (by (with_reducible repeat (first | apply Kd.S_alloc | apply Kd.S_drewN | apply Kd.S_drew)); exact HO_4.out) gb174 (Nat.le_of_eq hg.symm)) hb); have n2_ := asiD (Kd.R_below (by (with_reducible repeat (first | apply Kd.R_alloc | apply Kd.R_drewN | apply Kd.R_drew)); exact HO171.out) hb); have n3_ := asiD (below_step (by repeat (first | (with_reducible first | exact HB.out | apply below_alloc | apply pw_below_drewN | apply below_drew1) | exact HB.out)) hb); have n4_ := asiD (hbox); have n5_ := asiD ((by rw [hg]; exact (below_size (by repeat (first | (with_reducible first | exact HB.out | apply below_alloc | apply pw_below_drewN | apply below_drew1) | exact HB.out))) : w.heap.size ≤ gb174)); have n6_ := asiD ((by rw [hg]; exact (below_size (by repeat (first | (with_reducible first | exact HB.out | apply below_alloc | apply pw_below_drewN | apply below_drew1) | exact HB.out))) : w.heap.size ≤ gb174)); clear HO_0; clear HO_4; clear HO171; clear HB; have HO_0 := n0_; have HO_4 := n1_; have HO171 := n2_; have HB := n3_; have BK174 := n4_; have GW174 := n5_; have GE174 := n6_; clear n0_ n1_ n2_ n3_ n4_ n5_ n6_; clear hb hbox hg; have hcz20_0 : w19.cell? ⟨gb174, 0, none⟩ = some (.string (⟨#[]⟩ : ByteArray)) := (blk_cell BK174.out 0).trans rfl; have hcz20_1 : w19.cell? ⟨gb174, 1, none⟩ = some (.slice none 0 0) := (blk_cell BK174.out 1).trans rfl; have hfz20_0 := blk_frozen BK174.out 0; have hfz20_1 := blk_frozen BK174.out 1; obtain ⟨Ao21, co21, eo21⟩ := Kd.R_slice HO171.out; subst eo21))
          go_ret2
          exact ⟨_, by first | rfl | (simp [errW_none, errW_some] <;> rfl) | (simp [*, errW_none, errW_some] <;> rfl), by first | exact Kd.S_nil _ _ _ _ _ | exact Kd.N_nil _ _ _ _ _ | exact Kd.V_nil _ _ _ _ _ | exact Kd.Q_nil _ _ _ _ _ | exact Kd.R_nil _ _ _ _ _, by repeat (first | (with_reducible first | exact HB.out | apply below_alloc | apply pw_below_drewN | apply below_drew1 | refine below_set ?_ GE174.out) | exact HB.out)⟩
      · rw [if_neg c2] at H
        have c2b0 : decide (0 < (x0_1.length : Int)) = false := decide_eq_false c2
        have c2b1 : decide (0 < x0_1.length) = false := decide_eq_false (by omega)
        clear c2
        simp only [Option.some.injEq, Prod.mk.injEq] at H
        obtain ⟨rfl, rfl⟩ := H
        obtain ⟨Ao22, co22, eo22⟩ := Kd.V_slice HO_0.out
        subst eo22
        go_wp2
        go_ret2
        exact ⟨_, by first | rfl | (simp [errW_none, errW_some] <;> rfl) | (simp [*, errW_none, errW_some] <;> rfl), by (with_reducible repeat (first | apply Kd.S_alloc | apply Kd.S_drewN | apply Kd.S_drew)); exact HO_4.out, by repeat (first | (with_reducible first | exact HB.out | apply below_alloc | apply pw_below_drewN | apply below_drew1) | exact HB.out)⟩
end Go.Proofs.Ythkocpcjcpohcaa.P
end
