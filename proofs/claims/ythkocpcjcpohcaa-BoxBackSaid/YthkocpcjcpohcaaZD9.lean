/- The part of our texts, and of the print's, that these laws' proofs use. -/
import Derived.Test.YthkocpcjcpohcaaZD8
set_option linter.unusedVariables false
set_option linter.unusedSimpArgs false
section
namespace Go.Proofs.Ythkocpcjcpohcaa.P
open Go.RowKit Go.Proofs.YthkocpcjcpohcaaW.PrintWords Go.Proofs.YthkocpcjcpohcaaW.PrintLast Go.Proofs.YthkocpcjcpohcaaW.PrintMore
attribute [local go_sem] max2_int min2_int max_two min_two max_three min_three max_four min_four   -- for this text's walks alone
mutual
def marquetryref01_Get.j0 : Nat → List Int → Int → Int → Bool → Option (Int × Bool)
  | 0, _, _, _, _ => none
  | k + 1, x0, x1, x2, x33 => if x33 = true then (some (0, false)) else (marquetryref01_Get.l0 k x0 x1 0 (wrap64 (x2 - 1)))
def marquetryref01_Get.l0 : Nat → List Int → Int → Int → Int → Option (Int × Bool)
  | 0, _, _, _, _ => none
  | k + 1, x0, x1, x8, x9 => if x9 ≥ 0 then (if 0 ≤ (wrap64 (x1 + x9)) then (if (wrap64 (x1 + x9)) < (x0.length : Int) then (marquetryref01_Get.l0 k x0 x1 (IntKind.u64.wrap ((IntKind.u64.wrap (x8 * 256)) + (IntKind.u64.wrap (rd x0 (wrap64 (x1 + x9)))))) (wrap64 (x9 - 1))) else (none)) else (none)) else (some (x8, true))
end
def marquetryref01_Get.f (k : Nat) (l0 : List Int) (a1 : Int) (a2 : Int) : Option (Int × Bool) := if a2 < 1 then (marquetryref01_Get.j0 k l0 a1 a2 true) else (if a2 > 8 then (marquetryref01_Get.j0 k l0 a1 a2 true) else (if a1 < 0 then (marquetryref01_Get.j0 k l0 a1 a2 true) else (if a1 > (l0.length : Int) then (marquetryref01_Get.j0 k l0 a1 a2 true) else (marquetryref01_Get.j0 k l0 a1 a2 (decide (a2 > (wrap64 ((l0.length : Int) - a1))))))))
theorem marquetryref01_Get.mono_l : ∀ k, (∀ y0 y1 y2 y3, LeO (marquetryref01_Get.j0 k y0 y1 y2 y3) (marquetryref01_Get.j0 (k + 1) y0 y1 y2 y3)) ∧ (∀ y0 y1 y2 y3, LeO (marquetryref01_Get.l0 k y0 y1 y2 y3) (marquetryref01_Get.l0 (k + 1) y0 y1 y2 y3))
  | 0 => ⟨fun _ _ _ _ r h => by simp [marquetryref01_Get.j0] at h, fun _ _ _ _ r h => by simp [marquetryref01_Get.l0] at h⟩
  | k + 1 => by
    obtain ⟨ih0, ih1⟩ := marquetryref01_Get.mono_l k
    refine ⟨?_, ?_⟩
    · intro y0 y1 y2 y3
      unfold marquetryref01_Get.j0
      repeat' first
      | (with_reducible exact ih0 _ _ _ _)
      | (with_reducible exact ih1 _ _ _ _)
      | (with_reducible exact LeO.refl _)
      | (with_reducible exact LeO.none _)
      | (with_reducible refine LeO.ite ?_ ?_)
      | (with_reducible refine LeO.bind ?_ (fun _ => ?_))
      | exact ih0 _ _ _ _
      | exact ih1 _ _ _ _
      | exact LeO.none _
      | refine LeO.ite ?_ ?_
      | refine LeO.bind ?_ (fun _ => ?_)
    · intro y0 y1 y2 y3
      unfold marquetryref01_Get.l0
      repeat' first
      | (with_reducible exact ih0 _ _ _ _)
      | (with_reducible exact ih1 _ _ _ _)
      | (with_reducible exact LeO.refl _)
      | (with_reducible exact LeO.none _)
      | (with_reducible refine LeO.ite ?_ ?_)
      | (with_reducible refine LeO.bind ?_ (fun _ => ?_))
      | exact ih0 _ _ _ _
      | exact ih1 _ _ _ _
      | exact LeO.none _
      | refine LeO.ite ?_ ?_
      | refine LeO.bind ?_ (fun _ => ?_)
theorem marquetryref01_Get.mono : ∀ a0 a1 a2 k, LeO (marquetryref01_Get.f k a0 a1 a2) (marquetryref01_Get.f (k + 1) a0 a1 a2) := by
  intro a0 a1 a2 k
  obtain ⟨ih0, ih1⟩ := marquetryref01_Get.mono_l k
  unfold marquetryref01_Get.f
  repeat' first
      | (with_reducible exact ih0 _ _ _ _)
      | (with_reducible exact ih1 _ _ _ _)
      | (with_reducible exact LeO.refl _)
      | (with_reducible exact LeO.none _)
      | (with_reducible refine LeO.ite ?_ ?_)
      | (with_reducible refine LeO.bind ?_ (fun _ => ?_))
      | exact ih0 _ _ _ _
      | exact ih1 _ _ _ _
      | exact LeO.none _
      | refine LeO.ite ?_ ?_
      | refine LeO.bind ?_ (fun _ => ?_)
set_option maxHeartbeats 8000000 in
set_option maxRecDepth 100000 in
theorem marquetryref01_Get.calls (k : Nat) (A0 : Option Addr) (c0 : Nat) (l0 : List Int) (a1 : Int) (a2 : Int) (r1 : Int) (r2 : Bool) (w : World) (hr0 : Kd.C (Kd.int .u8) w A0 l0.length l0) (hc0 : l0.length ≤ c0) (h : marquetryref01_Get.f k l0 a1 a2 = some (r1, r2)) :
    Calls Try.prog 76 #[.slice A0 l0.length c0, .int .i64 a1, .int .i64 a2] w fun e w' => e = .returned (.tuple #[.int .u64 r1, .bool r2]) ∧ Drawn0 w w' := by
  have HR0 := asiD hr0
  have HC0 := asiD hc0
  clear hr0 hc0
  have H : (if a2 < 1 then (marquetryref01_Get.j0 k l0 a1 a2 true) else (if a2 > 8 then (marquetryref01_Get.j0 k l0 a1 a2 true) else (if a1 < 0 then (marquetryref01_Get.j0 k l0 a1 a2 true) else (if a1 > (l0.length : Int) then (marquetryref01_Get.j0 k l0 a1 a2 true) else (marquetryref01_Get.j0 k l0 a1 a2 (decide (a2 > (wrap64 ((l0.length : Int) - a1))))))))) = some (r1, r2) := h
  clear h
  have HC4 := asiD H
  clear H
  go_enter Try.func76, Try.ntmps76
  go_upto_region 1 with (fail)
  go_cut [33] (fun v33 wc => ∃ (kq : Nat) (x33_3 : Bool), v33 = .bool x33_3 ∧ Aside0 (marquetryref01_Get.j0 kq l0 a1 a2 x33_3 = some (r1, r2)) ∧ Aside0 (kq ≤ k) ∧ Drawn0 w wc)
  case first =>
    have H := HC4.out
    clear HC4
    by_cases c5 : a2 < 1
    · rw [if_pos c5] at H
      have c5b0 : decide (a2 < 1) = true := decide_eq_true c5
      clear c5
      (first | rw [c5b0] | (simp only [i64_w, i32_w]; rw [c5b0]) | skip)
      have H' := asiD H
      clear H
      go_wp2
      go_meet
      case rel => exact ⟨_, (true), (by first | rfl | (simp; done) | (simp [*]; done)), H', ⟨by first | omega | exact Nat.le_refl _⟩, by repeat (first | exact Drawn0.refl _ | apply Drawn0.step)⟩
    · rw [if_neg c5] at H
      have c5b0 : decide (a2 < 1) = false := decide_eq_false c5
      clear c5
      (first | rw [c5b0] | (simp only [i64_w, i32_w]; rw [c5b0]) | skip)
      by_cases c6 : a2 > 8
      · rw [if_pos c6] at H
        have c6b0 : decide (8 < a2) = true := decide_eq_true c6
        clear c6
        have H' := asiD H
        clear H
        go_wp2
        go_meet
        case rel => exact ⟨_, (true), (by first | rfl | (simp; done) | (simp [*]; done)), H', ⟨by first | omega | exact Nat.le_refl _⟩, by repeat (first | exact Drawn0.refl _ | apply Drawn0.step)⟩
      · rw [if_neg c6] at H
        have c6b0 : decide (8 < a2) = false := decide_eq_false c6
        clear c6
        by_cases c7 : a1 < 0
        · rw [if_pos c7] at H
          have c7b0 : decide (a1 < 0) = true := decide_eq_true c7
          clear c7
          have H' := asiD H
          clear H
          go_wp2
          go_meet
          case rel => exact ⟨_, (true), (by first | rfl | (simp; done) | (simp [*]; done)), H', ⟨by first | omega | exact Nat.le_refl _⟩, by repeat (first | exact Drawn0.refl _ | apply Drawn0.step)⟩
        · rw [if_neg c7] at H
          have c7b0 : decide (a1 < 0) = false := decide_eq_false c7
          clear c7
          by_cases c8 : a1 > (l0.length : Int)
          · rw [if_pos c8] at H
            have c8b0 : decide ((l0.length : Int) < a1) = true := decide_eq_true c8
            clear c8
            have H' := asiD H
            clear H
            go_wp2
            go_meet
            case rel => exact ⟨_, (true), (by first | rfl | (simp; done) | (simp [*]; done)), H', ⟨by first | omega | exact Nat.le_refl _⟩, by repeat (first | exact Drawn0.refl _ | apply Drawn0.step)⟩
          · rw [if_neg c8] at H
            have c8b0 : decide ((l0.length : Int) < a1) = false := decide_eq_false c8
            clear c8
            have H' := asiD H
            clear H
            go_wp2
            go_meet
            case rel => exact ⟨_, (decide (a2 > (wrap64 ((l0.length : Int) - a1)))), (by first | rfl | (simp; done) | (simp [*]; done)), H', ⟨by first | omega | exact Nat.le_refl _⟩, by repeat (first | exact Drawn0.refl _ | apply Drawn0.step)⟩
  case rest =>
    clear HC4
    try clear p2
    try clear c5
    try clear c5b0
    try clear c6
    try clear c6b0
    try clear p6
    try clear c7
    try clear c7b0
    try clear c8
    try clear c8b0
    obtain ⟨kq, x33_3, rfl, HA, HJ3, ⟨mc3, rfl⟩⟩ := hcut
    cases kq with
    | zero => exact absurd HA.out (by simp [marquetryref01_Get.j0])
    | succ kj3 =>
      have H := HA.out
      clear HA
      simp only [marquetryref01_Get.j0] at H
      by_cases c9 : x33_3 = true
      · subst c9
        have H1 : (some (0, false)) = some (r1, r2) := by rw [if_pos rfl] at H; exact H
        clear H
        have H := H1
        clear H1
        simp only [Option.some.injEq, Prod.mk.injEq] at H
        obtain ⟨rfl, rfl⟩ := H
        go_wp2
        go_ret2
        exact ⟨by first | rfl | (simp; done) | (simp [*]; done), by repeat (first | exact Drawn0.refl _ | apply Drawn0.step)⟩
      · replace c9 := Bool.eq_false_iff.mpr c9
        subst c9
        have H1 : (marquetryref01_Get.l0 kj3 l0 a1 0 (wrap64 (a2 - 1))) = some (r1, r2) := by rw [if_neg (show ¬ (false = true) by decide)] at H; exact H
        clear H
        have H := H1
        clear H1
        have H' := asiD H
        clear H
        go_wp2
        go_loopg [8, 9] kj3 (fun kq v8 v9 w' => ∃ (x8_2 : Int) (x9_2 : Int), v8 = .int .u64 x8_2 ∧ v9 = .int .i64 x9_2 ∧ Aside0 (marquetryref01_Get.l0 kq l0 a1 x8_2 x9_2 = some (r1, r2)) ∧ Aside0 (kq ≤ kj3) ∧ Drawn0 w w')
        case atStart => exact ⟨(0), (wrap64 (a2 - 1)), (by first | rfl | (simp; done) | (simp [*]; done)), (by first | rfl | (simp; done) | (simp [*]; done)), H', ⟨Nat.le_refl _⟩, by repeat (first | exact Drawn0.refl _ | apply Drawn0.step)⟩
        case round =>
          clear H'
          try clear p2
          try clear c3
          try clear c5
          try clear c5b0
          try clear c6
          try clear c6b0
          try clear p6
          try clear c7
          try clear c7b0
          try clear c8
          try clear c8b0
          try clear c9
          try clear p2
          try clear p6
          obtain ⟨x8_2, x9_2, rfl, rfl, HA, HK2, ⟨m2, rfl⟩⟩ := hrel
          cases gk with
          | zero => exact absurd HA.out (by simp [marquetryref01_Get.l0])
          | succ k2 =>
            have H := HA.out
            clear HA
            simp only [marquetryref01_Get.l0] at H
            by_cases c10 : x9_2 ≥ 0
            · rw [if_pos c10] at H
              have c10b0 : decide (0 ≤ x9_2) = true := decide_eq_true c10
              clear c10
              obtain ⟨ji11, hji11⟩ : ∃ j_ : Int, (wrap64 (a1 + x9_2)) = j_ := ⟨_, rfl⟩
              replace H : (if 0 ≤ (ji11) then (if (ji11) < (l0.length : Int) then (marquetryref01_Get.l0 k2 l0 a1 (IntKind.u64.wrap ((IntKind.u64.wrap (x8_2 * 256)) + (IntKind.u64.wrap (rd l0 (ji11))))) (wrap64 (x9_2 - 1))) else (none)) else (none)) = some (r1, r2) := by first | (rw [hji11] at H; exact H) | (simp only [hji11] at H ⊢; exact H)
              have hji11w : (IntKind.i64.wrap (a1 + x9_2)) = ji11 := (i64_w _).trans hji11
              by_cases c12 : 0 ≤ (ji11)
              · rw [if_pos c12] at H
                have c12b0 : decide (0 ≤ (ji11)) = true := decide_eq_true c12
                clear c12
                by_cases c13 : (ji11) < (l0.length : Int)
                · rw [if_pos c13] at H
                  have c13b0 : decide ((ji11) < (l0.length : Int)) = true := decide_eq_true c13
                  clear c13
                  have H' := asiD H
                  clear H
                  have p254 : 0 ≤ ((ji11) : Int) := of_decide_eq_true (by first | (with_reducible assumption) | assumption)
                  have q254 : (ji11) < (l0.length : Int) := of_decide_eq_true (by first | (with_reducible assumption) | assumption)
                  obtain ⟨ad254, e254, hx254_0⟩ := Kd.at_int HR0.out (ji11) p254 q254
                  cases e254
                  replace p254 := eq_true p254
                  replace q254 := eq_true q254
                  go_wp2
                  go_roundg k2
                  case measure => have := HJ3.out; have := HK2.out; omega
                  case rel => exact ⟨(IntKind.u64.wrap ((IntKind.u64.wrap (x8_2 * 256)) + (IntKind.u64.wrap (rd l0 (ji11))))), (wrap64 (x9_2 - 1)), (by first | rfl | (simp; done) | (simp only [← hji11] <;> (first | rfl | simp)) | (simp [*]; done)), (by first | rfl | (simp; done) | (simp [*]; done)), H', ⟨by have := HJ3.out; have := HK2.out; omega⟩, by repeat (first | exact Drawn0.refl _ | apply Drawn0.step)⟩
                · rw [if_neg c13] at H
                  exact absurd H (by simp)
              · rw [if_neg c12] at H
                exact absurd H (by simp)
            · rw [if_neg c10] at H
              have c10b0 : decide (0 ≤ x9_2) = false := decide_eq_false c10
              clear c10
              simp only [Option.some.injEq, Prod.mk.injEq] at H
              obtain ⟨rfl, rfl⟩ := H
              go_wp2
              go_ret2
              exact ⟨by first | rfl | (simp; done) | (simp [*]; done), by repeat (first | exact Drawn0.refl _ | apply Drawn0.step)⟩
mutual
def marquetryref24_Inner.l0 : Nat → List Int → List (S42) → Int → Option ((List (S42)) × Int)
  | 0, _, _, _ => none
  | k + 1, x0, x4, x5 => if x5 < (x0.length : Int) then (if (wrap64 (x5 + 4)) > (x0.length : Int) then (some (([] : List (S42)), 2)) else (if 0 ≤ x5 then (if x5 ≤ (wrap64 (x5 + 4)) then (if (wrap64 (x5 + 4)) ≤ (x0.length : Int) then ((marquetryref24_Name.f k (strOfNums ((x0.take ((wrap64 (x5 + 4)) : Int).toNat).drop (x5 : Int).toNat))).bind fun t256 => (if t256 = true then ((marquetryref01_Get.f k x0 (wrap64 (x5 + 4)) 4).bind fun bt257 => (if bt257.2 = true then (marquetryref24_Inner.j1 k x0 x4 x5 (strOfNums ((x0.take ((wrap64 (x5 + 4)) : Int).toNat).drop (x5 : Int).toNat)) bt257.1 (decide (bt257.1 > (IntKind.u64.wrap (wrap64 ((wrap64 ((x0.length : Int) - x5)) - 8)))))) else (marquetryref24_Inner.j1 k x0 x4 x5 (strOfNums ((x0.take ((wrap64 (x5 + 4)) : Int).toNat).drop (x5 : Int).toNat)) bt257.1 true))) else (some (([] : List (S42)), 3)))) else (none)) else (none)) else (none))) else (some (x4, 0))
def marquetryref24_Inner.j1 : Nat → List Int → List (S42) → Int → ByteArray → Int → Bool → Option ((List (S42)) × Int)
  | 0, _, _, _, _, _, _ => none
  | k + 1, x0, x4, x5, x6, x7, x46 => if x46 = true then (some (([] : List (S42)), 2)) else ((some (([] : List Int) : List Int)).bind fun y259 => (if 0 ≤ (wrap64 (x5 + 8)) then (if (wrap64 (x5 + 8)) ≤ (wrap64 ((wrap64 (x5 + 8)) + (wrap64 (x7)))) then (if (wrap64 ((wrap64 (x5 + 8)) + (wrap64 (x7)))) ≤ (x0.length : Int) then (if y259.length + ((x0.take ((wrap64 ((wrap64 (x5 + 8)) + (wrap64 (x7)))) : Int).toNat).drop ((wrap64 (x5 + 8)) : Int).toNat).length < 140737488355328 then (if x4.length < 3518437208883 then ((some (x4 ++ [(⟨x6, (y259 ++ ((x0.take ((wrap64 ((wrap64 (x5 + 8)) + (wrap64 (x7)))) : Int).toNat).drop ((wrap64 (x5 + 8)) : Int).toNat))⟩ : S42)] : List (S42))).bind fun y266 => (if (Int.tmod (wrap64 (x7)) 2) = 1 then (if (wrap64 ((wrap64 (x5 + 8)) + (wrap64 (x7)))) = (x0.length : Int) then (some (([] : List (S42)), 2)) else (if 0 ≤ (wrap64 ((wrap64 (x5 + 8)) + (wrap64 (x7)))) then (if (wrap64 ((wrap64 (x5 + 8)) + (wrap64 (x7)))) < (x0.length : Int) then (if (rd x0 (wrap64 ((wrap64 (x5 + 8)) + (wrap64 (x7))))) = 0 then (marquetryref24_Inner.l0 k x0 y266 (wrap64 ((wrap64 ((wrap64 (x5 + 8)) + (wrap64 (x7)))) + 1))) else (some (([] : List (S42)), 3))) else (none)) else (none))) else (marquetryref24_Inner.l0 k x0 y266 (wrap64 ((wrap64 (x5 + 8)) + (wrap64 (x7))))))) else (none)) else (none)) else (none)) else (none)) else (none)))
end
def marquetryref24_Inner.f (k : Nat) (l0 : List Int) : Option ((List (S42)) × Int) := marquetryref24_Inner.l0 k l0 ([] : List (S42)) 0
theorem marquetryref24_Inner.mono_l : ∀ k, (∀ y0 y1 y2, LeO (marquetryref24_Inner.l0 k y0 y1 y2) (marquetryref24_Inner.l0 (k + 1) y0 y1 y2)) ∧ (∀ y0 y1 y2 y3 y4 y5, LeO (marquetryref24_Inner.j1 k y0 y1 y2 y3 y4 y5) (marquetryref24_Inner.j1 (k + 1) y0 y1 y2 y3 y4 y5))
  | 0 => ⟨fun _ _ _ r h => by simp [marquetryref24_Inner.l0] at h, fun _ _ _ _ _ _ r h => by simp [marquetryref24_Inner.j1] at h⟩
  | k + 1 => by
    obtain ⟨ih0, ih1⟩ := marquetryref24_Inner.mono_l k
    refine ⟨?_, ?_⟩
    · intro y0 y1 y2
      unfold marquetryref24_Inner.l0
      repeat' first
      | (with_reducible exact ih0 _ _ _)
      | (with_reducible exact ih1 _ _ _ _ _ _)
      | (with_reducible exact marquetryref01_Get.mono _ _ _ _)
      | (with_reducible exact marquetryref24_Name.mono _ _)
      | (with_reducible exact LeO.refl _)
      | (with_reducible exact LeO.none _)
      | (with_reducible refine LeO.ite ?_ ?_)
      | (with_reducible refine LeO.bind ?_ (fun _ => ?_))
      | exact ih0 _ _ _
      | exact ih1 _ _ _ _ _ _
      | exact marquetryref01_Get.mono _ _ _ _
      | exact marquetryref24_Name.mono _ _
      | exact LeO.none _
      | refine LeO.ite ?_ ?_
      | refine LeO.bind ?_ (fun _ => ?_)
    · intro y0 y1 y2 y3 y4 y5
      unfold marquetryref24_Inner.j1
      repeat' first
      | (with_reducible exact ih0 _ _ _)
      | (with_reducible exact ih1 _ _ _ _ _ _)
      | (with_reducible exact marquetryref01_Get.mono _ _ _ _)
      | (with_reducible exact marquetryref24_Name.mono _ _)
      | (with_reducible exact LeO.refl _)
      | (with_reducible exact LeO.none _)
      | (with_reducible refine LeO.ite ?_ ?_)
      | (with_reducible refine LeO.bind ?_ (fun _ => ?_))
      | exact ih0 _ _ _
      | exact ih1 _ _ _ _ _ _
      | exact marquetryref01_Get.mono _ _ _ _
      | exact marquetryref24_Name.mono _ _
      | exact LeO.none _
      | refine LeO.ite ?_ ?_
      | refine LeO.bind ?_ (fun _ => ?_)
theorem marquetryref24_Inner.mono : ∀ a0 k, LeO (marquetryref24_Inner.f k a0) (marquetryref24_Inner.f (k + 1) a0) := by
  intro a0 k
  obtain ⟨ih0, ih1⟩ := marquetryref24_Inner.mono_l k
  unfold marquetryref24_Inner.f
  repeat' first
      | (with_reducible exact ih0 _ _ _)
      | (with_reducible exact ih1 _ _ _ _ _ _)
      | (with_reducible exact marquetryref01_Get.mono _ _ _ _)
      | (with_reducible exact marquetryref24_Name.mono _ _)
      | (with_reducible exact LeO.refl _)
      | (with_reducible exact LeO.none _)
      | (with_reducible refine LeO.ite ?_ ?_)
      | (with_reducible refine LeO.bind ?_ (fun _ => ?_))
      | exact ih0 _ _ _
      | exact ih1 _ _ _ _ _ _
      | exact marquetryref01_Get.mono _ _ _ _
      | exact marquetryref24_Name.mono _ _
      | exact LeO.none _
      | refine LeO.ite ?_ ?_
      | refine LeO.bind ?_ (fun _ => ?_)
set_option maxHeartbeats 8000000 in
set_option maxRecDepth 100000 in
theorem marquetryref24_Inner.calls (k : Nat) (A0 : Option Addr) (c0 : Nat) (l0 : List Int) (r1 : List (S42)) (r2 : Int) (w : World) (hr0 : Kd.C (Kd.int .u8) w A0 l0.length l0) (hc0 : l0.length ≤ c0) (h : marquetryref24_Inner.f k l0 = some (r1, r2)) :
    Calls Try.prog 52 #[.slice A0 l0.length c0] w fun e w' => ∃ v0_ : Value, e = .returned (.tuple #[v0_, .int .i64 r2]) ∧ Kd.S k42 42 w' w.heap.size (fun _ => True) v0_ r1 ∧ Below w.heap.size w w' := by
  have hu42 := Try.underlying42
  have HR0 := asiD hr0
  have HC0 := asiD hc0
  clear hr0 hc0
  have HB := asiD (Below.refl w.heap.size w)
  have H : (marquetryref24_Inner.l0 k l0 ([] : List (S42)) 0) = some (r1, r2) := h
  clear h
  have H' := asiD H
  clear H
  go_enter Try.func52, Try.ntmps52
  go_wp2
  go_loopg [4, 5] k (fun kq v4 v5 w' => ∃ (x4_1 : List (S42)) (x5_1 : Int), v5 = .int .i64 x5_1 ∧ Aside0 (marquetryref24_Inner.l0 kq l0 x4_1 x5_1 = some (r1, r2)) ∧ Aside0 (kq ≤ k) ∧ Aside0 (Kd.S k42 42 w' w.heap.size (fun _ => True) v4 x4_1) ∧ Aside0 (Below w.heap.size w w'))
  case atStart => exact ⟨(([] : List (S42))), (0), (by first | rfl | (simp; done) | (simp [*]; done)), H', ⟨Nat.le_refl _⟩, ⟨by first | exact Kd.S_nil _ _ _ _ _ | exact Kd.N_nil _ _ _ _ _ | exact Kd.V_nil _ _ _ _ _ | exact Kd.Q_nil _ _ _ _ _ | exact Kd.R_nil _ _ _ _ _⟩, ⟨by repeat (first | (with_reducible first | exact HB.out | apply below_alloc | apply pw_below_drewN | apply below_drew1) | exact HB.out)⟩⟩
  case round =>
    clear H'
    obtain ⟨x4_1, x5_1, rfl, HA, HK1, HO_4, HB⟩ := hrel
    cases gk with
    | zero => exact absurd HA.out (by simp [marquetryref24_Inner.l0])
    | succ k1 =>
      have H := HA.out
      clear HA
      simp only [marquetryref24_Inner.l0] at H
      by_cases c2 : x5_1 < (l0.length : Int)
      · rw [if_pos c2] at H
        have c2b0 : decide (x5_1 < (l0.length : Int)) = true := decide_eq_true c2
        clear c2
        by_cases c3 : (wrap64 (x5_1 + 4)) > (l0.length : Int)
        · rw [if_pos c3] at H
          have c3b0 : decide ((l0.length : Int) < (wrap64 (x5_1 + 4))) = true := decide_eq_true c3
          clear c3
          simp only [Option.some.injEq, Prod.mk.injEq] at H
          obtain ⟨rfl, rfl⟩ := H
          go_wp2
          go_ret2
          exact ⟨_, by first | rfl | (simp [errW_none, errW_some] <;> rfl) | (simp [*, errW_none, errW_some] <;> rfl), by first | exact Kd.S_nil _ _ _ _ _ | exact Kd.N_nil _ _ _ _ _ | exact Kd.V_nil _ _ _ _ _ | exact Kd.Q_nil _ _ _ _ _ | exact Kd.R_nil _ _ _ _ _, by repeat (first | (with_reducible first | exact HB.out | apply below_alloc | apply pw_below_drewN | apply below_drew1) | exact HB.out)⟩
        · rw [if_neg c3] at H
          have c3b0 : decide ((l0.length : Int) < (wrap64 (x5_1 + 4))) = false := decide_eq_false c3
          clear c3
          by_cases c4 : 0 ≤ x5_1
          · rw [if_pos c4] at H
            have c4b0 := eq_true c4
            have c4b1 : decide (0 ≤ x5_1) = true := decide_eq_true c4
            clear c4
            by_cases c5 : x5_1 ≤ (wrap64 (x5_1 + 4))
            · rw [if_pos c5] at H
              have c5b0 := eq_true c5
              have c5b1 : decide (x5_1 ≤ (wrap64 (x5_1 + 4))) = true := decide_eq_true c5
              by_cases c6 : (wrap64 (x5_1 + 4)) ≤ (l0.length : Int)
              · rw [if_pos c6] at H
                have c6b0 := eq_true c6
                have c6b1 : decide ((wrap64 (x5_1 + 4)) ≤ (l0.length : Int)) = true := decide_eq_true c6
                replace H := Option.bind_eq_some_iff.mp H
                obtain ⟨t256, A70, H⟩ := H
                replace H : (if t256 = true then ((marquetryref01_Get.f k1 l0 (wrap64 (x5_1 + 4)) 4).bind fun bt257 => (if bt257.2 = true then (marquetryref24_Inner.j1 k1 l0 x4_1 x5_1 (strOfNums ((l0.take ((wrap64 (x5_1 + 4)) : Int).toNat).drop (x5_1 : Int).toNat)) bt257.1 (decide (bt257.1 > (IntKind.u64.wrap (wrap64 ((wrap64 ((l0.length : Int) - x5_1)) - 8)))))) else (marquetryref24_Inner.j1 k1 l0 x4_1 x5_1 (strOfNums ((l0.take ((wrap64 (x5_1 + 4)) : Int).toNat).drop (x5_1 : Int).toNat)) bt257.1 true))) else (some (([] : List (S42)), 3))) = some (r1, r2) := H
                have A7 := asiD A70
                clear A70
                by_cases c8 : t256 = true
                · subst c8
                  have H1 : ((marquetryref01_Get.f k1 l0 (wrap64 (x5_1 + 4)) 4).bind fun bt257 => (if bt257.2 = true then (marquetryref24_Inner.j1 k1 l0 x4_1 x5_1 (strOfNums ((l0.take ((wrap64 (x5_1 + 4)) : Int).toNat).drop (x5_1 : Int).toNat)) bt257.1 (decide (bt257.1 > (IntKind.u64.wrap (wrap64 ((wrap64 ((l0.length : Int) - x5_1)) - 8)))))) else (marquetryref24_Inner.j1 k1 l0 x4_1 x5_1 (strOfNums ((l0.take ((wrap64 (x5_1 + 4)) : Int).toNat).drop (x5_1 : Int).toNat)) bt257.1 true))) = some (r1, r2) := by rw [if_pos rfl] at H; exact H
                  clear H
                  have H := H1
                  clear H1
                  replace H := Option.bind_eq_some_iff.mp H
                  obtain ⟨⟨t257, t258⟩, A90, H⟩ := H
                  replace H : (if t258 = true then (marquetryref24_Inner.j1 k1 l0 x4_1 x5_1 (strOfNums ((l0.take ((wrap64 (x5_1 + 4)) : Int).toNat).drop (x5_1 : Int).toNat)) t257 (decide (t257 > (IntKind.u64.wrap (wrap64 ((wrap64 ((l0.length : Int) - x5_1)) - 8)))))) else (marquetryref24_Inner.j1 k1 l0 x4_1 x5_1 (strOfNums ((l0.take ((wrap64 (x5_1 + 4)) : Int).toNat).drop (x5_1 : Int).toNat)) t257 true)) = some (r1, r2) := H
                  have A9 := asiD A90
                  clear A90
                  have HC10 := asiD H
                  clear H
                  obtain ⟨i011, hi011, _, hsz11, _⟩ := info_parts info5
                  obtain ⟨A11, hcut11, hA11, hC11⟩ := print_mid_of (P := Try.prog) (Value.int .u8) 0 23 5 .i64 .i64 Try.underlying23 hi011 hsz11 A0 c0 l0 x5_1 (wrap64 (x5_1 + 4)) (of_decide_eq_true (by first | (with_reducible assumption) | assumption)) (by first | omega | exact of_decide_eq_true (by first | (with_reducible assumption) | assumption)) (of_decide_eq_true (by first | (with_reducible assumption) | assumption)) HC0.out
                  have HR255 := asiD (Kd.C_of_reads (h1 := fun _ => rfl) (hA11 _ (Kd.reads_of_C HR0.out)))
                  have HC255 := asiD hC11
                  clear hA11 hC11 hi011 hsz11
                  have hcv12 := Kd.C_string (P := Try.prog) (A := A11) (c := (c0 - x5_1.toNat)) Try.underlying23 Try.underlying5 Try.underlying9 (Kd.C_below HR255.out HB.out); have hcv12q := hcv12; (try simp only [List.length_take, List.length_drop, Int.reduceToNat] at hcv12q); have hcv12d := fun nd => Kd.C_string (P := Try.prog) (A := A11) (c := (c0 - x5_1.toNat)) Try.underlying23 Try.underlying5 Try.underlying9 (Kd.C_drewN (Kd.C_below HR255.out HB.out) nd); (try simp only [List.length_take, List.length_drop, Int.reduceToNat] at hcv12d); have hcv12e := hcv12; have hcv12f := hcv12d; (try (have hmn_ : ((wrap64 (x5_1 + 4)) : Int) ≤ (l0.length : Int) := (by first | omega | exact of_decide_eq_true (by assumption)); (try simp only [List.length_take, List.length_drop, Int.reduceToNat] at hcv12e); rw [Nat.min_eq_left (by omega)] at hcv12e; (try (rw [Nat.min_eq_left (by omega)] at hcv12d)); clear hmn_))
                  go_upto_region 10 with (first | ((with_reducible refine gate_callee (f := 77) rfl ?_); refine goesL_ (some 26) rfl rfl Try.func77 (by kernel_rfl) rfl #[.string (strOfNums ((l0.take ((wrap64 (x5_1 + 4)) : Int).toNat).drop (x5_1 : Int).toNat))] rfl (by (try simp only [List.map_toArray, List.map_cons, List.map_nil]); first | done | rfl | (simp only [List.length_drop, List.length_take]; rfl)) ?_; (with_reducible refine (marquetryref24_Name.calls k1 (strOfNums ((l0.take ((wrap64 (x5_1 + 4)) : Int).toNat).drop (x5_1 : Int).toNat)) true _ A7.out).mono ?_); clear A7; rintro e w' ⟨rfl, ⟨nd, rfl⟩⟩; refine ⟨_, rfl, ?_⟩) | (go_at_call 77; (with_reducible refine (marquetryref24_Name.calls k1 (strOfNums ((l0.take ((wrap64 (x5_1 + 4)) : Int).toNat).drop (x5_1 : Int).toNat)) true _ A7.out).mono ?_); clear A7; rintro e w' ⟨rfl, ⟨nd, rfl⟩⟩) | ((with_reducible refine gate_callee (f := 76) rfl ?_); refine goesL_ (some 32) rfl rfl Try.func76 (by kernel_rfl) rfl #[.slice A0 l0.length c0, .int .i64 (wrap64 (x5_1 + 4)), .int .i64 4] rfl (by (try simp only [List.map_toArray, List.map_cons, List.map_nil]); first | done | rfl | (simp only [List.length_drop, List.length_take]; rfl)) ?_; (with_reducible refine (marquetryref01_Get.calls k1 _ _ l0 (wrap64 (x5_1 + 4)) 4 t257 t258 _ ?side1 ?side2 A9.out).mono ?_); (case side1 => repeat (first | exact (Kd.C_below HR0.out (by repeat (first | (with_reducible first | exact HB.out | apply below_alloc | apply pw_below_drewN | apply below_drew1) | exact HB.out))) | (with_reducible refine Kd.C_alloc ?_ _) | (with_reducible refine Kd.C_drewN ?_ _) | (with_reducible refine Kd.C_drew ?_))); (case side2 => exact HC0.out); rintro e w' ⟨rfl, ⟨nd, rfl⟩⟩; refine ⟨_, rfl, ?_⟩) | (go_at_call 76; (with_reducible refine (marquetryref01_Get.calls k1 _ _ l0 (wrap64 (x5_1 + 4)) 4 t257 t258 _ ?side1 ?side2 A9.out).mono ?_); (case side1 => repeat (first | exact (Kd.C_below HR0.out (by repeat (first | (with_reducible first | exact HB.out | apply below_alloc | apply pw_below_drewN | apply below_drew1) | exact HB.out))) | (with_reducible refine Kd.C_alloc ?_ _) | (with_reducible refine Kd.C_drewN ?_ _) | (with_reducible refine Kd.C_drew ?_))); (case side2 => exact HC0.out); rintro e w' ⟨rfl, ⟨nd, rfl⟩⟩))
                  (try simp only [Act.put, List.setIfInBounds_toArray, List.set_cons_zero, List.set_cons_succ])
                  go_cut [46] (fun v46 wc => ∃ (kq : Nat) (x46_9 : Bool), v46 = .bool x46_9 ∧ Aside0 (marquetryref24_Inner.j1 kq l0 x4_1 x5_1 (strOfNums ((l0.take ((wrap64 (x5_1 + 4)) : Int).toNat).drop (x5_1 : Int).toNat)) t257 x46_9 = some (r1, r2)) ∧ Aside0 (kq ≤ k1) ∧ Aside0 (Kd.S k42 42 wc w.heap.size (fun _ => True) u4 x4_1) ∧ Aside0 (Below w.heap.size w wc))
                  case first =>
                    have H := HC10.out
                    clear HC10
                    by_cases c13 : t258 = true
                    · subst c13
                      have H1 : (marquetryref24_Inner.j1 k1 l0 x4_1 x5_1 (strOfNums ((l0.take ((wrap64 (x5_1 + 4)) : Int).toNat).drop (x5_1 : Int).toNat)) t257 (decide (t257 > (IntKind.u64.wrap (wrap64 ((wrap64 ((l0.length : Int) - x5_1)) - 8)))))) = some (r1, r2) := by rw [if_pos rfl] at H; exact H
                      clear H
                      have H := H1
                      clear H1
                      have H' := asiD H
                      clear H
                      go_wp2
                      go_meet
                      case rel => exact ⟨_, (decide (t257 > (IntKind.u64.wrap (wrap64 ((wrap64 ((l0.length : Int) - x5_1)) - 8))))), (by first | rfl | (simp; done) | (simp [*]; done)), H', ⟨by have := HK1.out; first | omega | exact Nat.le_refl _⟩, ⟨by (with_reducible repeat (first | apply Kd.S_alloc | apply Kd.S_drewN | apply Kd.S_drew)); exact HO_4.out⟩, ⟨by repeat (first | (with_reducible first | exact HB.out | apply below_alloc | apply pw_below_drewN | apply below_drew1) | exact HB.out)⟩⟩
                    · replace c13 := Bool.eq_false_iff.mpr c13
                      subst c13
                      have H1 : (marquetryref24_Inner.j1 k1 l0 x4_1 x5_1 (strOfNums ((l0.take ((wrap64 (x5_1 + 4)) : Int).toNat).drop (x5_1 : Int).toNat)) t257 true) = some (r1, r2) := by rw [if_neg (show ¬ (false = true) by decide)] at H; exact H
                      clear H
                      have H := H1
                      clear H1
                      have H' := asiD H
                      clear H
                      go_wp2
                      go_meet
                      case rel => exact ⟨_, (true), (by first | rfl | (simp; done) | (simp [*]; done)), H', ⟨by have := HK1.out; first | omega | exact Nat.le_refl _⟩, ⟨by (with_reducible repeat (first | apply Kd.S_alloc | apply Kd.S_drewN | apply Kd.S_drew)); exact HO_4.out⟩, ⟨by repeat (first | (with_reducible first | exact HB.out | apply below_alloc | apply pw_below_drewN | apply below_drew1) | exact HB.out)⟩⟩
                  case rest =>
                    clear HC10
                    try clear c1
                    try clear hcv1
                    try clear c2
                    try clear c2b0
                    try clear p2
                    try clear c3
                    try clear c3b0
                    try clear c4
                    try clear c4b0
                    try clear c4b1
                    try clear c5
                    try clear c5b0
                    try clear c5b1
                    try clear c6
                    try clear c6b0
                    try clear c6b1
                    try clear p6
                    try clear c7
                    try clear c8
                    try clear hcv12
                    try clear c13
                    obtain ⟨kq, x46_9, rfl, HA, HJ9, HO_4, HB⟩ := hcut
                    cases kq with
                    | zero => exact absurd HA.out (by simp [marquetryref24_Inner.j1])
                    | succ kj9 =>
                      have H := HA.out
                      clear HA
                      simp only [marquetryref24_Inner.j1] at H
                      by_cases c14 : x46_9 = true
                      · subst c14
                        have H1 : (some (([] : List (S42)), 2)) = some (r1, r2) := by rw [if_pos rfl] at H; exact H
                        clear H
                        have H := H1
                        clear H1
                        simp only [Option.some.injEq, Prod.mk.injEq] at H
                        obtain ⟨rfl, rfl⟩ := H
                        go_wp2
                        go_ret2
                        exact ⟨_, by first | rfl | (simp [errW_none, errW_some] <;> rfl) | (simp [*, errW_none, errW_some] <;> rfl), by first | exact Kd.S_nil _ _ _ _ _ | exact Kd.N_nil _ _ _ _ _ | exact Kd.V_nil _ _ _ _ _ | exact Kd.Q_nil _ _ _ _ _ | exact Kd.R_nil _ _ _ _ _, by repeat (first | (with_reducible first | exact HB.out | apply below_alloc | apply pw_below_drewN | apply below_drew1) | exact HB.out)⟩
                      · replace c14 := Bool.eq_false_iff.mpr c14
                        subst c14
                        have H1 : ((some (([] : List Int) : List Int)).bind fun y259 => (if 0 ≤ (wrap64 (x5_1 + 8)) then (if (wrap64 (x5_1 + 8)) ≤ (wrap64 ((wrap64 (x5_1 + 8)) + (wrap64 (t257)))) then (if (wrap64 ((wrap64 (x5_1 + 8)) + (wrap64 (t257)))) ≤ (l0.length : Int) then (if y259.length + ((l0.take ((wrap64 ((wrap64 (x5_1 + 8)) + (wrap64 (t257)))) : Int).toNat).drop ((wrap64 (x5_1 + 8)) : Int).toNat).length < 140737488355328 then (if x4_1.length < 3518437208883 then ((some (x4_1 ++ [(⟨(strOfNums ((l0.take ((wrap64 (x5_1 + 4)) : Int).toNat).drop (x5_1 : Int).toNat)), (y259 ++ ((l0.take ((wrap64 ((wrap64 (x5_1 + 8)) + (wrap64 (t257)))) : Int).toNat).drop ((wrap64 (x5_1 + 8)) : Int).toNat))⟩ : S42)] : List (S42))).bind fun y266 => (if (Int.tmod (wrap64 (t257)) 2) = 1 then (if (wrap64 ((wrap64 (x5_1 + 8)) + (wrap64 (t257)))) = (l0.length : Int) then (some (([] : List (S42)), 2)) else (if 0 ≤ (wrap64 ((wrap64 (x5_1 + 8)) + (wrap64 (t257)))) then (if (wrap64 ((wrap64 (x5_1 + 8)) + (wrap64 (t257)))) < (l0.length : Int) then (if (rd l0 (wrap64 ((wrap64 (x5_1 + 8)) + (wrap64 (t257))))) = 0 then (marquetryref24_Inner.l0 kj9 l0 y266 (wrap64 ((wrap64 ((wrap64 (x5_1 + 8)) + (wrap64 (t257)))) + 1))) else (some (([] : List (S42)), 3))) else (none)) else (none))) else (marquetryref24_Inner.l0 kj9 l0 y266 (wrap64 ((wrap64 (x5_1 + 8)) + (wrap64 (t257))))))) else (none)) else (none)) else (none)) else (none)) else (none))) = some (r1, r2) := by rw [if_neg (show ¬ (false = true) by decide)] at H; exact H
                        clear H
                        have H := H1
                        clear H1
                        obtain ⟨y259, hy259⟩ : ∃ y_ : List Int, y_ = (([] : List Int)) := ⟨_, rfl⟩
                        replace H : (if 0 ≤ (wrap64 (x5_1 + 8)) then (if (wrap64 (x5_1 + 8)) ≤ (wrap64 ((wrap64 (x5_1 + 8)) + (wrap64 (t257)))) then (if (wrap64 ((wrap64 (x5_1 + 8)) + (wrap64 (t257)))) ≤ (l0.length : Int) then (if y259.length + ((l0.take ((wrap64 ((wrap64 (x5_1 + 8)) + (wrap64 (t257)))) : Int).toNat).drop ((wrap64 (x5_1 + 8)) : Int).toNat).length < 140737488355328 then (if x4_1.length < 3518437208883 then ((some (x4_1 ++ [(⟨(strOfNums ((l0.take ((wrap64 (x5_1 + 4)) : Int).toNat).drop (x5_1 : Int).toNat)), (y259 ++ ((l0.take ((wrap64 ((wrap64 (x5_1 + 8)) + (wrap64 (t257)))) : Int).toNat).drop ((wrap64 (x5_1 + 8)) : Int).toNat))⟩ : S42)] : List (S42))).bind fun y266 => (if (Int.tmod (wrap64 (t257)) 2) = 1 then (if (wrap64 ((wrap64 (x5_1 + 8)) + (wrap64 (t257)))) = (l0.length : Int) then (some (([] : List (S42)), 2)) else (if 0 ≤ (wrap64 ((wrap64 (x5_1 + 8)) + (wrap64 (t257)))) then (if (wrap64 ((wrap64 (x5_1 + 8)) + (wrap64 (t257)))) < (l0.length : Int) then (if (rd l0 (wrap64 ((wrap64 (x5_1 + 8)) + (wrap64 (t257))))) = 0 then (marquetryref24_Inner.l0 kj9 l0 y266 (wrap64 ((wrap64 ((wrap64 (x5_1 + 8)) + (wrap64 (t257)))) + 1))) else (some (([] : List (S42)), 3))) else (none)) else (none))) else (marquetryref24_Inner.l0 kj9 l0 y266 (wrap64 ((wrap64 (x5_1 + 8)) + (wrap64 (t257))))))) else (none)) else (none)) else (none)) else (none)) else (none)) = some (r1, r2) := by first | (rw [hy259]; with_reducible exact H) | (have H2_ := (Option.bind_some _ _).symm.trans H; rw [hy259]; with_reducible exact H2_) | (have H2_ := (Option.bind_some _ _).symm.trans H; with_reducible exact H2_) | with_reducible exact H | (rw [hy259]; exact H) | exact H
                        have Ny259 := asiD hy259
                        clear hy259
                        obtain ⟨ji15, hji15⟩ : ∃ j_ : Int, (wrap64 (x5_1 + 8)) = j_ := ⟨_, rfl⟩
                        replace H : (if 0 ≤ (ji15) then (if (ji15) ≤ (wrap64 ((ji15) + (wrap64 (t257)))) then (if (wrap64 ((ji15) + (wrap64 (t257)))) ≤ (l0.length : Int) then (if y259.length + ((l0.take ((wrap64 ((ji15) + (wrap64 (t257)))) : Int).toNat).drop ((ji15) : Int).toNat).length < 140737488355328 then (if x4_1.length < 3518437208883 then ((some (x4_1 ++ [(⟨(strOfNums ((l0.take ((wrap64 (x5_1 + 4)) : Int).toNat).drop (x5_1 : Int).toNat)), (y259 ++ ((l0.take ((wrap64 ((ji15) + (wrap64 (t257)))) : Int).toNat).drop ((ji15) : Int).toNat))⟩ : S42)] : List (S42))).bind fun y266 => (if (Int.tmod (wrap64 (t257)) 2) = 1 then (if (wrap64 ((ji15) + (wrap64 (t257)))) = (l0.length : Int) then (some (([] : List (S42)), 2)) else (if 0 ≤ (wrap64 ((ji15) + (wrap64 (t257)))) then (if (wrap64 ((ji15) + (wrap64 (t257)))) < (l0.length : Int) then (if (rd l0 (wrap64 ((ji15) + (wrap64 (t257))))) = 0 then (marquetryref24_Inner.l0 kj9 l0 y266 (wrap64 ((wrap64 ((ji15) + (wrap64 (t257)))) + 1))) else (some (([] : List (S42)), 3))) else (none)) else (none))) else (marquetryref24_Inner.l0 kj9 l0 y266 (wrap64 ((ji15) + (wrap64 (t257))))))) else (none)) else (none)) else (none)) else (none)) else (none)) = some (r1, r2) := by first | (rw [hji15] at H; exact H) | (simp only [hji15] at H ⊢; exact H)
                        have hji15w : (IntKind.i64.wrap (x5_1 + 8)) = ji15 := (i64_w _).trans hji15
                        (try rw [hji15] at hcut11)
                        by_cases c16 : 0 ≤ (ji15)
                        · rw [if_pos c16] at H
                          have c16b0 := eq_true c16
                          have c16b1 : decide (0 ≤ (ji15)) = true := decide_eq_true c16
                          clear c16
                          by_cases c17 : (ji15) ≤ (wrap64 ((ji15) + (wrap64 (t257))))
                          · rw [if_pos c17] at H
                            have c17b0 := eq_true c17
                            have c17b1 : decide ((ji15) ≤ (wrap64 ((ji15) + (wrap64 (t257))))) = true := decide_eq_true c17
                            by_cases c18 : (wrap64 ((ji15) + (wrap64 (t257)))) ≤ (l0.length : Int)
                            · rw [if_pos c18] at H
                              have c18b0 := eq_true c18
                              have c18b1 : decide ((wrap64 ((ji15) + (wrap64 (t257)))) ≤ (l0.length : Int)) = true := decide_eq_true c18
                              by_cases c19 : y259.length + ((l0.take ((wrap64 ((ji15) + (wrap64 (t257)))) : Int).toNat).drop ((ji15) : Int).toNat).length < 140737488355328
                              · rw [if_pos c19] at H
                                have LMc19 := asiD c19
                                clear c19
                                obtain ⟨y263, hy263⟩ : ∃ y_ : List Int, y_ = (y259 ++ ((l0.take ((wrap64 ((ji15) + (wrap64 (t257)))) : Int).toNat).drop ((ji15) : Int).toNat)) := ⟨_, rfl⟩
                                replace H : (if x4_1.length < 3518437208883 then ((some (x4_1 ++ [(⟨(strOfNums ((l0.take ((wrap64 (x5_1 + 4)) : Int).toNat).drop (x5_1 : Int).toNat)), y263⟩ : S42)] : List (S42))).bind fun y266 => (if (Int.tmod (wrap64 (t257)) 2) = 1 then (if (wrap64 ((ji15) + (wrap64 (t257)))) = (l0.length : Int) then (some (([] : List (S42)), 2)) else (if 0 ≤ (wrap64 ((ji15) + (wrap64 (t257)))) then (if (wrap64 ((ji15) + (wrap64 (t257)))) < (l0.length : Int) then (if (rd l0 (wrap64 ((ji15) + (wrap64 (t257))))) = 0 then (marquetryref24_Inner.l0 kj9 l0 y266 (wrap64 ((wrap64 ((ji15) + (wrap64 (t257)))) + 1))) else (some (([] : List (S42)), 3))) else (none)) else (none))) else (marquetryref24_Inner.l0 kj9 l0 y266 (wrap64 ((ji15) + (wrap64 (t257))))))) else (none)) = some (r1, r2) := by first | (rw [hy263]; with_reducible exact H) | (have H2_ := (Option.bind_some _ _).symm.trans H; rw [hy263]; with_reducible exact H2_) | (have H2_ := (Option.bind_some _ _).symm.trans H; with_reducible exact H2_) | with_reducible exact H | (rw [hy263]; exact H) | exact H
                                have Ny263 := asiD hy263
                                clear hy263
                                by_cases c20 : x4_1.length < 3518437208883
                                · rw [if_pos c20] at H
                                  have LMc20 := asiD c20
                                  clear c20
                                  obtain ⟨y266, hy266⟩ : ∃ y_ : List (S42), y_ = (x4_1 ++ [(⟨(strOfNums ((l0.take ((wrap64 (x5_1 + 4)) : Int).toNat).drop (x5_1 : Int).toNat)), y263⟩ : S42)]) := ⟨_, rfl⟩
                                  replace H : (if (Int.tmod (wrap64 (t257)) 2) = 1 then (if (wrap64 ((ji15) + (wrap64 (t257)))) = (l0.length : Int) then (some (([] : List (S42)), 2)) else (if 0 ≤ (wrap64 ((ji15) + (wrap64 (t257)))) then (if (wrap64 ((ji15) + (wrap64 (t257)))) < (l0.length : Int) then (if (rd l0 (wrap64 ((ji15) + (wrap64 (t257))))) = 0 then (marquetryref24_Inner.l0 kj9 l0 y266 (wrap64 ((wrap64 ((ji15) + (wrap64 (t257)))) + 1))) else (some (([] : List (S42)), 3))) else (none)) else (none))) else (marquetryref24_Inner.l0 kj9 l0 y266 (wrap64 ((ji15) + (wrap64 (t257)))))) = some (r1, r2) := by first | (rw [hy266]; with_reducible exact H) | (have H2_ := (Option.bind_some _ _).symm.trans H; rw [hy266]; with_reducible exact H2_) | (have H2_ := (Option.bind_some _ _).symm.trans H; with_reducible exact H2_) | with_reducible exact H | (rw [hy266]; exact H) | exact H
                                  have Ny266 := asiD hy266
                                  clear hy266
                                  by_cases c21 : (Int.tmod (wrap64 (t257)) 2) = 1
                                  · rw [if_pos c21] at H
                                    have c21b0 : ((Int.tmod (wrap64 (t257)) 2) == 1) = true := beq_iff_eq.mpr c21
                                    have c21b1 : ((Int.tmod (wrap64 (t257)) 2) != 1) = false := bne_eq_false_iff_eq.mpr c21
                                    clear c21
                                    by_cases c22 : (wrap64 ((ji15) + (wrap64 (t257)))) = (l0.length : Int)
                                    · rw [if_pos c22] at H
                                      have c22b0 : ((wrap64 ((ji15) + (wrap64 (t257)))) == (l0.length : Int)) = true := beq_iff_eq.mpr c22
                                      have c22b1 : ((wrap64 ((ji15) + (wrap64 (t257)))) != (l0.length : Int)) = false := bne_eq_false_iff_eq.mpr c22
                                      clear c22
                                      simp only [Option.some.injEq, Prod.mk.injEq] at H
                                      obtain ⟨rfl, rfl⟩ := H
                                      go_wp2_with (first | ((with_reducible refine gate_dst (N := 51) rfl ?_); (try (refine gate_guard (by rfl) ?_; dsimp only)); refine Kd.R_lit (Kd.int .u8) _ 5 ?hg (N := 51) ?hd (xs := ([] : List Int)) (inner := []) (ok := fun _ => True) (okp := fun _ => True) ?hr ?hp (fun _ hk => hk) trivial (Below.refl _ _) (Nat.le_refl _) (by simp) ?_; (case hd => rfl); (case hg => rfl); (case hr => first | (go_simp; done) | (go_simp; rfl)); (case hp => exact (Reps.none _ _)); intro v260 w23 ho24 hb hg_ hnew_; clear hg_ hnew_; (first | rw [← Ny259.out] at ho24 | (simp only [Int.reduceToNat] at ho24; rw [← Ny259.out] at ho24)); have n0_ := asiD (Kd.S_elder' (by (with_reducible repeat (first | apply Kd.S_alloc | apply Kd.S_drewN | apply Kd.S_drew)); exact HO_4.out) (Kd.R_base ho24) hb); have n1_ := asiD (Kd.R_lower ho24 (below_size (by repeat (first | (with_reducible first | exact HB.out | apply below_alloc | apply pw_below_drewN | apply below_drew1) | exact HB.out)))); have n2_ := asiD (below_step (by repeat (first | (with_reducible first | exact HB.out | apply below_alloc | apply pw_below_drewN | apply below_drew1) | exact HB.out)) hb); clear HO_4; clear HB; have HO_4 := n0_; have HO261 := n1_; have HB := n2_; clear n0_ n1_ n2_; clear hb ho24; obtain ⟨i025, hi025, _, hsz25, _⟩ := info_parts info5; obtain ⟨A25, hcut25, hA25, hC25⟩ := print_mid_of (P := Try.prog) (Value.int .u8) 0 23 5 .i64 .i64 Try.underlying23 hi025 hsz25 A0 c0 l0 (ji15) (wrap64 ((ji15) + (wrap64 (t257)))) (of_decide_eq_true (by first | (with_reducible assumption) | assumption)) (by first | omega | exact of_decide_eq_true (by first | (with_reducible assumption) | assumption)) (of_decide_eq_true (by first | (with_reducible assumption) | assumption)) HC0.out; have HR262 := asiD (Kd.C_of_reads (h1 := fun _ => rfl) (hA25 _ (Kd.reads_of_C HR0.out))); have HC262 := asiD hC25; clear hA25 hC25 hi025 hsz25) | ((with_reducible refine gate_builtin (b := .append) (xs := #[.tmp 51, .tmp 59]) rfl ?_); (try (refine gate_guard (by rfl) ?_; dsimp only)); at_builtin; refine Kd.R_append_rows (Kd.int .u8) (w0 := w) w.heap.size rfl (.tmp 51) (.tmp 59) 23 5 (.int .u8 0) 1 rfl Try.underlying23 info5 rfl (by decide) (by omega) v260 y259 ((l0.take ((wrap64 ((ji15) + (wrap64 (t257)))) : Int).toNat).drop ((ji15) : Int).toNat) _ _ _ (fun _ => True) (fun _ => False) rfl rfl ?aO ?aR (fun _ _ h => h) (fun _ h => h.elim) ?aF ?aB ?aS ?aL ?_; (case aR => first | (rw [← show ((l0.take ((wrap64 ((ji15) + (wrap64 (t257)))) : Int).toNat).drop ((ji15) : Int).toNat).length = ((wrap64 ((ji15) + (wrap64 (t257)))).toNat - (ji15).toNat) from (by rw [List.length_drop, List.length_take]; have h_ : ((wrap64 ((ji15) + (wrap64 (t257)))) : Int) ≤ (l0.length : Int) := of_decide_eq_true (by first | (with_reducible assumption) | assumption); omega)]; repeat (first | exact (Kd.C_below HR262.out HB.out) | (with_reducible refine Kd.C_alloc ?_ _) | (with_reducible refine Kd.C_drewN ?_ _) | (with_reducible refine Kd.C_drew ?_))) | (repeat (first | exact (Kd.C_below HR262.out HB.out) | (with_reducible refine Kd.C_alloc ?_ _) | (with_reducible refine Kd.C_drewN ?_ _) | (with_reducible refine Kd.C_drew ?_)))); (case aB => exact (by repeat (first | (with_reducible first | exact HB.out | apply below_alloc | apply pw_below_drewN | apply below_drew1) | exact HB.out))); (case aF => exact (fun _ _ => trivial)); (case aO => exact (by (with_reducible repeat (first | apply Kd.R_alloc | apply Kd.R_drewN | apply Kd.R_drew)); exact HO261.out)); (case aS => exact (below_size (by repeat (first | (with_reducible first | exact HB.out | apply below_alloc | apply pw_below_drewN | apply below_drew1) | exact HB.out)))); (case aL => have := LMc19.out; have hlx_ := (show ((l0.take ((wrap64 ((ji15) + (wrap64 (t257)))) : Int).toNat).drop ((ji15) : Int).toNat).length = ((wrap64 ((ji15) + (wrap64 (t257)))).toNat - (ji15).toNat) from (by rw [List.length_drop, List.length_take]; have h_ : ((wrap64 ((ji15) + (wrap64 (t257)))) : Int) ≤ (l0.length : Int) := of_decide_eq_true (by first | (with_reducible assumption) | assumption); omega)); omega); intro v264 w26 ho hb hg hat; rw [← Ny263.out] at ho; have n0_ := asiD (Kd.S_after (ok := (fun _ => True)) (by (with_reducible repeat (first | apply Kd.S_alloc | apply Kd.S_drewN | apply Kd.S_drew)); exact HO_4.out) hg hat); have n1_ := asiD (hb); have n2_ := asiD (ho); clear HO_4; clear HB; clear HO261; have HO_4 := n0_; have HB := n1_; have HO265 := n2_; clear n0_ n1_ n2_; clear ho hb hg hat; obtain ⟨Ao27, co27, eo27⟩ := Kd.R_slice HO265.out; subst eo27) | ((with_reducible refine gate_builtin (b := .append) (xs := #[.tmp 49, .tmp 62]) rfl ?_); (try (refine gate_guard (by rfl) ?_; dsimp only)); at_builtin; refine Kd.S_append k42 (w0 := w) w.heap.size rfl (.tmp 49) (.tmp 62) 25 42 (.agg #[(.string ⟨#[]⟩), (.slice none 0 0)]) 40 rfl Try.underlying25 info42 rfl (by decide) (by omega) u4 x4_1 (⟨(strOfNums ((l0.take ((wrap64 (x5_1 + 4)) : Int).toNat).drop (x5_1 : Int).toNat)), y263⟩ : S42) [.string (strOfNums ((l0.take ((wrap64 (x5_1 + 4)) : Int).toNat).drop (x5_1 : Int).toNat)), .slice Ao27 y263.length co27] (fun _ => True) (fun k_ => some k_ = (.slice Ao27 y263.length co27 : Value).ownBlock) rfl rfl ?aP (fun k_ hk_ => ((Kd.R_mono (ok' := fun k_ => ((fun _ => True)) k_ ∧ some k_ ≠ (u4 : Value).ownBlock) (Kd.R_apart' (HO265.out) (Kd.S_typed HO_4.out) (by decide)) (fun k_ hk => ⟨trivial, hk.2⟩))).1 k_ hk_.symm) ?aF ?aO ?aB ?aS ?aL ?_; (case aP => exact k42_mkM _ _ _ (⟨(strOfNums ((l0.take ((wrap64 (x5_1 + 4)) : Int).toNat).drop (x5_1 : Int).toNat)), y263⟩ : S42) (Kd.R_mono (Kd.R_tight rfl (Kd.R_mono (ok' := fun k_ => ((fun _ => True)) k_ ∧ some k_ ≠ (u4 : Value).ownBlock) (Kd.R_apart' (HO265.out) (Kd.S_typed HO_4.out) (by decide)) (fun k_ hk => ⟨trivial, hk.2⟩))) (fun _ h_ => h_))); (case aB => exact (by repeat (first | (with_reducible first | exact HB.out | apply below_alloc | apply pw_below_drewN | apply below_drew1) | exact HB.out))); (case aF => exact (fun _ _ => trivial)); (case aO => exact (by (with_reducible repeat (first | apply Kd.S_alloc | apply Kd.S_drewN | apply Kd.S_drew)); exact Kd.S_mono HO_4.out (fun k_ hk => ⟨trivial, fun e_ => hk.2 e_⟩))); (case aS => exact (below_size (by repeat (first | (with_reducible first | exact HB.out | apply below_alloc | apply pw_below_drewN | apply below_drew1) | exact HB.out)))); (case aL => have := LMc20.out; omega); intro v267 w28 ho hb hg hat; rw [← Ny266.out] at ho; have n0_ := asiD (hb); have n1_ := asiD (ho); clear HB; clear HO_4; clear HO265; have HB := n0_; have HO268 := n1_; clear n0_ n1_; clear ho hb hg hat))
                                      go_ret2
                                      exact ⟨_, by first | rfl | (simp [errW_none, errW_some] <;> rfl) | (simp only [← hji15]; first | rfl | (simp [errW_none, errW_some] <;> rfl)) | (simp [*, errW_none, errW_some] <;> rfl), by first | exact Kd.S_nil _ _ _ _ _ | exact Kd.N_nil _ _ _ _ _ | exact Kd.V_nil _ _ _ _ _ | exact Kd.Q_nil _ _ _ _ _ | exact Kd.R_nil _ _ _ _ _, by repeat (first | (with_reducible first | exact HB.out | apply below_alloc | apply pw_below_drewN | apply below_drew1) | exact HB.out)⟩
                                    · rw [if_neg c22] at H
                                      have c22b0 : ((wrap64 ((ji15) + (wrap64 (t257)))) == (l0.length : Int)) = false := beq_eq_false_iff_ne.mpr c22
                                      have c22b1 : ((wrap64 ((ji15) + (wrap64 (t257)))) != (l0.length : Int)) = true := bne_iff_ne.mpr c22
                                      obtain ⟨ji29, hji29⟩ : ∃ j_ : Int, (wrap64 ((ji15) + (wrap64 (t257)))) = j_ := ⟨_, rfl⟩
                                      replace H : (if 0 ≤ (ji29) then (if (ji29) < (l0.length : Int) then (if (rd l0 (ji29)) = 0 then (marquetryref24_Inner.l0 kj9 l0 y266 (wrap64 ((ji29) + 1))) else (some (([] : List (S42)), 3))) else (none)) else (none)) = some (r1, r2) := by first | (rw [hji29] at H; exact H) | (simp only [hji29] at H ⊢; exact H)
                                      (try rw [hji29] at c17b0)
                                      (try rw [hji29] at c17b1)
                                      (try rw [hji29] at c17)
                                      (try rw [hji29] at c18b0)
                                      (try rw [hji29] at c18b1)
                                      (try rw [hji29] at c18)
                                      (try rw [hji29] at c22b0)
                                      (try rw [hji29] at c22b1)
                                      (try rw [hji29] at Ny263)
                                      (try rw [hji29] at Ny263)
                                      have hji29w : (IntKind.i64.wrap ((ji15) + (wrap64 (t257)))) = ji29 := (i64_w _).trans hji29
                                      (try rw [hji29] at hcut11)
                                      (try rw [hji29] at LMc19)
                                      (try rw [hji29] at LMc20)
                                      (try rw [hji29] at hcut25)
                                      by_cases c30 : 0 ≤ (ji29)
                                      · rw [if_pos c30] at H
                                        have c30b0 : decide (0 ≤ (ji29)) = true := decide_eq_true c30
                                        clear c30
                                        by_cases c31 : (ji29) < (l0.length : Int)
                                        · rw [if_pos c31] at H
                                          have c31b0 : decide ((ji29) < (l0.length : Int)) = true := decide_eq_true c31
                                          clear c31
                                          by_cases c32 : (rd l0 (ji29)) = 0
                                          · rw [if_pos c32] at H
                                            have c32b0 : ((rd l0 (ji29)) == 0) = true := beq_iff_eq.mpr c32
                                            have c32b1 : ((rd l0 (ji29)) != 0) = false := bne_eq_false_iff_eq.mpr c32
                                            clear c32
                                            have H' := asiD H
                                            clear H
                                            go_wp2_with (first | ((with_reducible refine gate_dst (N := 51) rfl ?_); (try (refine gate_guard (by rfl) ?_; dsimp only)); refine Kd.R_lit (Kd.int .u8) _ 5 ?hg (N := 51) ?hd (xs := ([] : List Int)) (inner := []) (ok := fun _ => True) (okp := fun _ => True) ?hr ?hp (fun _ hk => hk) trivial (Below.refl _ _) (Nat.le_refl _) (by simp) ?_; (case hd => rfl); (case hg => rfl); (case hr => first | (go_simp; done) | (go_simp; rfl)); (case hp => exact (Reps.none _ _)); intro v260 w33 ho34 hb hg_ hnew_; clear hg_ hnew_; (first | rw [← Ny259.out] at ho34 | (simp only [Int.reduceToNat] at ho34; rw [← Ny259.out] at ho34)); have n0_ := asiD (Kd.S_elder' (by (with_reducible repeat (first | apply Kd.S_alloc | apply Kd.S_drewN | apply Kd.S_drew)); exact HO_4.out) (Kd.R_base ho34) hb); have n1_ := asiD (Kd.R_lower ho34 (below_size (by repeat (first | (with_reducible first | exact HB.out | apply below_alloc | apply pw_below_drewN | apply below_drew1) | exact HB.out)))); have n2_ := asiD (below_step (by repeat (first | (with_reducible first | exact HB.out | apply below_alloc | apply pw_below_drewN | apply below_drew1) | exact HB.out)) hb); clear HO_4; clear HB; have HO_4 := n0_; have HO261 := n1_; have HB := n2_; clear n0_ n1_ n2_; clear hb ho34; obtain ⟨i035, hi035, _, hsz35, _⟩ := info_parts info5; obtain ⟨A35, hcut35, hA35, hC35⟩ := print_mid_of (P := Try.prog) (Value.int .u8) 0 23 5 .i64 .i64 Try.underlying23 hi035 hsz35 A0 c0 l0 (ji15) (ji29) (of_decide_eq_true (by first | (with_reducible assumption) | assumption)) (by first | omega | exact of_decide_eq_true (by first | (with_reducible assumption) | assumption)) (of_decide_eq_true (by first | (with_reducible assumption) | assumption)) HC0.out; have HR262 := asiD (Kd.C_of_reads (h1 := fun _ => rfl) (hA35 _ (Kd.reads_of_C HR0.out))); have HC262 := asiD hC35; clear hA35 hC35 hi035 hsz35) | ((with_reducible refine gate_builtin (b := .append) (xs := #[.tmp 51, .tmp 59]) rfl ?_); (try (refine gate_guard (by rfl) ?_; dsimp only)); at_builtin; refine Kd.R_append_rows (Kd.int .u8) (w0 := w) w.heap.size rfl (.tmp 51) (.tmp 59) 23 5 (.int .u8 0) 1 rfl Try.underlying23 info5 rfl (by decide) (by omega) v260 y259 ((l0.take ((ji29) : Int).toNat).drop ((ji15) : Int).toNat) _ _ _ (fun _ => True) (fun _ => False) rfl rfl ?aO ?aR (fun _ _ h => h) (fun _ h => h.elim) ?aF ?aB ?aS ?aL ?_; (case aR => first | (rw [← show ((l0.take ((ji29) : Int).toNat).drop ((ji15) : Int).toNat).length = ((ji29).toNat - (ji15).toNat) from (by rw [List.length_drop, List.length_take]; have h_ : ((ji29) : Int) ≤ (l0.length : Int) := of_decide_eq_true (by first | (with_reducible assumption) | assumption); omega)]; repeat (first | exact (Kd.C_below HR262.out HB.out) | (with_reducible refine Kd.C_alloc ?_ _) | (with_reducible refine Kd.C_drewN ?_ _) | (with_reducible refine Kd.C_drew ?_))) | (repeat (first | exact (Kd.C_below HR262.out HB.out) | (with_reducible refine Kd.C_alloc ?_ _) | (with_reducible refine Kd.C_drewN ?_ _) | (with_reducible refine Kd.C_drew ?_)))); (case aB => exact (by repeat (first | (with_reducible first | exact HB.out | apply below_alloc | apply pw_below_drewN | apply below_drew1) | exact HB.out))); (case aF => exact (fun _ _ => trivial)); (case aO => exact (by (with_reducible repeat (first | apply Kd.R_alloc | apply Kd.R_drewN | apply Kd.R_drew)); exact HO261.out)); (case aS => exact (below_size (by repeat (first | (with_reducible first | exact HB.out | apply below_alloc | apply pw_below_drewN | apply below_drew1) | exact HB.out)))); (case aL => have := LMc19.out; have hlx_ := (show ((l0.take ((ji29) : Int).toNat).drop ((ji15) : Int).toNat).length = ((ji29).toNat - (ji15).toNat) from (by rw [List.length_drop, List.length_take]; have h_ : ((ji29) : Int) ≤ (l0.length : Int) := of_decide_eq_true (by first | (with_reducible assumption) | assumption); omega)); omega); intro v264 w36 ho hb hg hat; rw [← Ny263.out] at ho; have n0_ := asiD (Kd.S_after (ok := (fun _ => True)) (by (with_reducible repeat (first | apply Kd.S_alloc | apply Kd.S_drewN | apply Kd.S_drew)); exact HO_4.out) hg hat); have n1_ := asiD (hb); have n2_ := asiD (ho); clear HO_4; clear HB; clear HO261; have HO_4 := n0_; have HB := n1_; have HO265 := n2_; clear n0_ n1_ n2_; clear ho hb hg hat; obtain ⟨Ao37, co37, eo37⟩ := Kd.R_slice HO265.out; subst eo37) | ((with_reducible refine gate_builtin (b := .append) (xs := #[.tmp 49, .tmp 62]) rfl ?_); (try (refine gate_guard (by rfl) ?_; dsimp only)); at_builtin; refine Kd.S_append k42 (w0 := w) w.heap.size rfl (.tmp 49) (.tmp 62) 25 42 (.agg #[(.string ⟨#[]⟩), (.slice none 0 0)]) 40 rfl Try.underlying25 info42 rfl (by decide) (by omega) u4 x4_1 (⟨(strOfNums ((l0.take ((wrap64 (x5_1 + 4)) : Int).toNat).drop (x5_1 : Int).toNat)), y263⟩ : S42) [.string (strOfNums ((l0.take ((wrap64 (x5_1 + 4)) : Int).toNat).drop (x5_1 : Int).toNat)), .slice Ao37 y263.length co37] (fun _ => True) (fun k_ => some k_ = (.slice Ao37 y263.length co37 : Value).ownBlock) rfl rfl ?aP (fun k_ hk_ => ((Kd.R_mono (ok' := fun k_ => ((fun _ => True)) k_ ∧ some k_ ≠ (u4 : Value).ownBlock) (Kd.R_apart' (HO265.out) (Kd.S_typed HO_4.out) (by decide)) (fun k_ hk => ⟨trivial, hk.2⟩))).1 k_ hk_.symm) ?aF ?aO ?aB ?aS ?aL ?_; (case aP => exact k42_mkM _ _ _ (⟨(strOfNums ((l0.take ((wrap64 (x5_1 + 4)) : Int).toNat).drop (x5_1 : Int).toNat)), y263⟩ : S42) (Kd.R_mono (Kd.R_tight rfl (Kd.R_mono (ok' := fun k_ => ((fun _ => True)) k_ ∧ some k_ ≠ (u4 : Value).ownBlock) (Kd.R_apart' (HO265.out) (Kd.S_typed HO_4.out) (by decide)) (fun k_ hk => ⟨trivial, hk.2⟩))) (fun _ h_ => h_))); (case aB => exact (by repeat (first | (with_reducible first | exact HB.out | apply below_alloc | apply pw_below_drewN | apply below_drew1) | exact HB.out))); (case aF => exact (fun _ _ => trivial)); (case aO => exact (by (with_reducible repeat (first | apply Kd.S_alloc | apply Kd.S_drewN | apply Kd.S_drew)); exact Kd.S_mono HO_4.out (fun k_ hk => ⟨trivial, fun e_ => hk.2 e_⟩))); (case aS => exact (below_size (by repeat (first | (with_reducible first | exact HB.out | apply below_alloc | apply pw_below_drewN | apply below_drew1) | exact HB.out)))); (case aL => have := LMc20.out; omega); intro v267 w38 ho hb hg hat; rw [← Ny266.out] at ho; have n0_ := asiD (hb); have n1_ := asiD (ho); clear HB; clear HO_4; clear HO265; have HB := n0_; have HO268 := n1_; clear n0_ n1_; clear ho hb hg hat; have p269 : 0 ≤ ((ji29) : Int) := of_decide_eq_true (by first | (with_reducible assumption) | assumption); have q269 : (ji29) < (l0.length : Int) := of_decide_eq_true (by first | (with_reducible assumption) | assumption); obtain ⟨ad269, e269, hx269_0⟩ := Kd.at_int HR0.out (ji29) p269 q269; cases e269; replace hx269_0 := (cellL HB.out hx269_0); replace p269 := eq_true p269; replace q269 := eq_true q269))
                                            go_roundg kj9
                                            case measure => have := HK1.out; have := HJ9.out; omega
                                            case rel => exact ⟨(y266), (wrap64 ((ji29) + 1)), (by first | rfl | (simp; done) | (simp only [← hji29] <;> (first | rfl | simp)) | (simp [*]; done)), H', ⟨by have := HK1.out; have := HJ9.out; omega⟩, ⟨by (with_reducible repeat (first | apply Kd.S_alloc | apply Kd.S_drewN | apply Kd.S_drew)); exact HO268.out⟩, ⟨by repeat (first | (with_reducible first | exact HB.out | apply below_alloc | apply pw_below_drewN | apply below_drew1) | exact HB.out)⟩⟩
                                          · rw [if_neg c32] at H
                                            have c32b0 : ((rd l0 (ji29)) == 0) = false := beq_eq_false_iff_ne.mpr c32
                                            have c32b1 : ((rd l0 (ji29)) != 0) = true := bne_iff_ne.mpr c32
                                            simp only [Option.some.injEq, Prod.mk.injEq] at H
                                            obtain ⟨rfl, rfl⟩ := H
                                            go_wp2_with (first | ((with_reducible refine gate_dst (N := 51) rfl ?_); (try (refine gate_guard (by rfl) ?_; dsimp only)); refine Kd.R_lit (Kd.int .u8) _ 5 ?hg (N := 51) ?hd (xs := ([] : List Int)) (inner := []) (ok := fun _ => True) (okp := fun _ => True) ?hr ?hp (fun _ hk => hk) trivial (Below.refl _ _) (Nat.le_refl _) (by simp) ?_; (case hd => rfl); (case hg => rfl); (case hr => first | (go_simp; done) | (go_simp; rfl)); (case hp => exact (Reps.none _ _)); intro v260 w39 ho40 hb hg_ hnew_; clear hg_ hnew_; (first | rw [← Ny259.out] at ho40 | (simp only [Int.reduceToNat] at ho40; rw [← Ny259.out] at ho40)); have n0_ := asiD (Kd.S_elder' (by (with_reducible repeat (first | apply Kd.S_alloc | apply Kd.S_drewN | apply Kd.S_drew)); exact HO_4.out) (Kd.R_base ho40) hb); have n1_ := asiD (Kd.R_lower ho40 (below_size (by repeat (first | (with_reducible first | exact HB.out | apply below_alloc | apply pw_below_drewN | apply below_drew1) | exact HB.out)))); have n2_ := asiD (below_step (by repeat (first | (with_reducible first | exact HB.out | apply below_alloc | apply pw_below_drewN | apply below_drew1) | exact HB.out)) hb); clear HO_4; clear HB; have HO_4 := n0_; have HO261 := n1_; have HB := n2_; clear n0_ n1_ n2_; clear hb ho40; obtain ⟨i041, hi041, _, hsz41, _⟩ := info_parts info5; obtain ⟨A41, hcut41, hA41, hC41⟩ := print_mid_of (P := Try.prog) (Value.int .u8) 0 23 5 .i64 .i64 Try.underlying23 hi041 hsz41 A0 c0 l0 (ji15) (ji29) (of_decide_eq_true (by first | (with_reducible assumption) | assumption)) (by first | omega | exact of_decide_eq_true (by first | (with_reducible assumption) | assumption)) (of_decide_eq_true (by first | (with_reducible assumption) | assumption)) HC0.out; have HR262 := asiD (Kd.C_of_reads (h1 := fun _ => rfl) (hA41 _ (Kd.reads_of_C HR0.out))); have HC262 := asiD hC41; clear hA41 hC41 hi041 hsz41) | ((with_reducible refine gate_builtin (b := .append) (xs := #[.tmp 51, .tmp 59]) rfl ?_); (try (refine gate_guard (by rfl) ?_; dsimp only)); at_builtin; refine Kd.R_append_rows (Kd.int .u8) (w0 := w) w.heap.size rfl (.tmp 51) (.tmp 59) 23 5 (.int .u8 0) 1 rfl Try.underlying23 info5 rfl (by decide) (by omega) v260 y259 ((l0.take ((ji29) : Int).toNat).drop ((ji15) : Int).toNat) _ _ _ (fun _ => True) (fun _ => False) rfl rfl ?aO ?aR (fun _ _ h => h) (fun _ h => h.elim) ?aF ?aB ?aS ?aL ?_; (case aR => first | (rw [← show ((l0.take ((ji29) : Int).toNat).drop ((ji15) : Int).toNat).length = ((ji29).toNat - (ji15).toNat) from (by rw [List.length_drop, List.length_take]; have h_ : ((ji29) : Int) ≤ (l0.length : Int) := of_decide_eq_true (by first | (with_reducible assumption) | assumption); omega)]; repeat (first | exact (Kd.C_below HR262.out HB.out) | (with_reducible refine Kd.C_alloc ?_ _) | (with_reducible refine Kd.C_drewN ?_ _) | (with_reducible refine Kd.C_drew ?_))) | (repeat (first | exact (Kd.C_below HR262.out HB.out) | (with_reducible refine Kd.C_alloc ?_ _) | (with_reducible refine Kd.C_drewN ?_ _) | (with_reducible refine Kd.C_drew ?_)))); (case aB => exact (by repeat (first | (with_reducible first | exact HB.out | apply below_alloc | apply pw_below_drewN | apply below_drew1) | exact HB.out))); (case aF => exact (fun _ _ => trivial)); (case aO => exact (by (with_reducible repeat (first | apply Kd.R_alloc | apply Kd.R_drewN | apply Kd.R_drew)); exact HO261.out)); (case aS => exact (below_size (by repeat (first | (with_reducible first | exact HB.out | apply below_alloc | apply pw_below_drewN | apply below_drew1) | exact HB.out)))); (case aL => have := LMc19.out; have hlx_ := (show ((l0.take ((ji29) : Int).toNat).drop ((ji15) : Int).toNat).length = ((ji29).toNat - (ji15).toNat) from (by rw [List.length_drop, List.length_take]; have h_ : ((ji29) : Int) ≤ (l0.length : Int) := of_decide_eq_true (by first | (with_reducible assumption) | assumption); omega)); omega); intro v264 w42 ho hb hg hat; rw [← Ny263.out] at ho; have n0_ := asiD (Kd.S_after (ok := (fun _ => True)) (by (with_reducible repeat (first | apply Kd.S_alloc | apply Kd.S_drewN | apply Kd.S_drew)); exact HO_4.out) hg hat); have n1_ := asiD (hb); have n2_ := asiD (ho); clear HO_4; clear HB; clear HO261; have HO_4 := n0_; have HB := n1_; have HO265 := n2_; clear n0_ n1_ n2_; clear ho hb hg hat; obtain ⟨Ao43, co43, eo43⟩ := Kd.R_slice HO265.out; subst eo43) | ((with_reducible refine gate_builtin (b := .append) (xs := #[.tmp 49, .tmp 62]) rfl ?_); (try (refine gate_guard (by rfl) ?_; dsimp only)); at_builtin; refine Kd.S_append k42 (w0 := w) w.heap.size rfl (.tmp 49) (.tmp 62) 25 42 (.agg #[(.string ⟨#[]⟩), (.slice none 0 0)]) 40 rfl Try.underlying25 info42 rfl (by decide) (by omega) u4 x4_1 (⟨(strOfNums ((l0.take ((wrap64 (x5_1 + 4)) : Int).toNat).drop (x5_1 : Int).toNat)), y263⟩ : S42) [.string (strOfNums ((l0.take ((wrap64 (x5_1 + 4)) : Int).toNat).drop (x5_1 : Int).toNat)), .slice Ao43 y263.length co43] (fun _ => True) (fun k_ => some k_ = (.slice Ao43 y263.length co43 : Value).ownBlock) rfl rfl ?aP (fun k_ hk_ => ((Kd.R_mono (ok' := fun k_ => ((fun _ => True)) k_ ∧ some k_ ≠ (u4 : Value).ownBlock) (Kd.R_apart' (HO265.out) (Kd.S_typed HO_4.out) (by decide)) (fun k_ hk => ⟨trivial, hk.2⟩))).1 k_ hk_.symm) ?aF ?aO ?aB ?aS ?aL ?_; (case aP => exact k42_mkM _ _ _ (⟨(strOfNums ((l0.take ((wrap64 (x5_1 + 4)) : Int).toNat).drop (x5_1 : Int).toNat)), y263⟩ : S42) (Kd.R_mono (Kd.R_tight rfl (Kd.R_mono (ok' := fun k_ => ((fun _ => True)) k_ ∧ some k_ ≠ (u4 : Value).ownBlock) (Kd.R_apart' (HO265.out) (Kd.S_typed HO_4.out) (by decide)) (fun k_ hk => ⟨trivial, hk.2⟩))) (fun _ h_ => h_))); (case aB => exact (by repeat (first | (with_reducible first | exact HB.out | apply below_alloc | apply pw_below_drewN | apply below_drew1) | exact HB.out))); (case aF => exact (fun _ _ => trivial)); (case aO => exact (by (with_reducible repeat (first | apply Kd.S_alloc | apply Kd.S_drewN | apply Kd.S_drew)); exact Kd.S_mono HO_4.out (fun k_ hk => ⟨trivial, fun e_ => hk.2 e_⟩))); (case aS => exact (below_size (by repeat (first | (with_reducible first | exact HB.out | apply below_alloc | apply pw_below_drewN | apply below_drew1) | exact HB.out)))); (case aL => have := LMc20.out; omega); intro v267 w44 ho hb hg hat; rw [← Ny266.out] at ho; have n0_ := asiD (hb); have n1_ := asiD (ho); clear HB; clear HO_4; clear HO265; have HB := n0_; have HO268 := n1_; clear n0_ n1_; clear ho hb hg hat; have p269 : 0 ≤ ((ji29) : Int) := of_decide_eq_true (by first | (with_reducible assumption) | assumption); have q269 : (ji29) < (l0.length : Int) := of_decide_eq_true (by first | (with_reducible assumption) | assumption); obtain ⟨ad269, e269, hx269_0⟩ := Kd.at_int HR0.out (ji29) p269 q269; cases e269; replace hx269_0 := (cellL HB.out hx269_0); replace p269 := eq_true p269; replace q269 := eq_true q269))
                                            go_ret2
                                            exact ⟨_, by first | rfl | (simp [errW_none, errW_some] <;> rfl) | (simp only [← hji15, ← hji29]; first | rfl | (simp [errW_none, errW_some] <;> rfl)) | (simp [*, errW_none, errW_some] <;> rfl), by first | exact Kd.S_nil _ _ _ _ _ | exact Kd.N_nil _ _ _ _ _ | exact Kd.V_nil _ _ _ _ _ | exact Kd.Q_nil _ _ _ _ _ | exact Kd.R_nil _ _ _ _ _, by repeat (first | (with_reducible first | exact HB.out | apply below_alloc | apply pw_below_drewN | apply below_drew1) | exact HB.out)⟩
                                        · rw [if_neg c31] at H
                                          exact absurd H (by simp)
                                      · rw [if_neg c30] at H
                                        exact absurd H (by simp)
                                  · rw [if_neg c21] at H
                                    have c21b0 : ((Int.tmod (wrap64 (t257)) 2) == 1) = false := beq_eq_false_iff_ne.mpr c21
                                    have c21b1 : ((Int.tmod (wrap64 (t257)) 2) != 1) = true := bne_iff_ne.mpr c21
                                    have H' := asiD H
                                    clear H
                                    go_wp2_with (first | ((with_reducible refine gate_dst (N := 51) rfl ?_); (try (refine gate_guard (by rfl) ?_; dsimp only)); refine Kd.R_lit (Kd.int .u8) _ 5 ?hg (N := 51) ?hd (xs := ([] : List Int)) (inner := []) (ok := fun _ => True) (okp := fun _ => True) ?hr ?hp (fun _ hk => hk) trivial (Below.refl _ _) (Nat.le_refl _) (by simp) ?_; (case hd => rfl); (case hg => rfl); (case hr => first | (go_simp; done) | (go_simp; rfl)); (case hp => exact (Reps.none _ _)); intro v260 w45 ho46 hb hg_ hnew_; clear hg_ hnew_; (first | rw [← Ny259.out] at ho46 | (simp only [Int.reduceToNat] at ho46; rw [← Ny259.out] at ho46)); have n0_ := asiD (Kd.S_elder' (by (with_reducible repeat (first | apply Kd.S_alloc | apply Kd.S_drewN | apply Kd.S_drew)); exact HO_4.out) (Kd.R_base ho46) hb); have n1_ := asiD (Kd.R_lower ho46 (below_size (by repeat (first | (with_reducible first | exact HB.out | apply below_alloc | apply pw_below_drewN | apply below_drew1) | exact HB.out)))); have n2_ := asiD (below_step (by repeat (first | (with_reducible first | exact HB.out | apply below_alloc | apply pw_below_drewN | apply below_drew1) | exact HB.out)) hb); clear HO_4; clear HB; have HO_4 := n0_; have HO261 := n1_; have HB := n2_; clear n0_ n1_ n2_; clear hb ho46; obtain ⟨i047, hi047, _, hsz47, _⟩ := info_parts info5; obtain ⟨A47, hcut47, hA47, hC47⟩ := print_mid_of (P := Try.prog) (Value.int .u8) 0 23 5 .i64 .i64 Try.underlying23 hi047 hsz47 A0 c0 l0 (ji15) (wrap64 ((ji15) + (wrap64 (t257)))) (of_decide_eq_true (by first | (with_reducible assumption) | assumption)) (by first | omega | exact of_decide_eq_true (by first | (with_reducible assumption) | assumption)) (of_decide_eq_true (by first | (with_reducible assumption) | assumption)) HC0.out; have HR262 := asiD (Kd.C_of_reads (h1 := fun _ => rfl) (hA47 _ (Kd.reads_of_C HR0.out))); have HC262 := asiD hC47; clear hA47 hC47 hi047 hsz47) | ((with_reducible refine gate_builtin (b := .append) (xs := #[.tmp 51, .tmp 59]) rfl ?_); (try (refine gate_guard (by rfl) ?_; dsimp only)); at_builtin; refine Kd.R_append_rows (Kd.int .u8) (w0 := w) w.heap.size rfl (.tmp 51) (.tmp 59) 23 5 (.int .u8 0) 1 rfl Try.underlying23 info5 rfl (by decide) (by omega) v260 y259 ((l0.take ((wrap64 ((ji15) + (wrap64 (t257)))) : Int).toNat).drop ((ji15) : Int).toNat) _ _ _ (fun _ => True) (fun _ => False) rfl rfl ?aO ?aR (fun _ _ h => h) (fun _ h => h.elim) ?aF ?aB ?aS ?aL ?_; (case aR => first | (rw [← show ((l0.take ((wrap64 ((ji15) + (wrap64 (t257)))) : Int).toNat).drop ((ji15) : Int).toNat).length = ((wrap64 ((ji15) + (wrap64 (t257)))).toNat - (ji15).toNat) from (by rw [List.length_drop, List.length_take]; have h_ : ((wrap64 ((ji15) + (wrap64 (t257)))) : Int) ≤ (l0.length : Int) := of_decide_eq_true (by first | (with_reducible assumption) | assumption); omega)]; repeat (first | exact (Kd.C_below HR262.out HB.out) | (with_reducible refine Kd.C_alloc ?_ _) | (with_reducible refine Kd.C_drewN ?_ _) | (with_reducible refine Kd.C_drew ?_))) | (repeat (first | exact (Kd.C_below HR262.out HB.out) | (with_reducible refine Kd.C_alloc ?_ _) | (with_reducible refine Kd.C_drewN ?_ _) | (with_reducible refine Kd.C_drew ?_)))); (case aB => exact (by repeat (first | (with_reducible first | exact HB.out | apply below_alloc | apply pw_below_drewN | apply below_drew1) | exact HB.out))); (case aF => exact (fun _ _ => trivial)); (case aO => exact (by (with_reducible repeat (first | apply Kd.R_alloc | apply Kd.R_drewN | apply Kd.R_drew)); exact HO261.out)); (case aS => exact (below_size (by repeat (first | (with_reducible first | exact HB.out | apply below_alloc | apply pw_below_drewN | apply below_drew1) | exact HB.out)))); (case aL => have := LMc19.out; have hlx_ := (show ((l0.take ((wrap64 ((ji15) + (wrap64 (t257)))) : Int).toNat).drop ((ji15) : Int).toNat).length = ((wrap64 ((ji15) + (wrap64 (t257)))).toNat - (ji15).toNat) from (by rw [List.length_drop, List.length_take]; have h_ : ((wrap64 ((ji15) + (wrap64 (t257)))) : Int) ≤ (l0.length : Int) := of_decide_eq_true (by first | (with_reducible assumption) | assumption); omega)); omega); intro v264 w48 ho hb hg hat; rw [← Ny263.out] at ho; have n0_ := asiD (Kd.S_after (ok := (fun _ => True)) (by (with_reducible repeat (first | apply Kd.S_alloc | apply Kd.S_drewN | apply Kd.S_drew)); exact HO_4.out) hg hat); have n1_ := asiD (hb); have n2_ := asiD (ho); clear HO_4; clear HB; clear HO261; have HO_4 := n0_; have HB := n1_; have HO265 := n2_; clear n0_ n1_ n2_; clear ho hb hg hat; obtain ⟨Ao49, co49, eo49⟩ := Kd.R_slice HO265.out; subst eo49) | ((with_reducible refine gate_builtin (b := .append) (xs := #[.tmp 49, .tmp 62]) rfl ?_); (try (refine gate_guard (by rfl) ?_; dsimp only)); at_builtin; refine Kd.S_append k42 (w0 := w) w.heap.size rfl (.tmp 49) (.tmp 62) 25 42 (.agg #[(.string ⟨#[]⟩), (.slice none 0 0)]) 40 rfl Try.underlying25 info42 rfl (by decide) (by omega) u4 x4_1 (⟨(strOfNums ((l0.take ((wrap64 (x5_1 + 4)) : Int).toNat).drop (x5_1 : Int).toNat)), y263⟩ : S42) [.string (strOfNums ((l0.take ((wrap64 (x5_1 + 4)) : Int).toNat).drop (x5_1 : Int).toNat)), .slice Ao49 y263.length co49] (fun _ => True) (fun k_ => some k_ = (.slice Ao49 y263.length co49 : Value).ownBlock) rfl rfl ?aP (fun k_ hk_ => ((Kd.R_mono (ok' := fun k_ => ((fun _ => True)) k_ ∧ some k_ ≠ (u4 : Value).ownBlock) (Kd.R_apart' (HO265.out) (Kd.S_typed HO_4.out) (by decide)) (fun k_ hk => ⟨trivial, hk.2⟩))).1 k_ hk_.symm) ?aF ?aO ?aB ?aS ?aL ?_; (case aP => exact k42_mkM _ _ _ (⟨(strOfNums ((l0.take ((wrap64 (x5_1 + 4)) : Int).toNat).drop (x5_1 : Int).toNat)), y263⟩ : S42) (Kd.R_mono (Kd.R_tight rfl (Kd.R_mono (ok' := fun k_ => ((fun _ => True)) k_ ∧ some k_ ≠ (u4 : Value).ownBlock) (Kd.R_apart' (HO265.out) (Kd.S_typed HO_4.out) (by decide)) (fun k_ hk => ⟨trivial, hk.2⟩))) (fun _ h_ => h_))); (case aB => exact (by repeat (first | (with_reducible first | exact HB.out | apply below_alloc | apply pw_below_drewN | apply below_drew1) | exact HB.out))); (case aF => exact (fun _ _ => trivial)); (case aO => exact (by (with_reducible repeat (first | apply Kd.S_alloc | apply Kd.S_drewN | apply Kd.S_drew)); exact Kd.S_mono HO_4.out (fun k_ hk => ⟨trivial, fun e_ => hk.2 e_⟩))); (case aS => exact (below_size (by repeat (first | (with_reducible first | exact HB.out | apply below_alloc | apply pw_below_drewN | apply below_drew1) | exact HB.out)))); (case aL => have := LMc20.out; omega); intro v267 w50 ho hb hg hat; rw [← Ny266.out] at ho; have n0_ := asiD (hb); have n1_ := asiD (ho); clear HB; clear HO_4; clear HO265; have HB := n0_; have HO268 := n1_; clear n0_ n1_; clear ho hb hg hat))
                                    go_roundg kj9
                                    case measure => have := HK1.out; have := HJ9.out; omega
                                    case rel => exact ⟨(y266), (wrap64 ((ji15) + (wrap64 (t257)))), (by first | rfl | (simp; done) | (simp only [← hji15] <;> (first | rfl | simp)) | (simp [*]; done)), H', ⟨by have := HK1.out; have := HJ9.out; omega⟩, ⟨by (with_reducible repeat (first | apply Kd.S_alloc | apply Kd.S_drewN | apply Kd.S_drew)); exact HO268.out⟩, ⟨by repeat (first | (with_reducible first | exact HB.out | apply below_alloc | apply pw_below_drewN | apply below_drew1) | exact HB.out)⟩⟩
                                · rw [if_neg c20] at H
                                  exact absurd H (by simp)
                              · rw [if_neg c19] at H
                                exact absurd H (by simp)
                            · rw [if_neg c18] at H
                              exact absurd H (by simp)
                          · rw [if_neg c17] at H
                            exact absurd H (by simp)
                        · rw [if_neg c16] at H
                          exact absurd H (by simp)
                · replace c8 := Bool.eq_false_iff.mpr c8
                  subst c8
                  have H1 : (some (([] : List (S42)), 3)) = some (r1, r2) := by rw [if_neg (show ¬ (false = true) by decide)] at H; exact H
                  clear H
                  have H := H1
                  clear H1
                  simp only [Option.some.injEq, Prod.mk.injEq] at H
                  obtain ⟨rfl, rfl⟩ := H
                  obtain ⟨i051, hi051, _, hsz51, _⟩ := info_parts info5
                  obtain ⟨A51, hcut51, hA51, hC51⟩ := print_mid_of (P := Try.prog) (Value.int .u8) 0 23 5 .i64 .i64 Try.underlying23 hi051 hsz51 A0 c0 l0 x5_1 (wrap64 (x5_1 + 4)) (of_decide_eq_true (by first | (with_reducible assumption) | assumption)) (by first | omega | exact of_decide_eq_true (by first | (with_reducible assumption) | assumption)) (of_decide_eq_true (by first | (with_reducible assumption) | assumption)) HC0.out
                  have HR255 := asiD (Kd.C_of_reads (h1 := fun _ => rfl) (hA51 _ (Kd.reads_of_C HR0.out)))
                  have HC255 := asiD hC51
                  clear hA51 hC51 hi051 hsz51
                  have hcv52 := Kd.C_string (P := Try.prog) (A := A51) (c := (c0 - x5_1.toNat)) Try.underlying23 Try.underlying5 Try.underlying9 (Kd.C_below HR255.out HB.out); have hcv52q := hcv52; (try simp only [List.length_take, List.length_drop, Int.reduceToNat] at hcv52q); have hcv52d := fun nd => Kd.C_string (P := Try.prog) (A := A51) (c := (c0 - x5_1.toNat)) Try.underlying23 Try.underlying5 Try.underlying9 (Kd.C_drewN (Kd.C_below HR255.out HB.out) nd); (try simp only [List.length_take, List.length_drop, Int.reduceToNat] at hcv52d); have hcv52e := hcv52; have hcv52f := hcv52d; (try (have hmn_ : ((wrap64 (x5_1 + 4)) : Int) ≤ (l0.length : Int) := (by first | omega | exact of_decide_eq_true (by assumption)); (try simp only [List.length_take, List.length_drop, Int.reduceToNat] at hcv52e); rw [Nat.min_eq_left (by omega)] at hcv52e; (try (rw [Nat.min_eq_left (by omega)] at hcv52d)); clear hmn_))
                  go_wp2_with (first | ((with_reducible refine gate_callee (f := 77) rfl ?_); refine goesL_ (some 26) rfl rfl Try.func77 (by kernel_rfl) rfl #[.string (strOfNums ((l0.take ((wrap64 (x5_1 + 4)) : Int).toNat).drop (x5_1 : Int).toNat))] rfl (by (try simp only [List.map_toArray, List.map_cons, List.map_nil]); first | done | rfl | (simp only [List.length_drop, List.length_take]; rfl)) ?_; (with_reducible refine (marquetryref24_Name.calls k1 (strOfNums ((l0.take ((wrap64 (x5_1 + 4)) : Int).toNat).drop (x5_1 : Int).toNat)) false _ A7.out).mono ?_); clear A7; rintro e w' ⟨rfl, ⟨nd, rfl⟩⟩; refine ⟨_, rfl, ?_⟩) | (go_at_call 77; (with_reducible refine (marquetryref24_Name.calls k1 (strOfNums ((l0.take ((wrap64 (x5_1 + 4)) : Int).toNat).drop (x5_1 : Int).toNat)) false _ A7.out).mono ?_); clear A7; rintro e w' ⟨rfl, ⟨nd, rfl⟩⟩))
                  go_ret2
                  exact ⟨_, by first | rfl | (simp [errW_none, errW_some] <;> rfl) | (simp [*, errW_none, errW_some] <;> rfl), by first | exact Kd.S_nil _ _ _ _ _ | exact Kd.N_nil _ _ _ _ _ | exact Kd.V_nil _ _ _ _ _ | exact Kd.Q_nil _ _ _ _ _ | exact Kd.R_nil _ _ _ _ _, by repeat (first | (with_reducible first | exact HB.out | apply below_alloc | apply pw_below_drewN | apply below_drew1) | exact HB.out)⟩
              · rw [if_neg c6] at H
                exact absurd H (by simp)
            · rw [if_neg c5] at H
              exact absurd H (by simp)
          · rw [if_neg c4] at H
            exact absurd H (by simp)
      · rw [if_neg c2] at H
        have c2b0 : decide (x5_1 < (l0.length : Int)) = false := decide_eq_false c2
        clear c2
        simp only [Option.some.injEq, Prod.mk.injEq] at H
        obtain ⟨rfl, rfl⟩ := H
        go_wp2
        go_ret2
        exact ⟨_, by first | rfl | (simp [errW_none, errW_some] <;> rfl) | (simp [*, errW_none, errW_some] <;> rfl), by (with_reducible repeat (first | apply Kd.S_alloc | apply Kd.S_drewN | apply Kd.S_drew)); exact HO_4.out, by repeat (first | (with_reducible first | exact HB.out | apply below_alloc | apply pw_below_drewN | apply below_drew1) | exact HB.out)⟩
def marquetryref24_Scan.j0 : Nat → List Int → Int → Bool → Option ((List (S42)) × Int)
  | 0, _, _, _ => none
  | k + 1, x0, x4, x32 => if x32 = true then (some (([] : List (S42)), 3)) else (if x4 > (IntKind.u64.wrap (wrap64 ((x0.length : Int) - 8))) then (some (([] : List (S42)), 2)) else (if 12 ≤ (wrap64 (8 + (wrap64 (x4)))) then (if (wrap64 (8 + (wrap64 (x4)))) ≤ (x0.length : Int) then ((marquetryref24_Inner.f k ((x0.take ((wrap64 (8 + (wrap64 (x4)))) : Int).toNat).drop 12)).bind fun bt275 => (some (bt275.1, bt275.2))) else (none)) else (none)))
def marquetryref24_Scan.f (k : Nat) (l0 : List Int) : Option ((List (S42)) × Int) := if (l0.length : Int) < 12 then (some (([] : List (S42)), 2)) else ((marquetryref01_Get.f k l0 4 4).bind fun bt270 => (if 4 ≤ (l0.length : Int) then (if (strOfNums (l0.take 4)).toList = ([82, 73, 70, 70] : List UInt8) then (if 8 ≤ 12 then (if 12 ≤ (l0.length : Int) then (if (strOfNums ((l0.take 12).drop 8)).toList = ([87, 69, 66, 80] : List UInt8) then (if bt270.1 < 4 then (marquetryref24_Scan.j0 k l0 bt270.1 true) else (marquetryref24_Scan.j0 k l0 bt270.1 ((Int.tmod bt270.1 2) != 0))) else (marquetryref24_Scan.j0 k l0 bt270.1 true)) else (none)) else (none)) else (marquetryref24_Scan.j0 k l0 bt270.1 true)) else (none)))
theorem marquetryref24_Scan.mono_l : ∀ k, (∀ y0 y1 y2, LeO (marquetryref24_Scan.j0 k y0 y1 y2) (marquetryref24_Scan.j0 (k + 1) y0 y1 y2))
  | 0 => fun _ _ _ r h => by simp [marquetryref24_Scan.j0] at h
  | k + 1 => by
    have ih0 := marquetryref24_Scan.mono_l k
    · intro y0 y1 y2
      unfold marquetryref24_Scan.j0
      repeat' first
      | (with_reducible exact ih0 _ _ _)
      | (with_reducible exact marquetryref01_Get.mono _ _ _ _)
      | (with_reducible exact marquetryref24_Inner.mono _ _)
      | (with_reducible exact LeO.refl _)
      | (with_reducible exact LeO.none _)
      | (with_reducible refine LeO.ite ?_ ?_)
      | (with_reducible refine LeO.bind ?_ (fun _ => ?_))
      | exact ih0 _ _ _
      | exact marquetryref01_Get.mono _ _ _ _
      | exact marquetryref24_Inner.mono _ _
      | exact LeO.none _
      | refine LeO.ite ?_ ?_
      | refine LeO.bind ?_ (fun _ => ?_)
theorem marquetryref24_Scan.mono : ∀ a0 k, LeO (marquetryref24_Scan.f k a0) (marquetryref24_Scan.f (k + 1) a0) := by
  intro a0 k
  have ih0 := marquetryref24_Scan.mono_l k
  unfold marquetryref24_Scan.f
  repeat' first
      | (with_reducible exact ih0 _ _ _)
      | (with_reducible exact marquetryref01_Get.mono _ _ _ _)
      | (with_reducible exact marquetryref24_Inner.mono _ _)
      | (with_reducible exact LeO.refl _)
      | (with_reducible exact LeO.none _)
      | (with_reducible refine LeO.ite ?_ ?_)
      | (with_reducible refine LeO.bind ?_ (fun _ => ?_))
      | exact ih0 _ _ _
      | exact marquetryref01_Get.mono _ _ _ _
      | exact marquetryref24_Inner.mono _ _
      | exact LeO.none _
      | refine LeO.ite ?_ ?_
      | refine LeO.bind ?_ (fun _ => ?_)
set_option maxHeartbeats 8000000 in
set_option maxRecDepth 100000 in
theorem marquetryref24_Scan.calls (k : Nat) (A0 : Option Addr) (c0 : Nat) (l0 : List Int) (r1 : List (S42)) (r2 : Int) (w : World) (hr0 : Kd.C (Kd.int .u8) w A0 l0.length l0) (hc0 : l0.length ≤ c0) (h : marquetryref24_Scan.f k l0 = some (r1, r2)) :
    Calls Try.prog 47 #[.slice A0 l0.length c0] w fun e w' => ∃ v0_ : Value, e = .returned (.tuple #[v0_, .int .i64 r2]) ∧ Kd.S k42 42 w' w.heap.size (fun _ => True) v0_ r1 ∧ Below w.heap.size w w' := by
  have HR0 := asiD hr0
  have HC0 := asiD hc0
  clear hr0 hc0
  have HB := asiD (Below.refl w.heap.size w)
  have H : (if (l0.length : Int) < 12 then (some (([] : List (S42)), 2)) else ((marquetryref01_Get.f k l0 4 4).bind fun bt270 => (if 4 ≤ (l0.length : Int) then (if (strOfNums (l0.take 4)).toList = ([82, 73, 70, 70] : List UInt8) then (if 8 ≤ 12 then (if 12 ≤ (l0.length : Int) then (if (strOfNums ((l0.take 12).drop 8)).toList = ([87, 69, 66, 80] : List UInt8) then (if bt270.1 < 4 then (marquetryref24_Scan.j0 k l0 bt270.1 true) else (marquetryref24_Scan.j0 k l0 bt270.1 ((Int.tmod bt270.1 2) != 0))) else (marquetryref24_Scan.j0 k l0 bt270.1 true)) else (none)) else (none)) else (marquetryref24_Scan.j0 k l0 bt270.1 true)) else (none)))) = some (r1, r2) := h
  clear h
  by_cases c2 : (l0.length : Int) < 12
  · rw [if_pos c2] at H
    have c2b0 : decide ((l0.length : Int) < 12) = true := decide_eq_true c2
    have c2b1 : decide (l0.length < 12) = true := decide_eq_true (by omega)
    clear c2
    simp only [Option.some.injEq, Prod.mk.injEq] at H
    obtain ⟨rfl, rfl⟩ := H
    go_enter Try.func47, Try.ntmps47
    go_wp2
    go_ret2
    exact ⟨_, by first | rfl | (simp [errW_none, errW_some] <;> rfl) | (simp [*, errW_none, errW_some] <;> rfl), by first | exact Kd.S_nil _ _ _ _ _ | exact Kd.N_nil _ _ _ _ _ | exact Kd.V_nil _ _ _ _ _ | exact Kd.Q_nil _ _ _ _ _ | exact Kd.R_nil _ _ _ _ _, by repeat (first | (with_reducible first | exact HB.out | apply below_alloc | apply pw_below_drewN | apply below_drew1) | exact HB.out)⟩
  · rw [if_neg c2] at H
    have c2b0 : decide ((l0.length : Int) < 12) = false := decide_eq_false c2
    have c2b1 : decide (l0.length < 12) = false := decide_eq_false (by omega)
    clear c2
    replace H := Option.bind_eq_some_iff.mp H
    obtain ⟨⟨t270, t271⟩, A30, H⟩ := H
    replace H : (if 4 ≤ (l0.length : Int) then (if (strOfNums (l0.take 4)).toList = ([82, 73, 70, 70] : List UInt8) then (if 8 ≤ 12 then (if 12 ≤ (l0.length : Int) then (if (strOfNums ((l0.take 12).drop 8)).toList = ([87, 69, 66, 80] : List UInt8) then (if t270 < 4 then (marquetryref24_Scan.j0 k l0 t270 true) else (marquetryref24_Scan.j0 k l0 t270 ((Int.tmod t270 2) != 0))) else (marquetryref24_Scan.j0 k l0 t270 true)) else (none)) else (none)) else (marquetryref24_Scan.j0 k l0 t270 true)) else (none)) = some (r1, r2) := H
    have A3 := asiD A30
    clear A30
    have HC4 := asiD H
    clear H
    go_enter Try.func47, Try.ntmps47
    go_upto_region 4 with (first | ((with_reducible refine gate_callee (f := 76) rfl ?_); refine goesL_ (some 11) rfl rfl Try.func76 (by kernel_rfl) rfl #[.slice A0 l0.length c0, .int .i64 4, .int .i64 4] rfl (by (try simp only [List.map_toArray, List.map_cons, List.map_nil]); first | done | rfl | (simp only [List.length_drop, List.length_take]; rfl)) ?_; (with_reducible refine (marquetryref01_Get.calls k _ _ l0 4 4 t270 t271 _ ?side1 ?side2 A3.out).mono ?_); (case side1 => repeat (first | exact HR0.out | (with_reducible refine Kd.C_alloc ?_ _) | (with_reducible refine Kd.C_drewN ?_ _) | (with_reducible refine Kd.C_drew ?_))); (case side2 => exact HC0.out); rintro e w' ⟨rfl, ⟨nd, rfl⟩⟩; refine ⟨_, rfl, ?_⟩) | (go_at_call 76; (with_reducible refine (marquetryref01_Get.calls k _ _ l0 4 4 t270 t271 _ ?side1 ?side2 A3.out).mono ?_); (case side1 => repeat (first | exact HR0.out | (with_reducible refine Kd.C_alloc ?_ _) | (with_reducible refine Kd.C_drewN ?_ _) | (with_reducible refine Kd.C_drew ?_))); (case side2 => exact HC0.out); rintro e w' ⟨rfl, ⟨nd, rfl⟩⟩))
    (try simp only [Act.put, List.setIfInBounds_toArray, List.set_cons_zero, List.set_cons_succ])
    go_cut [32] (fun v32 wc => ∃ (kq : Nat) (x32_3 : Bool), v32 = .bool x32_3 ∧ Aside0 (marquetryref24_Scan.j0 kq l0 t270 x32_3 = some (r1, r2)) ∧ Aside0 (kq ≤ k) ∧ Aside0 (Below w.heap.size w wc))
    case first =>
      have H := HC4.out
      clear HC4
      by_cases c5 : 4 ≤ (l0.length : Int)
      · rw [if_pos c5] at H
        have c5b0 := eq_true c5
        have c5b1 : decide (4 ≤ (l0.length : Int)) = true := decide_eq_true c5
        clear c5
        by_cases c6 : (strOfNums (l0.take 4)).toList = ([82, 73, 70, 70] : List UInt8)
        · rw [if_pos c6] at H
          have c6b0 : ((strOfNums (l0.take 4)).toList == ([82, 73, 70, 70] : List UInt8)) = true := beq_iff_eq.mpr c6
          have c6b1 : ((strOfNums (l0.take 4)).toList != ([82, 73, 70, 70] : List UInt8)) = false := bne_eq_false_iff_eq.mpr c6
          clear c6
          (first | rw [c6b0] | (simp only [i64_w, i32_w]; rw [c6b0]) | skip)
          by_cases c7 : 8 ≤ 12
          · rw [if_pos c7] at H
            have c7b0 := eq_true c7
            have c7b1 : decide (8 ≤ 12) = true := decide_eq_true c7
            clear c7
            by_cases c8 : 12 ≤ (l0.length : Int)
            · rw [if_pos c8] at H
              have c8b0 := eq_true c8
              have c8b1 : decide (12 ≤ (l0.length : Int)) = true := decide_eq_true c8
              clear c8
              by_cases c9 : (strOfNums ((l0.take 12).drop 8)).toList = ([87, 69, 66, 80] : List UInt8)
              · rw [if_pos c9] at H
                have c9b0 : ((strOfNums ((l0.take 12).drop 8)).toList == ([87, 69, 66, 80] : List UInt8)) = true := beq_iff_eq.mpr c9
                have c9b1 : ((strOfNums ((l0.take 12).drop 8)).toList != ([87, 69, 66, 80] : List UInt8)) = false := bne_eq_false_iff_eq.mpr c9
                clear c9
                by_cases c10 : t270 < 4
                · rw [if_pos c10] at H
                  have c10b0 : decide (t270 < 4) = true := decide_eq_true c10
                  clear c10
                  have H' := asiD H
                  clear H
                  obtain ⟨i011, hi011, _, hsz11, _⟩ := info_parts info5
                  obtain ⟨hcut11, hA11, hC11⟩ := print_take_of (P := Try.prog) (Value.int .u8) 0 23 5 .i64 Try.underlying23 hi011 hsz11 A0 c0 l0 4 (by omega) (of_decide_eq_true (by first | (with_reducible assumption) | assumption)) HC0.out
                  have HR272 := asiD (Kd.C_of_reads (h1 := fun _ => rfl) (hA11 _ (Kd.reads_of_C HR0.out)))
                  have HC272 := asiD hC11
                  clear hA11 hC11 hi011 hsz11
                  have hcv12 := Kd.C_string (P := Try.prog) (A := A0) (c := c0) Try.underlying23 Try.underlying5 Try.underlying9 (Kd.C_below HR272.out HB.out); have hcv12q := hcv12; (try simp only [List.length_take, List.length_drop, Int.reduceToNat] at hcv12q); have hcv12d := fun nd => Kd.C_string (P := Try.prog) (A := A0) (c := c0) Try.underlying23 Try.underlying5 Try.underlying9 (Kd.C_drewN (Kd.C_below HR272.out HB.out) nd); (try simp only [List.length_take, List.length_drop, Int.reduceToNat] at hcv12d); have hcv12e := hcv12; have hcv12f := hcv12d; (try (have hmn_ : ((wrap64 (x5_1 + 4)) : Int) ≤ (l0.length : Int) := (by first | omega | exact of_decide_eq_true (by assumption)); (try simp only [List.length_take, List.length_drop, Int.reduceToNat] at hcv12e); rw [Nat.min_eq_left (by omega)] at hcv12e; (try (rw [Nat.min_eq_left (by omega)] at hcv12d)); clear hmn_))
                  obtain ⟨i013, hi013, _, hsz13, _⟩ := info_parts info5
                  obtain ⟨A13, hcut13, hA13, hC13⟩ := print_mid_of (P := Try.prog) (Value.int .u8) 0 23 5 .i64 .i64 Try.underlying23 hi013 hsz13 A0 c0 l0 8 12 (by omega) (by first | omega | exact of_decide_eq_true (by first | (with_reducible assumption) | assumption)) (of_decide_eq_true (by first | (with_reducible assumption) | assumption)) HC0.out
                  have HR273 := asiD (Kd.C_of_reads (h1 := fun _ => rfl) (hA13 _ (Kd.reads_of_C HR0.out)))
                  have HC273 := asiD hC13
                  clear hA13 hC13 hi013 hsz13
                  have hcv14 := Kd.C_string (P := Try.prog) (A := A13) (c := (c0 - 8)) Try.underlying23 Try.underlying5 Try.underlying9 (Kd.C_below HR273.out HB.out); have hcv14q := hcv14; (try simp only [List.length_take, List.length_drop, Int.reduceToNat] at hcv14q); have hcv14d := fun nd => Kd.C_string (P := Try.prog) (A := A13) (c := (c0 - 8)) Try.underlying23 Try.underlying5 Try.underlying9 (Kd.C_drewN (Kd.C_below HR273.out HB.out) nd); (try simp only [List.length_take, List.length_drop, Int.reduceToNat] at hcv14d); have hcv14e := hcv14; have hcv14f := hcv14d; (try (have hmn_ : (12 : Int) ≤ (l0.length : Int) := (by first | omega | exact of_decide_eq_true (by assumption)); (try simp only [List.length_take, List.length_drop, Int.reduceToNat] at hcv14e); rw [Nat.min_eq_left (by omega)] at hcv14e; (try (rw [Nat.min_eq_left (by omega)] at hcv14d)); clear hmn_))
                  go_wp2
                  go_meet
                  case rel => exact ⟨_, (true), (by first | rfl | (simp; done) | (simp [*]; done)), H', ⟨by first | omega | exact Nat.le_refl _⟩, ⟨by repeat (first | (with_reducible first | exact HB.out | apply below_alloc | apply pw_below_drewN | apply below_drew1) | exact HB.out)⟩⟩
                · rw [if_neg c10] at H
                  have c10b0 : decide (t270 < 4) = false := decide_eq_false c10
                  clear c10
                  have H' := asiD H
                  clear H
                  obtain ⟨i015, hi015, _, hsz15, _⟩ := info_parts info5
                  obtain ⟨hcut15, hA15, hC15⟩ := print_take_of (P := Try.prog) (Value.int .u8) 0 23 5 .i64 Try.underlying23 hi015 hsz15 A0 c0 l0 4 (by omega) (of_decide_eq_true (by first | (with_reducible assumption) | assumption)) HC0.out
                  have HR272 := asiD (Kd.C_of_reads (h1 := fun _ => rfl) (hA15 _ (Kd.reads_of_C HR0.out)))
                  have HC272 := asiD hC15
                  clear hA15 hC15 hi015 hsz15
                  have hcv16 := Kd.C_string (P := Try.prog) (A := A0) (c := c0) Try.underlying23 Try.underlying5 Try.underlying9 (Kd.C_below HR272.out HB.out); have hcv16q := hcv16; (try simp only [List.length_take, List.length_drop, Int.reduceToNat] at hcv16q); have hcv16d := fun nd => Kd.C_string (P := Try.prog) (A := A0) (c := c0) Try.underlying23 Try.underlying5 Try.underlying9 (Kd.C_drewN (Kd.C_below HR272.out HB.out) nd); (try simp only [List.length_take, List.length_drop, Int.reduceToNat] at hcv16d); have hcv16e := hcv16; have hcv16f := hcv16d; (try (have hmn_ : (12 : Int) ≤ (l0.length : Int) := (by first | omega | exact of_decide_eq_true (by assumption)); (try simp only [List.length_take, List.length_drop, Int.reduceToNat] at hcv16e); rw [Nat.min_eq_left (by omega)] at hcv16e; (try (rw [Nat.min_eq_left (by omega)] at hcv16d)); clear hmn_))
                  obtain ⟨i017, hi017, _, hsz17, _⟩ := info_parts info5
                  obtain ⟨A17, hcut17, hA17, hC17⟩ := print_mid_of (P := Try.prog) (Value.int .u8) 0 23 5 .i64 .i64 Try.underlying23 hi017 hsz17 A0 c0 l0 8 12 (by omega) (by first | omega | exact of_decide_eq_true (by first | (with_reducible assumption) | assumption)) (of_decide_eq_true (by first | (with_reducible assumption) | assumption)) HC0.out
                  have HR273 := asiD (Kd.C_of_reads (h1 := fun _ => rfl) (hA17 _ (Kd.reads_of_C HR0.out)))
                  have HC273 := asiD hC17
                  clear hA17 hC17 hi017 hsz17
                  have hcv18 := Kd.C_string (P := Try.prog) (A := A17) (c := (c0 - 8)) Try.underlying23 Try.underlying5 Try.underlying9 (Kd.C_below HR273.out HB.out); have hcv18q := hcv18; (try simp only [List.length_take, List.length_drop, Int.reduceToNat] at hcv18q); have hcv18d := fun nd => Kd.C_string (P := Try.prog) (A := A17) (c := (c0 - 8)) Try.underlying23 Try.underlying5 Try.underlying9 (Kd.C_drewN (Kd.C_below HR273.out HB.out) nd); (try simp only [List.length_take, List.length_drop, Int.reduceToNat] at hcv18d); have hcv18e := hcv18; have hcv18f := hcv18d; (try (have hmn_ : (12 : Int) ≤ (l0.length : Int) := (by first | omega | exact of_decide_eq_true (by assumption)); (try simp only [List.length_take, List.length_drop, Int.reduceToNat] at hcv18e); rw [Nat.min_eq_left (by omega)] at hcv18e; (try (rw [Nat.min_eq_left (by omega)] at hcv18d)); clear hmn_))
                  go_wp2
                  go_meet
                  case rel => exact ⟨_, (((Int.tmod t270 2) != 0)), (by first | rfl | (simp; done) | (simp [*]; done)), H', ⟨by first | omega | exact Nat.le_refl _⟩, ⟨by repeat (first | (with_reducible first | exact HB.out | apply below_alloc | apply pw_below_drewN | apply below_drew1) | exact HB.out)⟩⟩
              · rw [if_neg c9] at H
                have c9b0 : ((strOfNums ((l0.take 12).drop 8)).toList == ([87, 69, 66, 80] : List UInt8)) = false := beq_eq_false_iff_ne.mpr c9
                have c9b1 : ((strOfNums ((l0.take 12).drop 8)).toList != ([87, 69, 66, 80] : List UInt8)) = true := bne_iff_ne.mpr c9
                have H' := asiD H
                clear H
                obtain ⟨i019, hi019, _, hsz19, _⟩ := info_parts info5
                obtain ⟨hcut19, hA19, hC19⟩ := print_take_of (P := Try.prog) (Value.int .u8) 0 23 5 .i64 Try.underlying23 hi019 hsz19 A0 c0 l0 4 (by omega) (of_decide_eq_true (by first | (with_reducible assumption) | assumption)) HC0.out
                have HR272 := asiD (Kd.C_of_reads (h1 := fun _ => rfl) (hA19 _ (Kd.reads_of_C HR0.out)))
                have HC272 := asiD hC19
                clear hA19 hC19 hi019 hsz19
                have hcv20 := Kd.C_string (P := Try.prog) (A := A0) (c := c0) Try.underlying23 Try.underlying5 Try.underlying9 (Kd.C_below HR272.out HB.out); have hcv20q := hcv20; (try simp only [List.length_take, List.length_drop, Int.reduceToNat] at hcv20q); have hcv20d := fun nd => Kd.C_string (P := Try.prog) (A := A0) (c := c0) Try.underlying23 Try.underlying5 Try.underlying9 (Kd.C_drewN (Kd.C_below HR272.out HB.out) nd); (try simp only [List.length_take, List.length_drop, Int.reduceToNat] at hcv20d); have hcv20e := hcv20; have hcv20f := hcv20d; (try (have hmn_ : (12 : Int) ≤ (l0.length : Int) := (by first | omega | exact of_decide_eq_true (by assumption)); (try simp only [List.length_take, List.length_drop, Int.reduceToNat] at hcv20e); rw [Nat.min_eq_left (by omega)] at hcv20e; (try (rw [Nat.min_eq_left (by omega)] at hcv20d)); clear hmn_))
                obtain ⟨i021, hi021, _, hsz21, _⟩ := info_parts info5
                obtain ⟨A21, hcut21, hA21, hC21⟩ := print_mid_of (P := Try.prog) (Value.int .u8) 0 23 5 .i64 .i64 Try.underlying23 hi021 hsz21 A0 c0 l0 8 12 (by omega) (by first | omega | exact of_decide_eq_true (by first | (with_reducible assumption) | assumption)) (of_decide_eq_true (by first | (with_reducible assumption) | assumption)) HC0.out
                have HR273 := asiD (Kd.C_of_reads (h1 := fun _ => rfl) (hA21 _ (Kd.reads_of_C HR0.out)))
                have HC273 := asiD hC21
                clear hA21 hC21 hi021 hsz21
                have hcv22 := Kd.C_string (P := Try.prog) (A := A21) (c := (c0 - 8)) Try.underlying23 Try.underlying5 Try.underlying9 (Kd.C_below HR273.out HB.out); have hcv22q := hcv22; (try simp only [List.length_take, List.length_drop, Int.reduceToNat] at hcv22q); have hcv22d := fun nd => Kd.C_string (P := Try.prog) (A := A21) (c := (c0 - 8)) Try.underlying23 Try.underlying5 Try.underlying9 (Kd.C_drewN (Kd.C_below HR273.out HB.out) nd); (try simp only [List.length_take, List.length_drop, Int.reduceToNat] at hcv22d); have hcv22e := hcv22; have hcv22f := hcv22d; (try (have hmn_ : (12 : Int) ≤ (l0.length : Int) := (by first | omega | exact of_decide_eq_true (by assumption)); (try simp only [List.length_take, List.length_drop, Int.reduceToNat] at hcv22e); rw [Nat.min_eq_left (by omega)] at hcv22e; (try (rw [Nat.min_eq_left (by omega)] at hcv22d)); clear hmn_))
                go_wp2
                go_meet
                case rel => exact ⟨_, (true), (by first | rfl | (simp; done) | (simp [*]; done)), H', ⟨by first | omega | exact Nat.le_refl _⟩, ⟨by repeat (first | (with_reducible first | exact HB.out | apply below_alloc | apply pw_below_drewN | apply below_drew1) | exact HB.out)⟩⟩
            · rw [if_neg c8] at H
              exact absurd H (by simp)
          · rw [if_neg c7] at H
            exact absurd H (by simp)
        · rw [if_neg c6] at H
          have c6b0 : ((strOfNums (l0.take 4)).toList == ([82, 73, 70, 70] : List UInt8)) = false := beq_eq_false_iff_ne.mpr c6
          have c6b1 : ((strOfNums (l0.take 4)).toList != ([82, 73, 70, 70] : List UInt8)) = true := bne_iff_ne.mpr c6
          (first | rw [c6b0] | (simp only [i64_w, i32_w]; rw [c6b0]) | skip)
          have H' := asiD H
          clear H
          obtain ⟨i023, hi023, _, hsz23, _⟩ := info_parts info5
          obtain ⟨hcut23, hA23, hC23⟩ := print_take_of (P := Try.prog) (Value.int .u8) 0 23 5 .i64 Try.underlying23 hi023 hsz23 A0 c0 l0 4 (by omega) (of_decide_eq_true (by first | (with_reducible assumption) | assumption)) HC0.out
          have HR272 := asiD (Kd.C_of_reads (h1 := fun _ => rfl) (hA23 _ (Kd.reads_of_C HR0.out)))
          have HC272 := asiD hC23
          clear hA23 hC23 hi023 hsz23
          have hcv24 := Kd.C_string (P := Try.prog) (A := A0) (c := c0) Try.underlying23 Try.underlying5 Try.underlying9 (Kd.C_below HR272.out HB.out); have hcv24q := hcv24; (try simp only [List.length_take, List.length_drop, Int.reduceToNat] at hcv24q); have hcv24d := fun nd => Kd.C_string (P := Try.prog) (A := A0) (c := c0) Try.underlying23 Try.underlying5 Try.underlying9 (Kd.C_drewN (Kd.C_below HR272.out HB.out) nd); (try simp only [List.length_take, List.length_drop, Int.reduceToNat] at hcv24d); have hcv24e := hcv24; have hcv24f := hcv24d; (try (have hmn_ : (12 : Int) ≤ (l0.length : Int) := (by first | omega | exact of_decide_eq_true (by assumption)); (try simp only [List.length_take, List.length_drop, Int.reduceToNat] at hcv24e); rw [Nat.min_eq_left (by omega)] at hcv24e; (try (rw [Nat.min_eq_left (by omega)] at hcv24d)); clear hmn_))
          go_wp2
          go_meet
          case rel => exact ⟨_, (true), (by first | rfl | (simp; done) | (simp [*]; done)), H', ⟨by first | omega | exact Nat.le_refl _⟩, ⟨by repeat (first | (with_reducible first | exact HB.out | apply below_alloc | apply pw_below_drewN | apply below_drew1) | exact HB.out)⟩⟩
      · rw [if_neg c5] at H
        exact absurd H (by simp)
    case rest =>
      clear HC4
      try clear c1
      try clear hcv1
      try clear c2
      try clear c2b0
      try clear c2b1
      try clear p2
      try clear hcv2
      try clear c4
      try clear c5
      try clear c5b0
      try clear c5b1
      try clear c6
      try clear c6b0
      try clear c6b1
      try clear c7
      try clear c7b0
      try clear c7b1
      try clear c8
      try clear c8b0
      try clear c8b1
      try clear c9
      try clear c9b0
      try clear c9b1
      try clear c10
      try clear c10b0
      try clear hcv12
      try clear hcv14
      try clear hcv16
      try clear hcv18
      try clear hcv20
      try clear hcv22
      try clear hcv24
      obtain ⟨kq, x32_3, rfl, HA, HJ3, HB⟩ := hcut
      cases kq with
      | zero => exact absurd HA.out (by simp [marquetryref24_Scan.j0])
      | succ kj3 =>
        have H := HA.out
        clear HA
        simp only [marquetryref24_Scan.j0] at H
        by_cases c25 : x32_3 = true
        · subst c25
          have H1 : (some (([] : List (S42)), 3)) = some (r1, r2) := by rw [if_pos rfl] at H; exact H
          clear H
          have H := H1
          clear H1
          simp only [Option.some.injEq, Prod.mk.injEq] at H
          obtain ⟨rfl, rfl⟩ := H
          go_wp2
          go_ret2
          exact ⟨_, by first | rfl | (simp [errW_none, errW_some] <;> rfl) | (simp [*, errW_none, errW_some] <;> rfl), by first | exact Kd.S_nil _ _ _ _ _ | exact Kd.N_nil _ _ _ _ _ | exact Kd.V_nil _ _ _ _ _ | exact Kd.Q_nil _ _ _ _ _ | exact Kd.R_nil _ _ _ _ _, by repeat (first | (with_reducible first | exact HB.out | apply below_alloc | apply pw_below_drewN | apply below_drew1) | exact HB.out)⟩
        · replace c25 := Bool.eq_false_iff.mpr c25
          subst c25
          have H1 : (if t270 > (IntKind.u64.wrap (wrap64 ((l0.length : Int) - 8))) then (some (([] : List (S42)), 2)) else (if 12 ≤ (wrap64 (8 + (wrap64 (t270)))) then (if (wrap64 (8 + (wrap64 (t270)))) ≤ (l0.length : Int) then ((marquetryref24_Inner.f kj3 ((l0.take ((wrap64 (8 + (wrap64 (t270)))) : Int).toNat).drop 12)).bind fun bt275 => (some (bt275.1, bt275.2))) else (none)) else (none))) = some (r1, r2) := by rw [if_neg (show ¬ (false = true) by decide)] at H; exact H
          clear H
          have H := H1
          clear H1
          by_cases c26 : t270 > (IntKind.u64.wrap (wrap64 ((l0.length : Int) - 8)))
          · rw [if_pos c26] at H
            have c26b0 : decide ((IntKind.u64.wrap (wrap64 ((l0.length : Int) - 8))) < t270) = true := decide_eq_true c26
            clear c26
            simp only [Option.some.injEq, Prod.mk.injEq] at H
            obtain ⟨rfl, rfl⟩ := H
            go_wp2
            go_ret2
            exact ⟨_, by first | rfl | (simp [errW_none, errW_some] <;> rfl) | (simp [*, errW_none, errW_some] <;> rfl), by first | exact Kd.S_nil _ _ _ _ _ | exact Kd.N_nil _ _ _ _ _ | exact Kd.V_nil _ _ _ _ _ | exact Kd.Q_nil _ _ _ _ _ | exact Kd.R_nil _ _ _ _ _, by repeat (first | (with_reducible first | exact HB.out | apply below_alloc | apply pw_below_drewN | apply below_drew1) | exact HB.out)⟩
          · rw [if_neg c26] at H
            have c26b0 : decide ((IntKind.u64.wrap (wrap64 ((l0.length : Int) - 8))) < t270) = false := decide_eq_false c26
            clear c26
            by_cases c27 : 12 ≤ (wrap64 (8 + (wrap64 (t270))))
            · rw [if_pos c27] at H
              have c27b0 := eq_true c27
              have c27b1 : decide (12 ≤ (wrap64 (8 + (wrap64 (t270))))) = true := decide_eq_true c27
              by_cases c28 : (wrap64 (8 + (wrap64 (t270)))) ≤ (l0.length : Int)
              · rw [if_pos c28] at H
                have c28b0 := eq_true c28
                have c28b1 : decide ((wrap64 (8 + (wrap64 (t270)))) ≤ (l0.length : Int)) = true := decide_eq_true c28
                replace H := Option.bind_eq_some_iff.mp H
                obtain ⟨⟨t275, t276⟩, A290, H⟩ := H
                replace H : (some (t275, t276)) = some (r1, r2) := H
                have A29 := asiD A290
                clear A290
                simp only [Option.some.injEq, Prod.mk.injEq] at H
                obtain ⟨rfl, rfl⟩ := H
                obtain ⟨i030, hi030, _, hsz30, _⟩ := info_parts info5
                obtain ⟨A30, hcut30, hA30, hC30⟩ := print_mid_of (P := Try.prog) (Value.int .u8) 0 23 5 .i64 .i64 Try.underlying23 hi030 hsz30 A0 c0 l0 12 (wrap64 (8 + (wrap64 (t270)))) (by omega) (by first | omega | exact of_decide_eq_true (by first | (with_reducible assumption) | assumption)) (of_decide_eq_true (by first | (with_reducible assumption) | assumption)) HC0.out
                have HR274 := asiD (Kd.C_of_reads (h1 := fun _ => rfl) (hA30 _ (Kd.reads_of_C HR0.out)))
                have HC274 := asiD hC30
                clear hA30 hC30 hi030 hsz30
                go_wp2_with (first | ((with_reducible refine gate_callee (f := 52) rfl ?_); refine goesL_ (some 44) rfl rfl Try.func52 (by kernel_rfl) rfl #[.slice A30 ((l0.take ((wrap64 (8 + (wrap64 (t270)))) : Int).toNat).drop 12).length (c0 - 12)] rfl (by (try simp only [List.map_toArray, List.map_cons, List.map_nil]); first | done | (rw [show ((l0.take ((wrap64 (8 + (wrap64 (t270)))) : Int).toNat).drop 12).length = ((wrap64 (8 + (wrap64 (t270)))).toNat - 12) from (by rw [List.length_drop, List.length_take]; have h_ : ((wrap64 (8 + (wrap64 (t270)))) : Int) ≤ (l0.length : Int) := of_decide_eq_true (by first | (with_reducible assumption) | assumption); omega)] <;> rfl) | rfl | (simp only [List.length_drop, List.length_take]; rfl)) ?_; (with_reducible refine (marquetryref24_Inner.calls kj3 _ _ ((l0.take ((wrap64 (8 + (wrap64 (t270)))) : Int).toNat).drop 12) t275 t276 _ ?side1 ?side2 A29.out).mono ?_); (case side1 => repeat (first | exact (Kd.C_below HR274.out HB.out) | (with_reducible refine Kd.C_alloc ?_ _) | (with_reducible refine Kd.C_drewN ?_ _) | (with_reducible refine Kd.C_drew ?_))); (case side2 => exact HC274.out); rintro e w31 ⟨v277, rfl, ho0, hb⟩; refine ⟨_, rfl, ?_⟩; have n0_ := asiD (Kd.S_lower ho0 (below_size (by repeat (first | (with_reducible first | exact HB.out | apply below_alloc | apply pw_below_drewN | apply below_drew1) | exact HB.out)))); have n1_ := asiD (below_step (by repeat (first | (with_reducible first | exact HB.out | apply below_alloc | apply pw_below_drewN | apply below_drew1) | exact HB.out)) hb); clear HB; have HO278 := n0_; have HB := n1_; clear n0_ n1_; (try clear hb); (try clear hb2); (try clear hk); (try clear hi); (try clear ho0)) | (go_at_call 52; (with_reducible refine (marquetryref24_Inner.calls kj3 _ _ ((l0.take ((wrap64 (8 + (wrap64 (t270)))) : Int).toNat).drop 12) t275 t276 _ ?side1 ?side2 A29.out).mono ?_); (case side1 => repeat (first | exact (Kd.C_below HR274.out HB.out) | (with_reducible refine Kd.C_alloc ?_ _) | (with_reducible refine Kd.C_drewN ?_ _) | (with_reducible refine Kd.C_drew ?_))); (case side2 => exact HC274.out); rintro e w31 ⟨v277, rfl, ho0, hb⟩; have n0_ := asiD (Kd.S_lower ho0 (below_size (by repeat (first | (with_reducible first | exact HB.out | apply below_alloc | apply pw_below_drewN | apply below_drew1) | exact HB.out)))); have n1_ := asiD (below_step (by repeat (first | (with_reducible first | exact HB.out | apply below_alloc | apply pw_below_drewN | apply below_drew1) | exact HB.out)) hb); clear HB; have HO278 := n0_; have HB := n1_; clear n0_ n1_; (try clear hb); (try clear hb2); (try clear hk); (try clear hi); (try clear ho0)))
                go_ret2
                exact ⟨_, by first | rfl | (simp [errW_none, errW_some] <;> rfl) | (simp [*, errW_none, errW_some] <;> rfl), by (with_reducible repeat (first | apply Kd.S_alloc | apply Kd.S_drewN | apply Kd.S_drew)); exact HO278.out, by repeat (first | (with_reducible first | exact HB.out | apply below_alloc | apply pw_below_drewN | apply below_drew1) | exact HB.out)⟩
              · rw [if_neg c28] at H
                exact absurd H (by simp)
            · rw [if_neg c27] at H
              exact absurd H (by simp)
end Go.Proofs.Ythkocpcjcpohcaa.P
end
