/- The part of our texts, and of the print's, that these laws' proofs use. -/
import Derived.Test.YthkocpcjcpohcaaZA3
import Derived.Laws.BitsLemmas
import Derived.BigGuardPart
import Derived.Deep.CutRange
import Derived.Test.YthkocpcjcpohcaaProg
import Derived.Below
import Derived.Deep.Draws
import Derived.Deep.AppendLies
import Derived.Maps.AppendAt
import Derived.OwnWalk
import Derived.Laws.BytesArg
import Derived.Laws.MakeOwn
import Derived.Laws.OwnMore
import Derived.Deep.OwnRows
import Derived.Tactics
import Derived.Lib.ConvBytes
import Derived.Laws.Slices
import Derived.WalkKit
import Derived.KernelRfl
import Derived.RowKit3
import Derived.Deep.LoopGhost
import Derived.Deep.QuietTactic
import Derived.BigQuiet
import Derived.WideLaws
import Derived.Deep.DeepCutAuto
import Derived.Deep.CutBlock
import Derived.Deep.RegionHeld3
import Derived.Laws.Rows
import Derived.Lib.AppendStr
import Derived.ArgAppend
import Derived.Laws.IdiomCopy
import Derived.OrdersHeld
import Derived.RowKit
import Derived.LoopN
import Derived.Handy
import Derived.Lib.Hide
import Derived.StillTailTactics
import Derived.Deep.RegionLaw
import Derived.Deep.RegionWith
import Derived.Lib.SliceRun
section
namespace Go.Proofs.Ythkocpcjcpohcaa.P
open Go.RowKit Go.Proofs.YthkocpcjcpohcaaW.PrintWords Go.Proofs.YthkocpcjcpohcaaW.PrintLast Go.Proofs.YthkocpcjcpohcaaW.PrintMore
attribute [local go_sem] max2_int min2_int max_two min_two max_three min_three max_four min_four   -- for this text's walks alone
set_option linter.unusedVariables false
set_option linter.unusedSimpArgs false
mutual
def marquetryref01_Get.j0 : Nat → List Int → Int → Int → Bool → Option (Int × Bool)
  | 0, _, _, _, _ => none
  | k + 1, x0, x1, x2, x33 => if x33 = true then (some (0, false)) else (marquetryref01_Get.l0 k x0 x1 0 (wrap64 (x2 - 1)))
def marquetryref01_Get.l0 : Nat → List Int → Int → Int → Int → Option (Int × Bool)
  | 0, _, _, _, _ => none
  | k + 1, x0, x1, x8, x9 => if x9 ≥ 0 then (if 0 ≤ (wrap64 (x1 + x9)) then (if (wrap64 (x1 + x9)) < (x0.length : Int) then (marquetryref01_Get.l0 k x0 x1 (IntKind.u64.wrap ((IntKind.u64.wrap (x8 * 256)) + (IntKind.u64.wrap (rd x0 (wrap64 (x1 + x9)))))) (wrap64 (x9 - 1))) else (none)) else (none)) else (some (x8, true))
end
def marquetryref01_Get.f (k : Nat) (l0 : List Int) (a1 : Int) (a2 : Int) : Option (Int × Bool) := if a2 < 1 then (marquetryref01_Get.j0 k l0 a1 a2 true) else (if a2 > 8 then (marquetryref01_Get.j0 k l0 a1 a2 true) else (if a1 < 0 then (marquetryref01_Get.j0 k l0 a1 a2 true) else (if a1 > (l0.length : Int) then (marquetryref01_Get.j0 k l0 a1 a2 true) else (marquetryref01_Get.j0 k l0 a1 a2 (decide (a2 > (wrap64 ((l0.length : Int) - a1))))))))
theorem marquetryref01_Get.mono_l : ∀ k, (∀ y0 y1 y2 y3, LeO (marquetryref01_Get.j0 k y0 y1 y2 y3) (marquetryref01_Get.j0 (k + 1) y0 y1 y2 y3)) ∧ (∀ y0 y1 y2 y3, LeO (marquetryref01_Get.l0 k y0 y1 y2 y3) (marquetryref01_Get.l0 (k + 1) y0 y1 y2 y3))
  | 0 => ⟨fun _ _ _ _ r h => by simp [marquetryref01_Get.j0] at h, fun _ _ _ _ r h => by simp [marquetryref01_Get.l0] at h⟩
  | k + 1 => by
    obtain ⟨ih0, ih1⟩ := marquetryref01_Get.mono_l k
    refine ⟨?_, ?_⟩
    · intro y0 y1 y2 y3
      unfold marquetryref01_Get.j0
      repeat' first
      | (with_reducible exact ih0 _ _ _ _)
      | (with_reducible exact ih1 _ _ _ _)
      | (with_reducible exact LeO.refl _)
      | (with_reducible exact LeO.none _)
      | (with_reducible refine LeO.ite ?_ ?_)
      | (with_reducible refine LeO.bind ?_ (fun _ => ?_))
      | exact ih0 _ _ _ _
      | exact ih1 _ _ _ _
      | exact LeO.none _
      | refine LeO.ite ?_ ?_
      | refine LeO.bind ?_ (fun _ => ?_)
    · intro y0 y1 y2 y3
      unfold marquetryref01_Get.l0
      repeat' first
      | (with_reducible exact ih0 _ _ _ _)
      | (with_reducible exact ih1 _ _ _ _)
      | (with_reducible exact LeO.refl _)
      | (with_reducible exact LeO.none _)
      | (with_reducible refine LeO.ite ?_ ?_)
      | (with_reducible refine LeO.bind ?_ (fun _ => ?_))
      | exact ih0 _ _ _ _
      | exact ih1 _ _ _ _
      | exact LeO.none _
      | refine LeO.ite ?_ ?_
      | refine LeO.bind ?_ (fun _ => ?_)
theorem marquetryref01_Get.mono : ∀ a0 a1 a2 k, LeO (marquetryref01_Get.f k a0 a1 a2) (marquetryref01_Get.f (k + 1) a0 a1 a2) := by
  intro a0 a1 a2 k
  obtain ⟨ih0, ih1⟩ := marquetryref01_Get.mono_l k
  unfold marquetryref01_Get.f
  repeat' first
      | (with_reducible exact ih0 _ _ _ _)
      | (with_reducible exact ih1 _ _ _ _)
      | (with_reducible exact LeO.refl _)
      | (with_reducible exact LeO.none _)
      | (with_reducible refine LeO.ite ?_ ?_)
      | (with_reducible refine LeO.bind ?_ (fun _ => ?_))
      | exact ih0 _ _ _ _
      | exact ih1 _ _ _ _
      | exact LeO.none _
      | refine LeO.ite ?_ ?_
      | refine LeO.bind ?_ (fun _ => ?_)
set_option maxHeartbeats 8000000 in
set_option maxRecDepth 100000 in
theorem marquetryref01_Get.calls (k : Nat) (A0 : Option Addr) (c0 : Nat) (l0 : List Int) (a1 : Int) (a2 : Int) (r1 : Int) (r2 : Bool) (w : World) (hr0 : Kd.C (Kd.int .u8) w A0 l0.length l0) (hc0 : l0.length ≤ c0) (h : marquetryref01_Get.f k l0 a1 a2 = some (r1, r2)) :
    Calls Try.prog 76 #[.slice A0 l0.length c0, .int .i64 a1, .int .i64 a2] w fun e w' => e = .returned (.tuple #[.int .u64 r1, .bool r2]) ∧ Drawn0 w w' := by
  have HR0 := Aside0.mk hr0
  have HC0 := Aside0.mk hc0
  clear hr0 hc0
  have H : (if a2 < 1 then (marquetryref01_Get.j0 k l0 a1 a2 true) else (if a2 > 8 then (marquetryref01_Get.j0 k l0 a1 a2 true) else (if a1 < 0 then (marquetryref01_Get.j0 k l0 a1 a2 true) else (if a1 > (l0.length : Int) then (marquetryref01_Get.j0 k l0 a1 a2 true) else (marquetryref01_Get.j0 k l0 a1 a2 (decide (a2 > (wrap64 ((l0.length : Int) - a1))))))))) = some (r1, r2) := h
  clear h
  have HC4 := Aside0.mk H
  clear H
  go_enter Try.func76, Try.ntmps76
  go_upto_region 1 with (fail)
  go_cut [33] (fun v33 wc => ∃ (kq : Nat) (x33_3 : Bool), v33 = .bool x33_3 ∧ Aside0 (marquetryref01_Get.j0 kq l0 a1 a2 x33_3 = some (r1, r2)) ∧ Aside0 (kq ≤ k) ∧ Drawn0 w wc)
  case first =>
    have H := HC4.out
    clear HC4
    by_cases c5 : a2 < 1
    · rw [if_pos c5] at H
      have c5b0 : decide (a2 < 1) = true := decide_eq_true c5
      clear c5
      (first | rw [c5b0] | (simp only [i64_w, i32_w]; rw [c5b0]) | skip)
      have H' := Aside0.mk H
      clear H
      go_wp2
      go_meet
      case rel => exact ⟨_, (true), (by first | rfl | (simp; done) | (simp [*]; done)), H', ⟨by first | omega | exact Nat.le_refl _⟩, by repeat (first | exact Drawn0.refl _ | apply Drawn0.step)⟩
    · rw [if_neg c5] at H
      have c5b0 : decide (a2 < 1) = false := decide_eq_false c5
      clear c5
      (first | rw [c5b0] | (simp only [i64_w, i32_w]; rw [c5b0]) | skip)
      by_cases c6 : a2 > 8
      · rw [if_pos c6] at H
        have c6b0 : decide (8 < a2) = true := decide_eq_true c6
        clear c6
        have H' := Aside0.mk H
        clear H
        go_wp2
        go_meet
        case rel => exact ⟨_, (true), (by first | rfl | (simp; done) | (simp [*]; done)), H', ⟨by first | omega | exact Nat.le_refl _⟩, by repeat (first | exact Drawn0.refl _ | apply Drawn0.step)⟩
      · rw [if_neg c6] at H
        have c6b0 : decide (8 < a2) = false := decide_eq_false c6
        clear c6
        by_cases c7 : a1 < 0
        · rw [if_pos c7] at H
          have c7b0 : decide (a1 < 0) = true := decide_eq_true c7
          clear c7
          have H' := Aside0.mk H
          clear H
          go_wp2
          go_meet
          case rel => exact ⟨_, (true), (by first | rfl | (simp; done) | (simp [*]; done)), H', ⟨by first | omega | exact Nat.le_refl _⟩, by repeat (first | exact Drawn0.refl _ | apply Drawn0.step)⟩
        · rw [if_neg c7] at H
          have c7b0 : decide (a1 < 0) = false := decide_eq_false c7
          clear c7
          by_cases c8 : a1 > (l0.length : Int)
          · rw [if_pos c8] at H
            have c8b0 : decide ((l0.length : Int) < a1) = true := decide_eq_true c8
            clear c8
            have H' := Aside0.mk H
            clear H
            go_wp2
            go_meet
            case rel => exact ⟨_, (true), (by first | rfl | (simp; done) | (simp [*]; done)), H', ⟨by first | omega | exact Nat.le_refl _⟩, by repeat (first | exact Drawn0.refl _ | apply Drawn0.step)⟩
          · rw [if_neg c8] at H
            have c8b0 : decide ((l0.length : Int) < a1) = false := decide_eq_false c8
            clear c8
            have H' := Aside0.mk H
            clear H
            go_wp2
            go_meet
            case rel => exact ⟨_, (decide (a2 > (wrap64 ((l0.length : Int) - a1)))), (by first | rfl | (simp; done) | (simp [*]; done)), H', ⟨by first | omega | exact Nat.le_refl _⟩, by repeat (first | exact Drawn0.refl _ | apply Drawn0.step)⟩
  case rest =>
    clear HC4
    try clear p2
    try clear c5
    try clear c5b0
    try clear c6
    try clear c6b0
    try clear p6
    try clear c7
    try clear c7b0
    try clear c8
    try clear c8b0
    obtain ⟨kq, x33_3, rfl, HA, HJ3, ⟨mc3, rfl⟩⟩ := hcut
    cases kq with
    | zero => exact absurd HA.out (by simp [marquetryref01_Get.j0])
    | succ kj3 =>
      have H := HA.out
      clear HA
      simp only [marquetryref01_Get.j0] at H
      by_cases c9 : x33_3 = true
      · subst c9
        have H1 : (some (0, false)) = some (r1, r2) := by rw [if_pos rfl] at H; exact H
        clear H
        have H := H1
        clear H1
        simp only [Option.some.injEq, Prod.mk.injEq] at H
        obtain ⟨rfl, rfl⟩ := H
        go_wp2
        go_ret2
        exact ⟨by first | rfl | (simp; done) | (simp [*]; done), by repeat (first | exact Drawn0.refl _ | apply Drawn0.step)⟩
      · replace c9 := Bool.eq_false_iff.mpr c9
        subst c9
        have H1 : (marquetryref01_Get.l0 kj3 l0 a1 0 (wrap64 (a2 - 1))) = some (r1, r2) := by rw [if_neg (show ¬ (false = true) by decide)] at H; exact H
        clear H
        have H := H1
        clear H1
        have H' := Aside0.mk H
        clear H
        go_wp2
        go_loopg [8, 9] kj3 (fun kq v8 v9 w' => ∃ (x8_2 : Int) (x9_2 : Int), v8 = .int .u64 x8_2 ∧ v9 = .int .i64 x9_2 ∧ Aside0 (marquetryref01_Get.l0 kq l0 a1 x8_2 x9_2 = some (r1, r2)) ∧ Aside0 (kq ≤ kj3) ∧ Drawn0 w w')
        case atStart => exact ⟨(0), (wrap64 (a2 - 1)), (by first | rfl | (simp; done) | (simp [*]; done)), (by first | rfl | (simp; done) | (simp [*]; done)), H', ⟨Nat.le_refl _⟩, by repeat (first | exact Drawn0.refl _ | apply Drawn0.step)⟩
        case round =>
          clear H'
          try clear p2
          try clear c3
          try clear c5
          try clear c5b0
          try clear c6
          try clear c6b0
          try clear p6
          try clear c7
          try clear c7b0
          try clear c8
          try clear c8b0
          try clear c9
          try clear p2
          try clear p6
          obtain ⟨x8_2, x9_2, rfl, rfl, HA, HK2, ⟨m2, rfl⟩⟩ := hrel
          cases gk with
          | zero => exact absurd HA.out (by simp [marquetryref01_Get.l0])
          | succ k2 =>
            have H := HA.out
            clear HA
            simp only [marquetryref01_Get.l0] at H
            by_cases c10 : x9_2 ≥ 0
            · rw [if_pos c10] at H
              have c10b0 : decide (0 ≤ x9_2) = true := decide_eq_true c10
              clear c10
              obtain ⟨ji11, hji11⟩ : ∃ j_ : Int, (wrap64 (a1 + x9_2)) = j_ := ⟨_, rfl⟩
              replace H : (if 0 ≤ (ji11) then (if (ji11) < (l0.length : Int) then (marquetryref01_Get.l0 k2 l0 a1 (IntKind.u64.wrap ((IntKind.u64.wrap (x8_2 * 256)) + (IntKind.u64.wrap (rd l0 (ji11))))) (wrap64 (x9_2 - 1))) else (none)) else (none)) = some (r1, r2) := by first | (rw [hji11] at H; exact H) | (simp only [hji11] at H ⊢; exact H)
              have hji11w : (IntKind.i64.wrap (a1 + x9_2)) = ji11 := (i64_w _).trans hji11
              by_cases c12 : 0 ≤ (ji11)
              · rw [if_pos c12] at H
                have c12b0 : decide (0 ≤ (ji11)) = true := decide_eq_true c12
                clear c12
                by_cases c13 : (ji11) < (l0.length : Int)
                · rw [if_pos c13] at H
                  have c13b0 : decide ((ji11) < (l0.length : Int)) = true := decide_eq_true c13
                  clear c13
                  have H' := Aside0.mk H
                  clear H
                  have p254 : 0 ≤ ((ji11) : Int) := of_decide_eq_true (by first | (with_reducible assumption) | assumption)
                  have q254 : (ji11) < (l0.length : Int) := of_decide_eq_true (by first | (with_reducible assumption) | assumption)
                  obtain ⟨ad254, e254, hx254_0⟩ := Kd.at_int HR0.out (ji11) p254 q254
                  cases e254
                  replace p254 := eq_true p254
                  replace q254 := eq_true q254
                  go_wp2
                  go_roundg k2
                  case measure => have := HJ3.out; have := HK2.out; omega
                  case rel => exact ⟨(IntKind.u64.wrap ((IntKind.u64.wrap (x8_2 * 256)) + (IntKind.u64.wrap (rd l0 (ji11))))), (wrap64 (x9_2 - 1)), (by first | rfl | (simp; done) | (simp only [← hji11] <;> (first | rfl | simp)) | (simp [*]; done)), (by first | rfl | (simp; done) | (simp [*]; done)), H', ⟨by have := HJ3.out; have := HK2.out; omega⟩, by repeat (first | exact Drawn0.refl _ | apply Drawn0.step)⟩
                · rw [if_neg c13] at H
                  exact absurd H (by simp)
              · rw [if_neg c12] at H
                exact absurd H (by simp)
            · rw [if_neg c10] at H
              have c10b0 : decide (0 ≤ x9_2) = false := decide_eq_false c10
              clear c10
              simp only [Option.some.injEq, Prod.mk.injEq] at H
              obtain ⟨rfl, rfl⟩ := H
              go_wp2
              go_ret2
              exact ⟨by first | rfl | (simp; done) | (simp [*]; done), by repeat (first | exact Drawn0.refl _ | apply Drawn0.step)⟩
mutual
def marquetryref24_Inner.l0 : Nat → List Int → List (S42) → Int → Option ((List (S42)) × Int)
  | 0, _, _, _ => none
  | k + 1, x0, x4, x5 => if x5 < (x0.length : Int) then (if (wrap64 (x5 + 4)) > (x0.length : Int) then (some (([] : List (S42)), 2)) else (if 0 ≤ x5 then (if x5 ≤ (wrap64 (x5 + 4)) then (if (wrap64 (x5 + 4)) ≤ (x0.length : Int) then ((marquetryref24_Name.f k (strOfNums ((x0.take ((wrap64 (x5 + 4)) : Int).toNat).drop (x5 : Int).toNat))).bind fun t256 => (if t256 = true then ((marquetryref01_Get.f k x0 (wrap64 (x5 + 4)) 4).bind fun bt257 => (if bt257.2 = true then (marquetryref24_Inner.j1 k x0 x4 x5 (strOfNums ((x0.take ((wrap64 (x5 + 4)) : Int).toNat).drop (x5 : Int).toNat)) bt257.1 (decide (bt257.1 > (IntKind.u64.wrap (wrap64 ((wrap64 ((x0.length : Int) - x5)) - 8)))))) else (marquetryref24_Inner.j1 k x0 x4 x5 (strOfNums ((x0.take ((wrap64 (x5 + 4)) : Int).toNat).drop (x5 : Int).toNat)) bt257.1 true))) else (some (([] : List (S42)), 3)))) else (none)) else (none)) else (none))) else (some (x4, 0))
def marquetryref24_Inner.j1 : Nat → List Int → List (S42) → Int → ByteArray → Int → Bool → Option ((List (S42)) × Int)
  | 0, _, _, _, _, _, _ => none
  | k + 1, x0, x4, x5, x6, x7, x46 => if x46 = true then (some (([] : List (S42)), 2)) else ((some (([] : List Int) : List Int)).bind fun y259 => (if 0 ≤ (wrap64 (x5 + 8)) then (if (wrap64 (x5 + 8)) ≤ (wrap64 ((wrap64 (x5 + 8)) + (wrap64 (x7)))) then (if (wrap64 ((wrap64 (x5 + 8)) + (wrap64 (x7)))) ≤ (x0.length : Int) then (if y259.length + ((x0.take ((wrap64 ((wrap64 (x5 + 8)) + (wrap64 (x7)))) : Int).toNat).drop ((wrap64 (x5 + 8)) : Int).toNat).length < 140737488355328 then (if x4.length < 3518437208883 then ((some (x4 ++ [(⟨x6, (y259 ++ ((x0.take ((wrap64 ((wrap64 (x5 + 8)) + (wrap64 (x7)))) : Int).toNat).drop ((wrap64 (x5 + 8)) : Int).toNat))⟩ : S42)] : List (S42))).bind fun y266 => (if (Int.tmod (wrap64 (x7)) 2) = 1 then (if (wrap64 ((wrap64 (x5 + 8)) + (wrap64 (x7)))) = (x0.length : Int) then (some (([] : List (S42)), 2)) else (if 0 ≤ (wrap64 ((wrap64 (x5 + 8)) + (wrap64 (x7)))) then (if (wrap64 ((wrap64 (x5 + 8)) + (wrap64 (x7)))) < (x0.length : Int) then (if (rd x0 (wrap64 ((wrap64 (x5 + 8)) + (wrap64 (x7))))) = 0 then (marquetryref24_Inner.l0 k x0 y266 (wrap64 ((wrap64 ((wrap64 (x5 + 8)) + (wrap64 (x7)))) + 1))) else (some (([] : List (S42)), 3))) else (none)) else (none))) else (marquetryref24_Inner.l0 k x0 y266 (wrap64 ((wrap64 (x5 + 8)) + (wrap64 (x7))))))) else (none)) else (none)) else (none)) else (none)) else (none)))
end
def marquetryref24_Inner.f (k : Nat) (l0 : List Int) : Option ((List (S42)) × Int) := marquetryref24_Inner.l0 k l0 ([] : List (S42)) 0
theorem marquetryref24_Inner.mono_l : ∀ k, (∀ y0 y1 y2, LeO (marquetryref24_Inner.l0 k y0 y1 y2) (marquetryref24_Inner.l0 (k + 1) y0 y1 y2)) ∧ (∀ y0 y1 y2 y3 y4 y5, LeO (marquetryref24_Inner.j1 k y0 y1 y2 y3 y4 y5) (marquetryref24_Inner.j1 (k + 1) y0 y1 y2 y3 y4 y5))
  | 0 => ⟨fun _ _ _ r h => by simp [marquetryref24_Inner.l0] at h, fun _ _ _ _ _ _ r h => by simp [marquetryref24_Inner.j1] at h⟩
  | k + 1 => by
    obtain ⟨ih0, ih1⟩ := marquetryref24_Inner.mono_l k
    refine ⟨?_, ?_⟩
    · intro y0 y1 y2
      unfold marquetryref24_Inner.l0
      repeat' first
      | (with_reducible exact ih0 _ _ _)
      | (with_reducible exact ih1 _ _ _ _ _ _)
      | (with_reducible exact marquetryref01_Get.mono _ _ _ _)
      | (with_reducible exact marquetryref24_Name.mono _ _)
      | (with_reducible exact LeO.refl _)
      | (with_reducible exact LeO.none _)
      | (with_reducible refine LeO.ite ?_ ?_)
      | (with_reducible refine LeO.bind ?_ (fun _ => ?_))
      | exact ih0 _ _ _
      | exact ih1 _ _ _ _ _ _
      | exact marquetryref01_Get.mono _ _ _ _
      | exact marquetryref24_Name.mono _ _
      | exact LeO.none _
      | refine LeO.ite ?_ ?_
      | refine LeO.bind ?_ (fun _ => ?_)
    · intro y0 y1 y2 y3 y4 y5
      unfold marquetryref24_Inner.j1
      repeat' first
      | (with_reducible exact ih0 _ _ _)
      | (with_reducible exact ih1 _ _ _ _ _ _)
      | (with_reducible exact marquetryref01_Get.mono _ _ _ _)
      | (with_reducible exact marquetryref24_Name.mono _ _)
      | (with_reducible exact LeO.refl _)
      | (with_reducible exact LeO.none _)
      | (with_reducible refine LeO.ite ?_ ?_)
      | (with_reducible refine LeO.bind ?_ (fun _ => ?_))
      | exact ih0 _ _ _
      | exact ih1 _ _ _ _ _ _
      | exact marquetryref01_Get.mono _ _ _ _
      | exact marquetryref24_Name.mono _ _
      | exact LeO.none _
      | refine LeO.ite ?_ ?_
      | refine LeO.bind ?_ (fun _ => ?_)
theorem marquetryref24_Inner.mono : ∀ a0 k, LeO (marquetryref24_Inner.f k a0) (marquetryref24_Inner.f (k + 1) a0) := by
  intro a0 k
  obtain ⟨ih0, ih1⟩ := marquetryref24_Inner.mono_l k
  unfold marquetryref24_Inner.f
  repeat' first
      | (with_reducible exact ih0 _ _ _)
      | (with_reducible exact ih1 _ _ _ _ _ _)
      | (with_reducible exact marquetryref01_Get.mono _ _ _ _)
      | (with_reducible exact marquetryref24_Name.mono _ _)
      | (with_reducible exact LeO.refl _)
      | (with_reducible exact LeO.none _)
      | (with_reducible refine LeO.ite ?_ ?_)
      | (with_reducible refine LeO.bind ?_ (fun _ => ?_))
      | exact ih0 _ _ _
      | exact ih1 _ _ _ _ _ _
      | exact marquetryref01_Get.mono _ _ _ _
      | exact marquetryref24_Name.mono _ _
      | exact LeO.none _
      | refine LeO.ite ?_ ?_
      | refine LeO.bind ?_ (fun _ => ?_)
set_option maxHeartbeats 8000000 in
set_option maxRecDepth 100000 in
theorem marquetryref24_Inner.calls (k : Nat) (A0 : Option Addr) (c0 : Nat) (l0 : List Int) (r1 : List (S42)) (r2 : Int) (w : World) (hr0 : Kd.C (Kd.int .u8) w A0 l0.length l0) (hc0 : l0.length ≤ c0) (h : marquetryref24_Inner.f k l0 = some (r1, r2)) :
    Calls Try.prog 52 #[.slice A0 l0.length c0] w fun e w' => ∃ v0_ : Value, e = .returned (.tuple #[v0_, .int .i64 r2]) ∧ Kd.S k42 42 w' w.heap.size (fun _ => True) v0_ r1 ∧ Below w.heap.size w w' := by
  have hu42 := Try.underlying42
  have HR0 := Aside0.mk hr0
  have HC0 := Aside0.mk hc0
  clear hr0 hc0
  have HB := Aside0.mk (Below.refl w.heap.size w)
  have H : (marquetryref24_Inner.l0 k l0 ([] : List (S42)) 0) = some (r1, r2) := h
  clear h
  have H' := Aside0.mk H
  clear H
  go_enter Try.func52, Try.ntmps52
  go_wp2
  go_loopg [4, 5] k (fun kq v4 v5 w' => ∃ (x4_1 : List (S42)) (x5_1 : Int), v5 = .int .i64 x5_1 ∧ Aside0 (marquetryref24_Inner.l0 kq l0 x4_1 x5_1 = some (r1, r2)) ∧ Aside0 (kq ≤ k) ∧ Aside0 (Kd.S k42 42 w' w.heap.size (fun _ => True) v4 x4_1) ∧ Aside0 (Below w.heap.size w w'))
  case atStart => exact ⟨(([] : List (S42))), (0), (by first | rfl | (simp; done) | (simp [*]; done)), H', ⟨Nat.le_refl _⟩, ⟨by first | exact Kd.S_nil _ _ _ _ _ | exact Kd.N_nil _ _ _ _ _ | exact Kd.V_nil _ _ _ _ _ | exact Kd.Q_nil _ _ _ _ _ | exact Kd.R_nil _ _ _ _ _⟩, ⟨by repeat (first | (with_reducible first | exact HB.out | apply below_alloc | apply pw_below_drewN | apply below_drew1) | exact HB.out)⟩⟩
  case round =>
    clear H'
    obtain ⟨x4_1, x5_1, rfl, HA, HK1, HO_4, HB⟩ := hrel
    cases gk with
    | zero => exact absurd HA.out (by simp [marquetryref24_Inner.l0])
    | succ k1 =>
      have H := HA.out
      clear HA
      simp only [marquetryref24_Inner.l0] at H
      by_cases c2 : x5_1 < (l0.length : Int)
      · rw [if_pos c2] at H
        have c2b0 : decide (x5_1 < (l0.length : Int)) = true := decide_eq_true c2
        clear c2
        by_cases c3 : (wrap64 (x5_1 + 4)) > (l0.length : Int)
        · rw [if_pos c3] at H
          have c3b0 : decide ((l0.length : Int) < (wrap64 (x5_1 + 4))) = true := decide_eq_true c3
          clear c3
          simp only [Option.some.injEq, Prod.mk.injEq] at H
          obtain ⟨rfl, rfl⟩ := H
          go_wp2
          go_ret2
          exact ⟨_, by first | rfl | (simp [errW_none, errW_some] <;> rfl) | (simp [*, errW_none, errW_some] <;> rfl), by first | exact Kd.S_nil _ _ _ _ _ | exact Kd.N_nil _ _ _ _ _ | exact Kd.V_nil _ _ _ _ _ | exact Kd.Q_nil _ _ _ _ _ | exact Kd.R_nil _ _ _ _ _, by repeat (first | (with_reducible first | exact HB.out | apply below_alloc | apply pw_below_drewN | apply below_drew1) | exact HB.out)⟩
        · rw [if_neg c3] at H
          have c3b0 : decide ((l0.length : Int) < (wrap64 (x5_1 + 4))) = false := decide_eq_false c3
          clear c3
          by_cases c4 : 0 ≤ x5_1
          · rw [if_pos c4] at H
            have c4b0 := eq_true c4
            have c4b1 : decide (0 ≤ x5_1) = true := decide_eq_true c4
            clear c4
            by_cases c5 : x5_1 ≤ (wrap64 (x5_1 + 4))
            · rw [if_pos c5] at H
              have c5b0 := eq_true c5
              have c5b1 : decide (x5_1 ≤ (wrap64 (x5_1 + 4))) = true := decide_eq_true c5
              by_cases c6 : (wrap64 (x5_1 + 4)) ≤ (l0.length : Int)
              · rw [if_pos c6] at H
                have c6b0 := eq_true c6
                have c6b1 : decide ((wrap64 (x5_1 + 4)) ≤ (l0.length : Int)) = true := decide_eq_true c6
                replace H := Option.bind_eq_some_iff.mp H
                obtain ⟨t256, A70, H⟩ := H
                replace H : (if t256 = true then ((marquetryref01_Get.f k1 l0 (wrap64 (x5_1 + 4)) 4).bind fun bt257 => (if bt257.2 = true then (marquetryref24_Inner.j1 k1 l0 x4_1 x5_1 (strOfNums ((l0.take ((wrap64 (x5_1 + 4)) : Int).toNat).drop (x5_1 : Int).toNat)) bt257.1 (decide (bt257.1 > (IntKind.u64.wrap (wrap64 ((wrap64 ((l0.length : Int) - x5_1)) - 8)))))) else (marquetryref24_Inner.j1 k1 l0 x4_1 x5_1 (strOfNums ((l0.take ((wrap64 (x5_1 + 4)) : Int).toNat).drop (x5_1 : Int).toNat)) bt257.1 true))) else (some (([] : List (S42)), 3))) = some (r1, r2) := H
                have A7 := Aside0.mk A70
                clear A70
                by_cases c8 : t256 = true
                · subst c8
                  have H1 : ((marquetryref01_Get.f k1 l0 (wrap64 (x5_1 + 4)) 4).bind fun bt257 => (if bt257.2 = true then (marquetryref24_Inner.j1 k1 l0 x4_1 x5_1 (strOfNums ((l0.take ((wrap64 (x5_1 + 4)) : Int).toNat).drop (x5_1 : Int).toNat)) bt257.1 (decide (bt257.1 > (IntKind.u64.wrap (wrap64 ((wrap64 ((l0.length : Int) - x5_1)) - 8)))))) else (marquetryref24_Inner.j1 k1 l0 x4_1 x5_1 (strOfNums ((l0.take ((wrap64 (x5_1 + 4)) : Int).toNat).drop (x5_1 : Int).toNat)) bt257.1 true))) = some (r1, r2) := by rw [if_pos rfl] at H; exact H
                  clear H
                  have H := H1
                  clear H1
                  replace H := Option.bind_eq_some_iff.mp H
                  obtain ⟨⟨t257, t258⟩, A90, H⟩ := H
                  replace H : (if t258 = true then (marquetryref24_Inner.j1 k1 l0 x4_1 x5_1 (strOfNums ((l0.take ((wrap64 (x5_1 + 4)) : Int).toNat).drop (x5_1 : Int).toNat)) t257 (decide (t257 > (IntKind.u64.wrap (wrap64 ((wrap64 ((l0.length : Int) - x5_1)) - 8)))))) else (marquetryref24_Inner.j1 k1 l0 x4_1 x5_1 (strOfNums ((l0.take ((wrap64 (x5_1 + 4)) : Int).toNat).drop (x5_1 : Int).toNat)) t257 true)) = some (r1, r2) := H
                  have A9 := Aside0.mk A90
                  clear A90
                  have HC10 := Aside0.mk H
                  clear H
                  obtain ⟨i011, hi011, _, hsz11, _⟩ := info_parts info5
                  obtain ⟨A11, hcut11, hA11, hC11⟩ := print_mid_of (P := Try.prog) (Value.int .u8) 0 23 5 .i64 .i64 Try.underlying23 hi011 hsz11 A0 c0 l0 x5_1 (wrap64 (x5_1 + 4)) (of_decide_eq_true (by first | (with_reducible assumption) | assumption)) (by first | omega | exact of_decide_eq_true (by first | (with_reducible assumption) | assumption)) (of_decide_eq_true (by first | (with_reducible assumption) | assumption)) HC0.out
                  have HR255 := Aside0.mk (Kd.C_of_reads (h1 := fun _ => rfl) (hA11 _ (Kd.reads_of_C HR0.out)))
                  have HC255 := Aside0.mk hC11
                  clear hA11 hC11 hi011 hsz11
                  have hcv12 := Kd.C_string (P := Try.prog) (A := A11) (c := (c0 - x5_1.toNat)) Try.underlying23 Try.underlying5 Try.underlying9 (Kd.C_below HR255.out HB.out); have hcv12q := hcv12; (try simp only [List.length_take, List.length_drop, Int.reduceToNat] at hcv12q); have hcv12d := fun nd => Kd.C_string (P := Try.prog) (A := A11) (c := (c0 - x5_1.toNat)) Try.underlying23 Try.underlying5 Try.underlying9 (Kd.C_drewN (Kd.C_below HR255.out HB.out) nd); (try simp only [List.length_take, List.length_drop, Int.reduceToNat] at hcv12d); have hcv12e := hcv12; have hcv12f := hcv12d; (try (have hmn_ : ((wrap64 (x5_1 + 4)) : Int) ≤ (l0.length : Int) := (by first | omega | exact of_decide_eq_true (by assumption)); (try simp only [List.length_take, List.length_drop, Int.reduceToNat] at hcv12e); rw [Nat.min_eq_left (by omega)] at hcv12e; (try (rw [Nat.min_eq_left (by omega)] at hcv12d)); clear hmn_))
                  go_upto_region 10 with (first | ((with_reducible refine gate_callee (f := 77) rfl ?_); refine goesL_ (some 26) rfl rfl Try.func77 (by kernel_rfl) rfl #[.string (strOfNums ((l0.take ((wrap64 (x5_1 + 4)) : Int).toNat).drop (x5_1 : Int).toNat))] rfl (by (try simp only [List.map_toArray, List.map_cons, List.map_nil]); first | done | rfl | (simp only [List.length_drop, List.length_take]; rfl)) ?_; (with_reducible refine (marquetryref24_Name.calls k1 (strOfNums ((l0.take ((wrap64 (x5_1 + 4)) : Int).toNat).drop (x5_1 : Int).toNat)) true _ A7.out).mono ?_); clear A7; rintro e w' ⟨rfl, ⟨nd, rfl⟩⟩; refine ⟨_, rfl, ?_⟩) | (go_at_call 77; (with_reducible refine (marquetryref24_Name.calls k1 (strOfNums ((l0.take ((wrap64 (x5_1 + 4)) : Int).toNat).drop (x5_1 : Int).toNat)) true _ A7.out).mono ?_); clear A7; rintro e w' ⟨rfl, ⟨nd, rfl⟩⟩) | ((with_reducible refine gate_callee (f := 76) rfl ?_); refine goesL_ (some 32) rfl rfl Try.func76 (by kernel_rfl) rfl #[.slice A0 l0.length c0, .int .i64 (wrap64 (x5_1 + 4)), .int .i64 4] rfl (by (try simp only [List.map_toArray, List.map_cons, List.map_nil]); first | done | rfl | (simp only [List.length_drop, List.length_take]; rfl)) ?_; (with_reducible refine (marquetryref01_Get.calls k1 _ _ l0 (wrap64 (x5_1 + 4)) 4 t257 t258 _ ?side1 ?side2 A9.out).mono ?_); (case side1 => repeat (first | exact (Kd.C_below HR0.out (by repeat (first | (with_reducible first | exact HB.out | apply below_alloc | apply pw_below_drewN | apply below_drew1) | exact HB.out))) | (with_reducible refine Kd.C_alloc ?_ _) | (with_reducible refine Kd.C_drewN ?_ _) | (with_reducible refine Kd.C_drew ?_))); (case side2 => exact HC0.out); rintro e w' ⟨rfl, ⟨nd, rfl⟩⟩; refine ⟨_, rfl, ?_⟩) | (go_at_call 76; (with_reducible refine (marquetryref01_Get.calls k1 _ _ l0 (wrap64 (x5_1 + 4)) 4 t257 t258 _ ?side1 ?side2 A9.out).mono ?_); (case side1 => repeat (first | exact (Kd.C_below HR0.out (by repeat (first | (with_reducible first | exact HB.out | apply below_alloc | apply pw_below_drewN | apply below_drew1) | exact HB.out))) | (with_reducible refine Kd.C_alloc ?_ _) | (with_reducible refine Kd.C_drewN ?_ _) | (with_reducible refine Kd.C_drew ?_))); (case side2 => exact HC0.out); rintro e w' ⟨rfl, ⟨nd, rfl⟩⟩))
                  (try simp only [Act.put, List.setIfInBounds_toArray, List.set_cons_zero, List.set_cons_succ])
                  go_cut [46] (fun v46 wc => ∃ (kq : Nat) (x46_9 : Bool), v46 = .bool x46_9 ∧ Aside0 (marquetryref24_Inner.j1 kq l0 x4_1 x5_1 (strOfNums ((l0.take ((wrap64 (x5_1 + 4)) : Int).toNat).drop (x5_1 : Int).toNat)) t257 x46_9 = some (r1, r2)) ∧ Aside0 (kq ≤ k1) ∧ Aside0 (Kd.S k42 42 wc w.heap.size (fun _ => True) u4 x4_1) ∧ Aside0 (Below w.heap.size w wc))
                  case first =>
                    have H := HC10.out
                    clear HC10
                    by_cases c13 : t258 = true
                    · subst c13
                      have H1 : (marquetryref24_Inner.j1 k1 l0 x4_1 x5_1 (strOfNums ((l0.take ((wrap64 (x5_1 + 4)) : Int).toNat).drop (x5_1 : Int).toNat)) t257 (decide (t257 > (IntKind.u64.wrap (wrap64 ((wrap64 ((l0.length : Int) - x5_1)) - 8)))))) = some (r1, r2) := by rw [if_pos rfl] at H; exact H
                      clear H
                      have H := H1
                      clear H1
                      have H' := Aside0.mk H
                      clear H
                      go_wp2
                      go_meet
                      case rel => exact ⟨_, (decide (t257 > (IntKind.u64.wrap (wrap64 ((wrap64 ((l0.length : Int) - x5_1)) - 8))))), (by first | rfl | (simp; done) | (simp [*]; done)), H', ⟨by have := HK1.out; first | omega | exact Nat.le_refl _⟩, ⟨by (with_reducible repeat (first | apply Kd.S_alloc | apply Kd.S_drewN | apply Kd.S_drew)); exact HO_4.out⟩, ⟨by repeat (first | (with_reducible first | exact HB.out | apply below_alloc | apply pw_below_drewN | apply below_drew1) | exact HB.out)⟩⟩
                    · replace c13 := Bool.eq_false_iff.mpr c13
                      subst c13
                      have H1 : (marquetryref24_Inner.j1 k1 l0 x4_1 x5_1 (strOfNums ((l0.take ((wrap64 (x5_1 + 4)) : Int).toNat).drop (x5_1 : Int).toNat)) t257 true) = some (r1, r2) := by rw [if_neg (show ¬ (false = true) by decide)] at H; exact H
                      clear H
                      have H := H1
                      clear H1
                      have H' := Aside0.mk H
                      clear H
                      go_wp2
                      go_meet
                      case rel => exact ⟨_, (true), (by first | rfl | (simp; done) | (simp [*]; done)), H', ⟨by have := HK1.out; first | omega | exact Nat.le_refl _⟩, ⟨by (with_reducible repeat (first | apply Kd.S_alloc | apply Kd.S_drewN | apply Kd.S_drew)); exact HO_4.out⟩, ⟨by repeat (first | (with_reducible first | exact HB.out | apply below_alloc | apply pw_below_drewN | apply below_drew1) | exact HB.out)⟩⟩
                  case rest =>
                    clear HC10
                    try clear c1
                    try clear hcv1
                    try clear c2
                    try clear c2b0
                    try clear p2
                    try clear c3
                    try clear c3b0
                    try clear c4
                    try clear c4b0
                    try clear c4b1
                    try clear c5
                    try clear c5b0
                    try clear c5b1
                    try clear c6
                    try clear c6b0
                    try clear c6b1
                    try clear p6
                    try clear c7
                    try clear c8
                    try clear hcv12
                    try clear c13
                    obtain ⟨kq, x46_9, rfl, HA, HJ9, HO_4, HB⟩ := hcut
                    cases kq with
                    | zero => exact absurd HA.out (by simp [marquetryref24_Inner.j1])
                    | succ kj9 =>
                      have H := HA.out
                      clear HA
                      simp only [marquetryref24_Inner.j1] at H
                      by_cases c14 : x46_9 = true
                      · subst c14
                        have H1 : (some (([] : List (S42)), 2)) = some (r1, r2) := by rw [if_pos rfl] at H; exact H
                        clear H
                        have H := H1
                        clear H1
                        simp only [Option.some.injEq, Prod.mk.injEq] at H
                        obtain ⟨rfl, rfl⟩ := H
                        go_wp2
                        go_ret2
                        exact ⟨_, by first | rfl | (simp [errW_none, errW_some] <;> rfl) | (simp [*, errW_none, errW_some] <;> rfl), by first | exact Kd.S_nil _ _ _ _ _ | exact Kd.N_nil _ _ _ _ _ | exact Kd.V_nil _ _ _ _ _ | exact Kd.Q_nil _ _ _ _ _ | exact Kd.R_nil _ _ _ _ _, by repeat (first | (with_reducible first | exact HB.out | apply below_alloc | apply pw_below_drewN | apply below_drew1) | exact HB.out)⟩
                      · replace c14 := Bool.eq_false_iff.mpr c14
                        subst c14
                        have H1 : ((some (([] : List Int) : List Int)).bind fun y259 => (if 0 ≤ (wrap64 (x5_1 + 8)) then (if (wrap64 (x5_1 + 8)) ≤ (wrap64 ((wrap64 (x5_1 + 8)) + (wrap64 (t257)))) then (if (wrap64 ((wrap64 (x5_1 + 8)) + (wrap64 (t257)))) ≤ (l0.length : Int) then (if y259.length + ((l0.take ((wrap64 ((wrap64 (x5_1 + 8)) + (wrap64 (t257)))) : Int).toNat).drop ((wrap64 (x5_1 + 8)) : Int).toNat).length < 140737488355328 then (if x4_1.length < 3518437208883 then ((some (x4_1 ++ [(⟨(strOfNums ((l0.take ((wrap64 (x5_1 + 4)) : Int).toNat).drop (x5_1 : Int).toNat)), (y259 ++ ((l0.take ((wrap64 ((wrap64 (x5_1 + 8)) + (wrap64 (t257)))) : Int).toNat).drop ((wrap64 (x5_1 + 8)) : Int).toNat))⟩ : S42)] : List (S42))).bind fun y266 => (if (Int.tmod (wrap64 (t257)) 2) = 1 then (if (wrap64 ((wrap64 (x5_1 + 8)) + (wrap64 (t257)))) = (l0.length : Int) then (some (([] : List (S42)), 2)) else (if 0 ≤ (wrap64 ((wrap64 (x5_1 + 8)) + (wrap64 (t257)))) then (if (wrap64 ((wrap64 (x5_1 + 8)) + (wrap64 (t257)))) < (l0.length : Int) then (if (rd l0 (wrap64 ((wrap64 (x5_1 + 8)) + (wrap64 (t257))))) = 0 then (marquetryref24_Inner.l0 kj9 l0 y266 (wrap64 ((wrap64 ((wrap64 (x5_1 + 8)) + (wrap64 (t257)))) + 1))) else (some (([] : List (S42)), 3))) else (none)) else (none))) else (marquetryref24_Inner.l0 kj9 l0 y266 (wrap64 ((wrap64 (x5_1 + 8)) + (wrap64 (t257))))))) else (none)) else (none)) else (none)) else (none)) else (none))) = some (r1, r2) := by rw [if_neg (show ¬ (false = true) by decide)] at H; exact H
                        clear H
                        have H := H1
                        clear H1
                        obtain ⟨y259, hy259⟩ : ∃ y_ : List Int, y_ = (([] : List Int)) := ⟨_, rfl⟩
                        replace H : (if 0 ≤ (wrap64 (x5_1 + 8)) then (if (wrap64 (x5_1 + 8)) ≤ (wrap64 ((wrap64 (x5_1 + 8)) + (wrap64 (t257)))) then (if (wrap64 ((wrap64 (x5_1 + 8)) + (wrap64 (t257)))) ≤ (l0.length : Int) then (if y259.length + ((l0.take ((wrap64 ((wrap64 (x5_1 + 8)) + (wrap64 (t257)))) : Int).toNat).drop ((wrap64 (x5_1 + 8)) : Int).toNat).length < 140737488355328 then (if x4_1.length < 3518437208883 then ((some (x4_1 ++ [(⟨(strOfNums ((l0.take ((wrap64 (x5_1 + 4)) : Int).toNat).drop (x5_1 : Int).toNat)), (y259 ++ ((l0.take ((wrap64 ((wrap64 (x5_1 + 8)) + (wrap64 (t257)))) : Int).toNat).drop ((wrap64 (x5_1 + 8)) : Int).toNat))⟩ : S42)] : List (S42))).bind fun y266 => (if (Int.tmod (wrap64 (t257)) 2) = 1 then (if (wrap64 ((wrap64 (x5_1 + 8)) + (wrap64 (t257)))) = (l0.length : Int) then (some (([] : List (S42)), 2)) else (if 0 ≤ (wrap64 ((wrap64 (x5_1 + 8)) + (wrap64 (t257)))) then (if (wrap64 ((wrap64 (x5_1 + 8)) + (wrap64 (t257)))) < (l0.length : Int) then (if (rd l0 (wrap64 ((wrap64 (x5_1 + 8)) + (wrap64 (t257))))) = 0 then (marquetryref24_Inner.l0 kj9 l0 y266 (wrap64 ((wrap64 ((wrap64 (x5_1 + 8)) + (wrap64 (t257)))) + 1))) else (some (([] : List (S42)), 3))) else (none)) else (none))) else (marquetryref24_Inner.l0 kj9 l0 y266 (wrap64 ((wrap64 (x5_1 + 8)) + (wrap64 (t257))))))) else (none)) else (none)) else (none)) else (none)) else (none)) = some (r1, r2) := by first | (rw [hy259]; with_reducible exact H) | (have H2_ := (Option.bind_some _ _).symm.trans H; rw [hy259]; with_reducible exact H2_) | (have H2_ := (Option.bind_some _ _).symm.trans H; with_reducible exact H2_) | with_reducible exact H | (rw [hy259]; exact H) | exact H
                        have Ny259 := Aside0.mk hy259
                        clear hy259
                        obtain ⟨ji15, hji15⟩ : ∃ j_ : Int, (wrap64 (x5_1 + 8)) = j_ := ⟨_, rfl⟩
                        replace H : (if 0 ≤ (ji15) then (if (ji15) ≤ (wrap64 ((ji15) + (wrap64 (t257)))) then (if (wrap64 ((ji15) + (wrap64 (t257)))) ≤ (l0.length : Int) then (if y259.length + ((l0.take ((wrap64 ((ji15) + (wrap64 (t257)))) : Int).toNat).drop ((ji15) : Int).toNat).length < 140737488355328 then (if x4_1.length < 3518437208883 then ((some (x4_1 ++ [(⟨(strOfNums ((l0.take ((wrap64 (x5_1 + 4)) : Int).toNat).drop (x5_1 : Int).toNat)), (y259 ++ ((l0.take ((wrap64 ((ji15) + (wrap64 (t257)))) : Int).toNat).drop ((ji15) : Int).toNat))⟩ : S42)] : List (S42))).bind fun y266 => (if (Int.tmod (wrap64 (t257)) 2) = 1 then (if (wrap64 ((ji15) + (wrap64 (t257)))) = (l0.length : Int) then (some (([] : List (S42)), 2)) else (if 0 ≤ (wrap64 ((ji15) + (wrap64 (t257)))) then (if (wrap64 ((ji15) + (wrap64 (t257)))) < (l0.length : Int) then (if (rd l0 (wrap64 ((ji15) + (wrap64 (t257))))) = 0 then (marquetryref24_Inner.l0 kj9 l0 y266 (wrap64 ((wrap64 ((ji15) + (wrap64 (t257)))) + 1))) else (some (([] : List (S42)), 3))) else (none)) else (none))) else (marquetryref24_Inner.l0 kj9 l0 y266 (wrap64 ((ji15) + (wrap64 (t257))))))) else (none)) else (none)) else (none)) else (none)) else (none)) = some (r1, r2) := by first | (rw [hji15] at H; exact H) | (simp only [hji15] at H ⊢; exact H)
                        have hji15w : (IntKind.i64.wrap (x5_1 + 8)) = ji15 := (i64_w _).trans hji15
                        (try rw [hji15] at hcut11)
                        by_cases c16 : 0 ≤ (ji15)
                        · rw [if_pos c16] at H
                          have c16b0 := eq_true c16
                          have c16b1 : decide (0 ≤ (ji15)) = true := decide_eq_true c16
                          clear c16
                          by_cases c17 : (ji15) ≤ (wrap64 ((ji15) + (wrap64 (t257))))
                          · rw [if_pos c17] at H
                            have c17b0 := eq_true c17
                            have c17b1 : decide ((ji15) ≤ (wrap64 ((ji15) + (wrap64 (t257))))) = true := decide_eq_true c17
                            by_cases c18 : (wrap64 ((ji15) + (wrap64 (t257)))) ≤ (l0.length : Int)
                            · rw [if_pos c18] at H
                              have c18b0 := eq_true c18
                              have c18b1 : decide ((wrap64 ((ji15) + (wrap64 (t257)))) ≤ (l0.length : Int)) = true := decide_eq_true c18
                              by_cases c19 : y259.length + ((l0.take ((wrap64 ((ji15) + (wrap64 (t257)))) : Int).toNat).drop ((ji15) : Int).toNat).length < 140737488355328
                              · rw [if_pos c19] at H
                                have LMc19 := Aside0.mk c19
                                clear c19
                                obtain ⟨y263, hy263⟩ : ∃ y_ : List Int, y_ = (y259 ++ ((l0.take ((wrap64 ((ji15) + (wrap64 (t257)))) : Int).toNat).drop ((ji15) : Int).toNat)) := ⟨_, rfl⟩
                                replace H : (if x4_1.length < 3518437208883 then ((some (x4_1 ++ [(⟨(strOfNums ((l0.take ((wrap64 (x5_1 + 4)) : Int).toNat).drop (x5_1 : Int).toNat)), y263⟩ : S42)] : List (S42))).bind fun y266 => (if (Int.tmod (wrap64 (t257)) 2) = 1 then (if (wrap64 ((ji15) + (wrap64 (t257)))) = (l0.length : Int) then (some (([] : List (S42)), 2)) else (if 0 ≤ (wrap64 ((ji15) + (wrap64 (t257)))) then (if (wrap64 ((ji15) + (wrap64 (t257)))) < (l0.length : Int) then (if (rd l0 (wrap64 ((ji15) + (wrap64 (t257))))) = 0 then (marquetryref24_Inner.l0 kj9 l0 y266 (wrap64 ((wrap64 ((ji15) + (wrap64 (t257)))) + 1))) else (some (([] : List (S42)), 3))) else (none)) else (none))) else (marquetryref24_Inner.l0 kj9 l0 y266 (wrap64 ((ji15) + (wrap64 (t257))))))) else (none)) = some (r1, r2) := by first | (rw [hy263]; with_reducible exact H) | (have H2_ := (Option.bind_some _ _).symm.trans H; rw [hy263]; with_reducible exact H2_) | (have H2_ := (Option.bind_some _ _).symm.trans H; with_reducible exact H2_) | with_reducible exact H | (rw [hy263]; exact H) | exact H
                                have Ny263 := Aside0.mk hy263
                                clear hy263
                                by_cases c20 : x4_1.length < 3518437208883
                                · rw [if_pos c20] at H
                                  have LMc20 := Aside0.mk c20
                                  clear c20
                                  obtain ⟨y266, hy266⟩ : ∃ y_ : List (S42), y_ = (x4_1 ++ [(⟨(strOfNums ((l0.take ((wrap64 (x5_1 + 4)) : Int).toNat).drop (x5_1 : Int).toNat)), y263⟩ : S42)]) := ⟨_, rfl⟩
                                  replace H : (if (Int.tmod (wrap64 (t257)) 2) = 1 then (if (wrap64 ((ji15) + (wrap64 (t257)))) = (l0.length : Int) then (some (([] : List (S42)), 2)) else (if 0 ≤ (wrap64 ((ji15) + (wrap64 (t257)))) then (if (wrap64 ((ji15) + (wrap64 (t257)))) < (l0.length : Int) then (if (rd l0 (wrap64 ((ji15) + (wrap64 (t257))))) = 0 then (marquetryref24_Inner.l0 kj9 l0 y266 (wrap64 ((wrap64 ((ji15) + (wrap64 (t257)))) + 1))) else (some (([] : List (S42)), 3))) else (none)) else (none))) else (marquetryref24_Inner.l0 kj9 l0 y266 (wrap64 ((ji15) + (wrap64 (t257)))))) = some (r1, r2) := by first | (rw [hy266]; with_reducible exact H) | (have H2_ := (Option.bind_some _ _).symm.trans H; rw [hy266]; with_reducible exact H2_) | (have H2_ := (Option.bind_some _ _).symm.trans H; with_reducible exact H2_) | with_reducible exact H | (rw [hy266]; exact H) | exact H
                                  have Ny266 := Aside0.mk hy266
                                  clear hy266
                                  by_cases c21 : (Int.tmod (wrap64 (t257)) 2) = 1
                                  · rw [if_pos c21] at H
                                    have c21b0 : ((Int.tmod (wrap64 (t257)) 2) == 1) = true := beq_iff_eq.mpr c21
                                    have c21b1 : ((Int.tmod (wrap64 (t257)) 2) != 1) = false := bne_eq_false_iff_eq.mpr c21
                                    clear c21
                                    by_cases c22 : (wrap64 ((ji15) + (wrap64 (t257)))) = (l0.length : Int)
                                    · rw [if_pos c22] at H
                                      have c22b0 : ((wrap64 ((ji15) + (wrap64 (t257)))) == (l0.length : Int)) = true := beq_iff_eq.mpr c22
                                      have c22b1 : ((wrap64 ((ji15) + (wrap64 (t257)))) != (l0.length : Int)) = false := bne_eq_false_iff_eq.mpr c22
                                      clear c22
                                      simp only [Option.some.injEq, Prod.mk.injEq] at H
                                      obtain ⟨rfl, rfl⟩ := H
                                      go_wp2_with (first | ((with_reducible refine gate_dst (N := 51) rfl ?_); (try (refine gate_guard (by rfl) ?_; dsimp only)); refine Kd.R_lit (Kd.int .u8) _ 5 ?hg (N := 51) ?hd (xs := ([] : List Int)) (inner := []) (ok := fun _ => True) (okp := fun _ => True) ?hr ?hp (fun _ hk => hk) trivial (Below.refl _ _) (Nat.le_refl _) (by simp) ?_; (case hd => rfl); (case hg => rfl); (case hr => first | (go_simp; done) | (go_simp; rfl)); (case hp => exact (Reps.none _ _)); intro v260 w23 ho24 hb hg_ hnew_; clear hg_ hnew_; (first | rw [← Ny259.out] at ho24 | (simp only [Int.reduceToNat] at ho24; rw [← Ny259.out] at ho24)); have n0_ := Aside0.mk (Kd.S_elder' (by (with_reducible repeat (first | apply Kd.S_alloc | apply Kd.S_drewN | apply Kd.S_drew)); exact HO_4.out) (Kd.R_base ho24) hb); have n1_ := Aside0.mk (Kd.R_lower ho24 (below_size (by repeat (first | (with_reducible first | exact HB.out | apply below_alloc | apply pw_below_drewN | apply below_drew1) | exact HB.out)))); have n2_ := Aside0.mk (below_step (by repeat (first | (with_reducible first | exact HB.out | apply below_alloc | apply pw_below_drewN | apply below_drew1) | exact HB.out)) hb); clear HO_4; clear HB; have HO_4 := n0_; have HO261 := n1_; have HB := n2_; clear n0_ n1_ n2_; clear hb ho24; obtain ⟨i025, hi025, _, hsz25, _⟩ := info_parts info5; obtain ⟨A25, hcut25, hA25, hC25⟩ := print_mid_of (P := Try.prog) (Value.int .u8) 0 23 5 .i64 .i64 Try.underlying23 hi025 hsz25 A0 c0 l0 (ji15) (wrap64 ((ji15) + (wrap64 (t257)))) (of_decide_eq_true (by first | (with_reducible assumption) | assumption)) (by first | omega | exact of_decide_eq_true (by first | (with_reducible assumption) | assumption)) (of_decide_eq_true (by first | (with_reducible assumption) | assumption)) HC0.out; have HR262 := Aside0.mk (Kd.C_of_reads (h1 := fun _ => rfl) (hA25 _ (Kd.reads_of_C HR0.out))); have HC262 := Aside0.mk hC25; clear hA25 hC25 hi025 hsz25) | ((with_reducible refine gate_builtin (b := .append) (xs := #[.tmp 51, .tmp 59]) rfl ?_); (try (refine gate_guard (by rfl) ?_; dsimp only)); at_builtin; refine Kd.R_append_rows (Kd.int .u8) (w0 := w) w.heap.size rfl (.tmp 51) (.tmp 59) 23 5 (.int .u8 0) 1 rfl Try.underlying23 info5 rfl (by decide) (by omega) v260 y259 ((l0.take ((wrap64 ((ji15) + (wrap64 (t257)))) : Int).toNat).drop ((ji15) : Int).toNat) _ _ _ (fun _ => True) (fun _ => False) rfl rfl ?aO ?aR (fun _ _ h => h) (fun _ h => h.elim) ?aF ?aB ?aS ?aL ?_; (case aR => first | (rw [← show ((l0.take ((wrap64 ((ji15) + (wrap64 (t257)))) : Int).toNat).drop ((ji15) : Int).toNat).length = ((wrap64 ((ji15) + (wrap64 (t257)))).toNat - (ji15).toNat) from (by rw [List.length_drop, List.length_take]; have h_ : ((wrap64 ((ji15) + (wrap64 (t257)))) : Int) ≤ (l0.length : Int) := of_decide_eq_true (by first | (with_reducible assumption) | assumption); omega)]; repeat (first | exact (Kd.C_below HR262.out HB.out) | (with_reducible refine Kd.C_alloc ?_ _) | (with_reducible refine Kd.C_drewN ?_ _) | (with_reducible refine Kd.C_drew ?_))) | (repeat (first | exact (Kd.C_below HR262.out HB.out) | (with_reducible refine Kd.C_alloc ?_ _) | (with_reducible refine Kd.C_drewN ?_ _) | (with_reducible refine Kd.C_drew ?_)))); (case aB => exact (by repeat (first | (with_reducible first | exact HB.out | apply below_alloc | apply pw_below_drewN | apply below_drew1) | exact HB.out))); (case aF => exact (fun _ _ => trivial)); (case aO => exact (by (with_reducible repeat (first | apply Kd.R_alloc | apply Kd.R_drewN | apply Kd.R_drew)); exact HO261.out)); (case aS => exact (below_size (by repeat (first | (with_reducible first | exact HB.out | apply below_alloc | apply pw_below_drewN | apply below_drew1) | exact HB.out)))); (case aL => have := LMc19.out; have hlx_ := (show ((l0.take ((wrap64 ((ji15) + (wrap64 (t257)))) : Int).toNat).drop ((ji15) : Int).toNat).length = ((wrap64 ((ji15) + (wrap64 (t257)))).toNat - (ji15).toNat) from (by rw [List.length_drop, List.length_take]; have h_ : ((wrap64 ((ji15) + (wrap64 (t257)))) : Int) ≤ (l0.length : Int) := of_decide_eq_true (by first | (with_reducible assumption) | assumption); omega)); omega); intro v264 w26 ho hb hg hat; rw [← Ny263.out] at ho; have n0_ := Aside0.mk (Kd.S_after (ok := (fun _ => True)) (by (with_reducible repeat (first | apply Kd.S_alloc | apply Kd.S_drewN | apply Kd.S_drew)); exact HO_4.out) hg hat); have n1_ := Aside0.mk (hb); have n2_ := Aside0.mk (ho); clear HO_4; clear HB; clear HO261; have HO_4 := n0_; have HB := n1_; have HO265 := n2_; clear n0_ n1_ n2_; clear ho hb hg hat; obtain ⟨Ao27, co27, eo27⟩ := Kd.R_slice HO265.out; subst eo27) | ((with_reducible refine gate_builtin (b := .append) (xs := #[.tmp 49, .tmp 62]) rfl ?_); (try (refine gate_guard (by rfl) ?_; dsimp only)); at_builtin; refine Kd.S_append k42 (w0 := w) w.heap.size rfl (.tmp 49) (.tmp 62) 25 42 (.agg #[(.string ⟨#[]⟩), (.slice none 0 0)]) 40 rfl Try.underlying25 info42 rfl (by decide) (by omega) u4 x4_1 (⟨(strOfNums ((l0.take ((wrap64 (x5_1 + 4)) : Int).toNat).drop (x5_1 : Int).toNat)), y263⟩ : S42) [.string (strOfNums ((l0.take ((wrap64 (x5_1 + 4)) : Int).toNat).drop (x5_1 : Int).toNat)), .slice Ao27 y263.length co27] (fun _ => True) (fun k_ => some k_ = (.slice Ao27 y263.length co27 : Value).ownBlock) rfl rfl ?aP (fun k_ hk_ => ((Kd.R_mono (ok' := fun k_ => ((fun _ => True)) k_ ∧ some k_ ≠ (u4 : Value).ownBlock) (Kd.R_apart' (HO265.out) (Kd.S_typed HO_4.out) (by decide)) (fun k_ hk => ⟨trivial, hk.2⟩))).1 k_ hk_.symm) ?aF ?aO ?aB ?aS ?aL ?_; (case aP => exact k42_mkM _ _ _ (⟨(strOfNums ((l0.take ((wrap64 (x5_1 + 4)) : Int).toNat).drop (x5_1 : Int).toNat)), y263⟩ : S42) (Kd.R_mono (Kd.R_tight rfl (Kd.R_mono (ok' := fun k_ => ((fun _ => True)) k_ ∧ some k_ ≠ (u4 : Value).ownBlock) (Kd.R_apart' (HO265.out) (Kd.S_typed HO_4.out) (by decide)) (fun k_ hk => ⟨trivial, hk.2⟩))) (fun _ h_ => h_))); (case aB => exact (by repeat (first | (with_reducible first | exact HB.out | apply below_alloc | apply pw_below_drewN | apply below_drew1) | exact HB.out))); (case aF => exact (fun _ _ => trivial)); (case aO => exact (by (with_reducible repeat (first | apply Kd.S_alloc | apply Kd.S_drewN | apply Kd.S_drew)); exact Kd.S_mono HO_4.out (fun k_ hk => ⟨trivial, fun e_ => hk.2 e_⟩))); (case aS => exact (below_size (by repeat (first | (with_reducible first | exact HB.out | apply below_alloc | apply pw_below_drewN | apply below_drew1) | exact HB.out)))); (case aL => have := LMc20.out; omega); intro v267 w28 ho hb hg hat; rw [← Ny266.out] at ho; have n0_ := Aside0.mk (hb); have n1_ := Aside0.mk (ho); clear HB; clear HO_4; clear HO265; have HB := n0_; have HO268 := n1_; clear n0_ n1_; clear ho hb hg hat))
                                      go_ret2
                                      exact ⟨_, by first | rfl | (simp [errW_none, errW_some] <;> rfl) | (simp only [← hji15]; first | rfl | (simp [errW_none, errW_some] <;> rfl)) | (simp [*, errW_none, errW_some] <;> rfl), by first | exact Kd.S_nil _ _ _ _ _ | exact Kd.N_nil _ _ _ _ _ | exact Kd.V_nil _ _ _ _ _ | exact Kd.Q_nil _ _ _ _ _ | exact Kd.R_nil _ _ _ _ _, by repeat (first | (with_reducible first | exact HB.out | apply below_alloc | apply pw_below_drewN | apply below_drew1) | exact HB.out)⟩
                                    · rw [if_neg c22] at H
                                      have c22b0 : ((wrap64 ((ji15) + (wrap64 (t257)))) == (l0.length : Int)) = false := beq_eq_false_iff_ne.mpr c22
                                      have c22b1 : ((wrap64 ((ji15) + (wrap64 (t257)))) != (l0.length : Int)) = true := bne_iff_ne.mpr c22
                                      obtain ⟨ji29, hji29⟩ : ∃ j_ : Int, (wrap64 ((ji15) + (wrap64 (t257)))) = j_ := ⟨_, rfl⟩
                                      replace H : (if 0 ≤ (ji29) then (if (ji29) < (l0.length : Int) then (if (rd l0 (ji29)) = 0 then (marquetryref24_Inner.l0 kj9 l0 y266 (wrap64 ((ji29) + 1))) else (some (([] : List (S42)), 3))) else (none)) else (none)) = some (r1, r2) := by first | (rw [hji29] at H; exact H) | (simp only [hji29] at H ⊢; exact H)
                                      (try rw [hji29] at c17b0)
                                      (try rw [hji29] at c17b1)
                                      (try rw [hji29] at c17)
                                      (try rw [hji29] at c18b0)
                                      (try rw [hji29] at c18b1)
                                      (try rw [hji29] at c18)
                                      (try rw [hji29] at c22b0)
                                      (try rw [hji29] at c22b1)
                                      (try rw [hji29] at Ny263)
                                      (try rw [hji29] at Ny263)
                                      have hji29w : (IntKind.i64.wrap ((ji15) + (wrap64 (t257)))) = ji29 := (i64_w _).trans hji29
                                      (try rw [hji29] at hcut11)
                                      (try rw [hji29] at LMc19)
                                      (try rw [hji29] at LMc20)
                                      (try rw [hji29] at hcut25)
                                      by_cases c30 : 0 ≤ (ji29)
                                      · rw [if_pos c30] at H
                                        have c30b0 : decide (0 ≤ (ji29)) = true := decide_eq_true c30
                                        clear c30
                                        by_cases c31 : (ji29) < (l0.length : Int)
                                        · rw [if_pos c31] at H
                                          have c31b0 : decide ((ji29) < (l0.length : Int)) = true := decide_eq_true c31
                                          clear c31
                                          by_cases c32 : (rd l0 (ji29)) = 0
                                          · rw [if_pos c32] at H
                                            have c32b0 : ((rd l0 (ji29)) == 0) = true := beq_iff_eq.mpr c32
                                            have c32b1 : ((rd l0 (ji29)) != 0) = false := bne_eq_false_iff_eq.mpr c32
                                            clear c32
                                            have H' := Aside0.mk H
                                            clear H
                                            go_wp2_with (first | ((with_reducible refine gate_dst (N := 51) rfl ?_); (try (refine gate_guard (by rfl) ?_; dsimp only)); refine Kd.R_lit (Kd.int .u8) _ 5 ?hg (N := 51) ?hd (xs := ([] : List Int)) (inner := []) (ok := fun _ => True) (okp := fun _ => True) ?hr ?hp (fun _ hk => hk) trivial (Below.refl _ _) (Nat.le_refl _) (by simp) ?_; (case hd => rfl); (case hg => rfl); (case hr => first | (go_simp; done) | (go_simp; rfl)); (case hp => exact (Reps.none _ _)); intro v260 w33 ho34 hb hg_ hnew_; clear hg_ hnew_; (first | rw [← Ny259.out] at ho34 | (simp only [Int.reduceToNat] at ho34; rw [← Ny259.out] at ho34)); have n0_ := Aside0.mk (Kd.S_elder' (by (with_reducible repeat (first | apply Kd.S_alloc | apply Kd.S_drewN | apply Kd.S_drew)); exact HO_4.out) (Kd.R_base ho34) hb); have n1_ := Aside0.mk (Kd.R_lower ho34 (below_size (by repeat (first | (with_reducible first | exact HB.out | apply below_alloc | apply pw_below_drewN | apply below_drew1) | exact HB.out)))); have n2_ := Aside0.mk (below_step (by repeat (first | (with_reducible first | exact HB.out | apply below_alloc | apply pw_below_drewN | apply below_drew1) | exact HB.out)) hb); clear HO_4; clear HB; have HO_4 := n0_; have HO261 := n1_; have HB := n2_; clear n0_ n1_ n2_; clear hb ho34; obtain ⟨i035, hi035, _, hsz35, _⟩ := info_parts info5; obtain ⟨A35, hcut35, hA35, hC35⟩ := print_mid_of (P := Try.prog) (Value.int .u8) 0 23 5 .i64 .i64 Try.underlying23 hi035 hsz35 A0 c0 l0 (ji15) (ji29) (of_decide_eq_true (by first | (with_reducible assumption) | assumption)) (by first | omega | exact of_decide_eq_true (by first | (with_reducible assumption) | assumption)) (of_decide_eq_true (by first | (with_reducible assumption) | assumption)) HC0.out; have HR262 := Aside0.mk (Kd.C_of_reads (h1 := fun _ => rfl) (hA35 _ (Kd.reads_of_C HR0.out))); have HC262 := Aside0.mk hC35; clear hA35 hC35 hi035 hsz35) | ((with_reducible refine gate_builtin (b := .append) (xs := #[.tmp 51, .tmp 59]) rfl ?_); (try (refine gate_guard (by rfl) ?_; dsimp only)); at_builtin; refine Kd.R_append_rows (Kd.int .u8) (w0 := w) w.heap.size rfl (.tmp 51) (.tmp 59) 23 5 (.int .u8 0) 1 rfl Try.underlying23 info5 rfl (by decide) (by omega) v260 y259 ((l0.take ((ji29) : Int).toNat).drop ((ji15) : Int).toNat) _ _ _ (fun _ => True) (fun _ => False) rfl rfl ?aO ?aR (fun _ _ h => h) (fun _ h => h.elim) ?aF ?aB ?aS ?aL ?_; (case aR => first | (rw [← show ((l0.take ((ji29) : Int).toNat).drop ((ji15) : Int).toNat).length = ((ji29).toNat - (ji15).toNat) from (by rw [List.length_drop, List.length_take]; have h_ : ((ji29) : Int) ≤ (l0.length : Int) := of_decide_eq_true (by first | (with_reducible assumption) | assumption); omega)]; repeat (first | exact (Kd.C_below HR262.out HB.out) | (with_reducible refine Kd.C_alloc ?_ _) | (with_reducible refine Kd.C_drewN ?_ _) | (with_reducible refine Kd.C_drew ?_))) | (repeat (first | exact (Kd.C_below HR262.out HB.out) | (with_reducible refine Kd.C_alloc ?_ _) | (with_reducible refine Kd.C_drewN ?_ _) | (with_reducible refine Kd.C_drew ?_)))); (case aB => exact (by repeat (first | (with_reducible first | exact HB.out | apply below_alloc | apply pw_below_drewN | apply below_drew1) | exact HB.out))); (case aF => exact (fun _ _ => trivial)); (case aO => exact (by (with_reducible repeat (first | apply Kd.R_alloc | apply Kd.R_drewN | apply Kd.R_drew)); exact HO261.out)); (case aS => exact (below_size (by repeat (first | (with_reducible first | exact HB.out | apply below_alloc | apply pw_below_drewN | apply below_drew1) | exact HB.out)))); (case aL => have := LMc19.out; have hlx_ := (show ((l0.take ((ji29) : Int).toNat).drop ((ji15) : Int).toNat).length = ((ji29).toNat - (ji15).toNat) from (by rw [List.length_drop, List.length_take]; have h_ : ((ji29) : Int) ≤ (l0.length : Int) := of_decide_eq_true (by first | (with_reducible assumption) | assumption); omega)); omega); intro v264 w36 ho hb hg hat; rw [← Ny263.out] at ho; have n0_ := Aside0.mk (Kd.S_after (ok := (fun _ => True)) (by (with_reducible repeat (first | apply Kd.S_alloc | apply Kd.S_drewN | apply Kd.S_drew)); exact HO_4.out) hg hat); have n1_ := Aside0.mk (hb); have n2_ := Aside0.mk (ho); clear HO_4; clear HB; clear HO261; have HO_4 := n0_; have HB := n1_; have HO265 := n2_; clear n0_ n1_ n2_; clear ho hb hg hat; obtain ⟨Ao37, co37, eo37⟩ := Kd.R_slice HO265.out; subst eo37) | ((with_reducible refine gate_builtin (b := .append) (xs := #[.tmp 49, .tmp 62]) rfl ?_); (try (refine gate_guard (by rfl) ?_; dsimp only)); at_builtin; refine Kd.S_append k42 (w0 := w) w.heap.size rfl (.tmp 49) (.tmp 62) 25 42 (.agg #[(.string ⟨#[]⟩), (.slice none 0 0)]) 40 rfl Try.underlying25 info42 rfl (by decide) (by omega) u4 x4_1 (⟨(strOfNums ((l0.take ((wrap64 (x5_1 + 4)) : Int).toNat).drop (x5_1 : Int).toNat)), y263⟩ : S42) [.string (strOfNums ((l0.take ((wrap64 (x5_1 + 4)) : Int).toNat).drop (x5_1 : Int).toNat)), .slice Ao37 y263.length co37] (fun _ => True) (fun k_ => some k_ = (.slice Ao37 y263.length co37 : Value).ownBlock) rfl rfl ?aP (fun k_ hk_ => ((Kd.R_mono (ok' := fun k_ => ((fun _ => True)) k_ ∧ some k_ ≠ (u4 : Value).ownBlock) (Kd.R_apart' (HO265.out) (Kd.S_typed HO_4.out) (by decide)) (fun k_ hk => ⟨trivial, hk.2⟩))).1 k_ hk_.symm) ?aF ?aO ?aB ?aS ?aL ?_; (case aP => exact k42_mkM _ _ _ (⟨(strOfNums ((l0.take ((wrap64 (x5_1 + 4)) : Int).toNat).drop (x5_1 : Int).toNat)), y263⟩ : S42) (Kd.R_mono (Kd.R_tight rfl (Kd.R_mono (ok' := fun k_ => ((fun _ => True)) k_ ∧ some k_ ≠ (u4 : Value).ownBlock) (Kd.R_apart' (HO265.out) (Kd.S_typed HO_4.out) (by decide)) (fun k_ hk => ⟨trivial, hk.2⟩))) (fun _ h_ => h_))); (case aB => exact (by repeat (first | (with_reducible first | exact HB.out | apply below_alloc | apply pw_below_drewN | apply below_drew1) | exact HB.out))); (case aF => exact (fun _ _ => trivial)); (case aO => exact (by (with_reducible repeat (first | apply Kd.S_alloc | apply Kd.S_drewN | apply Kd.S_drew)); exact Kd.S_mono HO_4.out (fun k_ hk => ⟨trivial, fun e_ => hk.2 e_⟩))); (case aS => exact (below_size (by repeat (first | (with_reducible first | exact HB.out | apply below_alloc | apply pw_below_drewN | apply below_drew1) | exact HB.out)))); (case aL => have := LMc20.out; omega); intro v267 w38 ho hb hg hat; rw [← Ny266.out] at ho; have n0_ := Aside0.mk (hb); have n1_ := Aside0.mk (ho); clear HB; clear HO_4; clear HO265; have HB := n0_; have HO268 := n1_; clear n0_ n1_; clear ho hb hg hat; have p269 : 0 ≤ ((ji29) : Int) := of_decide_eq_true (by first | (with_reducible assumption) | assumption); have q269 : (ji29) < (l0.length : Int) := of_decide_eq_true (by first | (with_reducible assumption) | assumption); obtain ⟨ad269, e269, hx269_0⟩ := Kd.at_int HR0.out (ji29) p269 q269; cases e269; replace hx269_0 := (HB.out.cell (World.block_lt_of_cell? w _ hx269_0)).trans hx269_0; replace p269 := eq_true p269; replace q269 := eq_true q269))
                                            go_roundg kj9
                                            case measure => have := HK1.out; have := HJ9.out; omega
                                            case rel => exact ⟨(y266), (wrap64 ((ji29) + 1)), (by first | rfl | (simp; done) | (simp only [← hji29] <;> (first | rfl | simp)) | (simp [*]; done)), H', ⟨by have := HK1.out; have := HJ9.out; omega⟩, ⟨by (with_reducible repeat (first | apply Kd.S_alloc | apply Kd.S_drewN | apply Kd.S_drew)); exact HO268.out⟩, ⟨by repeat (first | (with_reducible first | exact HB.out | apply below_alloc | apply pw_below_drewN | apply below_drew1) | exact HB.out)⟩⟩
                                          · rw [if_neg c32] at H
                                            have c32b0 : ((rd l0 (ji29)) == 0) = false := beq_eq_false_iff_ne.mpr c32
                                            have c32b1 : ((rd l0 (ji29)) != 0) = true := bne_iff_ne.mpr c32
                                            simp only [Option.some.injEq, Prod.mk.injEq] at H
                                            obtain ⟨rfl, rfl⟩ := H
                                            go_wp2_with (first | ((with_reducible refine gate_dst (N := 51) rfl ?_); (try (refine gate_guard (by rfl) ?_; dsimp only)); refine Kd.R_lit (Kd.int .u8) _ 5 ?hg (N := 51) ?hd (xs := ([] : List Int)) (inner := []) (ok := fun _ => True) (okp := fun _ => True) ?hr ?hp (fun _ hk => hk) trivial (Below.refl _ _) (Nat.le_refl _) (by simp) ?_; (case hd => rfl); (case hg => rfl); (case hr => first | (go_simp; done) | (go_simp; rfl)); (case hp => exact (Reps.none _ _)); intro v260 w39 ho40 hb hg_ hnew_; clear hg_ hnew_; (first | rw [← Ny259.out] at ho40 | (simp only [Int.reduceToNat] at ho40; rw [← Ny259.out] at ho40)); have n0_ := Aside0.mk (Kd.S_elder' (by (with_reducible repeat (first | apply Kd.S_alloc | apply Kd.S_drewN | apply Kd.S_drew)); exact HO_4.out) (Kd.R_base ho40) hb); have n1_ := Aside0.mk (Kd.R_lower ho40 (below_size (by repeat (first | (with_reducible first | exact HB.out | apply below_alloc | apply pw_below_drewN | apply below_drew1) | exact HB.out)))); have n2_ := Aside0.mk (below_step (by repeat (first | (with_reducible first | exact HB.out | apply below_alloc | apply pw_below_drewN | apply below_drew1) | exact HB.out)) hb); clear HO_4; clear HB; have HO_4 := n0_; have HO261 := n1_; have HB := n2_; clear n0_ n1_ n2_; clear hb ho40; obtain ⟨i041, hi041, _, hsz41, _⟩ := info_parts info5; obtain ⟨A41, hcut41, hA41, hC41⟩ := print_mid_of (P := Try.prog) (Value.int .u8) 0 23 5 .i64 .i64 Try.underlying23 hi041 hsz41 A0 c0 l0 (ji15) (ji29) (of_decide_eq_true (by first | (with_reducible assumption) | assumption)) (by first | omega | exact of_decide_eq_true (by first | (with_reducible assumption) | assumption)) (of_decide_eq_true (by first | (with_reducible assumption) | assumption)) HC0.out; have HR262 := Aside0.mk (Kd.C_of_reads (h1 := fun _ => rfl) (hA41 _ (Kd.reads_of_C HR0.out))); have HC262 := Aside0.mk hC41; clear hA41 hC41 hi041 hsz41) | ((with_reducible refine gate_builtin (b := .append) (xs := #[.tmp 51, .tmp 59]) rfl ?_); (try (refine gate_guard (by rfl) ?_; dsimp only)); at_builtin; refine Kd.R_append_rows (Kd.int .u8) (w0 := w) w.heap.size rfl (.tmp 51) (.tmp 59) 23 5 (.int .u8 0) 1 rfl Try.underlying23 info5 rfl (by decide) (by omega) v260 y259 ((l0.take ((ji29) : Int).toNat).drop ((ji15) : Int).toNat) _ _ _ (fun _ => True) (fun _ => False) rfl rfl ?aO ?aR (fun _ _ h => h) (fun _ h => h.elim) ?aF ?aB ?aS ?aL ?_; (case aR => first | (rw [← show ((l0.take ((ji29) : Int).toNat).drop ((ji15) : Int).toNat).length = ((ji29).toNat - (ji15).toNat) from (by rw [List.length_drop, List.length_take]; have h_ : ((ji29) : Int) ≤ (l0.length : Int) := of_decide_eq_true (by first | (with_reducible assumption) | assumption); omega)]; repeat (first | exact (Kd.C_below HR262.out HB.out) | (with_reducible refine Kd.C_alloc ?_ _) | (with_reducible refine Kd.C_drewN ?_ _) | (with_reducible refine Kd.C_drew ?_))) | (repeat (first | exact (Kd.C_below HR262.out HB.out) | (with_reducible refine Kd.C_alloc ?_ _) | (with_reducible refine Kd.C_drewN ?_ _) | (with_reducible refine Kd.C_drew ?_)))); (case aB => exact (by repeat (first | (with_reducible first | exact HB.out | apply below_alloc | apply pw_below_drewN | apply below_drew1) | exact HB.out))); (case aF => exact (fun _ _ => trivial)); (case aO => exact (by (with_reducible repeat (first | apply Kd.R_alloc | apply Kd.R_drewN | apply Kd.R_drew)); exact HO261.out)); (case aS => exact (below_size (by repeat (first | (with_reducible first | exact HB.out | apply below_alloc | apply pw_below_drewN | apply below_drew1) | exact HB.out)))); (case aL => have := LMc19.out; have hlx_ := (show ((l0.take ((ji29) : Int).toNat).drop ((ji15) : Int).toNat).length = ((ji29).toNat - (ji15).toNat) from (by rw [List.length_drop, List.length_take]; have h_ : ((ji29) : Int) ≤ (l0.length : Int) := of_decide_eq_true (by first | (with_reducible assumption) | assumption); omega)); omega); intro v264 w42 ho hb hg hat; rw [← Ny263.out] at ho; have n0_ := Aside0.mk (Kd.S_after (ok := (fun _ => True)) (by (with_reducible repeat (first | apply Kd.S_alloc | apply Kd.S_drewN | apply Kd.S_drew)); exact HO_4.out) hg hat); have n1_ := Aside0.mk (hb); have n2_ := Aside0.mk (ho); clear HO_4; clear HB; clear HO261; have HO_4 := n0_; have HB := n1_; have HO265 := n2_; clear n0_ n1_ n2_; clear ho hb hg hat; obtain ⟨Ao43, co43, eo43⟩ := Kd.R_slice HO265.out; subst eo43) | ((with_reducible refine gate_builtin (b := .append) (xs := #[.tmp 49, .tmp 62]) rfl ?_); (try (refine gate_guard (by rfl) ?_; dsimp only)); at_builtin; refine Kd.S_append k42 (w0 := w) w.heap.size rfl (.tmp 49) (.tmp 62) 25 42 (.agg #[(.string ⟨#[]⟩), (.slice none 0 0)]) 40 rfl Try.underlying25 info42 rfl (by decide) (by omega) u4 x4_1 (⟨(strOfNums ((l0.take ((wrap64 (x5_1 + 4)) : Int).toNat).drop (x5_1 : Int).toNat)), y263⟩ : S42) [.string (strOfNums ((l0.take ((wrap64 (x5_1 + 4)) : Int).toNat).drop (x5_1 : Int).toNat)), .slice Ao43 y263.length co43] (fun _ => True) (fun k_ => some k_ = (.slice Ao43 y263.length co43 : Value).ownBlock) rfl rfl ?aP (fun k_ hk_ => ((Kd.R_mono (ok' := fun k_ => ((fun _ => True)) k_ ∧ some k_ ≠ (u4 : Value).ownBlock) (Kd.R_apart' (HO265.out) (Kd.S_typed HO_4.out) (by decide)) (fun k_ hk => ⟨trivial, hk.2⟩))).1 k_ hk_.symm) ?aF ?aO ?aB ?aS ?aL ?_; (case aP => exact k42_mkM _ _ _ (⟨(strOfNums ((l0.take ((wrap64 (x5_1 + 4)) : Int).toNat).drop (x5_1 : Int).toNat)), y263⟩ : S42) (Kd.R_mono (Kd.R_tight rfl (Kd.R_mono (ok' := fun k_ => ((fun _ => True)) k_ ∧ some k_ ≠ (u4 : Value).ownBlock) (Kd.R_apart' (HO265.out) (Kd.S_typed HO_4.out) (by decide)) (fun k_ hk => ⟨trivial, hk.2⟩))) (fun _ h_ => h_))); (case aB => exact (by repeat (first | (with_reducible first | exact HB.out | apply below_alloc | apply pw_below_drewN | apply below_drew1) | exact HB.out))); (case aF => exact (fun _ _ => trivial)); (case aO => exact (by (with_reducible repeat (first | apply Kd.S_alloc | apply Kd.S_drewN | apply Kd.S_drew)); exact Kd.S_mono HO_4.out (fun k_ hk => ⟨trivial, fun e_ => hk.2 e_⟩))); (case aS => exact (below_size (by repeat (first | (with_reducible first | exact HB.out | apply below_alloc | apply pw_below_drewN | apply below_drew1) | exact HB.out)))); (case aL => have := LMc20.out; omega); intro v267 w44 ho hb hg hat; rw [← Ny266.out] at ho; have n0_ := Aside0.mk (hb); have n1_ := Aside0.mk (ho); clear HB; clear HO_4; clear HO265; have HB := n0_; have HO268 := n1_; clear n0_ n1_; clear ho hb hg hat; have p269 : 0 ≤ ((ji29) : Int) := of_decide_eq_true (by first | (with_reducible assumption) | assumption); have q269 : (ji29) < (l0.length : Int) := of_decide_eq_true (by first | (with_reducible assumption) | assumption); obtain ⟨ad269, e269, hx269_0⟩ := Kd.at_int HR0.out (ji29) p269 q269; cases e269; replace hx269_0 := (HB.out.cell (World.block_lt_of_cell? w _ hx269_0)).trans hx269_0; replace p269 := eq_true p269; replace q269 := eq_true q269))
                                            go_ret2
                                            exact ⟨_, by first | rfl | (simp [errW_none, errW_some] <;> rfl) | (simp only [← hji15, ← hji29]; first | rfl | (simp [errW_none, errW_some] <;> rfl)) | (simp [*, errW_none, errW_some] <;> rfl), by first | exact Kd.S_nil _ _ _ _ _ | exact Kd.N_nil _ _ _ _ _ | exact Kd.V_nil _ _ _ _ _ | exact Kd.Q_nil _ _ _ _ _ | exact Kd.R_nil _ _ _ _ _, by repeat (first | (with_reducible first | exact HB.out | apply below_alloc | apply pw_below_drewN | apply below_drew1) | exact HB.out)⟩
                                        · rw [if_neg c31] at H
                                          exact absurd H (by simp)
                                      · rw [if_neg c30] at H
                                        exact absurd H (by simp)
                                  · rw [if_neg c21] at H
                                    have c21b0 : ((Int.tmod (wrap64 (t257)) 2) == 1) = false := beq_eq_false_iff_ne.mpr c21
                                    have c21b1 : ((Int.tmod (wrap64 (t257)) 2) != 1) = true := bne_iff_ne.mpr c21
                                    have H' := Aside0.mk H
                                    clear H
                                    go_wp2_with (first | ((with_reducible refine gate_dst (N := 51) rfl ?_); (try (refine gate_guard (by rfl) ?_; dsimp only)); refine Kd.R_lit (Kd.int .u8) _ 5 ?hg (N := 51) ?hd (xs := ([] : List Int)) (inner := []) (ok := fun _ => True) (okp := fun _ => True) ?hr ?hp (fun _ hk => hk) trivial (Below.refl _ _) (Nat.le_refl _) (by simp) ?_; (case hd => rfl); (case hg => rfl); (case hr => first | (go_simp; done) | (go_simp; rfl)); (case hp => exact (Reps.none _ _)); intro v260 w45 ho46 hb hg_ hnew_; clear hg_ hnew_; (first | rw [← Ny259.out] at ho46 | (simp only [Int.reduceToNat] at ho46; rw [← Ny259.out] at ho46)); have n0_ := Aside0.mk (Kd.S_elder' (by (with_reducible repeat (first | apply Kd.S_alloc | apply Kd.S_drewN | apply Kd.S_drew)); exact HO_4.out) (Kd.R_base ho46) hb); have n1_ := Aside0.mk (Kd.R_lower ho46 (below_size (by repeat (first | (with_reducible first | exact HB.out | apply below_alloc | apply pw_below_drewN | apply below_drew1) | exact HB.out)))); have n2_ := Aside0.mk (below_step (by repeat (first | (with_reducible first | exact HB.out | apply below_alloc | apply pw_below_drewN | apply below_drew1) | exact HB.out)) hb); clear HO_4; clear HB; have HO_4 := n0_; have HO261 := n1_; have HB := n2_; clear n0_ n1_ n2_; clear hb ho46; obtain ⟨i047, hi047, _, hsz47, _⟩ := info_parts info5; obtain ⟨A47, hcut47, hA47, hC47⟩ := print_mid_of (P := Try.prog) (Value.int .u8) 0 23 5 .i64 .i64 Try.underlying23 hi047 hsz47 A0 c0 l0 (ji15) (wrap64 ((ji15) + (wrap64 (t257)))) (of_decide_eq_true (by first | (with_reducible assumption) | assumption)) (by first | omega | exact of_decide_eq_true (by first | (with_reducible assumption) | assumption)) (of_decide_eq_true (by first | (with_reducible assumption) | assumption)) HC0.out; have HR262 := Aside0.mk (Kd.C_of_reads (h1 := fun _ => rfl) (hA47 _ (Kd.reads_of_C HR0.out))); have HC262 := Aside0.mk hC47; clear hA47 hC47 hi047 hsz47) | ((with_reducible refine gate_builtin (b := .append) (xs := #[.tmp 51, .tmp 59]) rfl ?_); (try (refine gate_guard (by rfl) ?_; dsimp only)); at_builtin; refine Kd.R_append_rows (Kd.int .u8) (w0 := w) w.heap.size rfl (.tmp 51) (.tmp 59) 23 5 (.int .u8 0) 1 rfl Try.underlying23 info5 rfl (by decide) (by omega) v260 y259 ((l0.take ((wrap64 ((ji15) + (wrap64 (t257)))) : Int).toNat).drop ((ji15) : Int).toNat) _ _ _ (fun _ => True) (fun _ => False) rfl rfl ?aO ?aR (fun _ _ h => h) (fun _ h => h.elim) ?aF ?aB ?aS ?aL ?_; (case aR => first | (rw [← show ((l0.take ((wrap64 ((ji15) + (wrap64 (t257)))) : Int).toNat).drop ((ji15) : Int).toNat).length = ((wrap64 ((ji15) + (wrap64 (t257)))).toNat - (ji15).toNat) from (by rw [List.length_drop, List.length_take]; have h_ : ((wrap64 ((ji15) + (wrap64 (t257)))) : Int) ≤ (l0.length : Int) := of_decide_eq_true (by first | (with_reducible assumption) | assumption); omega)]; repeat (first | exact (Kd.C_below HR262.out HB.out) | (with_reducible refine Kd.C_alloc ?_ _) | (with_reducible refine Kd.C_drewN ?_ _) | (with_reducible refine Kd.C_drew ?_))) | (repeat (first | exact (Kd.C_below HR262.out HB.out) | (with_reducible refine Kd.C_alloc ?_ _) | (with_reducible refine Kd.C_drewN ?_ _) | (with_reducible refine Kd.C_drew ?_)))); (case aB => exact (by repeat (first | (with_reducible first | exact HB.out | apply below_alloc | apply pw_below_drewN | apply below_drew1) | exact HB.out))); (case aF => exact (fun _ _ => trivial)); (case aO => exact (by (with_reducible repeat (first | apply Kd.R_alloc | apply Kd.R_drewN | apply Kd.R_drew)); exact HO261.out)); (case aS => exact (below_size (by repeat (first | (with_reducible first | exact HB.out | apply below_alloc | apply pw_below_drewN | apply below_drew1) | exact HB.out)))); (case aL => have := LMc19.out; have hlx_ := (show ((l0.take ((wrap64 ((ji15) + (wrap64 (t257)))) : Int).toNat).drop ((ji15) : Int).toNat).length = ((wrap64 ((ji15) + (wrap64 (t257)))).toNat - (ji15).toNat) from (by rw [List.length_drop, List.length_take]; have h_ : ((wrap64 ((ji15) + (wrap64 (t257)))) : Int) ≤ (l0.length : Int) := of_decide_eq_true (by first | (with_reducible assumption) | assumption); omega)); omega); intro v264 w48 ho hb hg hat; rw [← Ny263.out] at ho; have n0_ := Aside0.mk (Kd.S_after (ok := (fun _ => True)) (by (with_reducible repeat (first | apply Kd.S_alloc | apply Kd.S_drewN | apply Kd.S_drew)); exact HO_4.out) hg hat); have n1_ := Aside0.mk (hb); have n2_ := Aside0.mk (ho); clear HO_4; clear HB; clear HO261; have HO_4 := n0_; have HB := n1_; have HO265 := n2_; clear n0_ n1_ n2_; clear ho hb hg hat; obtain ⟨Ao49, co49, eo49⟩ := Kd.R_slice HO265.out; subst eo49) | ((with_reducible refine gate_builtin (b := .append) (xs := #[.tmp 49, .tmp 62]) rfl ?_); (try (refine gate_guard (by rfl) ?_; dsimp only)); at_builtin; refine Kd.S_append k42 (w0 := w) w.heap.size rfl (.tmp 49) (.tmp 62) 25 42 (.agg #[(.string ⟨#[]⟩), (.slice none 0 0)]) 40 rfl Try.underlying25 info42 rfl (by decide) (by omega) u4 x4_1 (⟨(strOfNums ((l0.take ((wrap64 (x5_1 + 4)) : Int).toNat).drop (x5_1 : Int).toNat)), y263⟩ : S42) [.string (strOfNums ((l0.take ((wrap64 (x5_1 + 4)) : Int).toNat).drop (x5_1 : Int).toNat)), .slice Ao49 y263.length co49] (fun _ => True) (fun k_ => some k_ = (.slice Ao49 y263.length co49 : Value).ownBlock) rfl rfl ?aP (fun k_ hk_ => ((Kd.R_mono (ok' := fun k_ => ((fun _ => True)) k_ ∧ some k_ ≠ (u4 : Value).ownBlock) (Kd.R_apart' (HO265.out) (Kd.S_typed HO_4.out) (by decide)) (fun k_ hk => ⟨trivial, hk.2⟩))).1 k_ hk_.symm) ?aF ?aO ?aB ?aS ?aL ?_; (case aP => exact k42_mkM _ _ _ (⟨(strOfNums ((l0.take ((wrap64 (x5_1 + 4)) : Int).toNat).drop (x5_1 : Int).toNat)), y263⟩ : S42) (Kd.R_mono (Kd.R_tight rfl (Kd.R_mono (ok' := fun k_ => ((fun _ => True)) k_ ∧ some k_ ≠ (u4 : Value).ownBlock) (Kd.R_apart' (HO265.out) (Kd.S_typed HO_4.out) (by decide)) (fun k_ hk => ⟨trivial, hk.2⟩))) (fun _ h_ => h_))); (case aB => exact (by repeat (first | (with_reducible first | exact HB.out | apply below_alloc | apply pw_below_drewN | apply below_drew1) | exact HB.out))); (case aF => exact (fun _ _ => trivial)); (case aO => exact (by (with_reducible repeat (first | apply Kd.S_alloc | apply Kd.S_drewN | apply Kd.S_drew)); exact Kd.S_mono HO_4.out (fun k_ hk => ⟨trivial, fun e_ => hk.2 e_⟩))); (case aS => exact (below_size (by repeat (first | (with_reducible first | exact HB.out | apply below_alloc | apply pw_below_drewN | apply below_drew1) | exact HB.out)))); (case aL => have := LMc20.out; omega); intro v267 w50 ho hb hg hat; rw [← Ny266.out] at ho; have n0_ := Aside0.mk (hb); have n1_ := Aside0.mk (ho); clear HB; clear HO_4; clear HO265; have HB := n0_; have HO268 := n1_; clear n0_ n1_; clear ho hb hg hat))
                                    go_roundg kj9
                                    case measure => have := HK1.out; have := HJ9.out; omega
                                    case rel => exact ⟨(y266), (wrap64 ((ji15) + (wrap64 (t257)))), (by first | rfl | (simp; done) | (simp only [← hji15] <;> (first | rfl | simp)) | (simp [*]; done)), H', ⟨by have := HK1.out; have := HJ9.out; omega⟩, ⟨by (with_reducible repeat (first | apply Kd.S_alloc | apply Kd.S_drewN | apply Kd.S_drew)); exact HO268.out⟩, ⟨by repeat (first | (with_reducible first | exact HB.out | apply below_alloc | apply pw_below_drewN | apply below_drew1) | exact HB.out)⟩⟩
                                · rw [if_neg c20] at H
                                  exact absurd H (by simp)
                              · rw [if_neg c19] at H
                                exact absurd H (by simp)
                            · rw [if_neg c18] at H
                              exact absurd H (by simp)
                          · rw [if_neg c17] at H
                            exact absurd H (by simp)
                        · rw [if_neg c16] at H
                          exact absurd H (by simp)
                · replace c8 := Bool.eq_false_iff.mpr c8
                  subst c8
                  have H1 : (some (([] : List (S42)), 3)) = some (r1, r2) := by rw [if_neg (show ¬ (false = true) by decide)] at H; exact H
                  clear H
                  have H := H1
                  clear H1
                  simp only [Option.some.injEq, Prod.mk.injEq] at H
                  obtain ⟨rfl, rfl⟩ := H
                  obtain ⟨i051, hi051, _, hsz51, _⟩ := info_parts info5
                  obtain ⟨A51, hcut51, hA51, hC51⟩ := print_mid_of (P := Try.prog) (Value.int .u8) 0 23 5 .i64 .i64 Try.underlying23 hi051 hsz51 A0 c0 l0 x5_1 (wrap64 (x5_1 + 4)) (of_decide_eq_true (by first | (with_reducible assumption) | assumption)) (by first | omega | exact of_decide_eq_true (by first | (with_reducible assumption) | assumption)) (of_decide_eq_true (by first | (with_reducible assumption) | assumption)) HC0.out
                  have HR255 := Aside0.mk (Kd.C_of_reads (h1 := fun _ => rfl) (hA51 _ (Kd.reads_of_C HR0.out)))
                  have HC255 := Aside0.mk hC51
                  clear hA51 hC51 hi051 hsz51
                  have hcv52 := Kd.C_string (P := Try.prog) (A := A51) (c := (c0 - x5_1.toNat)) Try.underlying23 Try.underlying5 Try.underlying9 (Kd.C_below HR255.out HB.out); have hcv52q := hcv52; (try simp only [List.length_take, List.length_drop, Int.reduceToNat] at hcv52q); have hcv52d := fun nd => Kd.C_string (P := Try.prog) (A := A51) (c := (c0 - x5_1.toNat)) Try.underlying23 Try.underlying5 Try.underlying9 (Kd.C_drewN (Kd.C_below HR255.out HB.out) nd); (try simp only [List.length_take, List.length_drop, Int.reduceToNat] at hcv52d); have hcv52e := hcv52; have hcv52f := hcv52d; (try (have hmn_ : ((wrap64 (x5_1 + 4)) : Int) ≤ (l0.length : Int) := (by first | omega | exact of_decide_eq_true (by assumption)); (try simp only [List.length_take, List.length_drop, Int.reduceToNat] at hcv52e); rw [Nat.min_eq_left (by omega)] at hcv52e; (try (rw [Nat.min_eq_left (by omega)] at hcv52d)); clear hmn_))
                  go_wp2_with (first | ((with_reducible refine gate_callee (f := 77) rfl ?_); refine goesL_ (some 26) rfl rfl Try.func77 (by kernel_rfl) rfl #[.string (strOfNums ((l0.take ((wrap64 (x5_1 + 4)) : Int).toNat).drop (x5_1 : Int).toNat))] rfl (by (try simp only [List.map_toArray, List.map_cons, List.map_nil]); first | done | rfl | (simp only [List.length_drop, List.length_take]; rfl)) ?_; (with_reducible refine (marquetryref24_Name.calls k1 (strOfNums ((l0.take ((wrap64 (x5_1 + 4)) : Int).toNat).drop (x5_1 : Int).toNat)) false _ A7.out).mono ?_); clear A7; rintro e w' ⟨rfl, ⟨nd, rfl⟩⟩; refine ⟨_, rfl, ?_⟩) | (go_at_call 77; (with_reducible refine (marquetryref24_Name.calls k1 (strOfNums ((l0.take ((wrap64 (x5_1 + 4)) : Int).toNat).drop (x5_1 : Int).toNat)) false _ A7.out).mono ?_); clear A7; rintro e w' ⟨rfl, ⟨nd, rfl⟩⟩))
                  go_ret2
                  exact ⟨_, by first | rfl | (simp [errW_none, errW_some] <;> rfl) | (simp [*, errW_none, errW_some] <;> rfl), by first | exact Kd.S_nil _ _ _ _ _ | exact Kd.N_nil _ _ _ _ _ | exact Kd.V_nil _ _ _ _ _ | exact Kd.Q_nil _ _ _ _ _ | exact Kd.R_nil _ _ _ _ _, by repeat (first | (with_reducible first | exact HB.out | apply below_alloc | apply pw_below_drewN | apply below_drew1) | exact HB.out)⟩
              · rw [if_neg c6] at H
                exact absurd H (by simp)
            · rw [if_neg c5] at H
              exact absurd H (by simp)
          · rw [if_neg c4] at H
            exact absurd H (by simp)
      · rw [if_neg c2] at H
        have c2b0 : decide (x5_1 < (l0.length : Int)) = false := decide_eq_false c2
        clear c2
        simp only [Option.some.injEq, Prod.mk.injEq] at H
        obtain ⟨rfl, rfl⟩ := H
        go_wp2
        go_ret2
        exact ⟨_, by first | rfl | (simp [errW_none, errW_some] <;> rfl) | (simp [*, errW_none, errW_some] <;> rfl), by (with_reducible repeat (first | apply Kd.S_alloc | apply Kd.S_drewN | apply Kd.S_drew)); exact HO_4.out, by repeat (first | (with_reducible first | exact HB.out | apply below_alloc | apply pw_below_drewN | apply below_drew1) | exact HB.out)⟩
def marquetryref24_Scan.j0 : Nat → List Int → Int → Bool → Option ((List (S42)) × Int)
  | 0, _, _, _ => none
  | k + 1, x0, x4, x32 => if x32 = true then (some (([] : List (S42)), 3)) else (if x4 > (IntKind.u64.wrap (wrap64 ((x0.length : Int) - 8))) then (some (([] : List (S42)), 2)) else (if 12 ≤ (wrap64 (8 + (wrap64 (x4)))) then (if (wrap64 (8 + (wrap64 (x4)))) ≤ (x0.length : Int) then ((marquetryref24_Inner.f k ((x0.take ((wrap64 (8 + (wrap64 (x4)))) : Int).toNat).drop 12)).bind fun bt275 => (some (bt275.1, bt275.2))) else (none)) else (none)))
def marquetryref24_Scan.f (k : Nat) (l0 : List Int) : Option ((List (S42)) × Int) := if (l0.length : Int) < 12 then (some (([] : List (S42)), 2)) else ((marquetryref01_Get.f k l0 4 4).bind fun bt270 => (if 4 ≤ (l0.length : Int) then (if (strOfNums (l0.take 4)).toList = ([82, 73, 70, 70] : List UInt8) then (if 8 ≤ 12 then (if 12 ≤ (l0.length : Int) then (if (strOfNums ((l0.take 12).drop 8)).toList = ([87, 69, 66, 80] : List UInt8) then (if bt270.1 < 4 then (marquetryref24_Scan.j0 k l0 bt270.1 true) else (marquetryref24_Scan.j0 k l0 bt270.1 ((Int.tmod bt270.1 2) != 0))) else (marquetryref24_Scan.j0 k l0 bt270.1 true)) else (none)) else (none)) else (marquetryref24_Scan.j0 k l0 bt270.1 true)) else (none)))
theorem marquetryref24_Scan.mono_l : ∀ k, (∀ y0 y1 y2, LeO (marquetryref24_Scan.j0 k y0 y1 y2) (marquetryref24_Scan.j0 (k + 1) y0 y1 y2))
  | 0 => fun _ _ _ r h => by simp [marquetryref24_Scan.j0] at h
  | k + 1 => by
    have ih0 := marquetryref24_Scan.mono_l k
    · intro y0 y1 y2
      unfold marquetryref24_Scan.j0
      repeat' first
      | (with_reducible exact ih0 _ _ _)
      | (with_reducible exact marquetryref01_Get.mono _ _ _ _)
      | (with_reducible exact marquetryref24_Inner.mono _ _)
      | (with_reducible exact LeO.refl _)
      | (with_reducible exact LeO.none _)
      | (with_reducible refine LeO.ite ?_ ?_)
      | (with_reducible refine LeO.bind ?_ (fun _ => ?_))
      | exact ih0 _ _ _
      | exact marquetryref01_Get.mono _ _ _ _
      | exact marquetryref24_Inner.mono _ _
      | exact LeO.none _
      | refine LeO.ite ?_ ?_
      | refine LeO.bind ?_ (fun _ => ?_)
theorem marquetryref24_Scan.mono : ∀ a0 k, LeO (marquetryref24_Scan.f k a0) (marquetryref24_Scan.f (k + 1) a0) := by
  intro a0 k
  have ih0 := marquetryref24_Scan.mono_l k
  unfold marquetryref24_Scan.f
  repeat' first
      | (with_reducible exact ih0 _ _ _)
      | (with_reducible exact marquetryref01_Get.mono _ _ _ _)
      | (with_reducible exact marquetryref24_Inner.mono _ _)
      | (with_reducible exact LeO.refl _)
      | (with_reducible exact LeO.none _)
      | (with_reducible refine LeO.ite ?_ ?_)
      | (with_reducible refine LeO.bind ?_ (fun _ => ?_))
      | exact ih0 _ _ _
      | exact marquetryref01_Get.mono _ _ _ _
      | exact marquetryref24_Inner.mono _ _
      | exact LeO.none _
      | refine LeO.ite ?_ ?_
      | refine LeO.bind ?_ (fun _ => ?_)
set_option maxHeartbeats 8000000 in
set_option maxRecDepth 100000 in
theorem marquetryref24_Scan.calls (k : Nat) (A0 : Option Addr) (c0 : Nat) (l0 : List Int) (r1 : List (S42)) (r2 : Int) (w : World) (hr0 : Kd.C (Kd.int .u8) w A0 l0.length l0) (hc0 : l0.length ≤ c0) (h : marquetryref24_Scan.f k l0 = some (r1, r2)) :
    Calls Try.prog 47 #[.slice A0 l0.length c0] w fun e w' => ∃ v0_ : Value, e = .returned (.tuple #[v0_, .int .i64 r2]) ∧ Kd.S k42 42 w' w.heap.size (fun _ => True) v0_ r1 ∧ Below w.heap.size w w' := by
  have HR0 := Aside0.mk hr0
  have HC0 := Aside0.mk hc0
  clear hr0 hc0
  have HB := Aside0.mk (Below.refl w.heap.size w)
  have H : (if (l0.length : Int) < 12 then (some (([] : List (S42)), 2)) else ((marquetryref01_Get.f k l0 4 4).bind fun bt270 => (if 4 ≤ (l0.length : Int) then (if (strOfNums (l0.take 4)).toList = ([82, 73, 70, 70] : List UInt8) then (if 8 ≤ 12 then (if 12 ≤ (l0.length : Int) then (if (strOfNums ((l0.take 12).drop 8)).toList = ([87, 69, 66, 80] : List UInt8) then (if bt270.1 < 4 then (marquetryref24_Scan.j0 k l0 bt270.1 true) else (marquetryref24_Scan.j0 k l0 bt270.1 ((Int.tmod bt270.1 2) != 0))) else (marquetryref24_Scan.j0 k l0 bt270.1 true)) else (none)) else (none)) else (marquetryref24_Scan.j0 k l0 bt270.1 true)) else (none)))) = some (r1, r2) := h
  clear h
  by_cases c2 : (l0.length : Int) < 12
  · rw [if_pos c2] at H
    have c2b0 : decide ((l0.length : Int) < 12) = true := decide_eq_true c2
    have c2b1 : decide (l0.length < 12) = true := decide_eq_true (by omega)
    clear c2
    simp only [Option.some.injEq, Prod.mk.injEq] at H
    obtain ⟨rfl, rfl⟩ := H
    go_enter Try.func47, Try.ntmps47
    go_wp2
    go_ret2
    exact ⟨_, by first | rfl | (simp [errW_none, errW_some] <;> rfl) | (simp [*, errW_none, errW_some] <;> rfl), by first | exact Kd.S_nil _ _ _ _ _ | exact Kd.N_nil _ _ _ _ _ | exact Kd.V_nil _ _ _ _ _ | exact Kd.Q_nil _ _ _ _ _ | exact Kd.R_nil _ _ _ _ _, by repeat (first | (with_reducible first | exact HB.out | apply below_alloc | apply pw_below_drewN | apply below_drew1) | exact HB.out)⟩
  · rw [if_neg c2] at H
    have c2b0 : decide ((l0.length : Int) < 12) = false := decide_eq_false c2
    have c2b1 : decide (l0.length < 12) = false := decide_eq_false (by omega)
    clear c2
    replace H := Option.bind_eq_some_iff.mp H
    obtain ⟨⟨t270, t271⟩, A30, H⟩ := H
    replace H : (if 4 ≤ (l0.length : Int) then (if (strOfNums (l0.take 4)).toList = ([82, 73, 70, 70] : List UInt8) then (if 8 ≤ 12 then (if 12 ≤ (l0.length : Int) then (if (strOfNums ((l0.take 12).drop 8)).toList = ([87, 69, 66, 80] : List UInt8) then (if t270 < 4 then (marquetryref24_Scan.j0 k l0 t270 true) else (marquetryref24_Scan.j0 k l0 t270 ((Int.tmod t270 2) != 0))) else (marquetryref24_Scan.j0 k l0 t270 true)) else (none)) else (none)) else (marquetryref24_Scan.j0 k l0 t270 true)) else (none)) = some (r1, r2) := H
    have A3 := Aside0.mk A30
    clear A30
    have HC4 := Aside0.mk H
    clear H
    go_enter Try.func47, Try.ntmps47
    go_upto_region 4 with (first | ((with_reducible refine gate_callee (f := 76) rfl ?_); refine goesL_ (some 11) rfl rfl Try.func76 (by kernel_rfl) rfl #[.slice A0 l0.length c0, .int .i64 4, .int .i64 4] rfl (by (try simp only [List.map_toArray, List.map_cons, List.map_nil]); first | done | rfl | (simp only [List.length_drop, List.length_take]; rfl)) ?_; (with_reducible refine (marquetryref01_Get.calls k _ _ l0 4 4 t270 t271 _ ?side1 ?side2 A3.out).mono ?_); (case side1 => repeat (first | exact HR0.out | (with_reducible refine Kd.C_alloc ?_ _) | (with_reducible refine Kd.C_drewN ?_ _) | (with_reducible refine Kd.C_drew ?_))); (case side2 => exact HC0.out); rintro e w' ⟨rfl, ⟨nd, rfl⟩⟩; refine ⟨_, rfl, ?_⟩) | (go_at_call 76; (with_reducible refine (marquetryref01_Get.calls k _ _ l0 4 4 t270 t271 _ ?side1 ?side2 A3.out).mono ?_); (case side1 => repeat (first | exact HR0.out | (with_reducible refine Kd.C_alloc ?_ _) | (with_reducible refine Kd.C_drewN ?_ _) | (with_reducible refine Kd.C_drew ?_))); (case side2 => exact HC0.out); rintro e w' ⟨rfl, ⟨nd, rfl⟩⟩))
    (try simp only [Act.put, List.setIfInBounds_toArray, List.set_cons_zero, List.set_cons_succ])
    go_cut [32] (fun v32 wc => ∃ (kq : Nat) (x32_3 : Bool), v32 = .bool x32_3 ∧ Aside0 (marquetryref24_Scan.j0 kq l0 t270 x32_3 = some (r1, r2)) ∧ Aside0 (kq ≤ k) ∧ Aside0 (Below w.heap.size w wc))
    case first =>
      have H := HC4.out
      clear HC4
      by_cases c5 : 4 ≤ (l0.length : Int)
      · rw [if_pos c5] at H
        have c5b0 := eq_true c5
        have c5b1 : decide (4 ≤ (l0.length : Int)) = true := decide_eq_true c5
        clear c5
        by_cases c6 : (strOfNums (l0.take 4)).toList = ([82, 73, 70, 70] : List UInt8)
        · rw [if_pos c6] at H
          have c6b0 : ((strOfNums (l0.take 4)).toList == ([82, 73, 70, 70] : List UInt8)) = true := beq_iff_eq.mpr c6
          have c6b1 : ((strOfNums (l0.take 4)).toList != ([82, 73, 70, 70] : List UInt8)) = false := bne_eq_false_iff_eq.mpr c6
          clear c6
          (first | rw [c6b0] | (simp only [i64_w, i32_w]; rw [c6b0]) | skip)
          by_cases c7 : 8 ≤ 12
          · rw [if_pos c7] at H
            have c7b0 := eq_true c7
            have c7b1 : decide (8 ≤ 12) = true := decide_eq_true c7
            clear c7
            by_cases c8 : 12 ≤ (l0.length : Int)
            · rw [if_pos c8] at H
              have c8b0 := eq_true c8
              have c8b1 : decide (12 ≤ (l0.length : Int)) = true := decide_eq_true c8
              clear c8
              by_cases c9 : (strOfNums ((l0.take 12).drop 8)).toList = ([87, 69, 66, 80] : List UInt8)
              · rw [if_pos c9] at H
                have c9b0 : ((strOfNums ((l0.take 12).drop 8)).toList == ([87, 69, 66, 80] : List UInt8)) = true := beq_iff_eq.mpr c9
                have c9b1 : ((strOfNums ((l0.take 12).drop 8)).toList != ([87, 69, 66, 80] : List UInt8)) = false := bne_eq_false_iff_eq.mpr c9
                clear c9
                by_cases c10 : t270 < 4
                · rw [if_pos c10] at H
                  have c10b0 : decide (t270 < 4) = true := decide_eq_true c10
                  clear c10
                  have H' := Aside0.mk H
                  clear H
                  obtain ⟨i011, hi011, _, hsz11, _⟩ := info_parts info5
                  obtain ⟨hcut11, hA11, hC11⟩ := print_take_of (P := Try.prog) (Value.int .u8) 0 23 5 .i64 Try.underlying23 hi011 hsz11 A0 c0 l0 4 (by omega) (of_decide_eq_true (by first | (with_reducible assumption) | assumption)) HC0.out
                  have HR272 := Aside0.mk (Kd.C_of_reads (h1 := fun _ => rfl) (hA11 _ (Kd.reads_of_C HR0.out)))
                  have HC272 := Aside0.mk hC11
                  clear hA11 hC11 hi011 hsz11
                  have hcv12 := Kd.C_string (P := Try.prog) (A := A0) (c := c0) Try.underlying23 Try.underlying5 Try.underlying9 (Kd.C_below HR272.out HB.out); have hcv12q := hcv12; (try simp only [List.length_take, List.length_drop, Int.reduceToNat] at hcv12q); have hcv12d := fun nd => Kd.C_string (P := Try.prog) (A := A0) (c := c0) Try.underlying23 Try.underlying5 Try.underlying9 (Kd.C_drewN (Kd.C_below HR272.out HB.out) nd); (try simp only [List.length_take, List.length_drop, Int.reduceToNat] at hcv12d); have hcv12e := hcv12; have hcv12f := hcv12d; (try (have hmn_ : ((wrap64 (x5_1 + 4)) : Int) ≤ (l0.length : Int) := (by first | omega | exact of_decide_eq_true (by assumption)); (try simp only [List.length_take, List.length_drop, Int.reduceToNat] at hcv12e); rw [Nat.min_eq_left (by omega)] at hcv12e; (try (rw [Nat.min_eq_left (by omega)] at hcv12d)); clear hmn_))
                  obtain ⟨i013, hi013, _, hsz13, _⟩ := info_parts info5
                  obtain ⟨A13, hcut13, hA13, hC13⟩ := print_mid_of (P := Try.prog) (Value.int .u8) 0 23 5 .i64 .i64 Try.underlying23 hi013 hsz13 A0 c0 l0 8 12 (by omega) (by first | omega | exact of_decide_eq_true (by first | (with_reducible assumption) | assumption)) (of_decide_eq_true (by first | (with_reducible assumption) | assumption)) HC0.out
                  have HR273 := Aside0.mk (Kd.C_of_reads (h1 := fun _ => rfl) (hA13 _ (Kd.reads_of_C HR0.out)))
                  have HC273 := Aside0.mk hC13
                  clear hA13 hC13 hi013 hsz13
                  have hcv14 := Kd.C_string (P := Try.prog) (A := A13) (c := (c0 - 8)) Try.underlying23 Try.underlying5 Try.underlying9 (Kd.C_below HR273.out HB.out); have hcv14q := hcv14; (try simp only [List.length_take, List.length_drop, Int.reduceToNat] at hcv14q); have hcv14d := fun nd => Kd.C_string (P := Try.prog) (A := A13) (c := (c0 - 8)) Try.underlying23 Try.underlying5 Try.underlying9 (Kd.C_drewN (Kd.C_below HR273.out HB.out) nd); (try simp only [List.length_take, List.length_drop, Int.reduceToNat] at hcv14d); have hcv14e := hcv14; have hcv14f := hcv14d; (try (have hmn_ : (12 : Int) ≤ (l0.length : Int) := (by first | omega | exact of_decide_eq_true (by assumption)); (try simp only [List.length_take, List.length_drop, Int.reduceToNat] at hcv14e); rw [Nat.min_eq_left (by omega)] at hcv14e; (try (rw [Nat.min_eq_left (by omega)] at hcv14d)); clear hmn_))
                  go_wp2
                  go_meet
                  case rel => exact ⟨_, (true), (by first | rfl | (simp; done) | (simp [*]; done)), H', ⟨by first | omega | exact Nat.le_refl _⟩, ⟨by repeat (first | (with_reducible first | exact HB.out | apply below_alloc | apply pw_below_drewN | apply below_drew1) | exact HB.out)⟩⟩
                · rw [if_neg c10] at H
                  have c10b0 : decide (t270 < 4) = false := decide_eq_false c10
                  clear c10
                  have H' := Aside0.mk H
                  clear H
                  obtain ⟨i015, hi015, _, hsz15, _⟩ := info_parts info5
                  obtain ⟨hcut15, hA15, hC15⟩ := print_take_of (P := Try.prog) (Value.int .u8) 0 23 5 .i64 Try.underlying23 hi015 hsz15 A0 c0 l0 4 (by omega) (of_decide_eq_true (by first | (with_reducible assumption) | assumption)) HC0.out
                  have HR272 := Aside0.mk (Kd.C_of_reads (h1 := fun _ => rfl) (hA15 _ (Kd.reads_of_C HR0.out)))
                  have HC272 := Aside0.mk hC15
                  clear hA15 hC15 hi015 hsz15
                  have hcv16 := Kd.C_string (P := Try.prog) (A := A0) (c := c0) Try.underlying23 Try.underlying5 Try.underlying9 (Kd.C_below HR272.out HB.out); have hcv16q := hcv16; (try simp only [List.length_take, List.length_drop, Int.reduceToNat] at hcv16q); have hcv16d := fun nd => Kd.C_string (P := Try.prog) (A := A0) (c := c0) Try.underlying23 Try.underlying5 Try.underlying9 (Kd.C_drewN (Kd.C_below HR272.out HB.out) nd); (try simp only [List.length_take, List.length_drop, Int.reduceToNat] at hcv16d); have hcv16e := hcv16; have hcv16f := hcv16d; (try (have hmn_ : (12 : Int) ≤ (l0.length : Int) := (by first | omega | exact of_decide_eq_true (by assumption)); (try simp only [List.length_take, List.length_drop, Int.reduceToNat] at hcv16e); rw [Nat.min_eq_left (by omega)] at hcv16e; (try (rw [Nat.min_eq_left (by omega)] at hcv16d)); clear hmn_))
                  obtain ⟨i017, hi017, _, hsz17, _⟩ := info_parts info5
                  obtain ⟨A17, hcut17, hA17, hC17⟩ := print_mid_of (P := Try.prog) (Value.int .u8) 0 23 5 .i64 .i64 Try.underlying23 hi017 hsz17 A0 c0 l0 8 12 (by omega) (by first | omega | exact of_decide_eq_true (by first | (with_reducible assumption) | assumption)) (of_decide_eq_true (by first | (with_reducible assumption) | assumption)) HC0.out
                  have HR273 := Aside0.mk (Kd.C_of_reads (h1 := fun _ => rfl) (hA17 _ (Kd.reads_of_C HR0.out)))
                  have HC273 := Aside0.mk hC17
                  clear hA17 hC17 hi017 hsz17
                  have hcv18 := Kd.C_string (P := Try.prog) (A := A17) (c := (c0 - 8)) Try.underlying23 Try.underlying5 Try.underlying9 (Kd.C_below HR273.out HB.out); have hcv18q := hcv18; (try simp only [List.length_take, List.length_drop, Int.reduceToNat] at hcv18q); have hcv18d := fun nd => Kd.C_string (P := Try.prog) (A := A17) (c := (c0 - 8)) Try.underlying23 Try.underlying5 Try.underlying9 (Kd.C_drewN (Kd.C_below HR273.out HB.out) nd); (try simp only [List.length_take, List.length_drop, Int.reduceToNat] at hcv18d); have hcv18e := hcv18; have hcv18f := hcv18d; (try (have hmn_ : (12 : Int) ≤ (l0.length : Int) := (by first | omega | exact of_decide_eq_true (by assumption)); (try simp only [List.length_take, List.length_drop, Int.reduceToNat] at hcv18e); rw [Nat.min_eq_left (by omega)] at hcv18e; (try (rw [Nat.min_eq_left (by omega)] at hcv18d)); clear hmn_))
                  go_wp2
                  go_meet
                  case rel => exact ⟨_, (((Int.tmod t270 2) != 0)), (by first | rfl | (simp; done) | (simp [*]; done)), H', ⟨by first | omega | exact Nat.le_refl _⟩, ⟨by repeat (first | (with_reducible first | exact HB.out | apply below_alloc | apply pw_below_drewN | apply below_drew1) | exact HB.out)⟩⟩
              · rw [if_neg c9] at H
                have c9b0 : ((strOfNums ((l0.take 12).drop 8)).toList == ([87, 69, 66, 80] : List UInt8)) = false := beq_eq_false_iff_ne.mpr c9
                have c9b1 : ((strOfNums ((l0.take 12).drop 8)).toList != ([87, 69, 66, 80] : List UInt8)) = true := bne_iff_ne.mpr c9
                have H' := Aside0.mk H
                clear H
                obtain ⟨i019, hi019, _, hsz19, _⟩ := info_parts info5
                obtain ⟨hcut19, hA19, hC19⟩ := print_take_of (P := Try.prog) (Value.int .u8) 0 23 5 .i64 Try.underlying23 hi019 hsz19 A0 c0 l0 4 (by omega) (of_decide_eq_true (by first | (with_reducible assumption) | assumption)) HC0.out
                have HR272 := Aside0.mk (Kd.C_of_reads (h1 := fun _ => rfl) (hA19 _ (Kd.reads_of_C HR0.out)))
                have HC272 := Aside0.mk hC19
                clear hA19 hC19 hi019 hsz19
                have hcv20 := Kd.C_string (P := Try.prog) (A := A0) (c := c0) Try.underlying23 Try.underlying5 Try.underlying9 (Kd.C_below HR272.out HB.out); have hcv20q := hcv20; (try simp only [List.length_take, List.length_drop, Int.reduceToNat] at hcv20q); have hcv20d := fun nd => Kd.C_string (P := Try.prog) (A := A0) (c := c0) Try.underlying23 Try.underlying5 Try.underlying9 (Kd.C_drewN (Kd.C_below HR272.out HB.out) nd); (try simp only [List.length_take, List.length_drop, Int.reduceToNat] at hcv20d); have hcv20e := hcv20; have hcv20f := hcv20d; (try (have hmn_ : (12 : Int) ≤ (l0.length : Int) := (by first | omega | exact of_decide_eq_true (by assumption)); (try simp only [List.length_take, List.length_drop, Int.reduceToNat] at hcv20e); rw [Nat.min_eq_left (by omega)] at hcv20e; (try (rw [Nat.min_eq_left (by omega)] at hcv20d)); clear hmn_))
                obtain ⟨i021, hi021, _, hsz21, _⟩ := info_parts info5
                obtain ⟨A21, hcut21, hA21, hC21⟩ := print_mid_of (P := Try.prog) (Value.int .u8) 0 23 5 .i64 .i64 Try.underlying23 hi021 hsz21 A0 c0 l0 8 12 (by omega) (by first | omega | exact of_decide_eq_true (by first | (with_reducible assumption) | assumption)) (of_decide_eq_true (by first | (with_reducible assumption) | assumption)) HC0.out
                have HR273 := Aside0.mk (Kd.C_of_reads (h1 := fun _ => rfl) (hA21 _ (Kd.reads_of_C HR0.out)))
                have HC273 := Aside0.mk hC21
                clear hA21 hC21 hi021 hsz21
                have hcv22 := Kd.C_string (P := Try.prog) (A := A21) (c := (c0 - 8)) Try.underlying23 Try.underlying5 Try.underlying9 (Kd.C_below HR273.out HB.out); have hcv22q := hcv22; (try simp only [List.length_take, List.length_drop, Int.reduceToNat] at hcv22q); have hcv22d := fun nd => Kd.C_string (P := Try.prog) (A := A21) (c := (c0 - 8)) Try.underlying23 Try.underlying5 Try.underlying9 (Kd.C_drewN (Kd.C_below HR273.out HB.out) nd); (try simp only [List.length_take, List.length_drop, Int.reduceToNat] at hcv22d); have hcv22e := hcv22; have hcv22f := hcv22d; (try (have hmn_ : (12 : Int) ≤ (l0.length : Int) := (by first | omega | exact of_decide_eq_true (by assumption)); (try simp only [List.length_take, List.length_drop, Int.reduceToNat] at hcv22e); rw [Nat.min_eq_left (by omega)] at hcv22e; (try (rw [Nat.min_eq_left (by omega)] at hcv22d)); clear hmn_))
                go_wp2
                go_meet
                case rel => exact ⟨_, (true), (by first | rfl | (simp; done) | (simp [*]; done)), H', ⟨by first | omega | exact Nat.le_refl _⟩, ⟨by repeat (first | (with_reducible first | exact HB.out | apply below_alloc | apply pw_below_drewN | apply below_drew1) | exact HB.out)⟩⟩
            · rw [if_neg c8] at H
              exact absurd H (by simp)
          · rw [if_neg c7] at H
            exact absurd H (by simp)
        · rw [if_neg c6] at H
          have c6b0 : ((strOfNums (l0.take 4)).toList == ([82, 73, 70, 70] : List UInt8)) = false := beq_eq_false_iff_ne.mpr c6
          have c6b1 : ((strOfNums (l0.take 4)).toList != ([82, 73, 70, 70] : List UInt8)) = true := bne_iff_ne.mpr c6
          (first | rw [c6b0] | (simp only [i64_w, i32_w]; rw [c6b0]) | skip)
          have H' := Aside0.mk H
          clear H
          obtain ⟨i023, hi023, _, hsz23, _⟩ := info_parts info5
          obtain ⟨hcut23, hA23, hC23⟩ := print_take_of (P := Try.prog) (Value.int .u8) 0 23 5 .i64 Try.underlying23 hi023 hsz23 A0 c0 l0 4 (by omega) (of_decide_eq_true (by first | (with_reducible assumption) | assumption)) HC0.out
          have HR272 := Aside0.mk (Kd.C_of_reads (h1 := fun _ => rfl) (hA23 _ (Kd.reads_of_C HR0.out)))
          have HC272 := Aside0.mk hC23
          clear hA23 hC23 hi023 hsz23
          have hcv24 := Kd.C_string (P := Try.prog) (A := A0) (c := c0) Try.underlying23 Try.underlying5 Try.underlying9 (Kd.C_below HR272.out HB.out); have hcv24q := hcv24; (try simp only [List.length_take, List.length_drop, Int.reduceToNat] at hcv24q); have hcv24d := fun nd => Kd.C_string (P := Try.prog) (A := A0) (c := c0) Try.underlying23 Try.underlying5 Try.underlying9 (Kd.C_drewN (Kd.C_below HR272.out HB.out) nd); (try simp only [List.length_take, List.length_drop, Int.reduceToNat] at hcv24d); have hcv24e := hcv24; have hcv24f := hcv24d; (try (have hmn_ : (12 : Int) ≤ (l0.length : Int) := (by first | omega | exact of_decide_eq_true (by assumption)); (try simp only [List.length_take, List.length_drop, Int.reduceToNat] at hcv24e); rw [Nat.min_eq_left (by omega)] at hcv24e; (try (rw [Nat.min_eq_left (by omega)] at hcv24d)); clear hmn_))
          go_wp2
          go_meet
          case rel => exact ⟨_, (true), (by first | rfl | (simp; done) | (simp [*]; done)), H', ⟨by first | omega | exact Nat.le_refl _⟩, ⟨by repeat (first | (with_reducible first | exact HB.out | apply below_alloc | apply pw_below_drewN | apply below_drew1) | exact HB.out)⟩⟩
      · rw [if_neg c5] at H
        exact absurd H (by simp)
    case rest =>
      clear HC4
      try clear c1
      try clear hcv1
      try clear c2
      try clear c2b0
      try clear c2b1
      try clear p2
      try clear hcv2
      try clear c4
      try clear c5
      try clear c5b0
      try clear c5b1
      try clear c6
      try clear c6b0
      try clear c6b1
      try clear c7
      try clear c7b0
      try clear c7b1
      try clear c8
      try clear c8b0
      try clear c8b1
      try clear c9
      try clear c9b0
      try clear c9b1
      try clear c10
      try clear c10b0
      try clear hcv12
      try clear hcv14
      try clear hcv16
      try clear hcv18
      try clear hcv20
      try clear hcv22
      try clear hcv24
      obtain ⟨kq, x32_3, rfl, HA, HJ3, HB⟩ := hcut
      cases kq with
      | zero => exact absurd HA.out (by simp [marquetryref24_Scan.j0])
      | succ kj3 =>
        have H := HA.out
        clear HA
        simp only [marquetryref24_Scan.j0] at H
        by_cases c25 : x32_3 = true
        · subst c25
          have H1 : (some (([] : List (S42)), 3)) = some (r1, r2) := by rw [if_pos rfl] at H; exact H
          clear H
          have H := H1
          clear H1
          simp only [Option.some.injEq, Prod.mk.injEq] at H
          obtain ⟨rfl, rfl⟩ := H
          go_wp2
          go_ret2
          exact ⟨_, by first | rfl | (simp [errW_none, errW_some] <;> rfl) | (simp [*, errW_none, errW_some] <;> rfl), by first | exact Kd.S_nil _ _ _ _ _ | exact Kd.N_nil _ _ _ _ _ | exact Kd.V_nil _ _ _ _ _ | exact Kd.Q_nil _ _ _ _ _ | exact Kd.R_nil _ _ _ _ _, by repeat (first | (with_reducible first | exact HB.out | apply below_alloc | apply pw_below_drewN | apply below_drew1) | exact HB.out)⟩
        · replace c25 := Bool.eq_false_iff.mpr c25
          subst c25
          have H1 : (if t270 > (IntKind.u64.wrap (wrap64 ((l0.length : Int) - 8))) then (some (([] : List (S42)), 2)) else (if 12 ≤ (wrap64 (8 + (wrap64 (t270)))) then (if (wrap64 (8 + (wrap64 (t270)))) ≤ (l0.length : Int) then ((marquetryref24_Inner.f kj3 ((l0.take ((wrap64 (8 + (wrap64 (t270)))) : Int).toNat).drop 12)).bind fun bt275 => (some (bt275.1, bt275.2))) else (none)) else (none))) = some (r1, r2) := by rw [if_neg (show ¬ (false = true) by decide)] at H; exact H
          clear H
          have H := H1
          clear H1
          by_cases c26 : t270 > (IntKind.u64.wrap (wrap64 ((l0.length : Int) - 8)))
          · rw [if_pos c26] at H
            have c26b0 : decide ((IntKind.u64.wrap (wrap64 ((l0.length : Int) - 8))) < t270) = true := decide_eq_true c26
            clear c26
            simp only [Option.some.injEq, Prod.mk.injEq] at H
            obtain ⟨rfl, rfl⟩ := H
            go_wp2
            go_ret2
            exact ⟨_, by first | rfl | (simp [errW_none, errW_some] <;> rfl) | (simp [*, errW_none, errW_some] <;> rfl), by first | exact Kd.S_nil _ _ _ _ _ | exact Kd.N_nil _ _ _ _ _ | exact Kd.V_nil _ _ _ _ _ | exact Kd.Q_nil _ _ _ _ _ | exact Kd.R_nil _ _ _ _ _, by repeat (first | (with_reducible first | exact HB.out | apply below_alloc | apply pw_below_drewN | apply below_drew1) | exact HB.out)⟩
          · rw [if_neg c26] at H
            have c26b0 : decide ((IntKind.u64.wrap (wrap64 ((l0.length : Int) - 8))) < t270) = false := decide_eq_false c26
            clear c26
            by_cases c27 : 12 ≤ (wrap64 (8 + (wrap64 (t270))))
            · rw [if_pos c27] at H
              have c27b0 := eq_true c27
              have c27b1 : decide (12 ≤ (wrap64 (8 + (wrap64 (t270))))) = true := decide_eq_true c27
              by_cases c28 : (wrap64 (8 + (wrap64 (t270)))) ≤ (l0.length : Int)
              · rw [if_pos c28] at H
                have c28b0 := eq_true c28
                have c28b1 : decide ((wrap64 (8 + (wrap64 (t270)))) ≤ (l0.length : Int)) = true := decide_eq_true c28
                replace H := Option.bind_eq_some_iff.mp H
                obtain ⟨⟨t275, t276⟩, A290, H⟩ := H
                replace H : (some (t275, t276)) = some (r1, r2) := H
                have A29 := Aside0.mk A290
                clear A290
                simp only [Option.some.injEq, Prod.mk.injEq] at H
                obtain ⟨rfl, rfl⟩ := H
                obtain ⟨i030, hi030, _, hsz30, _⟩ := info_parts info5
                obtain ⟨A30, hcut30, hA30, hC30⟩ := print_mid_of (P := Try.prog) (Value.int .u8) 0 23 5 .i64 .i64 Try.underlying23 hi030 hsz30 A0 c0 l0 12 (wrap64 (8 + (wrap64 (t270)))) (by omega) (by first | omega | exact of_decide_eq_true (by first | (with_reducible assumption) | assumption)) (of_decide_eq_true (by first | (with_reducible assumption) | assumption)) HC0.out
                have HR274 := Aside0.mk (Kd.C_of_reads (h1 := fun _ => rfl) (hA30 _ (Kd.reads_of_C HR0.out)))
                have HC274 := Aside0.mk hC30
                clear hA30 hC30 hi030 hsz30
                go_wp2_with (first | ((with_reducible refine gate_callee (f := 52) rfl ?_); refine goesL_ (some 44) rfl rfl Try.func52 (by kernel_rfl) rfl #[.slice A30 ((l0.take ((wrap64 (8 + (wrap64 (t270)))) : Int).toNat).drop 12).length (c0 - 12)] rfl (by (try simp only [List.map_toArray, List.map_cons, List.map_nil]); first | done | (rw [show ((l0.take ((wrap64 (8 + (wrap64 (t270)))) : Int).toNat).drop 12).length = ((wrap64 (8 + (wrap64 (t270)))).toNat - 12) from (by rw [List.length_drop, List.length_take]; have h_ : ((wrap64 (8 + (wrap64 (t270)))) : Int) ≤ (l0.length : Int) := of_decide_eq_true (by first | (with_reducible assumption) | assumption); omega)] <;> rfl) | rfl | (simp only [List.length_drop, List.length_take]; rfl)) ?_; (with_reducible refine (marquetryref24_Inner.calls kj3 _ _ ((l0.take ((wrap64 (8 + (wrap64 (t270)))) : Int).toNat).drop 12) t275 t276 _ ?side1 ?side2 A29.out).mono ?_); (case side1 => repeat (first | exact (Kd.C_below HR274.out HB.out) | (with_reducible refine Kd.C_alloc ?_ _) | (with_reducible refine Kd.C_drewN ?_ _) | (with_reducible refine Kd.C_drew ?_))); (case side2 => exact HC274.out); rintro e w31 ⟨v277, rfl, ho0, hb⟩; refine ⟨_, rfl, ?_⟩; have n0_ := Aside0.mk (Kd.S_lower ho0 (below_size (by repeat (first | (with_reducible first | exact HB.out | apply below_alloc | apply pw_below_drewN | apply below_drew1) | exact HB.out)))); have n1_ := Aside0.mk (below_step (by repeat (first | (with_reducible first | exact HB.out | apply below_alloc | apply pw_below_drewN | apply below_drew1) | exact HB.out)) hb); clear HB; have HO278 := n0_; have HB := n1_; clear n0_ n1_; (try clear hb); (try clear hb2); (try clear hk); (try clear hi); (try clear ho0)) | (go_at_call 52; (with_reducible refine (marquetryref24_Inner.calls kj3 _ _ ((l0.take ((wrap64 (8 + (wrap64 (t270)))) : Int).toNat).drop 12) t275 t276 _ ?side1 ?side2 A29.out).mono ?_); (case side1 => repeat (first | exact (Kd.C_below HR274.out HB.out) | (with_reducible refine Kd.C_alloc ?_ _) | (with_reducible refine Kd.C_drewN ?_ _) | (with_reducible refine Kd.C_drew ?_))); (case side2 => exact HC274.out); rintro e w31 ⟨v277, rfl, ho0, hb⟩; have n0_ := Aside0.mk (Kd.S_lower ho0 (below_size (by repeat (first | (with_reducible first | exact HB.out | apply below_alloc | apply pw_below_drewN | apply below_drew1) | exact HB.out)))); have n1_ := Aside0.mk (below_step (by repeat (first | (with_reducible first | exact HB.out | apply below_alloc | apply pw_below_drewN | apply below_drew1) | exact HB.out)) hb); clear HB; have HO278 := n0_; have HB := n1_; clear n0_ n1_; (try clear hb); (try clear hb2); (try clear hk); (try clear hi); (try clear ho0)))
                go_ret2
                exact ⟨_, by first | rfl | (simp [errW_none, errW_some] <;> rfl) | (simp [*, errW_none, errW_some] <;> rfl), by (with_reducible repeat (first | apply Kd.S_alloc | apply Kd.S_drewN | apply Kd.S_drew)); exact HO278.out, by repeat (first | (with_reducible first | exact HB.out | apply below_alloc | apply pw_below_drewN | apply below_drew1) | exact HB.out)⟩
              · rw [if_neg c28] at H
                exact absurd H (by simp)
            · rw [if_neg c27] at H
              exact absurd H (by simp)
end Go.Proofs.Ythkocpcjcpohcaa.P
end
section
namespace Go.Proofs.Ythkocpcjcpohcaa.P
open Go.RowKit Go.Proofs.YthkocpcjcpohcaaW.PrintWords Go.Proofs.YthkocpcjcpohcaaW.PrintLast Go.Proofs.YthkocpcjcpohcaaW.PrintMore
attribute [local go_sem] max2_int min2_int max_two min_two max_three min_three max_four min_four   -- for this text's walks alone
set_option linter.unusedVariables false
set_option linter.unusedSimpArgs false
def marquetryref24_get.f (k : Nat) (l0 : List Int) (a1 : Int) (a2 : Int) : Option (Int) := (marquetryref01_Get.f k l0 a1 a2).bind fun bt281 => (some (wrap64 (bt281.1)))
theorem marquetryref24_get.mono : ∀ a0 a1 a2 k, LeO (marquetryref24_get.f k a0 a1 a2) (marquetryref24_get.f (k + 1) a0 a1 a2) := by
  intro a0 a1 a2 k
  unfold marquetryref24_get.f
  repeat' first
      | (with_reducible exact marquetryref01_Get.mono _ _ _ _)
      | (with_reducible exact LeO.refl _)
      | (with_reducible exact LeO.none _)
      | (with_reducible refine LeO.ite ?_ ?_)
      | (with_reducible refine LeO.bind ?_ (fun _ => ?_))
      | exact marquetryref01_Get.mono _ _ _ _
      | exact LeO.none _
      | refine LeO.ite ?_ ?_
      | refine LeO.bind ?_ (fun _ => ?_)
set_option maxHeartbeats 8000000 in
set_option maxRecDepth 100000 in
theorem marquetryref24_get.calls (k : Nat) (A0 : Option Addr) (c0 : Nat) (l0 : List Int) (a1 : Int) (a2 : Int) (r : Int) (w : World) (hr0 : Kd.C (Kd.int .u8) w A0 l0.length l0) (hc0 : l0.length ≤ c0) (h : marquetryref24_get.f k l0 a1 a2 = some r) :
    Calls Try.prog 51 #[.slice A0 l0.length c0, .int .i64 a1, .int .i64 a2] w fun e w' => e = .returned (.int .i64 r) ∧ Drawn0 w w' := by
  have HR0 := Aside0.mk hr0
  have HC0 := Aside0.mk hc0
  clear hr0 hc0
  have H : ((marquetryref01_Get.f k l0 a1 a2).bind fun bt281 => (some (wrap64 (bt281.1)))) = some r := h
  clear h
  replace H := Option.bind_eq_some_iff.mp H
  obtain ⟨⟨t281, t282⟩, A40, H⟩ := H
  replace H : (some (wrap64 (t281))) = some r := H
  have A4 := Aside0.mk A40
  clear A40
  obtain rfl := Option.some.inj H
  go_enter Try.func51, Try.ntmps51
  go_wp2_with (first | ((with_reducible refine gate_callee (f := 76) rfl ?_); refine goesL_ (some 13) rfl rfl Try.func76 (by kernel_rfl) rfl #[.slice A0 l0.length c0, .int .i64 a1, .int .i64 a2] rfl (by (try simp only [List.map_toArray, List.map_cons, List.map_nil]); first | done | rfl | (simp only [List.length_drop, List.length_take]; rfl)) ?_; (with_reducible refine (marquetryref01_Get.calls k _ _ l0 a1 a2 t281 t282 _ ?side1 ?side2 A4.out).mono ?_); (case side1 => repeat (first | exact HR0.out | (with_reducible refine Kd.C_alloc ?_ _) | (with_reducible refine Kd.C_drewN ?_ _) | (with_reducible refine Kd.C_drew ?_))); (case side2 => exact HC0.out); rintro e w' ⟨rfl, ⟨nd, rfl⟩⟩; refine ⟨_, rfl, ?_⟩) | (go_at_call 76; (with_reducible refine (marquetryref01_Get.calls k _ _ l0 a1 a2 t281 t282 _ ?side1 ?side2 A4.out).mono ?_); (case side1 => repeat (first | exact HR0.out | (with_reducible refine Kd.C_alloc ?_ _) | (with_reducible refine Kd.C_drewN ?_ _) | (with_reducible refine Kd.C_drew ?_))); (case side2 => exact HC0.out); rintro e w' ⟨rfl, ⟨nd, rfl⟩⟩))
  go_ret
  exact ⟨by first | rfl | (simp; done) | (simp [*]; done), by repeat (first | exact Drawn0.refl _ | apply Drawn0.step)⟩
end Go.Proofs.Ythkocpcjcpohcaa.P
end
section
namespace Go.Proofs.Ythkocpcjcpohcaa.P
open Go.RowKit Go.Proofs.YthkocpcjcpohcaaW.PrintWords Go.Proofs.YthkocpcjcpohcaaW.PrintLast Go.Proofs.YthkocpcjcpohcaaW.PrintMore
attribute [local go_sem] max2_int min2_int max_two min_two max_three min_three max_four min_four   -- for this text's walks alone
set_option linter.unusedVariables false
set_option linter.unusedSimpArgs false
end Go.Proofs.Ythkocpcjcpohcaa.P
end
section
namespace Go.Proofs.Ythkocpcjcpohcaa.U
open Go Go.RowKit Go.Proofs.YthkocpcjcpohcaaW.PrintWords Go.Proofs.YthkocpcjcpohcaaW.PrintLast
theorem w64 {n : Int} (h0 : -9223372036854775808 ≤ n) (h1 : n ≤ 9223372036854775807) : wrap64 n = n := by unfold wrap64; omega
theorem wu64 {n : Int} (h0 : 0 ≤ n) (h1 : n ≤ 18446744073709551615) : IntKind.u64.wrap n = n := by simp [IntKind.wrap, IntKind.bits, IntKind.signed]; omega
theorem wu64_def (n : Int) : IntKind.u64.wrap n = n % 18446744073709551616 := by simp [IntKind.wrap, IntKind.bits, IntKind.signed]
theorem wi64 {n : Int} (h0 : -9223372036854775808 ≤ n) (h1 : n ≤ 9223372036854775807) : IntKind.i64.wrap n = n := by rw [IntKind.wrap_i64]; omega
theorem wf_u8 {n : Int} (h : (Lit.int .u8 n).wf = true) : 0 ≤ n ∧ n ≤ 255 := by
  simp [Lit.wf, IntKind.min, IntKind.max, IntKind.bits, IntKind.signed] at h; omega
section
variable {α : Type} {r : α}
theorem Ev.ite_pos {c : Prop} [Decidable c] {A B : Nat → Option α} (h : c) (e : Ev A r) : Ev (fun k => if c then A k else B k) r := by
  simpa only [if_pos h] using e
theorem Ev.ite_neg {c : Prop} [Decidable c] {A B : Nat → Option α} (h : ¬ c) (e : Ev B r) : Ev (fun k => if c then A k else B k) r := by
  simpa only [if_neg h] using e
theorem Ev.succ {g : Nat → Option α} (e : Ev (fun k => g (k + 1)) r) : Ev g r := Ev.step (fun _ => rfl) e
theorem Ev.fin {x : α} (h : x = r) : Ev (fun _ => some x) r := h ▸ Ev.now x
theorem Ev.bindo {β : Type} {o : Option β} {b : β} {f : Nat → β → Option α} (h : o = some b) (k : Ev (fun n => f n b) r) : Ev (fun n => o.bind (f n)) r := by
  subst h; exact k
end
theorem shr_any {k : IntKind} {x y : Int} (h1 : y ≤ k.bits) : shr k x y = x / 2 ^ y.toNat := by
  unfold shr
  rw [Nat.min_eq_left (by omega)]
theorem shl_u64 {x y : Int} (h1 : y ≤ 64) : shl .u64 x y = (x * 2 ^ y.toNat) % 18446744073709551616 := by
  unfold shl
  rw [Nat.min_eq_left (by simp [IntKind.bits]; omega), wu64_def]
theorem pow_pos (n : Nat) : (0 : Int) < 2 ^ n := Int.pow_pos (by decide)
theorem pow_le {a b : Nat} (h : a ≤ b) : (2 : Int) ^ a ≤ 2 ^ b := by
  have : (2 : Nat) ^ a ≤ 2 ^ b := Nat.pow_le_pow_right (by decide) h
  exact_mod_cast this
theorem pow_add (a b : Nat) : (2 : Int) ^ (a + b) = 2 ^ a * 2 ^ b := Int.pow_add _ _ _
theorem or_u64 {x y : Int} {i : Nat} (hi : i ≤ 64) (hx0 : 0 ≤ x) (hx : x < 2 ^ i) (hy0 : 0 ≤ y) (hy : y % 2 ^ i = 0) (hy1 : y < 18446744073709551616) : Go.bits .or .u64 x y = x + y := by
  have hw : ∀ n : Int, 0 ≤ n → n < 2 ^ 64 → IntKind.u64.wrap n = n := fun n h0 h1 => wu64 h0 (by omega)
  obtain ⟨a, rfl⟩ := Int.eq_ofNat_of_zero_le hx0
  obtain ⟨b, rfl⟩ := Int.eq_ofNat_of_zero_le hy0
  have ha' : (a : Int) < 2 ^ 64 := Int.lt_of_lt_of_le hx (pow_le hi)
  have ha : a < 2 ^ 64 := by exact_mod_cast ha'
  have hb : b < 2 ^ 64 := by omega
  rw [(bits_nat .u64 64 (by decide) hw a b ha hb).2]
  have hlt : a < 2 ^ i := by exact_mod_cast hx
  have hmod : b % 2 ^ i = 0 := by exact_mod_cast hy
  have hq : b = 2 ^ i * (b / 2 ^ i) := by have := Nat.div_add_mod b (2 ^ i); omega
  have : a ||| b = b + a := by
    rw [Nat.or_comm, hq, ← Nat.two_pow_add_eq_or_of_lt hlt]
  rw [this, Int.natCast_add, Int.add_comm]
end Go.Proofs.Ythkocpcjcpohcaa.U
end
section
namespace Go.Proofs.Ythkocpcjcpohcaa.P
open Go Go.RowKit Go.Proofs.YthkocpcjcpohcaaW.PrintWords Go.Proofs.YthkocpcjcpohcaaW.PrintLast Go.Proofs.YthkocpcjcpohcaaW.PrintMore Go.Proofs.Ythkocpcjcpohcaa.U
set_option linter.unusedVariables false
set_option linter.unusedSimpArgs false
attribute [local go_sem] max2_int min2_int max_two min_two max_three min_three max_four min_four
abbrev Ch := S42
abbrev Fr := S44
abbrev Dc := S27
instance : DecidableEq Ch := fun x y => decidable_of_iff (x.f0 = y.f0 ∧ x.f1 = y.f1) (by cases x; cases y; simp)
instance : DecidableEq Fr := fun x y => decidable_of_iff (x.f0 = y.f0 ∧ x.f1 = y.f1 ∧ x.f2 = y.f2 ∧ x.f3 = y.f3 ∧ x.f4 = y.f4 ∧ x.f5 = y.f5 ∧ x.f6 = y.f6 ∧ x.f7 = y.f7 ∧ x.f8 = y.f8 ∧ x.f9 = y.f9 ∧ x.f10 = y.f10) (by cases x; cases y; simp)
def byteL (l : List Int) : Prop := ∀ b ∈ l, 0 ≤ b ∧ b ≤ 255
def i64r (n : Int) : Prop := -9223372036854775808 ≤ n ∧ n ≤ 9223372036854775807
def datL (l : List Int) : Prop := byteL l ∧ l.length ≤ 140737488351232
def okCh (x : Ch) : Prop := x.f0.size ≤ 140737488351232 ∧ datL x.f1
def chsL (l : List Ch) : Prop := l.length * 40 ≤ 140737488351232 ∧ ∀ c ∈ l, okCh c
structure okFr (x : Fr) : Prop where
  i0 : i64r x.f0
  i1 : i64r x.f1
  i2 : i64r x.f2
  i3 : i64r x.f3
  i4 : i64r x.f4
  i7 : i64r x.f7
  al : datL x.f8
  da : datL x.f9
  mo : chsL x.f10
theorem bthen {w X w4 : World} (h1 : Below w.heap.size w X) (h2 : Below X.heap.size X w4) : Below w.heap.size w w4 := h1.trans (h2.mono h1.size)
theorem nat_byte {a : Int} (h : 0 ≤ a ∧ a ≤ 255) : ((UInt8.ofNat a.toNat).toNat : Int) = a := by
  rw [UInt8.toNat_ofNat']; omega
theorem str_inj {a b : List Int} (ha : byteL a) (hb : byteL b) : ((strOfNums a).toList == (strOfNums b).toList) = decide (a = b) := by
  have h : ∀ {l : List Int}, byteL l → (l.map fun n => UInt8.ofNat n.toNat).map (fun u => (u.toNat : Int)) = l := by
    intro l hl
    rw [List.map_map]
    conv => rhs; rw [← List.map_id l]
    exact List.map_congr_left fun x hx => nat_byte (hl x hx)
  have e : ∀ l : List Int, (strOfNums l).toList = l.map fun n => UInt8.ofNat n.toNat := fun l => by
    rw [ByteArray.toList_eq]
    rfl
  rw [e, e]
  by_cases c : a = b
  · subst c; simp
  · rw [decide_eq_false c]
    refine beq_eq_false_iff_ne.2 fun hh => c ?_
    rw [← h ha, ← h hb, hh]
theorem Equal_calls (A0 : Option Addr) (c0 : Nat) (l0 : List Int) (A1 : Option Addr) (c1 : Nat) (l1 : List Int) (w : World) (h0 : byteL l0) (h1 : byteL l1) (hr0 : Kd.C (Kd.int .u8) w A0 l0.length l0) (hc0 : l0.length ≤ c0) (hr1 : Kd.C (Kd.int .u8) w A1 l1.length l1) (hc1 : l1.length ≤ c1) :
    Calls Try.prog 42 #[.slice A0 l0.length c0, .slice A1 l1.length c1] w fun e w' => e = .returned (.bool (decide (l0 = l1))) ∧ Drawn0 w w' :=
  bytes_Equal.calls A0 c0 l0 A1 c1 l1 _ w hr0 hc0 hr1 hc1 (by unfold bytes_Equal.f; rw [str_inj h0 h1])
theorem str_ext {a b : ByteArray} : a = b ↔ a.toList = b.toList := by
  refine ⟨fun h => by rw [h], fun h => ?_⟩
  rw [ByteArray.toList_eq, ByteArray.toList_eq] at h
  cases a; cases b
  simp only [ByteArray.mk.injEq]
  exact Array.toList_inj.1 h
theorem ch_eq {x y : Ch} : x = y ↔ x.f0.toList = y.f0.toList ∧ x.f1 = y.f1 := by rw [← str_ext]; cases x; cases y; simp
theorem fr_eq {x y : Fr} : x = y ↔ x.f0 = y.f0 ∧ x.f1 = y.f1 ∧ x.f2 = y.f2 ∧ x.f3 = y.f3 ∧ x.f4 = y.f4 ∧ x.f5 = y.f5 ∧ x.f6 = y.f6 ∧ x.f7 = y.f7 ∧ x.f8 = y.f8 ∧ x.f9 = y.f9 ∧ x.f10 = y.f10 := by cases x; cases y; simp
set_option maxHeartbeats 4000000 in
set_option maxRecDepth 100000 in
theorem sameChunk_calls (x y : Ch) (cs ds : List Value) (w : World) (hx : k42.K w x cs) (hy : k42.K w y ds) (bx : okCh x) (bY : okCh y) :
    Calls Try.prog 46 #[.agg cs.toArray, .agg ds.toArray] w fun e w' => e = .returned (.bool (decide (x = y))) ∧ Below w.heap.size w w' := by
  obtain ⟨A1, c1, rfl, l1, g1⟩ := k42_open hx
  obtain ⟨A2, c2, rfl, l2, g2⟩ := k42_open hy
  have HS := Aside0.mk ((((St.refl w).alloc #[.string x.f0, .slice A1 x.f1.length c1] 42).alloc #[.string y.f0, .slice A2 y.f1.length c2] 42))
  have HE := Aside0.mk (Equal_calls A1 c1 x.f1 A2 c2 y.f1 _ bx.2.1 bY.2.1 (Kd.C_below g1 HS.out.below) l1 (Kd.C_below g2 HS.out.below) l2)
  have HXY := Aside0.mk (@ch_eq x y)
  clear hx hy g1 g2
  go_enter Try.func46, Try.ntmps46
  go_wp2_with (go_at_call 42; refine HE.out.mono ?_; rintro e w1 ⟨rfl, hd⟩; have HB := Aside0.mk (HS.out.belowR hd.below).below; clear hd)
  all_goals go_ret
  all_goals exact ⟨by simp [HXY.out, *], by first | exact HB.out | exact HS.out.below⟩
theorem take_next {α : Type} [DecidableEq α] {l1 l2 : List α} {k : Nat} (d : α) (h1 : k < l1.length) (hl : l1.length = l2.length) (ht : l1.take k = l2.take k) : (l1.getD k d = l2.getD k d → l1.take (k + 1) = l2.take (k + 1)) ∧ (l1.getD k d ≠ l2.getD k d → l1 ≠ l2) := by
  refine ⟨fun h => ?_, fun h h2 => h (by rw [h2])⟩
  rw [List.take_succ_eq_append_getElem h1, List.take_succ_eq_append_getElem (by omega), ht]
  rw [List.getD_eq_getElem?_getD, List.getD_eq_getElem?_getD, List.getElem?_eq_getElem h1, List.getElem?_eq_getElem (by omega)] at h
  rw [show l1[k] = l2[k] from h]
theorem getD_in {α : Type} {l : List α} {k : Nat} (d : α) (h : k < l.length) : l.getD k d ∈ l := by
  rw [List.getD_eq_getElem?_getD, List.getElem?_eq_getElem h]
  exact List.getElem_mem _
set_option maxHeartbeats 4000000 in
set_option maxRecDepth 100000 in
theorem EqChunks_calls (A1 : Option Addr) (c1 : Nat) (l1 : List Ch) (A2 : Option Addr) (c2 : Nat) (l2 : List Ch) (w : World) (h1 : k42.C w A1 l1.length l1) (h2 : k42.C w A2 l2.length l2) (b1 : ∀ x ∈ l1, okCh x) (b2 : ∀ x ∈ l2, okCh x) :
    Calls Try.prog 45 #[.slice A1 l1.length c1, .slice A2 l2.length c2, .func (.func 46) #[] #[]] w fun e w' => e = .returned (.bool (decide (l1 = l2))) ∧ Below w.heap.size w w' := by
  have hm := h1.2.1
  have H1 := Aside0.mk h1
  have H2 := Aside0.mk h2
  have HB1 := Aside0.mk b1
  have HB2 := Aside0.mk b2
  clear h1 h2 b1 b2
  go_enter Try.func45, Try.ntmps45
  by_cases hl : l1.length = l2.length
  case neg =>
    have HN : Aside0 (decide (l1 = l2) = false) := ⟨decide_eq_false fun h => hl (by rw [h])⟩
    have z : ((l1.length : Int) != (l2.length : Int)) = true := by simp; omega
    clear hl
    go_wp2_with fail
    go_ret
    exact ⟨by rw [HN.out]; rfl, Below.refl _ _⟩
  have HL := Aside0.mk hl
  have z : ((l1.length : Int) != (l2.length : Int)) = false := by simp [hl]
  clear hl
  go_wp2_with fail
  go_loopw [6, 17] (fun r i wr => ∃ k : Nat, k ≤ l1.length ∧ r = .bool false ∧ i = .int .i64 k ∧ l1.take k = l2.take k ∧ Below w.heap.size w wr) (fun _ i _ => l1.length - (intOf i).toNat)
  case atStart => exact ⟨0, Nat.zero_le _, rfl, rfl, rfl, Below.refl _ _⟩
  case round =>
    obtain ⟨k, hk, rfl, rfl, ht, hb⟩ := hrel
    by_cases hlt : k < l1.length
    · have y1 : decide ((k : Int) < l1.length) = true := decide_eq_true (by omega)
      have y2 : decide (k < l1.length) = true := decide_eq_true hlt
      have y3 : (k < l1.length) = True := eq_true hlt
      have y4 : ((k : Int) < l1.length) = True := eq_true (by omega)
      have y5 : (k < l2.length) = True := eq_true (by have := HL.out; omega)
      have y6 : ((k : Int) < l2.length) = True := eq_true (by have := HL.out; omega)
      have k16 : k ≤ 9223372036854775806 := by omega
      obtain ⟨ad1, B1_1, e1_1, rfl, d1_0, d1_1, m1_1, g1_1⟩ := at_T42 (Kd.C_below H1.out hb) (k : Int) (by omega) (by omega)
      obtain ⟨ad2, B2_1, e2_1, rfl, d2_0, d2_1, m2_1, g2_1⟩ := at_T42 (Kd.C_below H2.out hb) (k : Int) (by omega) (by have := HL.out; omega)
      simp only [Int.toNat_natCast] at d1_0 d1_1 d2_0 d2_1
      have htn := take_next z42 hlt HL.out ht
      have bx := HB1.out _ (getD_in z42 hlt)
      have bY := HB2.out _ (getD_in z42 (show k < l2.length by have := HL.out; omega))
      rw [show l1.getD k z42 = rd_T42 l1 k from rfl, show l2.getD k z42 = rd_T42 l2 k from rfl] at htn
      rw [show l1.getD k z42 = rd_T42 l1 k from rfl] at bx
      rw [show l2.getD k z42 = rd_T42 l2 k from rfl] at bY
      generalize rd_T42 l1 k = x at *
      generalize rd_T42 l2 k = y at *
      have hsa := ((St.refl wr).alloc #[.string x.f0, .slice B1_1 x.f1.length e1_1] 42).below
      have n0 := (hsa.cell (World.block_lt_of_cell? _ _ d2_0)).trans d2_0
      have n1 := (hsa.cell (World.block_lt_of_cell? _ _ d2_1)).trans d2_1
      clear hsa
      have HS := Aside0.mk ((((St.refl wr).alloc #[.string x.f0, .slice B1_1 x.f1.length e1_1] 42).alloc #[.string y.f0, .slice B2_1 y.f1.length e2_1] 42))
      have HE := Aside0.mk (sameChunk_calls x y _ _ _ (k42_mk _ x m1_1 (Kd.C_below g1_1 HS.out.below)) (k42_mk _ y m2_1 (Kd.C_below g2_1 HS.out.below)) bx bY)
      have HT := Aside0.mk htn
      have HLT := Aside0.mk hlt
      have HBB := Aside0.mk hb
      clear htn bx bY ht hb hlt hk g1_1 g2_1
      by_cases hxy : x = y
      · rw [decide_eq_true hxy] at HE
        have HXY := Aside0.mk hxy
        clear hxy
        go_wp2_with (go_at_call 46; refine HE.out.mono ?_; rintro e w1 ⟨rfl, hd⟩; have HD := Aside0.mk (HS.out.belowR hd).below; clear hd)
        go_roundw
        case rel => exact ⟨k + 1, HLT.out, rfl, by go_num, HT.out.1 HXY.out, HBB.out.trans (HD.out.mono HBB.out.size)⟩
        case measure => have := HLT.out; simp [intOf]; omega
      · rw [decide_eq_false hxy] at HE
        have HN : Aside0 (decide (l1 = l2) = false) := ⟨decide_eq_false (HT.out.2 hxy)⟩
        clear hxy
        go_wp2_with (go_at_call 46; refine HE.out.mono ?_; rintro e w1 ⟨rfl, hd⟩; have HD := Aside0.mk (HS.out.belowR hd).below; clear hd)
        go_ret
        exact ⟨by rw [HN.out]; rfl, HBB.out.trans (HD.out.mono HBB.out.size)⟩
    · have y1 : decide ((k : Int) < l1.length) = false := decide_eq_false (by omega)
      have y2 : decide (k < l1.length) = false := decide_eq_false hlt
      obtain rfl : k = l1.length := by omega
      have HN : Aside0 (decide (l1 = l2) = true) := ⟨decide_eq_true (by rw [List.take_length] at ht; rw [ht, HL.out, List.take_length])⟩
      have HBB := Aside0.mk hb
      clear ht hb hlt hk
      go_wp2_with fail
      go_ret
      exact ⟨by rw [HN.out]; rfl, HBB.out⟩
set_option maxHeartbeats 8000000 in
set_option maxRecDepth 100000 in
theorem sameFrame_calls (x y : Fr) (cs ds : List Value) (w : World) (hx : k44.K w x cs) (hy : k44.K w y ds) (bx : okFr x) (bY : okFr y) :
    Calls Try.prog 44 #[.agg cs.toArray, .agg ds.toArray] w fun e w' => e = .returned (.bool (decide (x = y))) ∧ Below w.heap.size w w' := by
  obtain ⟨A1, c1, A2, c2, A3, c3, rfl, l1, g1, l2, g2, l3, g3⟩ := k44_open hx
  obtain ⟨B1, d1, B2, d2, B3, d3, rfl, m1, h1, m2, h2, m3, h3⟩ := k44_open hy
  have HE1 := Aside0.mk fun (W : World) (hb : Below w.heap.size w W) => Equal_calls A1 c1 x.f8 B1 d1 y.f8 W bx.al.1 bY.al.1 (Kd.C_below g1 hb) l1 (Kd.C_below h1 hb) m1
  have HE2 := Aside0.mk fun (W : World) (hb : Below w.heap.size w W) => Equal_calls A2 c2 x.f9 B2 d2 y.f9 W bx.da.1 bY.da.1 (Kd.C_below g2 hb) l2 (Kd.C_below h2 hb) m2
  have HE3 := Aside0.mk fun (W : World) (hb : Below w.heap.size w W) => EqChunks_calls A3 c3 x.f10 B3 d3 y.f10 W (Kd.C_below g3 hb) (Kd.C_below h3 hb) bx.mo.2 bY.mo.2
  have HXY := Aside0.mk (@fr_eq x y)
  clear hx hy g1 g2 g3 h1 h2 h3
  go_enter Try.func44, Try.ntmps44
  go_wp2_with (first
    | (go_at_call 42; with_reducible refine (HE1.out _ (by repeat (first | exact Below.refl _ _ | apply pw_below_drewN | apply below_alloc))).mono ?_; clear HE1; rintro e w1 ⟨rfl, ⟨n1, rfl⟩⟩)
    | (go_at_call 42; with_reducible refine (HE2.out _ (by repeat (first | exact Below.refl _ _ | apply pw_below_drewN | apply below_alloc))).mono ?_; clear HE2; rintro e w1 ⟨rfl, ⟨n2, rfl⟩⟩)
    | (go_at_call 45; with_reducible refine (HE3.out _ (by repeat (first | exact Below.refl _ _ | apply pw_below_drewN | apply below_alloc))).mono ?_; rintro e w1 ⟨rfl, hd⟩; have HB := Aside0.mk (bthen (show Below w.heap.size w _ by repeat (first | exact Below.refl _ _ | apply pw_below_drewN | apply below_alloc)) hd); clear hd))
  all_goals go_ret
  all_goals exact ⟨by simp [HXY.out, *], by first | exact HB.out | (repeat (first | exact Below.refl _ _ | apply pw_below_drewN | apply below_alloc))⟩
set_option maxHeartbeats 4000000 in
set_option maxRecDepth 100000 in
theorem EqFrames_calls (A1 : Option Addr) (c1 : Nat) (l1 : List Fr) (A2 : Option Addr) (c2 : Nat) (l2 : List Fr) (w : World) (h1 : k44.C w A1 l1.length l1) (h2 : k44.C w A2 l2.length l2) (b1 : ∀ x ∈ l1, okFr x) (b2 : ∀ x ∈ l2, okFr x) :
    Calls Try.prog 43 #[.slice A1 l1.length c1, .slice A2 l2.length c2, .func (.func 44) #[] #[]] w fun e w' => e = .returned (.bool (decide (l1 = l2))) ∧ Below w.heap.size w w' := by
  have hm := h1.2.1
  have H1 := Aside0.mk h1
  have H2 := Aside0.mk h2
  have HB1 := Aside0.mk b1
  have HB2 := Aside0.mk b2
  clear h1 h2 b1 b2
  go_enter Try.func43, Try.ntmps43
  by_cases hl : l1.length = l2.length
  case neg =>
    have HN : Aside0 (decide (l1 = l2) = false) := ⟨decide_eq_false fun h => hl (by rw [h])⟩
    have z : ((l1.length : Int) != (l2.length : Int)) = true := by simp; omega
    clear hl
    go_wp2_with fail
    go_ret
    exact ⟨by rw [HN.out]; rfl, Below.refl _ _⟩
  have HL := Aside0.mk hl
  have z : ((l1.length : Int) != (l2.length : Int)) = false := by simp [hl]
  clear hl
  go_wp2_with fail
  go_loopw [6, 17] (fun r i wr => ∃ k : Nat, k ≤ l1.length ∧ r = .bool false ∧ i = .int .i64 k ∧ l1.take k = l2.take k ∧ Below w.heap.size w wr) (fun _ i _ => l1.length - (intOf i).toNat)
  case atStart => exact ⟨0, Nat.zero_le _, rfl, rfl, rfl, Below.refl _ _⟩
  case round =>
    obtain ⟨k, hk, rfl, rfl, ht, hb⟩ := hrel
    by_cases hlt : k < l1.length
    · have y1 : decide ((k : Int) < l1.length) = true := decide_eq_true (by omega)
      have y2 : decide (k < l1.length) = true := decide_eq_true hlt
      have y3 : (k < l1.length) = True := eq_true hlt
      have y4 : ((k : Int) < l1.length) = True := eq_true (by omega)
      have y5 : (k < l2.length) = True := eq_true (by have := HL.out; omega)
      have y6 : ((k : Int) < l2.length) = True := eq_true (by have := HL.out; omega)
      have k16 : k ≤ 9223372036854775806 := by omega
      obtain ⟨ad1, B1_8, e1_8, B1_9, e1_9, B1_10, e1_10, rfl, d1_0, d1_1, d1_2, d1_3, d1_4, d1_5, d1_6, d1_7, d1_8, d1_9, d1_10, m1_8, g1_8, m1_9, g1_9, m1_10, g1_10⟩ := at_T44 (Kd.C_below H1.out hb) (k : Int) (by omega) (by omega)
      obtain ⟨ad2, B2_8, e2_8, B2_9, e2_9, B2_10, e2_10, rfl, d2_0, d2_1, d2_2, d2_3, d2_4, d2_5, d2_6, d2_7, d2_8, d2_9, d2_10, m2_8, g2_8, m2_9, g2_9, m2_10, g2_10⟩ := at_T44 (Kd.C_below H2.out hb) (k : Int) (by omega) (by have := HL.out; omega)
      simp only [Int.toNat_natCast] at d1_0 d1_1 d1_2 d1_3 d1_4 d1_5 d1_6 d1_7 d1_8 d1_9 d1_10 d2_0 d2_1 d2_2 d2_3 d2_4 d2_5 d2_6 d2_7 d2_8 d2_9 d2_10
      have htn := take_next z44 hlt HL.out ht
      have bx := HB1.out _ (getD_in z44 hlt)
      have bY := HB2.out _ (getD_in z44 (show k < l2.length by have := HL.out; omega))
      rw [show l1.getD k z44 = rd_T44 l1 k from rfl, show l2.getD k z44 = rd_T44 l2 k from rfl] at htn
      rw [show l1.getD k z44 = rd_T44 l1 k from rfl] at bx
      rw [show l2.getD k z44 = rd_T44 l2 k from rfl] at bY
      generalize rd_T44 l1 k = x at *
      generalize rd_T44 l2 k = y at *
      have hsa := ((St.refl wr).alloc #[.int .i64 x.f0, .int .i64 x.f1, .int .i64 x.f2, .int .i64 x.f3, .int .i64 x.f4, .bool x.f5, .bool x.f6, .int .i64 x.f7, .slice B1_8 x.f8.length e1_8, .slice B1_9 x.f9.length e1_9, .slice B1_10 x.f10.length e1_10] 44).below
      have n0 := (hsa.cell (World.block_lt_of_cell? _ _ d2_0)).trans d2_0
      have n1 := (hsa.cell (World.block_lt_of_cell? _ _ d2_1)).trans d2_1
      have n2 := (hsa.cell (World.block_lt_of_cell? _ _ d2_2)).trans d2_2
      have n3 := (hsa.cell (World.block_lt_of_cell? _ _ d2_3)).trans d2_3
      have n4 := (hsa.cell (World.block_lt_of_cell? _ _ d2_4)).trans d2_4
      have n5 := (hsa.cell (World.block_lt_of_cell? _ _ d2_5)).trans d2_5
      have n6 := (hsa.cell (World.block_lt_of_cell? _ _ d2_6)).trans d2_6
      have n7 := (hsa.cell (World.block_lt_of_cell? _ _ d2_7)).trans d2_7
      have n8 := (hsa.cell (World.block_lt_of_cell? _ _ d2_8)).trans d2_8
      have n9 := (hsa.cell (World.block_lt_of_cell? _ _ d2_9)).trans d2_9
      have n10 := (hsa.cell (World.block_lt_of_cell? _ _ d2_10)).trans d2_10
      clear hsa
      have HS := Aside0.mk ((((St.refl wr).alloc #[.int .i64 x.f0, .int .i64 x.f1, .int .i64 x.f2, .int .i64 x.f3, .int .i64 x.f4, .bool x.f5, .bool x.f6, .int .i64 x.f7, .slice B1_8 x.f8.length e1_8, .slice B1_9 x.f9.length e1_9, .slice B1_10 x.f10.length e1_10] 44).alloc #[.int .i64 y.f0, .int .i64 y.f1, .int .i64 y.f2, .int .i64 y.f3, .int .i64 y.f4, .bool y.f5, .bool y.f6, .int .i64 y.f7, .slice B2_8 y.f8.length e2_8, .slice B2_9 y.f9.length e2_9, .slice B2_10 y.f10.length e2_10] 44))
      have HE := Aside0.mk (sameFrame_calls x y _ _ _ (k44_mk _ x m1_8 (Kd.C_below g1_8 HS.out.below) m1_9 (Kd.C_below g1_9 HS.out.below) m1_10 (Kd.C_below g1_10 HS.out.below)) (k44_mk _ y m2_8 (Kd.C_below g2_8 HS.out.below) m2_9 (Kd.C_below g2_9 HS.out.below) m2_10 (Kd.C_below g2_10 HS.out.below)) bx bY)
      have HT := Aside0.mk htn
      have HLT := Aside0.mk hlt
      have HBB := Aside0.mk hb
      clear htn bx bY ht hb hlt hk g1_8 g1_9 g1_10 g2_8 g2_9 g2_10
      by_cases hxy : x = y
      · rw [decide_eq_true hxy] at HE
        have HXY := Aside0.mk hxy
        clear hxy
        go_wp2_with (go_at_call 44; refine HE.out.mono ?_; rintro e w1 ⟨rfl, hd⟩; have HD := Aside0.mk (HS.out.belowR hd).below; clear hd)
        go_roundw
        case rel => exact ⟨k + 1, HLT.out, rfl, by go_num, HT.out.1 HXY.out, HBB.out.trans (HD.out.mono HBB.out.size)⟩
        case measure => have := HLT.out; simp [intOf]; omega
      · rw [decide_eq_false hxy] at HE
        have HN : Aside0 (decide (l1 = l2) = false) := ⟨decide_eq_false (HT.out.2 hxy)⟩
        clear hxy
        go_wp2_with (go_at_call 44; refine HE.out.mono ?_; rintro e w1 ⟨rfl, hd⟩; have HD := Aside0.mk (HS.out.belowR hd).below; clear hd)
        go_ret
        exact ⟨by rw [HN.out]; rfl, HBB.out.trans (HD.out.mono HBB.out.size)⟩
    · have y1 : decide ((k : Int) < l1.length) = false := decide_eq_false (by omega)
      have y2 : decide (k < l1.length) = false := decide_eq_false hlt
      obtain rfl : k = l1.length := by omega
      have HN : Aside0 (decide (l1 = l2) = true) := ⟨decide_eq_true (by rw [List.take_length] at ht; rw [ht, HL.out, List.take_length])⟩
      have HBB := Aside0.mk hb
      clear ht hb hlt hk
      go_wp2_with fail
      go_ret
      exact ⟨by rw [HN.out]; rfl, HBB.out⟩
theorem cells2 {w w1 : World} {P Q : Array Value} {T T' : TypeId} (hx : Below ((w.alloc (.cells P T)).alloc (.cells Q T')).heap.size ((w.alloc (.cells P T)).alloc (.cells Q T')) w1) (i : Nat) : w1.cell? ⟨w.heap.size, i, none⟩ = P[i]? ∧ w1.cell? ⟨w.heap.size + 1, i, none⟩ = Q[i]? := by
  have h := (((St.refl w).alloc P T).alloc Q T').belowR hx
  have e : (w.alloc (.cells P T)).heap.size = w.heap.size + 1 := by simp
  rw [e] at h
  exact ⟨h.swap.cell i, h.cell i⟩
instance : DecidableEq Dc := fun x y => decidable_of_iff (x.f0 = y.f0 ∧ x.f1 = y.f1 ∧ x.f2 = y.f2 ∧ x.f3 = y.f3 ∧ x.f4 = y.f4 ∧ x.f5 = y.f5 ∧ x.f6 = y.f6 ∧ x.f7 = y.f7 ∧ x.f8 = y.f8 ∧ x.f9 = y.f9 ∧ x.f10 = y.f10 ∧ x.f11 = y.f11 ∧ x.f12 = y.f12 ∧ x.f13 = y.f13 ∧ x.f14 = y.f14) (by cases x; cases y; simp)
theorem dc_eq {x y : Dc} : x = y ↔ x.f0 = y.f0 ∧ x.f1 = y.f1 ∧ x.f2 = y.f2 ∧ x.f3 = y.f3 ∧ x.f4 = y.f4 ∧ x.f5 = y.f5 ∧ x.f6 = y.f6 ∧ x.f7 = y.f7 ∧ x.f8 = y.f8 ∧ x.f9 = y.f9 ∧ x.f10 = y.f10 ∧ x.f11 = y.f11 ∧ x.f12 = y.f12 ∧ x.f13 = y.f13 ∧ x.f14 = y.f14 := by cases x; cases y; simp
structure okDc (x : Dc) : Prop where
  i1 : i64r x.f1
  i2 : i64r x.f2
  i5 : 0 ≤ x.f5 ∧ x.f5 ≤ 4294967295
  i6 : i64r x.f6
  pr : datL x.f7
  ex : datL x.f8
  xm : datL x.f9
  fr : x.f13.length * 128 ≤ 140737488351232 ∧ ∀ f ∈ x.f13, okFr f
  mo : chsL x.f14
set_option maxHeartbeats 8000000 in
set_option maxRecDepth 100000 in
theorem Same_calls (x y : Dc) (cs ds : List Value) (w : World) (hx : k27.K w x cs) (hy : k27.K w y ds) (bx : okDc x) (bY : okDc y) :
    Calls Try.prog 19 #[.agg cs.toArray, .agg ds.toArray] w fun e w' => e = .returned (.bool (decide (x = y))) ∧ Below w.heap.size w w' := by
  obtain ⟨A1, c1, A2, c2, A3, c3, A4, c4, A5, c5, rfl, l1, g1, l2, g2, l3, g3, l4, g4, l5, g5⟩ := k27_open hx
  obtain ⟨B1, d1, B2, d2, B3, d3, B4, d4, B5, d5, rfl, m1, h1, m2, h2, m3, h3, m4, h4, m5, h5⟩ := k27_open hy
  have HE1 := Aside0.mk fun (W : World) (hb : Below w.heap.size w W) => Equal_calls A1 c1 x.f7 B1 d1 y.f7 W bx.pr.1 bY.pr.1 (Kd.C_below g1 hb) l1 (Kd.C_below h1 hb) m1
  have HE2 := Aside0.mk fun (W : World) (hb : Below w.heap.size w W) => Equal_calls A2 c2 x.f8 B2 d2 y.f8 W bx.ex.1 bY.ex.1 (Kd.C_below g2 hb) l2 (Kd.C_below h2 hb) m2
  have HE3 := Aside0.mk fun (W : World) (hb : Below w.heap.size w W) => Equal_calls A3 c3 x.f9 B3 d3 y.f9 W bx.xm.1 bY.xm.1 (Kd.C_below g3 hb) l3 (Kd.C_below h3 hb) m3
  have HE4 := Aside0.mk fun (W : World) (hb : Below w.heap.size w W) => EqFrames_calls A4 c4 x.f13 B4 d4 y.f13 W (Kd.C_below g4 hb) (Kd.C_below h4 hb) bx.fr.2 bY.fr.2
  have HE5 := Aside0.mk fun (W : World) (hb : Below w.heap.size w W) => EqChunks_calls A5 c5 x.f14 B5 d5 y.f14 W (Kd.C_below g5 hb) (Kd.C_below h5 hb) bx.mo.2 bY.mo.2
  have HXY := Aside0.mk (@dc_eq x y)
  clear hx hy g1 g2 g3 h1 h2 h3 g4 g5 h4 h5
  go_enter Try.func19, Try.ntmps19
  go_wp2_with (first
    | (go_at_call 42; with_reducible refine (HE1.out _ (by repeat (first | exact Below.refl _ _ | apply pw_below_drewN | apply below_alloc))).mono ?_; clear HE1; rintro e w1 ⟨rfl, ⟨n1, rfl⟩⟩)
    | (go_at_call 42; with_reducible refine (HE2.out _ (by repeat (first | exact Below.refl _ _ | apply pw_below_drewN | apply below_alloc))).mono ?_; clear HE2; rintro e w1 ⟨rfl, ⟨n2, rfl⟩⟩)
    | (go_at_call 42; with_reducible refine (HE3.out _ (by repeat (first | exact Below.refl _ _ | apply pw_below_drewN | apply below_alloc))).mono ?_; clear HE3; rintro e w1 ⟨rfl, ⟨n3, rfl⟩⟩)
    | (go_at_call 43; with_reducible refine (HE4.out _ (by repeat (first | exact Below.refl _ _ | apply pw_below_drewN | apply below_alloc))).mono ?_; rintro e w1 ⟨rfl, hd⟩; have hx := bthen (show Below _ ((w.alloc _).alloc _) _ by repeat (first | exact Below.refl _ _ | apply pw_below_drewN | apply below_alloc)) hd; have n4 : w1.cell? ⟨w.heap.size, 14, none⟩ = some (.slice A5 x.f14.length c5) := (cells2 hx 14).1.trans rfl; have n5 : w1.cell? ⟨w.heap.size + 1, 14, none⟩ = some (.slice B5 y.f14.length d5) := (cells2 hx 14).2.trans rfl; have HB4 := Aside0.mk (bthen (show Below w.heap.size w _ by repeat (first | exact Below.refl _ _ | apply pw_below_drewN | apply below_alloc)) hd); clear hd hx)
    | (go_at_call 45; with_reducible refine (HE5.out _ HB4.out).mono ?_; rintro e w2 ⟨rfl, hd⟩; have HB := Aside0.mk (bthen HB4.out hd); clear hd))
  all_goals go_ret
  all_goals exact ⟨by simp [HXY.out, *], by first | exact HB.out | exact HB4.out | (repeat (first | exact Below.refl _ _ | apply pw_below_drewN | apply below_alloc))⟩
end Go.Proofs.Ythkocpcjcpohcaa.P
end
section
namespace Go.Proofs.Ythkocpcjcpohcaa.Pure
open Go Go.RowKit Go.Proofs.Ythkocpcjcpohcaa.P Go.Proofs.YthkocpcjcpohcaaW.PrintWords Go.Proofs.YthkocpcjcpohcaaW.PrintLast Go.Proofs.YthkocpcjcpohcaaW.PrintMore Go.Proofs.Ythkocpcjcpohcaa.U
def IsLen (v r : Int) : Prop := 0 ≤ r ∧ r ≤ 64 ∧ ∀ m : Nat, r ≤ m ↔ v < 2 ^ m
set_option maxRecDepth 100000 in
def T8 : ByteArray := ⟨#[0, 1, 2, 2, 3, 3, 3, 3, 4, 4, 4, 4, 4, 4, 4, 4, 5, 5, 5, 5, 5, 5, 5, 5, 5, 5, 5, 5, 5, 5, 5, 5, 6, 6, 6, 6, 6, 6, 6, 6, 6, 6, 6, 6, 6, 6, 6, 6, 6, 6, 6, 6, 6, 6, 6, 6, 6, 6, 6, 6, 6, 6, 6, 6, 7, 7, 7, 7, 7, 7, 7, 7, 7, 7, 7, 7, 7, 7, 7, 7, 7, 7, 7, 7, 7, 7, 7, 7, 7, 7, 7, 7, 7, 7, 7, 7, 7, 7, 7, 7, 7, 7, 7, 7, 7, 7, 7, 7, 7, 7, 7, 7, 7, 7, 7, 7, 7, 7, 7, 7, 7, 7, 7, 7, 7, 7, 7, 7, 8, 8, 8, 8, 8, 8, 8, 8, 8, 8, 8, 8, 8, 8, 8, 8, 8, 8, 8, 8, 8, 8, 8, 8, 8, 8, 8, 8, 8, 8, 8, 8, 8, 8, 8, 8, 8, 8, 8, 8, 8, 8, 8, 8, 8, 8, 8, 8, 8, 8, 8, 8, 8, 8, 8, 8, 8, 8, 8, 8, 8, 8, 8, 8, 8, 8, 8, 8, 8, 8, 8, 8, 8, 8, 8, 8, 8, 8, 8, 8, 8, 8, 8, 8, 8, 8, 8, 8, 8, 8, 8, 8, 8, 8, 8, 8, 8, 8, 8, 8, 8, 8, 8, 8, 8, 8, 8, 8, 8, 8, 8, 8, 8, 8, 8, 8, 8, 8, 8, 8, 8, 8, 8, 8, 8, 8, 8, 8]⟩
set_option maxRecDepth 100000 in
theorem j0_eq (k : Nat) (x0 x2 : Int) : bits_Len64.j0 (k + 1) x0 x2 = if x0 ≥ 65536 then (if (x0 / 65536) ≥ 256 then (if 0 ≤ (((x0 / 65536) / 256) % 256) then (if (((x0 / 65536) / 256) % 256) < 256 then (some (wrap64 ((wrap64 ((wrap64 (x2 + 16)) + 8)) + (wrap64 (bt T8 (((x0 / 65536) / 256) % 256)))))) else (none)) else (none)) else (if 0 ≤ ((x0 / 65536) % 256) then (if ((x0 / 65536) % 256) < 256 then (some (wrap64 ((wrap64 (x2 + 16)) + (wrap64 (bt T8 ((x0 / 65536) % 256)))))) else (none)) else (none))) else (if x0 ≥ 256 then (if 0 ≤ ((x0 / 256) % 256) then (if ((x0 / 256) % 256) < 256 then (some (wrap64 ((wrap64 (x2 + 8)) + (wrap64 (bt T8 ((x0 / 256) % 256)))))) else (none)) else (none)) else (if 0 ≤ ((x0) % 256) then (if ((x0) % 256) < 256 then (some (wrap64 (x2 + (wrap64 (bt T8 ((x0) % 256)))))) else (none)) else (none))) := rfl
set_option maxRecDepth 100000 in
theorem len8 (i : Int) (h0 : 0 ≤ i) (h1 : i < 256) : 0 ≤ bt T8 i ∧ bt T8 i ≤ 8 ∧ i < 2 ^ (bt T8 i).toNat ∧ (bt T8 i = 0 ∧ i = 0 ∨ 1 ≤ bt T8 i ∧ 2 ^ ((bt T8 i).toNat - 1) ≤ i) := by
  have H : ∀ j : Fin 256, 0 ≤ bt T8 j.val ∧ bt T8 j.val ≤ 8 ∧ (j.val : Int) < 2 ^ (bt T8 j.val).toNat ∧ (bt T8 j.val = 0 ∧ (j.val : Int) = 0 ∨ 1 ≤ bt T8 j.val ∧ 2 ^ ((bt T8 j.val).toNat - 1) ≤ (j.val : Int)) := by decide +kernel
  have := H ⟨i.toNat, by omega⟩
  simpa [Int.toNat_of_nonneg h0] using this
theorem isLen_of {v r : Int} (h0 : 0 ≤ r) (h1 : r ≤ 64) (h2 : v < 2 ^ r.toNat) (h3 : r = 0 ∨ 2 ^ (r.toNat - 1) ≤ v) : IsLen v r := by
  refine ⟨h0, h1, fun m => ⟨fun h => Int.lt_of_lt_of_le h2 (pow_le (by omega)), fun h => ?_⟩⟩
  rcases h3 with rfl | h3
  · omega
  · apply Classical.byContradiction
    intro hn
    have := pow_le (a := m) (b := r.toNat - 1) (by omega)
    omega
theorem isLen_up {v q : Int} (s : Nat) (hq : q = v / 2 ^ s) (h1 : 1 ≤ q) {r : Int} (hr0 : 0 ≤ r) (hs : r + s ≤ 64) (h2 : q < 2 ^ r.toNat) (h3 : r = 0 ∨ 2 ^ (r.toNat - 1) ≤ q) : IsLen v (r + s) := by
  have hp := pow_pos s
  have e := Int.mul_ediv_add_emod v (2 ^ s)
  have m0 := Int.emod_nonneg v (b := 2 ^ s) (by omega)
  have m1 := Int.emod_lt_of_pos v hp
  rw [← hq] at e
  have hr1 : 1 ≤ r.toNat := by
    apply Classical.byContradiction
    intro hn
    have : r.toNat = 0 := by omega
    rw [this] at h2
    omega
  refine isLen_of (by omega) hs ?_ (.inr ?_)
  · rw [show (r + s).toNat = s + r.toNat by omega, pow_add]
    have : 2 ^ s * q ≤ 2 ^ s * (2 ^ r.toNat - 1) := Int.mul_le_mul_of_nonneg_left (by omega) (by omega)
    rw [Int.mul_sub] at this
    omega
  · rw [show (r + s).toNat - 1 = s + (r.toNat - 1) by omega, pow_add]
    have h3' : 2 ^ (r.toNat - 1) ≤ q := by rcases h3 with h | h <;> omega
    have : 2 ^ s * 2 ^ (r.toNat - 1) ≤ 2 ^ s * q := Int.mul_le_mul_of_nonneg_left h3' (by omega)
    omega
set_option maxRecDepth 100000 in
theorem len64_j (v x : Int) (s : Nat) (hs : s ≤ 32) (hx : x = v / 2 ^ s) (h1 : s = 0 ∨ 1 ≤ x) (hx1 : x < 4294967296) (h0 : 0 ≤ v) :
    ∃ r, IsLen v r ∧ Ev (fun k => bits_Len64.j0 k x s) r := by
  have hx0 : 0 ≤ x := by rw [hx]; exact Int.ediv_nonneg h0 (by have := pow_pos s; omega)
  have main : ∀ (t : Nat) (y : Int), t = 0 ∨ t = 8 ∨ t = 16 ∨ t = 24 → y = x / 2 ^ t → (t = 0 ∨ 1 ≤ y) → y < 256 → ∀ b, b = bt T8 y → IsLen v (b + t + s) := by
    intro t y ht hy hy1 hy2 b hb
    have hy0 : 0 ≤ y := by rw [hy]; exact Int.ediv_nonneg hx0 (by have := pow_pos t; omega)
    obtain ⟨b0, b8, b1, b2⟩ := len8 y hy0 hy2
    rw [← hb] at b0 b8 b1 b2
    have hyv : y = v / 2 ^ (s + t) := by
      rw [hy, hx, pow_add, Int.ediv_ediv_of_nonneg]
      have := pow_pos s; omega
    by_cases hz : 1 ≤ y
    · have := isLen_up (s + t) hyv hz b0 (by omega) b1 (by rcases b2 with b2 | b2; exact .inl b2.1; exact .inr b2.2)
      rw [show b + (t : Int) + s = b + ((s + t : Nat) : Int) by omega]
      exact this
    · obtain rfl : t = 0 := by omega
      have hx' : x = y := by rw [hy]; simp
      obtain rfl : s = 0 := by omega
      have hv : v = y := by rw [← hx', hx]; simp
      obtain rfl : b = 0 := by
        rcases b2 with b2 | b2
        · exact b2.1
        · have := pow_pos (b.toNat - 1); omega
      refine isLen_of (by omega) (by omega) ?_ (.inl (by omega))
      rw [hv]; simp; omega
  by_cases c1 : x ≥ 65536
  · by_cases c2 : x / 65536 ≥ 256
    · have y2 : x / 65536 / 256 % 256 = x / 65536 / 256 := by omega
      obtain ⟨b0, b8, -, -⟩ := len8 (x / 65536 / 256) (by omega) (by omega)
      refine ⟨_, main 24 (x / 65536 / 256) (by omega) (by rw [Int.ediv_ediv_of_nonneg (by omega)]; rfl) (by omega) (by omega) _ rfl, ?_⟩
      refine Ev.succ ?_
      simp only [j0_eq]
      refine Ev.ite_pos c1 (Ev.ite_pos c2 (Ev.ite_pos (by omega) (Ev.ite_pos (by omega) (Ev.fin ?_))))
      rw [y2, w64 (n := (s : Int) + 16) (by omega) (by omega), w64 (n := (s : Int) + 16 + 8) (by omega) (by omega), w64 (n := bt _ _) (by omega) (by omega), w64 (by omega) (by omega)]
      omega
    · have y2 : x / 65536 % 256 = x / 65536 := by omega
      obtain ⟨b0, b8, -, -⟩ := len8 (x / 65536) (by omega) (by omega)
      refine ⟨_, main 16 (x / 65536) (by omega) rfl (by omega) (by omega) _ rfl, ?_⟩
      refine Ev.succ ?_
      simp only [j0_eq]
      refine Ev.ite_pos c1 (Ev.ite_neg c2 (Ev.ite_pos (by omega) (Ev.ite_pos (by omega) (Ev.fin ?_))))
      rw [y2, w64 (n := (s : Int) + 16) (by omega) (by omega), w64 (n := bt _ _) (by omega) (by omega), w64 (by omega) (by omega)]
      omega
  · by_cases c2 : x ≥ 256
    · have y2 : x / 256 % 256 = x / 256 := by omega
      obtain ⟨b0, b8, -, -⟩ := len8 (x / 256) (by omega) (by omega)
      refine ⟨_, main 8 (x / 256) (by omega) rfl (by omega) (by omega) _ rfl, ?_⟩
      refine Ev.succ ?_
      simp only [j0_eq]
      refine Ev.ite_neg c1 (Ev.ite_pos c2 (Ev.ite_pos (by omega) (Ev.ite_pos (by omega) (Ev.fin ?_))))
      rw [y2, w64 (n := (s : Int) + 8) (by omega) (by omega), w64 (n := bt _ _) (by omega) (by omega), w64 (by omega) (by omega)]
      omega
    · have y2 : x % 256 = x := by omega
      obtain ⟨b0, b8, -, -⟩ := len8 x (by omega) (by omega)
      refine ⟨_, main 0 x (by omega) (by simp) (by omega) (by omega) _ rfl, ?_⟩
      refine Ev.succ ?_
      simp only [j0_eq]
      refine Ev.ite_neg c1 (Ev.ite_neg c2 (Ev.ite_pos (by omega) (Ev.ite_pos (by omega) (Ev.fin ?_))))
      rw [y2, w64 (n := bt _ _) (by omega) (by omega), w64 (by omega) (by omega)]
      omega
theorem len64_ev (v : Int) (h0 : 0 ≤ v) (h1 : v ≤ 18446744073709551615) : ∃ r, IsLen v r ∧ Ev (fun k => bits_Len64.f k v) r := by
  unfold bits_Len64.f
  by_cases c : v ≥ 4294967296
  · obtain ⟨r, hr, he⟩ := len64_j v (v / 4294967296) 32 (by omega) rfl (by omega) (by omega) h0
    exact ⟨r, hr, Ev.ite_pos c he⟩
  · obtain ⟨r, hr, he⟩ := len64_j v v 0 (by omega) (by simp) (by omega) (by omega) h0
    exact ⟨r, hr, Ev.ite_neg c he⟩
end Go.Proofs.Ythkocpcjcpohcaa.Pure
end
section
namespace Go.Proofs.Ythkocpcjcpohcaa.Pure
open Go Go.RowKit Go.Proofs.Ythkocpcjcpohcaa.P Go.Proofs.YthkocpcjcpohcaaW.PrintWords Go.Proofs.YthkocpcjcpohcaaW.PrintLast Go.Proofs.YthkocpcjcpohcaaW.PrintMore Go.Proofs.Ythkocpcjcpohcaa.U
def num : List Int → Int
  | [] => 0
  | b :: r => b + 256 * num r
def Bytes (l : List Int) : Prop := ∀ x ∈ l, 0 ≤ x ∧ x ≤ 255
theorem bytes_wf {l : List Int} (h : ∀ x ∈ l, (Lit.int .u8 x).wf = true) : Bytes l := fun x hx => wf_u8 (h x hx)
theorem Bytes.tail {b : Int} {l : List Int} (h : Bytes (b :: l)) : Bytes l := fun x hx => h x (List.mem_cons_of_mem _ hx)
theorem Bytes.take {l : List Int} (h : Bytes l) (n : Nat) : Bytes (l.take n) := fun x hx => h x (List.mem_of_mem_take hx)
theorem Bytes.drop {l : List Int} (h : Bytes l) (n : Nat) : Bytes (l.drop n) := fun x hx => h x (List.mem_of_mem_drop hx)
theorem num_bd {l : List Int} (h : Bytes l) : 0 ≤ num l ∧ num l < 256 ^ l.length := by
  induction l with
  | nil => simp [num]
  | cons b r ih =>
    have hb := h b (by simp)
    have hi := ih h.tail
    have e : (256 : Int) ^ (b :: r).length = 256 * 256 ^ r.length := by rw [List.length_cons, Int.pow_succ, Int.mul_comm]
    unfold num
    omega
theorem num_snoc (l : List Int) (b : Int) : num (l ++ [b]) = num l + b * 256 ^ l.length := by
  induction l with
  | nil => simp [num]
  | cons c r ih =>
    have e : (256 : Int) ^ (c :: r).length = 256 * 256 ^ r.length := by rw [List.length_cons, Int.pow_succ, Int.mul_comm]
    simp only [List.cons_append, num, ih, e]
    rw [Int.mul_add, ← Int.mul_assoc, ← Int.mul_assoc, Int.mul_comm 256 b]
    omega
theorem rd_mem {l : List Int} {i : Int} (h0 : 0 ≤ i) (h : i < l.length) : rd l i ∈ l := by
  unfold rd
  rw [List.getD_eq_getElem?_getD, List.getElem?_eq_getElem (by omega)]
  exact List.getElem_mem _
theorem take_rd {l : List Int} {a k : Nat} (h : a + k < l.length) : (l.drop a).take (k + 1) = (l.drop a).take k ++ [rd l ((a : Int) + k)] := by
  have : ((a : Int) + k).toNat = a + k := by omega
  unfold rd
  rw [this, List.take_succ_eq_append_getElem (by simp; omega), List.getElem_drop, List.getD_eq_getElem?_getD, List.getElem?_eq_getElem h]
  rfl
def get (l : List Int) (at_ n : Int) : Int × Bool := if 1 ≤ n ∧ n ≤ 8 ∧ 0 ≤ at_ ∧ at_ ≤ l.length ∧ n ≤ l.length - at_ then (num ((l.drop at_.toNat).take n.toNat), true) else (0, false)
theorem get_bad {l : List Int} {a n : Int} (h : ¬ (1 ≤ n ∧ n ≤ 8 ∧ 0 ≤ a ∧ a ≤ l.length ∧ n ≤ l.length - a)) : get l a n = (0, false) := if_neg h
theorem get_good {l : List Int} {a n : Int} (h : 1 ≤ n ∧ n ≤ 8 ∧ 0 ≤ a ∧ a ≤ l.length ∧ n ≤ l.length - a) : get l a n = (num ((l.drop a.toNat).take n.toNat), true) := if_pos h
theorem pow256 {i : Nat} (h : i ≤ 8) : (256 : Int) ^ i ≤ 18446744073709551616 ∧ (256 : Int) ^ i = 2 ^ (8 * i) := by
  have h1 : (256 : Int) ^ i = 2 ^ (8 * i) := by rw [Int.pow_mul]; rfl
  refine ⟨?_, h1⟩
  rw [h1]
  have := pow_le (a := 8 * i) (b := 64) (by omega)
  simpa using this
theorem le_Get_loop {l : List Int} (hl : Bytes l) (hlen : l.length ≤ 140737488351232) {a : Nat} {n : Nat} (hn : n ≤ 8) (ha : a + n ≤ l.length) (d : Nat) : ∀ i : Nat, i + d = n →
    Ev (fun k => le_Get.l0 k l a (num ((l.drop a).take i)) n i) (num ((l.drop a).take n), true) := by
  induction d with
  | zero =>
    intro i hd
    obtain rfl : i = n := by omega
    refine Ev.succ ?_
    simp only [le_Get.l0]
    exact Ev.ite_neg (by omega) (Ev.now _)
  | succ d ih =>
    intro i hd
    refine Ev.succ ?_
    simp only [le_Get.l0]
    have e1 : wrap64 ((a : Int) + i) = a + i := w64 (by omega) (by omega)
    have e2 : wrap64 (8 * (i : Int)) = 8 * i := w64 (by omega) (by omega)
    simp only [e1, e2]
    refine Ev.ite_pos (by omega) (Ev.ite_pos (by omega) (Ev.ite_pos (by omega) (Ev.ite_pos (by omega) ?_)))
    have hr := hl _ (rd_mem (l := l) (i := (a : Int) + i) (by omega) (by omega))
    have hb := num_bd ((hl.drop a).take i)
    have hlen' : ((l.drop a).take i).length = i := by simp; omega
    rw [hlen'] at hb
    have hp := pow256 (i := i) (by omega)
    have hp1 := pow256 (i := i + 1) (by omega)
    have hs : (256 : Int) ^ (i + 1) = 256 ^ i * 256 := Int.pow_succ _ _
    have e3 : (8 * (i : Int)).toNat = 8 * i := by omega
    have h2 := ih (i + 1) (by omega)
    rw [take_rd (by omega), num_snoc, hlen', show ((i + 1 : Nat) : Int) = (i : Int) + 1 by omega] at h2
    rw [wu64 (by omega) (by omega), shl_u64 (by omega), e3, ← hp.2]
    generalize rd l ((a : Int) + i) = r at *
    have hm : 0 ≤ r * 256 ^ i ∧ r * 256 ^ i ≤ 255 * 256 ^ i := by
      have := pow_pos (8 * i); rw [← hp.2] at this
      exact ⟨Int.mul_nonneg hr.1 (by omega), Int.mul_le_mul_of_nonneg_right hr.2 (by omega)⟩
    rw [Int.emod_eq_of_lt hm.1 (by omega), or_u64 (i := 8 * i) (by omega) hb.1 (by rw [← hp.2]; exact hb.2) hm.1 (by rw [← hp.2]; exact Int.mul_emod_left _ _) (by omega)]
    rw [w64 (n := (i : Int) + 1) (by omega) (by omega)]
    exact h2
theorem le_Get_ev {l : List Int} (hl : Bytes l) (hlen : l.length ≤ 140737488351232) (a n : Int) (ha : -9223372036854775808 ≤ a) : Ev (fun k => le_Get.f k l a n) (get l a n) := by
  unfold le_Get.f le_size.f
  have bad : Ev (fun k => le_Get.j0 k l a n true) (0, false) := by
    refine Ev.succ ?_
    simp only [le_Get.j0, if_true]
    exact Ev.now _
  by_cases h1 : 1 ≤ n
  · simp only [ge_iff_le, if_pos h1, Option.bind_some]
    by_cases h2 : n ≤ 8
    · simp only [h2, decide_true, if_true]
      by_cases h3 : a < 0
      · rw [get_bad (by omega)]; exact Ev.ite_pos h3 bad
      refine Ev.ite_neg h3 ?_
      by_cases h4 : a > (l.length : Int)
      · rw [get_bad (by omega)]; exact Ev.ite_pos h4 bad
      refine Ev.ite_neg h4 ?_
      rw [w64 (by omega) (by omega)]
      by_cases h5 : (l.length : Int) - a < n
      · rw [get_bad (by omega)]; simp only [h5, decide_true]; exact bad
      rw [get_good (by omega)]
      simp only [h5, decide_false]
      refine Ev.succ ?_
      simp only [le_Get.j0]
      refine Ev.ite_neg (by decide) ?_
      obtain ⟨n, rfl⟩ := Int.eq_ofNat_of_zero_le (show 0 ≤ n by omega)
      obtain ⟨a, rfl⟩ := Int.eq_ofNat_of_zero_le (show 0 ≤ a by omega)
      have := le_Get_loop hl hlen (a := a) (n := n) (by omega) (by omega) n 0 (by omega)
      simpa [num] using this
    · rw [get_bad (by omega)]
      simp only [h2, decide_false]
      exact Ev.ite_neg (by decide) bad
  · rw [get_bad (by omega)]
    simp only [ge_iff_le, if_neg h1, Option.bind_some]
    exact Ev.ite_neg (by decide) bad
def bytes : Nat → Int → List Int
  | 0, _ => []
  | n + 1, v => v % 256 :: bytes n (v / 256)
theorem bytes_len (n : Nat) : ∀ v, (bytes n v).length = n := by
  induction n with
  | zero => intro v; rfl
  | succ n ih => intro v; simp [bytes, ih]
theorem bytes_snoc (n : Nat) : ∀ v : Int, 0 ≤ v → bytes (n + 1) v = bytes n v ++ [v / 256 ^ n % 256] := by
  induction n with
  | zero => intro v _; simp [bytes]
  | succ n ih =>
    intro v hv
    rw [bytes, ih _ (by omega), bytes, Int.ediv_ediv_of_nonneg (by omega), List.cons_append, Int.pow_succ, Int.mul_comm]
theorem bytes_bytes (n : Nat) : ∀ v, Bytes (bytes n v) := by
  induction n with
  | zero => intro v x hx; simp [bytes] at hx
  | succ n ih =>
    intro v x hx
    simp only [bytes, List.mem_cons] at hx
    rcases hx with rfl | hx
    · omega
    · exact ih _ x hx
theorem num_bytes (n : Nat) : ∀ v : Int, 0 ≤ v → v < 256 ^ n → num (bytes n v) = v := by
  induction n with
  | zero => intro v h0 h1; simp at h1; simp [bytes, num]; omega
  | succ n ih =>
    intro v h0 h1
    rw [Int.pow_succ] at h1
    rw [bytes, num, ih _ (by omega) (by omega)]
    omega
def put (v n : Int) : List Int × Bool := if 1 ≤ n ∧ n ≤ 8 ∧ v < 256 ^ n.toNat then (bytes n.toNat v, true) else ([], false)
theorem put_bad {v n : Int} (h : ¬ (1 ≤ n ∧ n ≤ 8 ∧ v < 256 ^ n.toNat)) : put v n = ([], false) := if_neg h
theorem put_good {v n : Int} (h : 1 ≤ n ∧ n ≤ 8 ∧ v < 256 ^ n.toNat) : put v n = (bytes n.toNat v, true) := if_pos h
theorem le_Put_loop (v : Int) (h0 : 0 ≤ v) {n : Nat} (hn : n ≤ 8) (d : Nat) : ∀ i : Nat, i + d = n →
    Ev (fun k => le_Put.l0 k v (bytes i v ++ List.replicate d 0) n i) (bytes n v, true) := by
  induction d with
  | zero =>
    intro i hd
    obtain rfl : i = n := by omega
    refine Ev.succ ?_
    simp only [le_Put.l0]
    refine Ev.ite_neg (by omega) (Ev.fin (by simp))
  | succ d ih =>
    intro i hd
    refine Ev.succ ?_
    simp only [le_Put.l0]
    have e2 : wrap64 (8 * (i : Int)) = 8 * i := w64 (by omega) (by omega)
    have e3 : wrap64 ((i : Int) + 1) = (i + 1 : Nat) := w64 (by omega) (by omega)
    have hl := bytes_len i v
    simp only [e2, e3]
    refine Ev.ite_pos (by omega) (Ev.ite_pos (by omega) (Ev.ite_pos (by omega) (Ev.ite_pos (by simp [hl]; omega) ?_)))
    have hp := pow256 (i := i) (by omega)
    rw [shr_any (by simp [IntKind.bits]; omega), show (8 * (i : Int)).toNat = 8 * i by omega, ← hp.2]
    have e4 : (bytes i v ++ List.replicate (d + 1) 0).set (i : Int).toNat (v / 256 ^ i % 256) = bytes (i + 1) v ++ List.replicate d 0 := by
      rw [bytes_snoc i v h0, List.set_append_right _ _ (by omega), hl, List.replicate_succ, List.append_assoc]
      simp
    rw [e4]
    exact ih (i + 1) (by omega)
theorem le_Put_ev (v n : Int) (h0 : 0 ≤ v) (h1 : v ≤ 18446744073709551615) : Ev (fun k => le_Put.f k v n) (put v n) := by
  unfold le_Put.f le_size.f
  have bad : Ev (fun k => le_Put.j0 k v n true) ([], false) := by
    refine Ev.succ ?_
    simp only [le_Put.j0, if_true]
    exact Ev.now _
  by_cases c1 : 1 ≤ n
  · simp only [ge_iff_le, if_pos c1, Option.bind_some]
    by_cases c2 : n ≤ 8
    · simp only [c2, decide_true, if_true]
      obtain ⟨r, hr, he⟩ := len64_ev v h0 h1
      refine Ev.bind he ?_
      rw [w64 (by omega) (by omega)]
      obtain ⟨n, rfl⟩ := Int.eq_ofNat_of_zero_le (show 0 ≤ n by omega)
      have hk := hr.2.2 (8 * n)
      have hp := pow256 (i := n) (by omega)
      rw [← hp.2] at hk
      by_cases c3 : r > 8 * (n : Int)
      · rw [put_bad (by simp; omega)]
        simp only [c3, decide_true]; exact bad
      · rw [put_good (by simp; omega)]
        simp only [c3, decide_false]
        refine Ev.succ ?_
        simp only [le_Put.j0]
        refine Ev.ite_neg (by decide) (Ev.ite_pos (by omega) (Ev.ite_pos (by omega) ?_))
        simp only [Option.bind_some, Int.toNat_natCast, List.length_replicate]
        have := le_Put_loop v h0 (n := n) (by omega) n 0 (by omega)
        simpa [bytes] using this
    · rw [put_bad (by omega)]
      simp only [c2, decide_false]
      exact Ev.ite_neg (by decide) bad
  · rw [put_bad (by omega)]
    simp only [ge_iff_le, if_neg c1, Option.bind_some]
    exact Ev.ite_neg (by decide) bad
theorem ref_Put_loop (v : Int) (h0 : 0 ≤ v) (h1 : v ≤ 18446744073709551615) {n : Nat} (hn : n ≤ 8) (d : Nat) : ∀ i : Nat, i + d = n →
    Ev (fun k => marquetryref01_Put.l0 k (v / 256 ^ i) n (bytes i v) i) (if v < 256 ^ n then (bytes n v, true) else ([], false)) := by
  induction d with
  | zero =>
    intro i hd
    obtain rfl : i = n := by omega
    refine Ev.succ ?_
    simp only [marquetryref01_Put.l0]
    refine Ev.ite_neg (by omega) ?_
    have hp : (0 : Int) < 256 ^ i := by rw [(pow256 (i := i) (by omega)).2]; exact pow_pos _
    by_cases c : v < 256 ^ i
    · rw [if_pos c]
      exact Ev.ite_pos (Int.ediv_eq_zero_of_lt h0 c) (Ev.now _)
    · rw [if_neg c]
      refine Ev.ite_neg ?_ (Ev.now _)
      have : 1 ≤ v / 256 ^ i := (Int.le_ediv_iff_mul_le hp).2 (by omega)
      omega
  | succ d ih =>
    intro i hd
    refine Ev.succ ?_
    simp only [marquetryref01_Put.l0]
    have hl := bytes_len i v
    have hp : (0 : Int) < 256 ^ i := by rw [(pow256 (i := i) (by omega)).2]; exact pow_pos _
    have hq : 0 ≤ v / 256 ^ i := Int.ediv_nonneg h0 (by omega)
    have hq1 : v / 256 ^ i ≤ v := Int.ediv_le_self _ h0
    refine Ev.ite_pos (by omega) (Ev.ite_pos (by omega) ?_)
    rw [Int.tmod_eq_emod_of_nonneg hq, Int.tdiv_eq_ediv_of_nonneg hq, wu64 (by omega) (by omega), w64 (by omega) (by omega), Int.emod_emod, Int.ediv_ediv_of_nonneg (by omega), ← bytes_snoc i v h0, ← Int.pow_succ]
    exact ih (i + 1) (by omega)
theorem ref_Put_ev (v n : Int) (h0 : 0 ≤ v) (h1 : v ≤ 18446744073709551615) : Ev (fun k => marquetryref01_Put.f k v n) (put v n) := by
  unfold marquetryref01_Put.f
  have bad : Ev (fun k => marquetryref01_Put.j0 k v n true) ([], false) := by
    refine Ev.succ ?_
    simp only [marquetryref01_Put.j0, if_true]
    exact Ev.now _
  by_cases c1 : n < 1
  · rw [put_bad (by omega)]; exact Ev.ite_pos c1 bad
  refine Ev.ite_neg c1 ?_
  by_cases c2 : n > 8
  · rw [put_bad (by omega)]; simp only [c2, decide_true]; exact bad
  simp only [c2, decide_false]
  refine Ev.succ ?_
  simp only [marquetryref01_Put.j0]
  refine Ev.ite_neg (by decide) ?_
  obtain ⟨n, rfl⟩ := Int.eq_ofNat_of_zero_le (show 0 ≤ n by omega)
  have := ref_Put_loop v h0 h1 (n := n) (by omega) n 0 (by omega)
  by_cases c3 : v < 256 ^ n
  · rw [put_good ⟨by omega, by omega, by simpa using c3⟩]; rw [if_pos c3] at this; simpa [bytes] using this
  · rw [put_bad (fun h => c3 (by simpa using h.2.2))]; rw [if_neg c3] at this; simpa [bytes] using this
theorem same_loop (a : List Int) (hlen : a.length ≤ 140737488355328) (d : Nat) : ∀ i : Nat, i + d = a.length → Ev (fun k => marquetryref01_Same.l0 k a a i) true := by
  induction d with
  | zero =>
    intro i hd
    refine Ev.succ ?_
    simp only [marquetryref01_Same.l0]
    exact Ev.ite_neg (by omega) (Ev.now _)
  | succ d ih =>
    intro i hd
    refine Ev.succ ?_
    simp only [marquetryref01_Same.l0]
    rw [w64 (n := (i : Int) + 1) (by omega) (by omega)]
    refine Ev.ite_pos (by omega) (Ev.ite_pos (by omega) (Ev.ite_pos (by omega) ?_))
    simp only [if_true]
    exact ih (i + 1) (by omega)
theorem same_ev (a : List Int) (hlen : a.length ≤ 140737488355328) : Ev (fun k => marquetryref01_Same.f k a a) true := by
  unfold marquetryref01_Same.f
  refine Ev.ite_pos rfl ?_
  exact same_loop a hlen a.length 0 (by omega)
end Go.Proofs.Ythkocpcjcpohcaa.Pure
end
section
namespace Go.Proofs.Ythkocpcjcpohcaa.Pure
open Go Go.RowKit Go.Proofs.Ythkocpcjcpohcaa.P Go.Proofs.YthkocpcjcpohcaaW.PrintWords Go.Proofs.YthkocpcjcpohcaaW.PrintLast Go.Proofs.YthkocpcjcpohcaaW.PrintMore Go.Proofs.Ythkocpcjcpohcaa.U
def okName (s : ByteArray) : Bool := decide ((bytesOf s).length = 4 ∧ ∀ b ∈ bytesOf s, sign b)
theorem chunk_Name_eq (s : ByteArray) : chunk_Name.f s = some (okName s) := rfl
theorem rd_nat {l : List Int} {i : Nat} (h : i < l.length) : rd l (i : Int) = l[i] := by
  unfold rd
  rw [show ((i : Int)).toNat = i by omega, List.getD_eq_getElem?_getD, List.getElem?_eq_getElem h]
  rfl
abbrev Ch := S42
def no (e : Int) : ByteArray × List Int × Int × Int := (⟨#[]⟩, [], 0, e)
def one (b : List Int) : ByteArray × List Int × Int × Int :=
  if b.length < 4 then no 2 else
  if okName (strOfNums (b.take 4)) = false then no 3 else
  if b.length < 8 ∨ (b.length : Int) - 8 < num ((b.drop 4).take 4) then no 2 else
  if num ((b.drop 4).take 4) % 2 = 0 then (strOfNums (b.take 4), (b.take (8 + (num ((b.drop 4).take 4)).toNat)).drop 8, 8 + num ((b.drop 4).take 4), 0) else
  if (b.length : Int) ≤ 8 + num ((b.drop 4).take 4) then no 2 else
  if rd b (8 + num ((b.drop 4).take 4)) = 0 then (strOfNums (b.take 4), (b.take (8 + (num ((b.drop 4).take 4)).toNat)).drop 8, 8 + num ((b.drop 4).take 4) + 1, 0) else no 3
section
variable {b : List Int}
theorem one_short (h : b.length < 4) : one b = no 2 := by unfold one; rw [if_pos h]
theorem one_name (h : ¬ b.length < 4) (h2 : okName (strOfNums (b.take 4)) = false) : one b = no 3 := by unfold one; rw [if_neg h, if_pos h2]
theorem one_end (h : ¬ b.length < 4) (h2 : ¬ okName (strOfNums (b.take 4)) = false) (h3 : b.length < 8 ∨ (b.length : Int) - 8 < num ((b.drop 4).take 4)) : one b = no 2 := by unfold one; rw [if_neg h, if_neg h2, if_pos h3]
theorem one_even (h2 : ¬ okName (strOfNums (b.take 4)) = false) (h3 : ¬ (b.length < 8 ∨ (b.length : Int) - 8 < num ((b.drop 4).take 4))) (h4 : num ((b.drop 4).take 4) % 2 = 0) :
    one b = (strOfNums (b.take 4), (b.take (8 + (num ((b.drop 4).take 4)).toNat)).drop 8, 8 + num ((b.drop 4).take 4), 0) := by unfold one; rw [if_neg (by omega), if_neg h2, if_neg h3, if_pos h4]
theorem one_out (h2 : ¬ okName (strOfNums (b.take 4)) = false) (h3 : ¬ (b.length < 8 ∨ (b.length : Int) - 8 < num ((b.drop 4).take 4))) (h4 : ¬ num ((b.drop 4).take 4) % 2 = 0) (h5 : (b.length : Int) ≤ 8 + num ((b.drop 4).take 4)) : one b = no 2 := by
  unfold one; rw [if_neg (by omega), if_neg h2, if_neg h3, if_neg h4, if_pos h5]
theorem one_odd (h2 : ¬ okName (strOfNums (b.take 4)) = false) (h3 : ¬ (b.length < 8 ∨ (b.length : Int) - 8 < num ((b.drop 4).take 4))) (h4 : ¬ num ((b.drop 4).take 4) % 2 = 0) (h5 : ¬ (b.length : Int) ≤ 8 + num ((b.drop 4).take 4)) (h6 : rd b (8 + num ((b.drop 4).take 4)) = 0) :
    one b = (strOfNums (b.take 4), (b.take (8 + (num ((b.drop 4).take 4)).toNat)).drop 8, 8 + num ((b.drop 4).take 4) + 1, 0) := by
  unfold one; rw [if_neg (by omega), if_neg h2, if_neg h3, if_neg h4, if_neg h5, if_pos h6]
theorem one_pad (h2 : ¬ okName (strOfNums (b.take 4)) = false) (h3 : ¬ (b.length < 8 ∨ (b.length : Int) - 8 < num ((b.drop 4).take 4))) (h4 : ¬ num ((b.drop 4).take 4) % 2 = 0) (h5 : ¬ (b.length : Int) ≤ 8 + num ((b.drop 4).take 4)) (h6 : ¬ rd b (8 + num ((b.drop 4).take 4)) = 0) : one b = no 3 := by
  unfold one; rw [if_neg (by omega), if_neg h2, if_neg h3, if_neg h4, if_neg h5, if_neg h6]
end
theorem num4 {b : List Int} (h : Bytes b) : 0 ≤ num ((b.drop 4).take 4) ∧ num ((b.drop 4).take 4) < 4294967296 := by
  have h1 := num_bd ((h.drop 4).take 4)
  have h2 : ((b.drop 4).take 4).length ≤ 4 := List.length_take_le _ _
  refine ⟨h1.1, Int.lt_of_lt_of_le h1.2 ?_⟩
  rw [(pow256 (i := ((b.drop 4).take 4).length) (by omega)).2]
  have h3 := pow_le (a := 8 * ((b.drop 4).take 4).length) (b := 32) (by omega)
  rw [show (2 : Int) ^ 32 = 4294967296 by decide] at h3
  exact h3
theorem get4 {b : List Int} (h : 8 ≤ b.length) : get b 4 4 = (num ((b.drop 4).take 4), true) := get_good (by omega)
theorem one_ev {b : List Int} (h : Bytes b) (hl : b.length ≤ 140737488351232) : Ev (fun k => chunk_one.f k b) (one b) := by
  unfold chunk_one.f
  have hn := num4 h
  by_cases c1 : b.length < 4
  · rw [one_short c1]
    exact Ev.ite_pos (by omega) (Ev.now _)
  refine Ev.ite_neg (by omega) (Ev.ite_pos (by omega) ?_)
  refine Ev.bindo (chunk_Name_eq _) ?_
  by_cases c2 : okName (strOfNums (b.take 4)) = false
  · rw [one_name c1 c2]
    exact Ev.ite_neg (by simp [c2]) (Ev.now _)
  refine Ev.ite_pos (by simpa using c2) ?_
  refine Ev.bind (le_Get_ev h hl 4 4 (by omega)) ?_
  have bad : ∀ x, Ev (fun k => chunk_one.j0 k b (strOfNums (b.take 4)) x true) (no 2) := fun x => by
    refine Ev.succ ?_
    simp only [chunk_one.j0, if_true]
    exact Ev.now _
  by_cases c3 : b.length < 8
  · rw [one_end c1 c2 (.inl c3), get_bad (by omega)]
    exact Ev.ite_neg (by simp) (bad _)
  rw [get4 (by omega)]
  simp only [if_true]
  rw [w64 (n := (b.length : Int) - 8) (by omega) (by omega), wu64 (n := (b.length : Int) - 8) (by omega) (by omega)]
  by_cases c4 : (b.length : Int) - 8 < num ((b.drop 4).take 4)
  · rw [one_end c1 c2 (.inr c4)]
    simp only [gt_iff_lt, c4, decide_true]
    exact bad _
  have c34 : ¬ (b.length < 8 ∨ (b.length : Int) - 8 < num ((b.drop 4).take 4)) := by omega
  simp only [gt_iff_lt, c4, decide_false]
  refine Ev.succ ?_
  simp only [chunk_one.j0]
  have e5 := one_even c2 c34
  have e6 := one_out c2 c34
  have e7 := one_odd c2 c34
  have e8 := one_pad c2 c34
  generalize num ((b.drop 4).take 4) = n at *
  have e1 : wrap64 n = n := w64 (by omega) (by omega)
  have e2 : wrap64 (8 + n) = 8 + n := w64 (by omega) (by omega)
  have e3 : wrap64 (8 + n + 1) = 8 + n + 1 := w64 (by omega) (by omega)
  simp only [e1, e2, e3, Int.tmod_eq_emod_of_nonneg hn.1]
  refine Ev.ite_neg (by simp) (Ev.ite_pos (by omega) (Ev.ite_pos (by omega) ?_))
  have e4 : (8 + n).toNat = 8 + n.toNat := by omega
  have hc : bytes_Clone.f ((b.take (8 + n).toNat).drop 8) = some ((b.take (8 + n.toNat)).drop 8) := by
    unfold bytes_Clone.f
    rw [e4, if_pos (by simp; omega)]
  refine Ev.bindo hc ?_
  by_cases c5 : n % 2 = 0
  · rw [e5 c5]
    exact Ev.ite_pos c5 (Ev.now _)
  refine Ev.ite_neg c5 ?_
  by_cases c6 : (b.length : Int) ≤ 8 + n
  · rw [e6 c5 c6]
    exact Ev.ite_pos (by omega) (Ev.now _)
  refine Ev.ite_neg (by omega) (Ev.ite_pos (by omega) (Ev.ite_pos (by omega) ?_))
  by_cases c7 : rd b (8 + n) = 0
  · rw [e7 c5 c6 c7]
    exact Ev.ite_pos c7 (Ev.now _)
  · rw [e8 c5 c6 c7]
    exact Ev.ite_neg c7 (Ev.now _)
def inner : Nat → List Int → List Ch → List Ch × Int
  | 0, _, acc => (acc, 0)
  | d + 1, b, acc => if b.length = 0 then (acc, 0) else if (one b).2.2.2 = 0 then inner d (b.drop (one b).2.2.1.toNat) (acc ++ [⟨(one b).1, (one b).2.1⟩]) else ([], (one b).2.2.2)
theorem one_num {b : List Int} (h : Bytes b) (h0 : (one b).2.2.2 = 0) : 8 ≤ (one b).2.2.1 ∧ (one b).2.2.1 ≤ b.length ∧ (one b).2.1.length ≤ b.length := by
  have hn := num4 h
  revert h0
  unfold one
  repeat' split
  all_goals first | (intro h0; exact absurd h0 (by decide)) | (intro _; refine ⟨?_, ?_, ?_⟩ <;> dsimp only <;> first | omega | (simp only [List.length_drop, List.length_take]; omega))
theorem chunk_Inner_loop (d : Nat) : ∀ (b : List Int) (acc : List Ch), Bytes b → b.length ≤ d → b.length + acc.length ≤ 2000000000 → Ev (fun k => chunk_Inner.l0 k b acc) (inner d b acc) := by
  induction d with
  | zero =>
    intro b acc hb hd hl
    refine Ev.succ ?_
    simp only [chunk_Inner.l0, inner]
    exact Ev.ite_neg (by omega) (Ev.now _)
  | succ d ih =>
    intro b acc hb hd hl
    refine Ev.succ ?_
    simp only [chunk_Inner.l0]
    by_cases c : b.length = 0
    · have e : inner (d + 1) b acc = (acc, 0) := by unfold inner; rw [if_pos c]
      rw [e]
      exact Ev.ite_neg (by omega) (Ev.now _)
    refine Ev.ite_pos (by omega) ?_
    refine Ev.bind (one_ev hb (by omega)) ?_
    by_cases c2 : (one b).2.2.2 = 0
    · have e : inner (d + 1) b acc = inner d (b.drop (one b).2.2.1.toNat) (acc ++ [⟨(one b).1, (one b).2.1⟩]) := by rw [inner, if_neg c, if_pos c2]
      rw [e]
      have hn := one_num hb c2
      refine Ev.ite_pos c2 (Ev.ite_pos (by omega) (Ev.ite_pos (by omega) (Ev.ite_pos (by omega) ?_)))
      exact ih _ _ (hb.drop _) (by simp only [List.length_drop]; omega) (by simp only [List.length_drop, List.length_append, List.length_singleton]; omega)
    · have e : inner (d + 1) b acc = ([], (one b).2.2.2) := by rw [inner, if_neg c, if_neg c2]
      rw [e]
      exact Ev.ite_neg c2 (Ev.now _)
theorem chunk_Inner_ev {b : List Int} (h : Bytes b) (hl : b.length ≤ 1000000000) : Ev (fun k => chunk_Inner.f k b) (inner b.length b []) := by
  unfold chunk_Inner.f
  exact chunk_Inner_loop _ b [] h (Nat.le_refl _) (by simp; omega)
theorem rd_drop (l : List Int) (a : Nat) (i : Int) (h : 0 ≤ i) : rd (l.drop a) i = rd l (a + i) := by
  unfold rd
  rw [List.getD_eq_getElem?_getD, List.getD_eq_getElem?_getD, List.getElem?_drop, show ((a : Int) + i).toNat = a + i.toNat by omega]
theorem mid_eq (l : List Int) (a b : Nat) : (l.take (a + b)).drop a = (l.drop a).take b := by
  rw [List.drop_take]
  congr 1
  omega
end Go.Proofs.Ythkocpcjcpohcaa.Pure
end
section
namespace Go.Proofs.Ythkocpcjcpohcaa.Pure
open Go Go.RowKit Go.Proofs.Ythkocpcjcpohcaa.P Go.Proofs.YthkocpcjcpohcaaW.PrintWords Go.Proofs.YthkocpcjcpohcaaW.PrintLast Go.Proofs.YthkocpcjcpohcaaW.PrintMore Go.Proofs.Ythkocpcjcpohcaa.U
def riff : List UInt8 := [82, 73, 70, 70]
def webp : List UInt8 := [87, 69, 66, 80]
def scan (b : List Int) : List Ch × Int :=
  if b.length < 12 then ([], 2) else
  if ¬ (strOfNums (b.take 4)).toList = riff ∨ ¬ (strOfNums ((b.take 12).drop 8)).toList = webp ∨ num ((b.drop 4).take 4) < 4 ∨ num ((b.drop 4).take 4) % 2 = 1 then ([], 3) else
  if (b.length : Int) - 8 < num ((b.drop 4).take 4) then ([], 2) else
  inner (num ((b.drop 4).take 4) - 4).toNat ((b.take (8 + num ((b.drop 4).take 4)).toNat).drop 12) []
section
variable {b : List Int}
theorem scan_short (h : b.length < 12) : scan b = ([], 2) := by unfold scan; rw [if_pos h]
theorem scan_form (h : ¬ b.length < 12) (h2 : ¬ (strOfNums (b.take 4)).toList = riff ∨ ¬ (strOfNums ((b.take 12).drop 8)).toList = webp ∨ num ((b.drop 4).take 4) < 4 ∨ num ((b.drop 4).take 4) % 2 = 1) : scan b = ([], 3) := by unfold scan; rw [if_neg h, if_pos h2]
theorem scan_out (h : ¬ b.length < 12) (h2 : ¬ (¬ (strOfNums (b.take 4)).toList = riff ∨ ¬ (strOfNums ((b.take 12).drop 8)).toList = webp ∨ num ((b.drop 4).take 4) < 4 ∨ num ((b.drop 4).take 4) % 2 = 1)) (h3 : (b.length : Int) - 8 < num ((b.drop 4).take 4)) : scan b = ([], 2) := by
  unfold scan; rw [if_neg h, if_neg h2, if_pos h3]
theorem scan_good (h : ¬ b.length < 12) (h2 : ¬ (¬ (strOfNums (b.take 4)).toList = riff ∨ ¬ (strOfNums ((b.take 12).drop 8)).toList = webp ∨ num ((b.drop 4).take 4) < 4 ∨ num ((b.drop 4).take 4) % 2 = 1)) (h3 : ¬ (b.length : Int) - 8 < num ((b.drop 4).take 4)) :
    scan b = inner (num ((b.drop 4).take 4) - 4).toNat ((b.take (8 + num ((b.drop 4).take 4)).toNat).drop 12) [] := by
  unfold scan; rw [if_neg h, if_neg h2, if_neg h3]
end
theorem scan_tail {k : Nat → Option (List Ch × Int)} {b : List Int} (h : Ev k (inner ((b.take (8 + num ((b.drop 4).take 4)).toNat).drop 12).length ((b.take (8 + num ((b.drop 4).take 4)).toNat).drop 12) [])) (_hb : Bytes b) (h1 : ¬ b.length < 12) (h3 : ¬ (b.length : Int) - 8 < num ((b.drop 4).take 4)) (h4 : 4 ≤ num ((b.drop 4).take 4)) :
    Ev k (inner (num ((b.drop 4).take 4) - 4).toNat ((b.take (8 + num ((b.drop 4).take 4)).toNat).drop 12) []) := by
  have e : ((b.take (8 + num ((b.drop 4).take 4)).toNat).drop 12).length = (num ((b.drop 4).take 4) - 4).toNat := by simp only [List.length_drop, List.length_take]; omega
  rw [e] at h
  exact h
theorem chunk_Scan_ev {b : List Int} (hb : Bytes b) (hl : b.length ≤ 1000000000) : Ev (fun k => chunk_Scan.f k b) (scan b) := by
  unfold chunk_Scan.f
  have hn := num4 hb
  by_cases c1 : b.length < 12
  · rw [scan_short c1]
    exact Ev.ite_pos (by omega) (Ev.now _)
  refine Ev.ite_neg (by omega) ?_
  refine Ev.bind (le_Get_ev hb (by omega) 4 4 (by omega)) ?_
  rw [get4 (by omega)]
  have bad : Ev (fun k => chunk_Scan.j0 k b (num ((b.drop 4).take 4)) true) (([] : List Ch), (3 : Int)) := by
    refine Ev.succ ?_
    simp only [chunk_Scan.j0, if_true]
    exact Ev.now _
  refine Ev.ite_pos (by omega) ?_
  by_cases c2 : (strOfNums (b.take 4)).toList = riff
  case neg => rw [scan_form c1 (.inl c2)]; exact Ev.ite_neg c2 bad
  refine Ev.ite_pos c2 (Ev.ite_pos (by omega) (Ev.ite_pos (by omega) ?_))
  by_cases c3 : (strOfNums ((b.take 12).drop 8)).toList = webp
  case neg => rw [scan_form c1 (.inr (.inl c3))]; exact Ev.ite_neg c3 bad
  refine Ev.ite_pos c3 ?_
  by_cases c4 : num ((b.drop 4).take 4) < 4
  · rw [scan_form c1 (.inr (.inr (.inl c4)))]; exact Ev.ite_pos c4 bad
  refine Ev.ite_neg c4 ?_
  rw [Int.tmod_eq_emod_of_nonneg hn.1]
  by_cases c5 : num ((b.drop 4).take 4) % 2 = 1
  · rw [scan_form c1 (.inr (.inr (.inr c5))), c5]; exact bad
  rw [show (num ((b.drop 4).take 4) % 2 == 1) = false by simpa using c5]
  have hng : ¬ (¬ (strOfNums (b.take 4)).toList = riff ∨ ¬ (strOfNums ((b.take 12).drop 8)).toList = webp ∨ num ((b.drop 4).take 4) < 4 ∨ num ((b.drop 4).take 4) % 2 = 1) := by
    rintro (h | h | h | h)
    · exact h c2
    · exact h c3
    · exact c4 h
    · exact c5 h
  refine Ev.succ ?_
  simp only [chunk_Scan.j0]
  refine Ev.ite_neg (by simp) ?_
  rw [w64 (n := (b.length : Int) - 8) (by omega) (by omega), wu64 (n := (b.length : Int) - 8) (by omega) (by omega), w64 (n := num ((b.drop 4).take 4)) (by omega) (by omega), w64 (n := 8 + num ((b.drop 4).take 4)) (by omega) (by omega)]
  by_cases c6 : (b.length : Int) - 8 < num ((b.drop 4).take 4)
  · rw [scan_out c1 hng c6]
    exact Ev.ite_pos (by omega) (Ev.now _)
  rw [scan_good c1 hng c6]
  refine Ev.ite_neg (by omega) (Ev.ite_pos (by omega) (Ev.ite_pos (by omega) ?_))
  refine Ev.bind (scan_tail (chunk_Inner_ev ((hb.take _).drop _) (by simp only [List.length_drop, List.length_take]; omega)) hb c1 c6 (by omega)) (Ev.now _)
theorem rdT_at {l : List Ch} {i : Nat} (h : i < l.length) : rd_T42 l (i : Int) = l[i] := by
  unfold rd_T42
  rw [show ((i : Int)).toNat = i by omega, List.getD_eq_getElem?_getD, List.getElem?_eq_getElem h]
  rfl
theorem inner_len (d : Nat) : ∀ (b : List Int) (acc : List Ch) (B : Nat), Bytes b → b.length ≤ B → (∀ x ∈ acc, x.f1.length ≤ B) → (inner d b acc).1.length ≤ d + acc.length ∧ ∀ x ∈ (inner d b acc).1, x.f1.length ≤ B := by
  induction d with
  | zero => intro b acc B _ _ ha; exact ⟨by simp [inner], ha⟩
  | succ d ih =>
    intro b acc B hb hB ha
    rw [inner]
    by_cases c : b.length = 0
    · rw [if_pos c]; exact ⟨by simp only; omega, ha⟩
    rw [if_neg c]
    by_cases c2 : (one b).2.2.2 = 0
    · rw [if_pos c2]
      have hn := one_num hb c2
      have := ih (b.drop (one b).2.2.1.toNat) (acc ++ [⟨(one b).1, (one b).2.1⟩]) B (hb.drop _) (by simp only [List.length_drop]; omega) (by
        intro x hx
        rcases List.mem_append.1 hx with h | h
        · exact ha x h
        · rw [List.mem_singleton.1 h]; simp only; omega)
      refine ⟨?_, this.2⟩
      have h2 := this.1
      simp only [List.length_append, List.length_singleton] at h2
      omega
    · rw [if_neg c2]
      exact ⟨by simp, fun x hx => by simp at hx⟩
theorem scan_len {b : List Int} (hb : Bytes b) : (scan b).1.length ≤ b.length ∧ ∀ x ∈ (scan b).1, x.f1.length ≤ b.length := by
  unfold scan
  repeat' split
  all_goals first | exact ⟨by simp, fun x hx => by simp at hx⟩ | skip
  have h1 := num4 hb
  have := inner_len (num ((b.drop 4).take 4) - 4).toNat ((b.take (8 + num ((b.drop 4).take 4)).toNat).drop 12) [] b.length ((hb.take _).drop _) (by simp only [List.length_drop, List.length_take]; omega) (fun x hx => by simp at hx)
  refine ⟨?_, this.2⟩
  have h2 := this.1
  simp only [List.length_nil] at h2
  omega
end Go.Proofs.Ythkocpcjcpohcaa.Pure
end
section
namespace Go.Proofs.Ythkocpcjcpohcaa.Pure
open Go Go.RowKit Go.Proofs.Ythkocpcjcpohcaa.P Go.Proofs.YthkocpcjcpohcaaW.PrintWords Go.Proofs.YthkocpcjcpohcaaW.PrintLast Go.Proofs.YthkocpcjcpohcaaW.PrintMore Go.Proofs.Ythkocpcjcpohcaa.U
def weight : List Ch → Nat
  | [] => 0
  | x :: r => x.f0.size + x.f1.length + weight r
theorem weight_append (a b : List Ch) : weight (a ++ b) = weight a + weight b := by
  induction a with
  | nil => simp [weight]
  | cons x r ih => simp only [List.cons_append, weight, ih]; omega
theorem weight_mem {l : List Ch} {x : Ch} (h : x ∈ l) : x.f0.size + x.f1.length ≤ weight l := by
  induction l with
  | nil => simp at h
  | cons y r ih =>
    rcases List.mem_cons.1 h with rfl | h
    · simp only [weight]; omega
    · have := ih h; simp only [weight]; omega
def pad (d : List Int) : List Int := if d.length % 2 = 1 then [0] else []
def layOne (x : Ch) : List Int := bytesOf x.f0 ++ bytes 4 x.f1.length ++ x.f1 ++ pad x.f1
def lay : List Ch → List Int
  | [] => []
  | x :: r => layOne x ++ lay r
theorem pad_len (d : List Int) : (pad d).length = d.length % 2 := by unfold pad; split <;> simp <;> omega
theorem layOne_len (x : Ch) : (layOne x).length = x.f0.size + 4 + x.f1.length + x.f1.length % 2 := by
  simp only [layOne, List.length_append, bytesOf_length, bytes_len, pad_len]
theorem lay_len (l : List Ch) : (lay l).length ≤ weight l + 5 * l.length := by
  induction l with
  | nil => simp [lay]
  | cons x r ih => simp only [lay, List.length_append, layOne_len, weight, List.length_cons]; omega
def ok (l : List Ch) : Prop := ∀ x ∈ l, okName x.f0 = true
theorem lay_even {l : List Ch} (h : ok l) : (lay l).length % 2 = 0 := by
  induction l with
  | nil => simp [lay]
  | cons x r ih =>
    have h1 := h x (by simp)
    have h2 := ih (fun y hy => h y (by simp [hy]))
    have h3 : x.f0.size = 4 := by
      have := (of_decide_eq_true h1).1
      rw [bytesOf_length] at this
      exact this
    simp only [lay, List.length_append, layOne_len]
    omega
theorem bytesOf_bytes (s : ByteArray) : Bytes (bytesOf s) := by
  intro x hx
  obtain ⟨b, _, rfl⟩ := List.mem_map.1 hx
  have := b.toNat_lt
  omega
theorem Bytes.app {a b : List Int} (ha : Bytes a) (hb : Bytes b) : Bytes (a ++ b) := fun x hx => (List.mem_append.1 hx).elim (ha x) (hb x)
theorem pad_bytes (d : List Int) : Bytes (pad d) := by
  unfold pad
  split
  · intro x hx; rw [List.mem_singleton.1 hx]; omega
  · intro x hx; simp at hx
theorem layOne_bytes {x : Ch} (h : Bytes x.f1) : Bytes (layOne x) := (((bytesOf_bytes _).app (bytes_bytes 4 _)).app h).app (pad_bytes _)
theorem lay_bytes {l : List Ch} (h : ∀ x ∈ l, Bytes x.f1) : Bytes (lay l) := by
  induction l with
  | nil => intro x hx; simp [lay] at hx
  | cons x r ih => exact (layOne_bytes (h x (by simp))).app (ih (fun y hy => h y (by simp [hy])))
theorem put4 {n : Nat} (h : n < 4294967296) : put (n : Int) 4 = (bytes 4 n, true) := by
  refine put_good ⟨by omega, by omega, ?_⟩
  rw [show (256 : Int) ^ (4 : Int).toNat = 4294967296 by decide]
  omega
theorem Num4_ev {n : Nat} (h : n < 4294967296) : Ev (fun k => marquetryref24_Num.f k (n : Int) 4) (bytes 4 n) := by
  unfold marquetryref24_Num.f
  refine Ev.bind (ref_Put_ev n 4 (by omega) (by omega)) ?_
  rw [put4 h]
  exact Ev.now _
theorem ref_Lay_loop (l : List Ch) (hs : l.length + weight l < 10000000) (d : Nat) : ∀ (i : Nat) (acc : List Int), i + d = l.length → acc.length + (lay (l.drop i)).length ≤ 90000000 → Ev (fun k => marquetryref24_Lay.l0 k l acc i) (acc ++ lay (l.drop i)) := by
  induction d with
  | zero =>
    intro i acc hd ha
    refine Ev.succ ?_
    simp only [marquetryref24_Lay.l0]
    refine Ev.ite_neg (by omega) (Ev.fin ?_)
    rw [List.drop_eq_nil_of_le (by omega)]
    simp [lay]
  | succ d ih =>
    intro i acc hd ha
    refine Ev.succ ?_
    simp only [marquetryref24_Lay.l0]
    rw [rdT_at (by omega)]
    have hi : i < l.length := by omega
    have hdrop : l.drop i = l[i] :: l.drop (i + 1) := List.drop_eq_getElem_cons hi
    have hw := weight_mem (List.getElem_mem hi)
    rw [hdrop] at ha ⊢
    generalize l[i] = x at *
    simp only [lay, List.length_append, layOne_len] at ha
    refine Ev.ite_pos (by omega) (Ev.ite_pos (by omega) (Ev.ite_pos (by omega) ?_))
    refine Ev.bindo rfl ?_
    rw [wu64 (by omega) (by omega)]
    refine Ev.bind (Num4_ev (by omega)) ?_
    have hl4 := bytes_len 4 (x.f1.length : Int)
    refine Ev.ite_pos (by simp only [List.length_append, bytesOf_length, hl4]; omega) (Ev.bindo rfl ?_)
    refine Ev.ite_pos (by simp only [List.length_append, bytesOf_length, hl4]; omega) (Ev.bindo rfl ?_)
    rw [w64 (by omega) (by omega)]
    by_cases c : x.f1.length % 2 = 1
    · refine Ev.ite_pos (by omega) (Ev.ite_pos (by simp only [List.length_append, bytesOf_length, hl4]; omega) ?_)
      have := ih (i + 1) (acc ++ bytesOf x.f0 ++ bytes 4 x.f1.length ++ x.f1 ++ [0]) (by omega) (by simp only [List.length_append, bytesOf_length, hl4, List.length_singleton]; omega)
      have e : acc ++ lay (x :: l.drop (i + 1)) = acc ++ bytesOf x.f0 ++ bytes 4 x.f1.length ++ x.f1 ++ [0] ++ lay (l.drop (i + 1)) := by
        simp only [lay, layOne, pad, if_pos c, List.append_assoc]
      rw [e]
      exact this
    · refine Ev.ite_neg (by omega) ?_
      have := ih (i + 1) (acc ++ bytesOf x.f0 ++ bytes 4 x.f1.length ++ x.f1) (by omega) (by simp only [List.length_append, bytesOf_length, hl4]; omega)
      have e : acc ++ lay (x :: l.drop (i + 1)) = acc ++ bytesOf x.f0 ++ bytes 4 x.f1.length ++ x.f1 ++ lay (l.drop (i + 1)) := by
        simp only [lay, layOne, pad, if_neg c, List.append_assoc, List.append_nil]
      rw [e]
      exact this
theorem ref_Lay_ev {l : List Ch} (hs : l.length + weight l < 10000000) : Ev (fun k => marquetryref24_Lay.f k l) (lay l) := by
  unfold marquetryref24_Lay.f
  have := ref_Lay_loop l hs l.length 0 [] (by omega) (by have := lay_len l; simp only [List.length_nil, List.drop_zero]; omega)
  simpa using this
theorem chunk_Lay_loop1 (l : List Ch) (hs : l.length + weight l < 10000000) (d : Nat) : ∀ (i : Nat) (acc : List Int), i + d = l.length → acc.length + (lay (l.drop i)).length ≤ 90000000 → Ev (fun k => chunk_Lay.l1 k acc l l.length i) (acc ++ lay (l.drop i), 0) := by
  induction d with
  | zero =>
    intro i acc hd ha
    refine Ev.succ ?_
    simp only [chunk_Lay.l1]
    refine Ev.ite_neg (by omega) (Ev.fin ?_)
    rw [List.drop_eq_nil_of_le (by omega)]
    simp [lay]
  | succ d ih =>
    intro i acc hd ha
    refine Ev.succ ?_
    simp only [chunk_Lay.l1]
    rw [rdT_at (by omega)]
    have hi : i < l.length := by omega
    have hdrop : l.drop i = l[i] :: l.drop (i + 1) := List.drop_eq_getElem_cons hi
    have hw := weight_mem (List.getElem_mem hi)
    rw [hdrop] at ha ⊢
    generalize l[i] = x at *
    simp only [lay, List.length_append, layOne_len] at ha
    refine Ev.ite_pos (by omega) (Ev.ite_pos (by omega) (Ev.ite_pos (by omega) ?_))
    rw [wu64 (by omega) (by omega)]
    refine Ev.bind (le_Put_ev x.f1.length 4 (by omega) (by omega)) ?_
    rw [put4 (by omega)]
    have hl4 := bytes_len 4 (x.f1.length : Int)
    refine Ev.ite_pos (by omega) (Ev.bindo rfl ?_)
    refine Ev.ite_pos (by simp only [List.length_append, bytesOf_length, hl4]; omega) (Ev.bindo rfl ?_)
    refine Ev.ite_pos (by simp only [List.length_append, bytesOf_length, hl4]; omega) (Ev.bindo rfl ?_)
    rw [w64 (by omega) (by omega)]
    by_cases c : x.f1.length % 2 = 1
    · refine Ev.ite_pos (by omega) (Ev.ite_pos (by simp only [List.length_append, bytesOf_length, hl4]; omega) ?_)
      have := ih (i + 1) (acc ++ bytesOf x.f0 ++ bytes 4 x.f1.length ++ x.f1 ++ [0]) (by omega) (by simp only [List.length_append, bytesOf_length, hl4, List.length_singleton]; omega)
      have e : acc ++ lay (x :: l.drop (i + 1)) = acc ++ bytesOf x.f0 ++ bytes 4 x.f1.length ++ x.f1 ++ [0] ++ lay (l.drop (i + 1)) := by
        simp only [lay, layOne, pad, if_pos c, List.append_assoc]
      rw [e]
      exact this
    · refine Ev.ite_neg (by omega) ?_
      have := ih (i + 1) (acc ++ bytesOf x.f0 ++ bytes 4 x.f1.length ++ x.f1) (by omega) (by simp only [List.length_append, bytesOf_length, hl4]; omega)
      have e : acc ++ lay (x :: l.drop (i + 1)) = acc ++ bytesOf x.f0 ++ bytes 4 x.f1.length ++ x.f1 ++ lay (l.drop (i + 1)) := by
        simp only [lay, layOne, pad, if_neg c, List.append_assoc, List.append_nil]
      rw [e]
      exact this
instance (l : List Ch) : Decidable (ok l) := by unfold ok; infer_instance
def laid (l : List Ch) : List Int × Int := if ok l then (lay l, 0) else ([], 7)
theorem chunk_Lay_loop0 (l : List Ch) (hs : l.length + weight l < 10000000) (d : Nat) : ∀ (i : Nat) (n : Int), i + d = l.length → 0 ≤ n → n ≤ weight (l.take i) → (∀ x ∈ l.take i, okName x.f0 = true) → Ev (fun k => chunk_Lay.l0 k l n l l.length i) (laid l) := by
  induction d with
  | zero =>
    intro i n hd h0 hn hok
    refine Ev.succ ?_
    simp only [chunk_Lay.l0]
    refine Ev.ite_neg (by omega) ?_
    rw [List.take_of_length_le (by omega)] at hok
    have := chunk_Lay_loop1 l hs l.length 0 [] (by omega) (by have := lay_len l; simp only [List.length_nil, List.drop_zero]; omega)
    unfold laid
    rw [if_pos (show ok l from hok)]
    simpa using this
  | succ d ih =>
    intro i n hd h0 hn hok
    refine Ev.succ ?_
    simp only [chunk_Lay.l0]
    have hi : i < l.length := by omega
    rw [rdT_at hi]
    have hw := weight_mem (List.getElem_mem hi)
    have e : l.take (i + 1) = l.take i ++ [l[i]] := List.take_succ_eq_append_getElem hi
    have ew : weight (l.take (i + 1)) = weight (l.take i) + (l[i].f0.size + l[i].f1.length) := by rw [e, weight_append]; simp [weight]
    have ew2 : weight l = weight (l.take (i + 1)) + weight (l.drop (i + 1)) := by rw [← weight_append, List.take_append_drop]
    refine Ev.ite_pos (by omega) (Ev.ite_pos (by omega) (Ev.ite_pos (by omega) ?_))
    refine Ev.bindo (chunk_Name_eq _) ?_
    by_cases c : okName l[i].f0 = true
    · refine Ev.ite_pos c ?_
      rw [w64 (n := n + (l[i].f1.length : Int)) (by omega) (by omega), w64 (by omega) (by omega)]
      refine Ev.ite_neg (by omega) ?_
      refine ih (i + 1) _ (by omega) (by omega) (by omega) ?_
      rw [e]
      intro x hx
      rcases List.mem_append.1 hx with h | h
      · exact hok x h
      · rw [List.mem_singleton.1 h]; exact c
    · refine Ev.ite_neg c (Ev.fin ?_)
      unfold laid
      rw [if_neg (fun h => c (h _ (List.getElem_mem hi)))]
theorem chunk_Lay_ev {l : List Ch} (hs : l.length + weight l < 10000000) : Ev (fun k => chunk_Lay.f k l) (laid l) := by
  unfold chunk_Lay.f
  exact chunk_Lay_loop0 l hs l.length 0 0 (by omega) (by omega) (by simp [weight]) (fun x hx => by simp at hx)
def file (l : List Ch) : List Int := [82, 73, 70, 70] ++ bytes 4 ((lay l).length + 4) ++ [87, 69, 66, 80] ++ lay l
theorem webpB : bytesOf ⟨#[87, 69, 66, 80]⟩ = [87, 69, 66, 80] := rfl
theorem chunk_Print_ev {l : List Ch} (hs : l.length + weight l < 9000000) : Ev (fun k => chunk_Print.f k l) (if ok l then (file l, 0) else ([], 7)) := by
  unfold chunk_Print.f
  have hll := lay_len l
  refine Ev.bind (chunk_Lay_ev (by omega)) ?_
  unfold laid
  by_cases c : ok l
  · rw [if_pos c, if_pos c]
    simp only [if_true]
    rw [w64 (n := 4 + ((lay l).length : Int)) (by omega) (by omega), wu64 (n := 4 + ((lay l).length : Int)) (by omega) (by omega)]
    refine Ev.bind (le_Put_ev _ 4 (by omega) (by omega)) ?_
    rw [show (4 : Int) + ((lay l).length : Int) = (((lay l).length + 4 : Nat) : Int) by omega, put4 (by omega)]
    have hl4 := bytes_len 4 (((lay l).length + 4 : Nat) : Int)
    refine Ev.ite_pos (by simp only [hl4]; omega) (Ev.ite_pos (by simp only [hl4]; omega) (Ev.fin ?_))
    rw [webpB]
    rfl
  · rw [if_neg c, if_neg c]
    exact Ev.ite_neg (by decide) (Ev.now _)
theorem File_ev {l : List Ch} (hs : l.length + weight l < 9000000) : Ev (fun k => marquetryref24_File.f k l) (file l) := by
  unfold marquetryref24_File.f
  have hll := lay_len l
  refine Ev.bind (ref_Lay_ev (by omega)) ?_
  rw [w64 (by omega) (by omega), wu64 (by omega) (by omega)]
  have e : ((lay l).length : Int) + 4 = (((lay l).length + 4 : Nat) : Int) := by omega
  rw [e]
  refine Ev.bind (Num4_ev (by omega)) ?_
  have hl4 := bytes_len 4 (((lay l).length + 4 : Nat) : Int)
  refine Ev.ite_pos (by omega) (Ev.ite_pos (by omega) (Ev.fin ?_))
  rw [webpB]
  rfl
end Go.Proofs.Ythkocpcjcpohcaa.Pure
end
section
namespace Go.Proofs.Ythkocpcjcpohcaa.Pure
open Go Go.RowKit Go.Proofs.Ythkocpcjcpohcaa.P Go.Proofs.YthkocpcjcpohcaaW.PrintWords Go.Proofs.YthkocpcjcpohcaaW.PrintLast Go.Proofs.YthkocpcjcpohcaaW.PrintMore Go.Proofs.Ythkocpcjcpohcaa.U
theorem strOf_bytesOf (s : ByteArray) : strOfNums (bytesOf s) = s := by
  cases s with
  | mk d =>
    simp only [strOfNums, bytesOf, List.map_map]
    congr 1
    have : ((fun n : Int => UInt8.ofNat n.toNat) ∘ fun b : UInt8 => (b.toNat : Int)) = id := by
      funext b
      simp
    rw [this]
    simp
theorem riffS : (strOfNums [82, 73, 70, 70]).toList = riff := by kernel_rfl
theorem webpS : (strOfNums [87, 69, 66, 80]).toList = webp := by kernel_rfl
theorem take_left {a b : List Int} {n : Nat} (h : a.length = n) : (a ++ b).take n = a := List.take_left' h
theorem drop_left {a b : List Int} {n : Nat} (h : a.length = n) : (a ++ b).drop n = b := List.drop_left' h
theorem one_lay {x : Ch} (rest : List Int) (h : okName x.f0 = true) (_hb : Bytes x.f1) (hl : x.f1.length < 4294967296) : one (layOne x ++ rest) = (x.f0, x.f1, ((layOne x).length : Int), 0) := by
  obtain ⟨hn, _⟩ := of_decide_eq_true h
  have hln := layOne_len x
  have hs : x.f0.size = 4 := by rw [← bytesOf_length]; exact hn
  have hl4 := bytes_len 4 (x.f1.length : Int)
  have e : layOne x ++ rest = bytesOf x.f0 ++ (bytes 4 x.f1.length ++ (x.f1 ++ (pad x.f1 ++ rest))) := by simp only [layOne, List.append_assoc]
  have hp := pad_len x.f1
  have t1 : (layOne x ++ rest).take 4 = bytesOf x.f0 := by rw [e, take_left hn]
  have t2 : ((layOne x ++ rest).drop 4).take 4 = bytes 4 x.f1.length := by rw [e, drop_left hn, take_left hl4]
  have t3 : (layOne x ++ rest).drop 8 = x.f1 ++ (pad x.f1 ++ rest) := by rw [e, show (8 : Nat) = 4 + 4 by rfl, ← List.drop_drop, drop_left hn, drop_left hl4]
  have t4 : num (((layOne x ++ rest).drop 4).take 4) = x.f1.length := by
    rw [t2]
    exact num_bytes 4 _ (by omega) (by rw [show (256 : Int) ^ 4 = 4294967296 by decide]; omega)
  have t5 : ((layOne x ++ rest).take (8 + ((x.f1.length : Int)).toNat)).drop 8 = x.f1 := by
    rw [show ((x.f1.length : Int)).toNat = x.f1.length by omega, mid_eq, t3, take_left rfl]
  have t6 : ¬ okName (strOfNums ((layOne x ++ rest).take 4)) = false := by rw [t1, strOf_bytesOf]; simp [h]
  have hlen : (layOne x ++ rest).length = 8 + x.f1.length + x.f1.length % 2 + rest.length := by rw [List.length_append, hln]; omega
  have t7 : ¬ ((layOne x ++ rest).length < 8 ∨ ((layOne x ++ rest).length : Int) - 8 < num (((layOne x ++ rest).drop 4).take 4)) := by rw [t4]; omega
  by_cases c : x.f1.length % 2 = 1
  · have t8 : rd (layOne x ++ rest) (8 + (x.f1.length : Int)) = 0 := by
      have := rd_drop (layOne x ++ rest) 8 (x.f1.length : Int) (by omega)
      rw [show ((8 : Nat) : Int) = 8 by rfl] at this
      rw [← this, t3, rd_nat (by simp only [List.length_append, hp]; omega)]
      rw [List.getElem_append_right (by omega)]
      simp only [pad, if_pos c, Nat.sub_self]
      rfl
    rw [one_odd t6 t7 (by rw [t4]; omega) (by rw [t4]; omega) (by rw [t4]; exact t8), t4, t5, t1, strOf_bytesOf]
    congr 3
    omega
  · rw [one_even t6 t7 (by rw [t4]; omega), t4, t5, t1, strOf_bytesOf]
    congr 3
    omega
theorem inner_lay (l : List Ch) : ∀ (d : Nat) (acc : List Ch), ok l → (∀ x ∈ l, Bytes x.f1 ∧ x.f1.length < 4294967296) → (lay l).length ≤ d → inner d (lay l) acc = (acc ++ l, 0) := by
  induction l with
  | nil =>
    intro d acc _ _ _
    cases d with
    | zero => simp [inner]
    | succ d => rw [inner, if_pos (by simp [lay])]; simp
  | cons x r ih =>
    intro d acc hok hb hd
    have h1 := one_lay (lay r) (hok x (by simp)) (hb x (by simp)).1 (hb x (by simp)).2
    have hln := layOne_len x
    simp only [lay, List.length_append] at hd
    obtain ⟨d, rfl⟩ : ∃ m, d = m + 1 := ⟨d - 1, by omega⟩
    rw [lay, inner, if_neg (by simp only [List.length_append]; omega), h1]
    simp only [if_true]
    rw [show (((layOne x).length : Int)).toNat = (layOne x).length by omega, drop_left rfl, ih d _ (fun y hy => hok y (by simp [hy])) (fun y hy => hb y (by simp [hy])) (by omega), List.append_assoc]
    rfl
theorem file_len (l : List Ch) : (file l).length = (lay l).length + 12 := by
  simp only [file, List.length_append, bytes_len, List.length_cons, List.length_nil]
  omega
theorem file_parts (l : List Ch) (hl : (lay l).length < 4000000000) (rest : List Int) (m : Nat) (hm : 12 ≤ m) :
    ((file l ++ rest).take m).take 4 = [82, 73, 70, 70] ∧ num ((((file l ++ rest).take m).drop 4).take 4) = (lay l).length + 4 ∧ (((file l ++ rest).take m).take 12).drop 8 = [87, 69, 66, 80] := by
  have hl4 := bytes_len 4 (((lay l).length + 4 : Nat) : Int)
  have e : file l ++ rest = [82, 73, 70, 70] ++ (bytes 4 ((lay l).length + 4 : Nat) ++ ([87, 69, 66, 80] ++ (lay l ++ rest))) := by simp only [file, List.append_assoc]; rfl
  have t1 : (file l ++ rest).take 4 = [82, 73, 70, 70] := by rw [e]; rfl
  have t2 : ((file l ++ rest).drop 4).take 4 = bytes 4 ((lay l).length + 4 : Nat) := by rw [e, drop_left (a := [82, 73, 70, 70]) (n := 4) rfl, take_left hl4]
  have t3 : ((file l ++ rest).drop 8).take 4 = [87, 69, 66, 80] := by rw [e, show (8 : Nat) = 4 + 4 by rfl, ← List.drop_drop, drop_left (a := [82, 73, 70, 70]) (n := 4) rfl, drop_left hl4]; rfl
  refine ⟨?_, ?_, ?_⟩
  · rw [List.take_take, Nat.min_eq_left (by omega), t1]
  · rw [List.drop_take, List.take_take, Nat.min_eq_left (by omega), t2, num_bytes 4 _ (by omega) (by rw [show (256 : Int) ^ 4 = 4294967296 by decide]; omega)]
    omega
  · rw [List.take_take, Nat.min_eq_left (by omega), show (12 : Nat) = 8 + 4 by rfl, mid_eq, t3]
theorem scan_file {l : List Ch} (hok : ok l) (hb : ∀ x ∈ l, Bytes x.f1 ∧ x.f1.length < 4294967296) (hl : (lay l).length < 4000000000) (rest : List Int) : scan (file l ++ rest) = (l, 0) := by
  obtain ⟨p1, p2, p3⟩ := file_parts l hl rest (file l ++ rest).length (by rw [List.length_append, file_len]; omega)
  rw [List.take_length] at p1 p2 p3
  have hlen : (file l ++ rest).length = (lay l).length + 12 + rest.length := by rw [List.length_append, file_len]
  have hev := lay_even hok
  rw [scan_good (by omega) (by
    rw [p1, p2, p3]
    rintro (h | h | h | h)
    · exact h riffS
    · exact h webpS
    · omega
    · omega) (by rw [p2]; omega), p2]
  have e : ((file l ++ rest).take (8 + ((lay l).length + 4 : Int)).toNat).drop 12 = lay l := by
    rw [show (8 + ((lay l).length + 4 : Int)).toNat = 12 + (lay l).length by omega, mid_eq]
    have : (file l ++ rest).drop 12 = lay l ++ rest := by
      have e : file l ++ rest = ([82, 73, 70, 70] ++ bytes 4 ((lay l).length + 4) ++ [87, 69, 66, 80]) ++ (lay l ++ rest) := by simp only [file, List.append_assoc]
      rw [e, drop_left (by simp only [List.length_append, bytes_len, List.length_cons, List.length_nil])]
    rw [this, take_left rfl]
  rw [e, inner_lay l _ [] hok hb (by omega)]
  rfl
end Go.Proofs.Ythkocpcjcpohcaa.Pure
end
section
namespace Go.Proofs.Ythkocpcjcpohcaa.P
open Go Go.RowKit Go.Proofs.YthkocpcjcpohcaaW.PrintWords Go.Proofs.YthkocpcjcpohcaaW.PrintLast Go.Proofs.YthkocpcjcpohcaaW.PrintMore Go.Proofs.Ythkocpcjcpohcaa.U Go.Proofs.Ythkocpcjcpohcaa.Pure
set_option linter.unusedVariables false
set_option linter.unusedSimpArgs false
attribute [local go_sem] max2_int min2_int max_two min_two max_three min_three max_four min_four
def names : List ByteArray := [⟨#[86, 80, 56, 88]⟩, ⟨#[73, 67, 67, 80]⟩, ⟨#[65, 78, 73, 77]⟩, ⟨#[65, 78, 77, 70]⟩, ⟨#[65, 76, 80, 72]⟩, ⟨#[86, 80, 56, 76]⟩, ⟨#[86, 80, 56, 32]⟩, ⟨#[69, 88, 73, 70]⟩, ⟨#[88, 77, 80, 32]⟩]
def ownB (s : ByteArray) : Bool := okName s && !(names.any fun x => decide (s.toList = x.toList))
theorem rdOf_nat {l : List ByteArray} {i : Nat} (h : i < l.length) : rdOf ByteArray.empty l (i : Int) = l[i] := by
  unfold rdOf
  rw [show ((i : Int)).toNat = i by omega, List.getD_eq_getElem?_getD, List.getElem?_eq_getElem h]
  rfl
theorem any_drop {l : List ByteArray} {i : Nat} {p : ByteArray → Bool} (h : i < l.length) : (l.drop i).any p = (p l[i] || (l.drop (i + 1)).any p) := by
  rw [List.drop_eq_getElem_cons h]; rfl
theorem Index_loop (l : List ByteArray) (s : ByteArray) (hl : l.length ≤ 9223372036854775806) (d : Nat) : ∀ i : Nat, i + d = l.length → ∃ r : Int, (decide (r ≥ 0) = (l.drop i).any fun x => decide (s.toList = x.toList)) ∧ Ev (fun k => slices_Index_string_string.l0 k l s l.length i) r := by
  induction d with
  | zero =>
    intro i hi
    refine ⟨-1, ?_, Ev.succ ?_⟩
    · rw [List.drop_of_length_le (by omega)]; rfl
    · simp only [slices_Index_string_string.l0]
      exact Ev.ite_neg (by omega) (Ev.now _)
  | succ d ih =>
    intro i hi
    obtain ⟨r, hr, he⟩ := ih (i + 1) (by omega)
    by_cases c : s.toList = (l[i]'(by omega)).toList
    · refine ⟨i, ?_, Ev.succ ?_⟩
      · rw [any_drop (by omega), decide_eq_true c, decide_eq_true (by omega)]; rfl
      · simp only [slices_Index_string_string.l0]
        exact Ev.ite_pos (by omega) (Ev.ite_pos (by omega) (Ev.ite_pos (by omega) (Ev.ite_pos (by rw [rdOf_nat (by omega)]; exact c) (Ev.now _))))
    · refine ⟨r, ?_, Ev.succ ?_⟩
      · rw [any_drop (by omega), decide_eq_false c, hr]; rfl
      · simp only [slices_Index_string_string.l0]
        refine Ev.ite_pos (by omega) (Ev.ite_pos (by omega) (Ev.ite_pos (by omega) (Ev.ite_neg (by rw [rdOf_nat (by omega)]; exact c) ?_)))
        rw [w64 (by omega) (by omega)]
        exact he
theorem own_ev (s : ByteArray) : Ev (fun k => box_own.f k s) (ownB s) := by
  unfold box_own.f
  refine Ev.bindo (chunk_Name_eq s) ?_
  by_cases c : okName s = true
  · refine Ev.ite_pos c ?_
    obtain ⟨r, hr, he⟩ := Index_loop names s (by decide) names.length 0 (Nat.zero_add _)
    have hc : Ev (fun k => slices_Contains_string_string.f k names s) (decide (r ≥ 0)) := by
      unfold slices_Contains_string_string.f
      exact Ev.bind (by unfold slices_Index_string_string.f; exact he) (Ev.now _)
    have e : ownB s = !decide (r ≥ 0) := by unfold ownB; rw [c, hr]; rfl
    rw [e]
    exact Ev.bind hc (Ev.now _)
  · refine Ev.ite_neg c (Ev.fin ?_)
    unfold ownB
    rw [Bool.not_eq_true] at c
    rw [c]; rfl
theorem own_calls (s : ByteArray) (w : World) : Calls Try.prog 65 #[.string s] w fun e w' => e = .returned (.bool (ownB s)) ∧ Below w.heap.size w w' := by
  obtain ⟨k, hk⟩ := (own_ev s).rounds
  exact box_own.calls k s _ w hk
def moreB (l : List Ch) : Bool := l.all fun c => ownB c.f0
set_option maxHeartbeats 4000000 in
set_option maxRecDepth 100000 in
theorem more1_calls (x : Ch) (cs : List Value) (w : World) (hx : k42.K w x cs) : Calls Try.prog 64 #[.agg cs.toArray] w fun e w' => e = .returned (.bool (!ownB x.f0)) ∧ Below w.heap.size w w' := by
  obtain ⟨A1, c1, rfl, l1, g1⟩ := k42_open hx
  have HE := Aside0.mk fun W : World => own_calls x.f0 W
  clear hx g1
  go_enter Try.func64, Try.ntmps64
  go_wp2_with (go_at_call 65; refine (HE.out _).mono ?_; rintro e w1 ⟨rfl, hd⟩; have HB := Aside0.mk (bthen (show Below w.heap.size w _ by repeat (first | exact Below.refl _ _ | apply pw_below_drewN | apply below_alloc)) hd); clear hd)
  go_ret
  exact ⟨rfl, HB.out⟩
theorem getD_cut {α : Type} {l : List α} {k : Nat} (d : α) (h : k < l.length) : l.take (k + 1) = l.take k ++ [l.getD k d] := by
  rw [List.take_succ_eq_append_getElem h, List.getD_eq_getElem?_getD, List.getElem?_eq_getElem h]; rfl
theorem any_cut {α : Type} {l : List α} {k : Nat} {p : α → Bool} (d : α) (h : k < l.length) (hp : p (l.getD k d) = true) : l.any p = true := List.any_eq_true.2 ⟨_, getD_in d h, hp⟩
set_option maxHeartbeats 4000000 in
set_option maxRecDepth 100000 in
theorem IndexMore_calls (A1 : Option Addr) (c1 : Nat) (l : List Ch) (w : World) (h1 : k42.C w A1 l.length l) :
    Calls Try.prog 82 #[.slice A1 l.length c1, .func (.func 64) #[] #[]] w fun e w' => ∃ r : Int, e = .returned (.int .i64 r) ∧ decide (0 ≤ r) = (l.any fun c => !ownB c.f0) ∧ Below w.heap.size w w' := by
  have hm := h1.2.1
  have H1 := Aside0.mk h1
  clear h1
  go_enter Try.func82, Try.ntmps82
  go_wp2_with fail
  go_loopw [4, 8] (fun r i wr => ∃ k : Nat, k ≤ l.length ∧ r = .int .i64 0 ∧ i = .int .i64 k ∧ (l.take k).any (fun c => !ownB c.f0) = false ∧ Below w.heap.size w wr) (fun _ i _ => l.length - (intOf i).toNat)
  case atStart => exact ⟨0, Nat.zero_le _, rfl, rfl, rfl, Below.refl _ _⟩
  case round =>
    obtain ⟨k, hk, rfl, rfl, ht, hb⟩ := hrel
    by_cases hlt : k < l.length
    · have y1 : decide ((k : Int) < l.length) = true := decide_eq_true (by omega)
      have y2 : decide (k < l.length) = true := decide_eq_true hlt
      have y3 : (k < l.length) = True := eq_true hlt
      have y4 : ((k : Int) < l.length) = True := eq_true (by omega)
      have k16 : k ≤ 9223372036854775806 := by omega
      obtain ⟨ad1, B, e, rfl, d0, d1, m1, g1⟩ := at_T42 (Kd.C_below H1.out hb) (k : Int) (by omega) (by omega)
      simp only [Int.toNat_natCast] at d0 d1
      have hcut := getD_cut z42 hlt
      have hany := any_cut (p := fun c => !ownB c.f0) z42 hlt
      rw [show l.getD k z42 = rd_T42 l k from rfl] at hcut hany
      generalize rd_T42 l k = x at *
      have HE := Aside0.mk (more1_calls x _ _ (k42_mk _ x m1 g1))
      have HC := Aside0.mk hcut
      have HA := Aside0.mk hany
      have HT := Aside0.mk ht
      have HLT := Aside0.mk hlt
      have HBB := Aside0.mk hb
      clear hcut hany ht hb hlt hk g1
      obtain ⟨o, ho⟩ : ∃ o, o = ownB x.f0 := ⟨_, rfl⟩
      rw [← ho] at HE
      cases o with
      | true =>
        have HO := Aside0.mk ho
        clear ho
        go_wp2_with (go_at_call 64; refine HE.out.mono ?_; rintro e w1 ⟨rfl, hd⟩; have HD := Aside0.mk hd; clear hd)
        go_roundw
        case rel => exact ⟨k + 1, HLT.out, rfl, by go_num, by rw [HC.out, List.any_append, HT.out]; simp [← HO.out], bthen HBB.out HD.out⟩
        case measure => have := HLT.out; simp [intOf]; omega
      | false =>
        have HN : Aside0 ((l.any fun c => !ownB c.f0) = true) := ⟨HA.out (by rw [← ho]; rfl)⟩
        clear ho
        go_wp2_with (go_at_call 64; refine HE.out.mono ?_; rintro e w1 ⟨rfl, hd⟩; have HD := Aside0.mk hd; clear hd)
        go_ret
        exact ⟨k, rfl, by rw [HN.out]; simp, bthen HBB.out HD.out⟩
    · have y1 : decide ((k : Int) < l.length) = false := decide_eq_false (by omega)
      have y2 : decide (k < l.length) = false := decide_eq_false hlt
      obtain rfl : k = l.length := by omega
      rw [List.take_length] at ht
      have HT := Aside0.mk ht
      have HBB := Aside0.mk hb
      clear ht hb hlt hk
      go_wp2_with fail
      go_ret
      exact ⟨-1, rfl, by rw [HT.out]; rfl, HBB.out⟩
set_option maxHeartbeats 4000000 in
set_option maxRecDepth 100000 in
theorem more_calls (A1 : Option Addr) (c1 : Nat) (l : List Ch) (w : World) (h1 : k42.C w A1 l.length l) :
    Calls Try.prog 27 #[.slice A1 l.length c1] w fun e w' => e = .returned (.bool (moreB l)) ∧ Below w.heap.size w w' := by
  have HE := Aside0.mk (IndexMore_calls A1 c1 l w h1)
  have HC : Aside0 (Calls Try.prog 63 #[.slice A1 l.length c1, .func (.func 64) #[] #[]] w fun e w' => e = .returned (.bool (l.any fun c => !ownB c.f0)) ∧ Below w.heap.size w w') := ⟨by
    go_enter Try.func63, Try.ntmps63
    go_wp2_with (go_at_call 82; refine HE.out.mono ?_; rintro e w1 ⟨r, rfl, hr, hd⟩; have HR := Aside0.mk hr; have HD := Aside0.mk hd; clear hd hr)
    go_ret
    exact ⟨by rw [← HR.out]; rfl, HD.out⟩⟩
  clear HE h1
  go_enter Try.func27, Try.ntmps27
  go_wp2_with (go_at_call 63; refine HC.out.mono ?_; rintro e w1 ⟨rfl, hd⟩; have HD := Aside0.mk hd; clear hd)
  go_ret
  refine ⟨congrArg (fun b => Ending.returned (.bool b)) ?_, HD.out⟩
  unfold moreB
  rw [List.not_any_eq_all_not]
  simp
def kindB (f : Fr) : Bool := decide (f.f7 = 2 ∨ f.f7 = 1 ∧ f.f8.length = 0)
theorem kind_calls (x : Fr) (cs : List Value) (w : World) (hx : k44.K w x cs) : Calls Try.prog 61 #[.agg cs.toArray] w fun e w' => e = .returned (.bool (kindB x)) ∧ Below w.heap.size w w' := by
  obtain ⟨A1, c1, A2, c2, A3, c3, rfl, l1, g1, l2, g2, l3, g3⟩ := k44_open hx
  refine box_kind.calls x.f0 x.f1 x.f2 x.f3 x.f4 x.f5 x.f6 x.f7 A1 c1 x.f8 A2 c2 x.f9 A3 c3 x.f10 (kindB x) w g1 l1 g2 l2 g3 l3 ?_
  unfold box_kind.f kindB
  by_cases c : x.f7 = 2
  · rw [if_pos c, decide_eq_true (.inl c)]
  · rw [if_neg c]
    by_cases d : x.f7 = 1
    · rw [if_pos d]; exact congrArg some (by rw [Bool.eq_iff_iff, decide_eq_true_iff, beq_iff_eq]; simp only [c, d, false_or, true_and]; omega)
    · rw [if_neg d]; simp [c, d]
def sidesP (f : Fr) (w h : Int) : Prop := (0 ≤ f.f0 ∧ 0 ≤ f.f1 ∧ 1 ≤ f.f2 ∧ 1 ≤ f.f3 ∧ f.f0 ≤ w - f.f2 ∧ f.f1 ≤ h - f.f3) ∧ f.f0 % 2 = 0 ∧ f.f1 % 2 = 0
instance (f : Fr) (w h : Int) : Decidable (sidesP f w h) := by unfold sidesP; infer_instance
set_option maxHeartbeats 4000000 in
set_option maxRecDepth 100000 in
theorem sides_calls (x : Fr) (cs : List Value) (W H : Int) (w : World) (hx : k44.K w x cs) (ho : okFr x) (hW : 0 ≤ W ∧ W ≤ 16777216) (hH : 0 ≤ H ∧ H ≤ 16777216) :
    Calls Try.prog 62 #[.agg cs.toArray, .int .i64 W, .int .i64 H] w fun e w' => e = .returned (.bool (decide (sidesP x W H))) ∧ Below w.heap.size w w' := by
  obtain ⟨A1, c1, A2, c2, A3, c3, rfl, l1, g1, l2, g2, l3, g3⟩ := k44_open hx
  have h2 := ho.i2
  have h3 := ho.i3
  unfold i64r at h2 h3
  clear hx g1 g2 g3 ho
  go_enter Try.func62, Try.ntmps62
  go_wp2_with fail
  all_goals go_ret
  all_goals refine ⟨congrArg (fun b => Ending.returned (.bool b)) ?_, by repeat (first | exact Below.refl _ _ | apply pw_below_drewN | apply below_alloc)⟩
  all_goals first
    | exact (decide_eq_false (by unfold sidesP; omega)).symm
    | (rw [Bool.eq_iff_iff, decide_eq_true_iff, beq_iff_eq]; unfold sidesP; omega)
def frameP (f : Fr) (d : Dc) : Prop := sidesP f d.f1 d.f2 ∧ kindB f = true ∧ 0 ≤ f.f4 ∧ f.f4 < 16777216 ∧
  (if d.f4 = true then moreB f.f10 = true else f.f0 = 0 ∧ f.f1 = 0 ∧ f.f2 = d.f1 ∧ f.f3 = d.f2 ∧ f.f4 = 0 ∧ f.f5 = false ∧ f.f6 = false ∧ f.f10.length = 0)
instance (f : Fr) (d : Dc) : Decidable (frameP f d) := by unfold frameP; infer_instance
set_option maxHeartbeats 8000000 in
set_option maxRecDepth 100000 in
theorem frame_calls (x : Fr) (y : Dc) (cs ds : List Value) (w : World) (hx : k44.K w x cs) (hy : k27.K w y ds) (ho : okFr x) (hW : 0 ≤ y.f1 ∧ y.f1 ≤ 16777216) (hH : 0 ≤ y.f2 ∧ y.f2 ≤ 16777216) :
    Calls Try.prog 26 #[.agg cs.toArray, .agg ds.toArray] w fun e w' => e = .returned (.bool (decide (frameP x y))) ∧ Below w.heap.size w w' := by
  have HE1 := Aside0.mk fun (W : World) (hb : Below w.heap.size w W) => sides_calls x cs y.f1 y.f2 W (k44.K_below hb hx) ho hW hH
  have HE2 := Aside0.mk fun (W : World) (hb : Below w.heap.size w W) => kind_calls x cs W (k44.K_below hb hx)
  obtain ⟨A1, c1, A2, c2, A3, c3, rfl, l1, g1, l2, g2, l3, g3⟩ := k44_open hx
  obtain ⟨B1, d1, B2, d2, B3, d3, B4, d4, B5, d5, rfl, m1, h1, m2, h2, m3, h3, m4, h4, m5, h5⟩ := k27_open hy
  have HE3 := Aside0.mk fun (W : World) (hb : Below w.heap.size w W) => more_calls A3 c3 x.f10 W (Kd.C_below g3 hb)
  clear hx hy g1 g2 g3 h1 h2 h3 h4 h5 ho
  go_enter Try.func26, Try.ntmps26
  go_wp2_with (first
    | (go_at_call 62; with_reducible refine (HE1.out _ (by repeat (first | exact Below.refl _ _ | apply pw_below_drewN | apply below_alloc))).mono ?_; rintro e w1 ⟨rfl, hd⟩; have HX := Aside0.mk hd; have z1 := fun i => (cells2 hd i).1; have z2 := fun i => (cells2 hd i).2; have HB := Aside0.mk (bthen (show Below w.heap.size w _ by repeat (first | exact Below.refl _ _ | apply pw_below_drewN | apply below_alloc)) hd); clear hd)
    | (go_at_call 61; with_reducible refine (HE2.out _ HB.out).mono ?_; clear z1 z2; rintro e w2 ⟨rfl, hd⟩; have z1 := fun i => (cells2 (bthen HX.out hd) i).1; have z2 := fun i => (cells2 (bthen HX.out hd) i).2; have HB2 := Aside0.mk (bthen HB.out hd); clear hd)
    | (go_at_call 27; with_reducible refine (HE3.out _ HB2.out).mono ?_; clear z1 z2; rintro e w3 ⟨rfl, hd⟩; have HB3 := Aside0.mk (bthen HB2.out hd); clear hd))
  all_goals go_ret
  all_goals refine ⟨congrArg (fun b => Ending.returned (.bool b)) ?_, by first | exact HB3.out | exact HB2.out | exact HB.out⟩
  all_goals first
    | (simp [frameP, *]; done)
    | (simp [frameP, *]; omega)
    | (rw [Bool.eq_iff_iff]; simp [frameP, *]; done)
    | (trace_state; sorry)
end Go.Proofs.Ythkocpcjcpohcaa.P
end
section
namespace Go.Proofs.Ythkocpcjcpohcaa.P
open Go Go.RowKit Go.Proofs.YthkocpcjcpohcaaW.PrintWords Go.Proofs.YthkocpcjcpohcaaW.PrintLast Go.Proofs.YthkocpcjcpohcaaW.PrintMore Go.Proofs.Ythkocpcjcpohcaa.U Go.Proofs.Ythkocpcjcpohcaa.Pure
set_option linter.unusedVariables false
set_option linter.unusedSimpArgs false
attribute [local go_sem] max2_int min2_int max_two min_two max_three min_three max_four min_four
def boxd (w : World) (g : Nat) (ds : List Value) : Prop := ∀ (i : Nat) (v : Value), ds[i]? = some v → w.cell? ⟨g, i, none⟩ = some v
theorem boxd_below {w w1 : World} {g : Nat} {ds : List Value} (h : boxd w g ds) (hb : Below w.heap.size w w1) : boxd w1 g ds := fun i v hv => (hb.cell (World.block_lt_of_cell? _ _ (h i v hv))).trans (h i v hv)
theorem boxd_new {w : World} {t : TypeId} {ds : List Value} : boxd (w.alloc (.cells ds.toArray t)) w.heap.size ds := fun i v hv => ((((St.refl w).alloc ds.toArray t).cell i).trans (by simp)).trans hv
set_option maxHeartbeats 4000000 in
set_option maxRecDepth 100000 in
theorem bad_calls (x : Fr) (y : Dc) (cs ds : List Value) (g : Nat) (w : World) (hx : k44.K w x cs) (hy : k27.K w y ds) (hg : boxd w g ds) (ho : okFr x) (hW : 0 ≤ y.f1 ∧ y.f1 ≤ 16777216) (hH : 0 ≤ y.f2 ∧ y.f2 ≤ 16777216) :
    Calls Try.prog 25 #[.agg cs.toArray, .pointer (some ⟨g, 0, none⟩)] w fun e w' => e = .returned (.bool (!decide (frameP x y))) ∧ Below w.heap.size w w' := by
  have HE := Aside0.mk fun (W : World) (hb : Below w.heap.size w W) => frame_calls x y cs ds W (k44.K_below hb hx) (k27.K_below hb hy) ho hW hH
  have hgb := (boxd_below hg (below_alloc (Below.refl w.heap.size w) (.cells cs.toArray 44)))
  obtain ⟨A1, c1, A2, c2, A3, c3, rfl, l1, g1, l2, g2, l3, g3⟩ := k44_open hx
  obtain ⟨B1, d1, B2, d2, B3, d3, B4, d4, B5, d5, rfl, m1, h1, m2, h2, m3, h3, m4, h4, m5, h5⟩ := k27_open hy
  have q0 := hgb 0 _ rfl
  have q1 := hgb 1 _ rfl
  have q2 := hgb 2 _ rfl
  have q3 := hgb 3 _ rfl
  have q4 := hgb 4 _ rfl
  have q5 := hgb 5 _ rfl
  have q6 := hgb 6 _ rfl
  have q7 := hgb 7 _ rfl
  have q8 := hgb 8 _ rfl
  have q9 := hgb 9 _ rfl
  have q10 := hgb 10 _ rfl
  have q11 := hgb 11 _ rfl
  have q12 := hgb 12 _ rfl
  have q13 := hgb 13 _ rfl
  have q14 := hgb 14 _ rfl
  clear hx hy hg g1 g2 g3 h1 h2 h3 h4 h5 ho hgb
  go_enter Try.func25, Try.ntmps25
  go_wp2_with (go_at_call 26; with_reducible refine (HE.out _ (by repeat (first | exact Below.refl _ _ | apply pw_below_drewN | apply below_alloc))).mono ?_; rintro e w1 ⟨rfl, hd⟩; have HB := Aside0.mk (bthen (show Below w.heap.size w _ by repeat (first | exact Below.refl _ _ | apply pw_below_drewN | apply below_alloc)) hd); clear hd)
  go_ret
  exact ⟨by simp, HB.out⟩
set_option maxHeartbeats 4000000 in
set_option maxRecDepth 100000 in
theorem IndexBad_calls (y : Dc) (ds : List Value) (g : Nat) (A1 : Option Addr) (c1 : Nat) (l : List Fr) (w : World) (h1 : k44.C w A1 l.length l) (hy : k27.K w y ds) (hg : boxd w g ds) (ho : ∀ f ∈ l, okFr f) (hW : 0 ≤ y.f1 ∧ y.f1 ≤ 16777216) (hH : 0 ≤ y.f2 ∧ y.f2 ≤ 16777216) :
    Calls Try.prog 66 #[.slice A1 l.length c1, .func (.func 25) #[] #[.pointer (some ⟨g, 0, none⟩)]] w fun e w' => ∃ r : Int, e = .returned (.int .i64 r) ∧ decide (0 ≤ r) = (l.any fun f => !decide (frameP f y)) ∧ Below w.heap.size w w' := by
  have hm := h1.2.1
  have H1 := Aside0.mk h1
  have HY := Aside0.mk hy
  have HG := Aside0.mk hg
  have HO := Aside0.mk ho
  have HWH := Aside0.mk (And.intro hW hH)
  clear h1 hy hg ho hW hH
  go_enter Try.func66, Try.ntmps66
  go_wp2_with fail
  go_loopw [4, 8] (fun r i wr => ∃ k : Nat, k ≤ l.length ∧ r = .int .i64 0 ∧ i = .int .i64 k ∧ (l.take k).any (fun f => !decide (frameP f y)) = false ∧ Below w.heap.size w wr) (fun _ i _ => l.length - (intOf i).toNat)
  case atStart => exact ⟨0, Nat.zero_le _, rfl, rfl, rfl, Below.refl _ _⟩
  case round =>
    obtain ⟨k, hk, rfl, rfl, ht, hb⟩ := hrel
    by_cases hlt : k < l.length
    · have y1 : decide ((k : Int) < l.length) = true := decide_eq_true (by omega)
      have y2 : decide (k < l.length) = true := decide_eq_true hlt
      have y3 : (k < l.length) = True := eq_true hlt
      have y4 : ((k : Int) < l.length) = True := eq_true (by omega)
      have k16 : k ≤ 9223372036854775806 := by omega
      obtain ⟨ad1, A8, c8, A9, c9, A10, c10, rfl, d0, d1, d2, d3, d4, d5, d6, d7, d8, d9, d10, m8, g8, m9, g9, m10, g10⟩ := at_T44 (Kd.C_below H1.out hb) (k : Int) (by omega) (by omega)
      simp only [Int.toNat_natCast] at d0 d1 d2 d3 d4 d5 d6 d7 d8 d9 d10
      have hcut := getD_cut z44 hlt
      have hany := any_cut (p := fun f => !decide (frameP f y)) z44 hlt
      have hin := getD_in z44 hlt
      rw [show l.getD k z44 = rd_T44 l k from rfl] at hcut hany hin
      generalize rd_T44 l k = x at *
      have HE := Aside0.mk (bad_calls x y _ ds g _ (k44_mk _ x m8 g8 m9 g9 m10 g10) (k27.K_below hb HY.out) (boxd_below HG.out hb) (HO.out _ hin) HWH.out.1 HWH.out.2)
      have HC := Aside0.mk hcut
      have HA := Aside0.mk hany
      have HT := Aside0.mk ht
      have HLT := Aside0.mk hlt
      have HBB := Aside0.mk hb
      clear hcut hany hin ht hb hlt hk g8 g9 g10
      obtain ⟨o, ho⟩ : ∃ o, o = decide (frameP x y) := ⟨_, rfl⟩
      rw [← ho] at HE
      cases o with
      | true =>
        have HO := Aside0.mk ho
        clear ho
        go_wp2_with (go_at_call 25; refine HE.out.mono ?_; rintro e w1 ⟨rfl, hd⟩; have HD := Aside0.mk hd; clear hd)
        go_roundw
        case rel => exact ⟨k + 1, HLT.out, rfl, by go_num, by rw [HC.out, List.any_append, HT.out]; simp only [List.any_cons, List.any_nil, ← HO.out]; rfl, bthen HBB.out HD.out⟩
        case measure => have := HLT.out; simp [intOf]; omega
      | false =>
        have HN : Aside0 ((l.any fun f => !decide (frameP f y)) = true) := ⟨HA.out (by rw [← ho]; rfl)⟩
        clear ho
        go_wp2_with (go_at_call 25; refine HE.out.mono ?_; rintro e w1 ⟨rfl, hd⟩; have HD := Aside0.mk hd; clear hd)
        go_ret
        exact ⟨k, rfl, by rw [HN.out]; simp, bthen HBB.out HD.out⟩
    · have y1 : decide ((k : Int) < l.length) = false := decide_eq_false (by omega)
      have y2 : decide (k < l.length) = false := decide_eq_false hlt
      obtain rfl : k = l.length := by omega
      rw [List.take_length] at ht
      have HT := Aside0.mk ht
      have HBB := Aside0.mk hb
      clear ht hb hlt hk
      go_wp2_with fail
      go_ret
      exact ⟨-1, rfl, by rw [HT.out]; rfl, HBB.out⟩
set_option maxHeartbeats 4000000 in
set_option maxRecDepth 100000 in
theorem ContainsBad_calls (y : Dc) (ds : List Value) (g : Nat) (A1 : Option Addr) (c1 : Nat) (l : List Fr) (w : World) (h1 : k44.C w A1 l.length l) (hy : k27.K w y ds) (hg : boxd w g ds) (ho : ∀ f ∈ l, okFr f) (hW : 0 ≤ y.f1 ∧ y.f1 ≤ 16777216) (hH : 0 ≤ y.f2 ∧ y.f2 ≤ 16777216) :
    Calls Try.prog 29 #[.slice A1 l.length c1, .func (.func 25) #[] #[.pointer (some ⟨g, 0, none⟩)]] w fun e w' => e = .returned (.bool (l.any fun f => !decide (frameP f y))) ∧ Below w.heap.size w w' := by
  have HE := Aside0.mk (IndexBad_calls y ds g A1 c1 l w h1 hy hg ho hW hH)
  clear h1 hy hg ho hW hH
  go_enter Try.func29, Try.ntmps29
  go_wp2_with (go_at_call 66; refine HE.out.mono ?_; rintro e w1 ⟨r, rfl, hr, hd⟩; have HR := Aside0.mk hr; have HD := Aside0.mk hd; clear hd hr)
  go_ret
  exact ⟨by rw [← HR.out]; rfl, HD.out⟩
end Go.Proofs.Ythkocpcjcpohcaa.P
end
section
namespace Go.Proofs.Ythkocpcjcpohcaa.P
open Go Go.RowKit Go.Proofs.YthkocpcjcpohcaaW.PrintWords Go.Proofs.YthkocpcjcpohcaaW.PrintLast Go.Proofs.YthkocpcjcpohcaaW.PrintMore
set_option linter.unusedVariables false
set_option linter.unusedSimpArgs false
open Asrt
def ReadsCells (w : World) (size : Nat) (A : Option Addr) (n : Nat) (xs : List Value) : Prop :=
  xs.length = n * size ∧ (∀ u ∈ xs, u.oneCell' = true) ∧ (0 < n → ∃ ad, A = some ad ∧ ∀ j u, xs[j]? = some u → w.cell? (ad.add j) = some u)
theorem ReadsCells.below {w w1 : World} {size : Nat} {A : Option Addr} {n : Nat} {xs : List Value} (h : ReadsCells w size A n xs) (hb : Below w.heap.size w w1) : ReadsCells w1 size A n xs := by
  refine ⟨h.1, h.2.1, fun hn => ?_⟩
  obtain ⟨ad, rfl, hc⟩ := h.2.2 hn
  exact ⟨ad, rfl, fun j u hu => (hb.cell (World.block_lt_of_cell? w _ (hc j u hu))).trans (hc j u hu)⟩
section
variable {P : Program} {w0 W : World} {R : Asrt}
theorem run_append_cells (t ty e : TypeId) (z : Value) (size bytes : Nat)
    (ht : P.underlying t = some (.slice e)) (hinfo : (P.info? e).map (fun i => (i.zero, i.size, i.bytes)) = some (some z, size, bytes)) (hz : z.cells.size = size) (hs0 : 0 < size) (hb0 : 0 < bytes)
    (v : Value) (n : Nat) (xs ys : List Value) (A : Option Addr) (m c : Nat)
    (HS : St w0 W (Asrt.row e size v n xs * R)) (HR : ReadsCells W size A m ys) (hl : (n + m) * bytes ≤ 140737488355328) :
    ∃ A1 c1 w1, (Builtin.append_ #[t, t] ty #[v, .slice A m c]).run P W = .ok (.slice A1 (n + m) c1) w1 ∧ St w0 w1 (Asrt.row e size (.slice A1 (n + m) c1) (n + m) (xs ++ ys) * R) := by
  obtain ⟨i0, hi, hzz⟩ := Option.map_eq_some_iff.1 hinfo
  simp only [Prod.mk.injEq] at hzz
  obtain ⟨hz0, hz1, hz2⟩ := hzz
  have hown := own_zero HS.row
  have hlen : n + m ≤ 140737488355328 := Nat.le_trans (Nat.le_mul_of_pos_right _ hb0) hl
  have h63 : n + m ≤ maxLen := by simp only [maxLen]; omega
  rcases A with _ | ad
  · have h0 : m = 0 := by
      rcases Nat.eq_zero_or_pos m with h0 | h0
      · exact h0
      · obtain ⟨ad, h, _⟩ := HR.2.2 h0
        cases h
    subst h0
    obtain rfl : ys = [] := List.eq_nil_of_length_eq_zero (by simpa using HR.1)
    rcases hown.2 with ⟨rfl, hn⟩ | ⟨g, cap, cur, rfl, _, _, hnc, _⟩
    · subst hn
      exact ⟨none, 0, W, by simp [Builtin.append_, run_underlying ht, sizeOf, typeInfo, hi, Builtin.lenOf, Builtin.firstCells], by simpa using HS⟩
    · exact ⟨some ⟨g, 0, none⟩, cap, W, by simp [Builtin.append_, run_underlying ht, sizeOf, typeInfo, hi, Builtin.lenOf, Builtin.firstCells, hnc, storeCells], by simpa using HS⟩
  · have hcells : ∀ j u, ys[j]? = some u → W.cell? (ad.add j) = some u := by
      intro j u hu
      rcases Nat.eq_zero_or_pos m with h0 | h0
      · obtain rfl : ys = [] := List.eq_nil_of_length_eq_zero (by rw [HR.1, h0, Nat.zero_mul])
        simp at hu
      · obtain ⟨ad', h, hc⟩ := HR.2.2 h0
        injection h with h
        subst h
        exact hc j u hu
    obtain ⟨v', w', hr, h2, h3, _, h4⟩ := run_append_own_at (P := P) W 0 t ty e i0 z size bytes ht hi hz0 hz1 hz2 hz hs0 v n xs hown ad m c ys HR.1 hcells HR.2.1 h63 hl (Nat.zero_le _)
    obtain ⟨A1, c1, rfl⟩ := own_slice h2
    exact ⟨A1, c1, w', hr, HS.grown h3 h2 (h4.imp id fun e => ⟨_, e, Nat.le_refl _⟩)⟩
variable {ops : Array Oper} {rest : List Oper} {o : Oper} {a : Act} {Q : Exit → Act → World → Prop} {Kc : Act → World → Prop}
theorem St.append_cells (hgd : o.guard = none) (s x : Operand) (t e : TypeId) (z : Value) (size bytes : Nat)
    (ho : o.op = .call { callee := .builtin .append, args := #[s, x], argTypes := #[t, t] })
    (ht : P.underlying t = some (.slice e)) (hinfo : (P.info? e).map (fun i => (i.zero, i.size, i.bytes)) = some (some z, size, bytes)) (hz : z.cells.size = size) (hs0 : 0 < size) (hb0 : 0 < bytes)
    (v : Value) (n : Nat) (xs ys : List Value) (A : Option Addr) (m c : Nat) (hs : a.eval s = v) (hx : a.eval x = .slice A m c)
    (HS : St w0 W (Asrt.row e size v n xs * R)) (HR : ReadsCells W size A m ys) (hl : (n + m) * bytes ≤ 140737488355328)
    (h : ∀ A1 c1 w1, St w0 w1 (Asrt.row e size (.slice A1 (n + m) c1) (n + m) (xs ++ ys) * R) → wpList P ops Q rest (a.put o.dst (.slice A1 (n + m) c1)) w1) :
    wpList P ops Q (o :: rest) a W := by
  obtain ⟨A1, c1, w1, hr, h1⟩ := run_append_cells (P := P) t o.type e z size bytes ht hinfo hz hs0 hb0 v n xs ys A m c HS HR hl
  refine wpList_plain hgd fun K hK => ?_
  unfold Oper.wp execOp
  simp only [ho, resolve, invoke, builtin, Sem.run_bind, Sem.run_pure, Result.andThen_ok, List.map_toArray, List.map_cons, List.map_nil, hs, hx, hr]
  exact hK _ _ (h A1 c1 w1 h1)
theorem St.append_cells_step (hw : Region.wanted o (yielded ops a.tmps) = true) (s x : Operand) (t e : TypeId) (z : Value) (size bytes : Nat)
    (ho : o.op = .call { callee := .builtin .append, args := #[s, x], argTypes := #[t, t] })
    (ht : P.underlying t = some (.slice e)) (hinfo : (P.info? e).map (fun i => (i.zero, i.size, i.bytes)) = some (some z, size, bytes)) (hz : z.cells.size = size) (hs0 : 0 < size) (hb0 : 0 < bytes)
    (v : Value) (n : Nat) (xs ys : List Value) (A : Option Addr) (m c : Nat) (hs : a.eval s = v) (hx : a.eval x = .slice A m c)
    (HS : St w0 W (Asrt.row e size v n xs * R)) (HR : ReadsCells W size A m ys) (hl : (n + m) * bytes ≤ 140737488355328)
    (h : ∀ A1 c1 w1, St w0 w1 (Asrt.row e size (.slice A1 (n + m) c1) (n + m) (xs ++ ys) * R) → Kc (a.put o.dst (.slice A1 (n + m) c1)) w1) :
    if Region.wanted o (yielded ops a.tmps) = true then Oper.wp P o a W Kc Q else Kc (a.put o.dst undef) W := by
  obtain ⟨A1, c1, w1, hr, h1⟩ := run_append_cells (P := P) t o.type e z size bytes ht hinfo hz hs0 hb0 v n xs ys A m c HS HR hl
  refine event_step hw (v := .slice A1 (n + m) c1) (w1 := w1) ?_ (h A1 c1 w1 h1)
  unfold execOp
  simp only [ho, resolve, invoke, builtin, Sem.run_bind, Sem.run_pure, Result.andThen_ok, List.map_toArray, List.map_cons, List.map_nil, hs, hx, hr]
end
theorem rowReadsC {w0 w : World} {r : Asrt} {e : TypeId} {size n c : Nat} {B : Option Addr} {xs : List Value} (h : St w0 w (Asrt.row e size (.slice B n c) n xs * r)) (h1 : ∀ u ∈ xs, u.oneCell' = true) : ReadsCells w size B n xs := by
  refine ⟨h.row.1, h1, fun hn => ?_⟩
  obtain ⟨g, rfl⟩ := h.rowForm hn
  exact ⟨_, rfl, h.row.cells (g := g) rfl⟩
theorem St.allocCells {w0 w : World} {A : Asrt} (h : St w0 w A) (e : TypeId) (size n : Nat) (xs : List Value) (hx : xs.length = n * size) (hm : n ≤ 9223372036854775807) : St w0 (w.alloc (.cells xs.toArray e)) (Asrt.row e size (.slice (some ⟨w.heap.size, 0, none⟩) n n) n xs * A) := by
  refine h.newRow (base := w.heap.size) (below_alloc (Below.refl _ _) _) ⟨hx, .inr ⟨w.heap.size, n, xs.toArray, rfl, Nat.le_refl _, heap_alloc_new w _, Nat.le_refl _, by simp only [maxLen]; omega, by simp [hx], by rw [← hx]; simp⟩⟩ (Nat.le_refl _)
section
variable {α : Type} {d : Kd α} {w w1 : World}
def KL (d : Kd α) (w : World) : List α → List Value → Prop
  | [], xs => xs = []
  | p :: l, xs => ∃ cs r, xs = cs ++ r ∧ cs.length = d.sz ∧ d.K w p cs ∧ KL d w l r
theorem KL_app : ∀ {l l' : List α} {xs xs' : List Value}, KL d w l xs → KL d w l' xs' → KL d w (l ++ l') (xs ++ xs')
  | [], _, _, _, h, h' => by obtain rfl : _ = [] := h; exact h'
  | p :: l, l', xs, xs', h, h' => by
    obtain ⟨cs, r, rfl, h1, h2, h3⟩ := h
    exact ⟨cs, r ++ xs', by rw [List.append_assoc], h1, h2, KL_app h3 h'⟩
theorem KL_below (hb : Below w.heap.size w w1) : ∀ {l : List α} {xs : List Value}, KL d w l xs → KL d w1 l xs
  | [], _, h => h
  | p :: l, _, h => by
    obtain ⟨cs, r, rfl, h1, h2, h3⟩ := h
    exact ⟨cs, r, rfl, h1, d.K_below hb h2, KL_below hb h3⟩
theorem KL_one : ∀ {l : List α} {xs : List Value}, KL d w l xs → ∀ u ∈ xs, u.oneCell' = true
  | [], _, h => by obtain rfl : _ = [] := h; intro u hu; cases hu
  | p :: l, _, h => by
    obtain ⟨cs, r, rfl, h1, h2, h3⟩ := h
    intro u hu
    rcases List.mem_append.1 hu with hu | hu
    · exact d.K_one h2 u hu
    · exact KL_one h3 u hu
theorem KL_len : ∀ {l : List α} {xs : List Value}, KL d w l xs → xs.length = l.length * d.sz
  | [], _, h => by obtain rfl : _ = [] := h; simp
  | p :: l, _, h => by
    obtain ⟨cs, r, rfl, h1, h2, h3⟩ := h
    rw [List.length_append, h1, KL_len h3, List.length_cons, Nat.add_mul, Nat.one_mul, Nat.add_comm]
theorem KL_get : ∀ {l : List α} {xs : List Value}, KL d w l xs → ∀ (j : Nat) (p : α), l[j]? = some p → ∃ cs, cs.length = d.sz ∧ d.K w p cs ∧ ∀ i u, cs[i]? = some u → xs[j * d.sz + i]? = some u
  | [], _, h, j, p, hp => by simp at hp
  | q :: l, _, h, j, p, hp => by
    obtain ⟨cs, r, rfl, h1, h2, h3⟩ := h
    cases j with
    | zero =>
      obtain rfl : q = p := by simpa using hp
      refine ⟨cs, h1, h2, fun i u hu => ?_⟩
      have hi : i < cs.length := (List.getElem?_eq_some_iff.1 hu).1
      rw [Nat.zero_mul, Nat.zero_add, List.getElem?_append_left hi]
      exact hu
    | succ j =>
      obtain ⟨cs', g1, g2, g3⟩ := KL_get h3 j p (by simpa using hp)
      refine ⟨cs', g1, g2, fun i u hu => ?_⟩
      rw [List.getElem?_append_right (by rw [h1, Nat.add_mul]; omega)]
      have e : (j + 1) * d.sz + i - cs.length = j * d.sz + i := by rw [h1, Nat.add_mul]; omega
      rw [e]
      exact g3 i u hu
theorem C_of_KL {A : Option Addr} {n : Nat} {l : List α} {xs : List Value} (hk : KL d w l xs) (hn : l.length = n) (hm : n ≤ 9223372036854775807) (hr : ReadsCells w d.sz A n xs) : d.C w A n l := by
  refine ⟨hn, hm, fun h0 => ?_⟩
  obtain ⟨ad, rfl, hc⟩ := hr.2.2 h0
  refine ⟨ad, rfl, fun j p hp => ?_⟩
  obtain ⟨cs, g1, g2, g3⟩ := KL_get hk j p hp
  exact ⟨cs, g1, g2, fun i u hu => hc _ u (g3 i u hu)⟩
theorem KL_of : ∀ (l : List α) (f : Nat → Nat → Option Value), (∀ j p, l[j]? = some p → ∃ c, c.length = d.sz ∧ d.K w p c ∧ ∀ i u, c[i]? = some u → f j i = some u) →
    ∃ xs, KL d w l xs ∧ ∀ j i u, j < l.length → i < d.sz → xs[j * d.sz + i]? = some u → f j i = some u
  | [], f, _ => ⟨[], rfl, fun j i u hj => absurd hj (Nat.not_lt_zero _)⟩
  | p :: l, f, h => by
    obtain ⟨cs, h1, h2, h3⟩ := h 0 p rfl
    obtain ⟨xs, g1, g2⟩ := KL_of l (fun j i => f (j + 1) i) fun j q hq => h (j + 1) q (by simpa using hq)
    refine ⟨cs ++ xs, ⟨cs, xs, rfl, h1, h2, g1⟩, fun j i u hj hi hu => ?_⟩
    cases j with
    | zero =>
      rw [Nat.zero_mul, Nat.zero_add, List.getElem?_append_left (by omega)] at hu
      exact h3 i u hu
    | succ j =>
      rw [List.getElem?_append_right (by rw [h1, Nat.add_mul]; omega)] at hu
      have e : (j + 1) * d.sz + i - cs.length = j * d.sz + i := by rw [h1, Nat.add_mul]; omega
      rw [e] at hu
      exact g2 j i u (by simpa using hj) hi hu
theorem C_cells {A : Option Addr} {n : Nat} {l : List α} (h : d.C w A n l) (hs : 0 < d.sz) : ∃ xs, KL d w l xs ∧ ReadsCells w d.sz A n xs := by
  obtain ⟨h1, h2, h3⟩ := h
  rcases Nat.eq_zero_or_pos n with h0 | h0
  · obtain rfl : l = [] := List.eq_nil_of_length_eq_zero (by omega)
    exact ⟨[], rfl, by simp [h0], by simp, fun hh => absurd hh (by omega)⟩
  · obtain ⟨ad, rfl, hc⟩ := h3 h0
    obtain ⟨xs, g1, g2⟩ := KL_of (d := d) (w := w) l (fun j i => w.cell? (ad.add (j * d.sz + i))) hc
    refine ⟨xs, g1, by rw [KL_len g1, h1], KL_one g1, fun _ => ⟨ad, rfl, fun k u hu => ?_⟩⟩
    have hk : k < xs.length := (List.getElem?_eq_some_iff.1 hu).1
    rw [KL_len g1] at hk
    have e : k / d.sz * d.sz + k % d.sz = k := Nat.div_add_mod' _ _
    have := g2 (k / d.sz) (k % d.sz) u (Nat.div_lt_of_lt_mul (by rw [Nat.mul_comm]; exact hk)) (Nat.mod_lt _ hs) (by rw [e]; exact hu)
    rw [e] at this
    exact this
end
end Go.Proofs.Ythkocpcjcpohcaa.P
end
section
namespace Go.Proofs.Ythkocpcjcpohcaa.P
open Go Go.RowKit Go.Proofs.YthkocpcjcpohcaaW.PrintWords Go.Proofs.YthkocpcjcpohcaaW.PrintLast Go.Proofs.YthkocpcjcpohcaaW.PrintMore Go.Proofs.Ythkocpcjcpohcaa.U Go.Proofs.Ythkocpcjcpohcaa.Pure
set_option linter.unusedVariables false
set_option linter.unusedSimpArgs false
attribute [local go_sem] max2_int min2_int max_two min_two max_three min_three max_four min_four
theorem boxd_at {w : World} {g : Nat} {ds : List Value} (h : boxd w g ds) (i : Nat) {v : Value} (hv : ds[i]? = some v) : w.cell? ⟨g, i, none⟩ = some v := h i v hv
set_option maxHeartbeats 4000000 in
set_option maxRecDepth 100000 in
theorem Clone_calls (A : Option Addr) (c n : Nat) (xs : List Value) (w : World) (hr : ReadsCells w 2 A n xs) (hl : n * 40 ≤ 140737488355328) :
    Calls Try.prog 60 #[.slice A n c] w fun e w' => ∃ (B : Option Addr) (c' : Nat), e = .returned (.slice B n c') ∧ St w w' (Asrt.row 42 2 (.slice B n c') n xs * Asrt.emp) := by
  have hnil := fun (w : World) (n : Nat) => Lib.run_eql_slice_nil (P := Try.prog) w 25 42 A n c 0 0 Try.underlying25
  have HSL := Aside0.mk (((St.refl w).allocCells 42 2 0 [] rfl (by decide)))
  have HRC := Aside0.mk (hr.below HSL.out.below)
  have hbytes : (0 + n) * 40 ≤ 140737488355328 := by omega
  cases A with
  | none =>
    have hl0 : n = 0 := by
      rcases Nat.eq_zero_or_pos n with h | h
      · exact h
      · obtain ⟨ad, h, _⟩ := hr.2.2 h; cases h
    subst hl0
    have hx : xs = [] := List.eq_nil_of_length_eq_zero (by have := hr.1; omega)
    subst hx
    clear hr
    go_enter Try.func60, Try.ntmps60
    go_wp2_with fail
    go_ret
    exact ⟨none, 0, rfl, (St.refl w).rowNil _ _⟩
  | some ad =>
    clear hr
    go_enter Try.func60, Try.ntmps60
    go_wp2_with (at_builtin; refine St.append_cells (w0 := w) rfl (.tmp 5) (.tmp 6) 25 42 (.agg #[.string ⟨#[]⟩, .slice none 0 0]) 2 40 rfl Try.underlying25 (by kernel_rfl) rfl (by decide) (by decide) _ 0 [] xs (some ad) n c rfl rfl HSL.out HRC.out hbytes ?_; intro B1 cB1 w5 hs; have HSP := Aside0.mk hs; clear hs)
    go_ret
    exact ⟨B1, cB1, rfl, by have h := HSP.out; rw [Nat.zero_add] at h; exact h⟩
def wCh (c : Ch) : Int := (c.f1.length : Int) + 2 * (c.f0.size : Int)
def wFr (f : Fr) : Int := (f.f8.length : Int) + (f.f9.length : Int) + 32
def sumW {α : Type} (g : α → Int) : List α → Int
  | [] => 0
  | a :: l => g a + sumW g l
theorem sumW_app {α : Type} {g : α → Int} : ∀ {a b : List α}, sumW g (a ++ b) = sumW g a + sumW g b
  | [], b => by show sumW g b = 0 + sumW g b; omega
  | x :: a, b => by show g x + sumW g (a ++ b) = (g x + sumW g a) + sumW g b; rw [sumW_app]; omega
theorem sumW_pos {α : Type} {g : α → Int} (h : ∀ a, 0 ≤ g a) : ∀ l : List α, 0 ≤ sumW g l
  | [] => Int.le_refl 0
  | x :: l => by show 0 ≤ g x + sumW g l; have := h x; have := sumW_pos h l; omega
theorem sumW_take {α : Type} {g : α → Int} (h : ∀ a, 0 ≤ g a) (l : List α) (k : Nat) : sumW g (l.take k) ≤ sumW g l := by
  have e : sumW g l = sumW g (l.take k) + sumW g (l.drop k) := by rw [← sumW_app, List.take_append_drop]
  have := sumW_pos h (l.drop k)
  omega
theorem wCh_pos (c : Ch) : 0 ≤ wCh c := by unfold wCh; omega
theorem wFr_pos (f : Fr) : 0 ≤ wFr f := by unfold wFr; omega
def allCh (d : Dc) : List Ch := d.f14 ++ d.f13.flatMap (·.f10)
def weightI (d : Dc) : Int := (d.f7.length : Int) + (d.f8.length : Int) + (d.f9.length : Int) + sumW wFr d.f13 + sumW wCh (allCh d)
set_option maxHeartbeats 8000000 in
set_option maxRecDepth 100000 in
theorem weight_calls (y : Dc) (ds : List Value) (w : World) (hy : k27.K w y ds) (ho : okDc y) (hw : weightI y ≤ 4611686018427387904) (hn : (allCh y).length * 40 ≤ 140737488355328) :
    Calls Try.prog 23 #[.agg ds.toArray] w fun e w' => e = .returned (.int .i64 (weightI y)) ∧ Below w.heap.size w w' := by
  obtain ⟨B1, d1, B2, d2, B3, d3, B4, d4, B5, d5, rfl, m1, h1, m2, h2, m3, h3, m4, h4, m5, h5⟩ := k27_open hy
  have hfl := h4.2.1
  have hb0 : y.f14.length * 40 ≤ 140737488355328 := by unfold allCh at hn; rw [List.length_append] at hn; omega
  obtain ⟨xs, hk, hr⟩ := C_cells h5 (by decide)
  have HC := Aside0.mk fun (W : World) (hb : Below w.heap.size w W) => Clone_calls B5 d5 y.f14.length xs W (hr.below hb) hb0
  have HK := Aside0.mk hk
  have H4 := Aside0.mk h4
  have HW := Aside0.mk hw
  have HN := Aside0.mk hn
  have HO := Aside0.mk ho
  have p1 : (y.f7.length : Int) + y.f8.length ≤ 9223372036854775807 := by have := ho.pr.2; have := ho.ex.2; omega
  have p2 : (y.f7.length : Int) + y.f8.length + y.f9.length ≤ 9223372036854775807 := by have := ho.pr.2; have := ho.ex.2; have := ho.xm.2; omega
  clear hy h1 h2 h3 h4 h5 hw hn ho hb0 hk hr
  go_enter Try.func23, Try.ntmps23
  go_wp2_with (go_at_call 60; with_reducible refine (HC.out _ (by repeat (first | exact Below.refl _ _ | apply pw_below_drewN | apply below_alloc))).mono ?_; rintro e w1 ⟨B, c', rfl, hs⟩; have q13 := boxd_at (boxd_below boxd_new hs.below) 13 rfl; have HX := Aside0.mk (bthen (show Below w.heap.size w _ by repeat (first | exact Below.refl _ _ | apply pw_below_drewN | apply below_alloc)) hs.below); have HS := Aside0.mk hs; clear hs)
  have HS1 : Aside0 (St w w1 (Asrt.row 42 2 (.slice B y.f14.length c') y.f14.length xs * Asrt.emp)) := ⟨HX.out, let ⟨F, hF, hb⟩ := HS.out.own; ⟨F, hF, fun k h => Nat.le_trans (by simp) (hb k h)⟩⟩
  clear HS HC
  obtain ⟨S0, hS0⟩ : ∃ S0 : Int, S0 = (y.f7.length : Int) + (y.f8.length : Int) + (y.f9.length : Int) := ⟨_, rfl⟩
  have HSZ := Aside0.mk hS0
  rw [← hS0]
  have s0 : 0 ≤ S0 := by omega
  clear hS0 p1 p2
  go_loopw [3, 4, 26] (fun s v i wr => ∃ (k n : Nat) (A : Option Addr) (c : Nat) (ys : List Value) (S : Int), k ≤ y.f13.length ∧ s = .int .i64 S ∧ S = S0 + sumW wFr (y.f13.take k) ∧ v = .slice A n c ∧ i = .int .i64 k ∧
    n = (y.f14 ++ (y.f13.take k).flatMap (·.f10)).length ∧ KL k42 w (y.f14 ++ (y.f13.take k).flatMap (·.f10)) ys ∧ St w wr (Asrt.row 42 2 (.slice A n c) n ys * Asrt.emp)) (fun _ _ i _ => y.f13.length - (intOf i).toNat)
  case atStart => exact ⟨0, y.f14.length, B, c', xs, S0, Nat.zero_le _, rfl, by simp [sumW], rfl, rfl, by simp, by simpa using HK.out, HS1.out⟩
  case round =>
    obtain ⟨k, n, A, c, ys, S, hk, rfl, hS, rfl, rfl, hn, hkl, hs⟩ := hrel
    by_cases hlt : k < y.f13.length
    · have y1 : decide ((k : Int) < y.f13.length) = true := decide_eq_true (by omega)
      have y2 : decide (k < y.f13.length) = true := decide_eq_true hlt
      have y3 : (k < y.f13.length) = True := eq_true hlt
      have y4 : ((k : Int) < y.f13.length) = True := eq_true (by omega)
      have k16 : k ≤ 9223372036854775806 := by omega
      obtain ⟨ad1, A8, c8, A9, c9, A10, c10, rfl, d0, d1, d2, d3, d4, d5, d6, d7, d8, d9, d10, m8, g8, m9, g9, m10, g10⟩ := at_T44 H4.out (k : Int) (by omega) (by omega)
      simp only [Int.toNat_natCast] at d0 d1 d2 d3 d4 d5 d6 d7 d8 d9 d10
      have hcut := getD_cut z44 hlt
      have hin := getD_in z44 hlt
      rw [show y.f13.getD k z44 = rd_T44 y.f13 k from rfl] at hcut hin
      generalize rd_T44 y.f13 k = x at *
      obtain ⟨zs, hzk, hzr⟩ := C_cells g10 (by decide)
      have hfr := HO.out.fr.2 x hin
      have e0 := (hs.below.cell (World.block_lt_of_cell? _ _ d0)).trans d0
      have e1 := (hs.below.cell (World.block_lt_of_cell? _ _ d1)).trans d1
      have e2 := (hs.below.cell (World.block_lt_of_cell? _ _ d2)).trans d2
      have e3 := (hs.below.cell (World.block_lt_of_cell? _ _ d3)).trans d3
      have e4 := (hs.below.cell (World.block_lt_of_cell? _ _ d4)).trans d4
      have e5 := (hs.below.cell (World.block_lt_of_cell? _ _ d5)).trans d5
      have e6 := (hs.below.cell (World.block_lt_of_cell? _ _ d6)).trans d6
      have e7 := (hs.below.cell (World.block_lt_of_cell? _ _ d7)).trans d7
      have e8 := (hs.below.cell (World.block_lt_of_cell? _ _ d8)).trans d8
      have e9 := (hs.below.cell (World.block_lt_of_cell? _ _ d9)).trans d9
      have e10 := (hs.below.cell (World.block_lt_of_cell? _ _ d10)).trans d10
      have hS2 : S + wFr x = S0 + sumW wFr (y.f13.take (k + 1)) := by rw [hcut, sumW_app, hS]; simp only [sumW]; omega
      have hle : S + wFr x ≤ 4611686018427387904 := by
        have h1 := sumW_take wFr_pos y.f13 (k + 1)
        have h2 := HW.out
        have h3 := sumW_pos wCh_pos (allCh y)
        unfold weightI at h2
        have h4 := HSZ.out
        omega
      have hS0' : 0 ≤ S := by have := sumW_pos wFr_pos (y.f13.take k); omega
      unfold wFr at hle
      have b1 : (x.f8.length : Int) + x.f9.length ≤ 9223372036854775807 := by omega
      have b2 : (x.f8.length : Int) + x.f9.length + 32 ≤ 9223372036854775807 := by omega
      have b3 : S + ((x.f8.length : Int) + x.f9.length + 32) ≤ 9223372036854775807 := by omega
      have hcnt : (n + x.f10.length) * 40 ≤ 140737488355328 := by
        have h1 := HN.out
        unfold allCh at h1
        have e : (y.f13.flatMap (·.f10)).length = ((y.f13.take (k + 1)).flatMap (·.f10)).length + ((y.f13.drop (k + 1)).flatMap (·.f10)).length := by rw [← List.length_append, ← List.flatMap_append, List.take_append_drop]
        rw [List.length_append, e, hcut, List.flatMap_append, List.length_append] at h1
        rw [hn, List.length_append]
        simp only [List.flatMap_cons, List.flatMap_nil, List.append_nil] at h1
        omega
      have HSL := Aside0.mk (hs.alloc #[.int .i64 x.f0, .int .i64 x.f1, .int .i64 x.f2, .int .i64 x.f3, .int .i64 x.f4, .bool x.f5, .bool x.f6, .int .i64 x.f7, .slice A8 x.f8.length c8, .slice A9 x.f9.length c9, .slice A10 x.f10.length c10] 44).swap
      have HRC := Aside0.mk (hzr.below HSL.out.below)
      have HKL := Aside0.mk hkl
      have HZK := Aside0.mk hzk
      have HS2 := Aside0.mk hS2
      have HCUT := Aside0.mk hcut
      have HNN := Aside0.mk hn
      have HLT := Aside0.mk hlt
      clear hkl hzk hzr hS2 hcut hn hlt hk hS hs d0 d1 d2 d3 d4 d5 d6 d7 d8 d9 d10 g8 g9 g10 hin hfr hle q13
      go_wp2_with (at_builtin; refine St.append_cells (w0 := w) rfl (.tmp 40) (.tmp 42) 25 42 (.agg #[.string ⟨#[]⟩, .slice none 0 0]) 2 40 rfl Try.underlying25 (by kernel_rfl) rfl (by decide) (by decide) _ n ys zs A10 x.f10.length c10 rfl rfl HSL.out HRC.out hcnt ?_; intro B1 cB1 w5 hs; have HSP := Aside0.mk hs; clear hs)
      go_roundw
      case rel =>
        refine ⟨k + 1, n + x.f10.length, B1, cB1, ys ++ zs, _, HLT.out, rfl, HS2.out, rfl, by go_num, ?_, ?_, ?_⟩
        · rw [HCUT.out, List.flatMap_append, ← List.append_assoc, List.length_append, ← HNN.out]; simp
        · rw [HCUT.out, List.flatMap_append, ← List.append_assoc]
          exact KL_app HKL.out (by simpa using HZK.out)
        · exact HSP.out.swap.drop
      case measure => have := HLT.out; simp [intOf]; omega
    · have y1 : decide ((k : Int) < y.f13.length) = false := decide_eq_false (by omega)
      have y2 : decide (k < y.f13.length) = false := decide_eq_false hlt
      obtain rfl : k = y.f13.length := by omega
      rw [List.take_length] at hS hn hkl
      rw [show y.f14 ++ y.f13.flatMap (·.f10) = allCh y from rfl] at hn hkl
      have hn2 : n ≤ 9223372036854775807 := by have := HN.out; omega
      have HNN := Aside0.mk hn
      have HKL := Aside0.mk hkl
      have HSS := Aside0.mk hS
      have HS2 := Aside0.mk hs
      have t0 : 0 ≤ S := by have := sumW_pos wFr_pos y.f13; omega
      clear hn hkl hS hs hlt hk q13
      go_wp2_with fail
      go_loopw [3, 47] (fun s i wr => ∃ (j : Nat) (T : Int), j ≤ n ∧ s = .int .i64 T ∧ T = S + sumW wCh ((allCh y).take j) ∧ i = .int .i64 j ∧ St w wr (Asrt.row 42 2 (.slice A n c) n ys * Asrt.emp)) (fun _ i _ => n - (intOf i).toNat)
      case atStart => exact ⟨0, S, Nat.zero_le _, rfl, by simp [sumW], rfl, HS2.out⟩
      case round =>
        obtain ⟨j, T, hj, rfl, hT, rfl, hs⟩ := hrel
        by_cases hlt : j < n
        · have y1 : decide ((j : Int) < n) = true := decide_eq_true (by omega)
          have y2 : decide (j < n) = true := decide_eq_true hlt
          have y3 : (j < n) = True := eq_true hlt
          have y4 : ((j : Int) < n) = True := eq_true (by omega)
          have k16 : j ≤ 9223372036854775806 := by omega
          have hC := C_of_KL (KL_below hs.below HKL.out) HNN.out.symm hn2 (rowReadsC hs (KL_one HKL.out))
          obtain ⟨ad1, B, e, rfl, d0, d1, m1, g1⟩ := at_T42 hC (j : Int) (by omega) (by omega)
          simp only [Int.toNat_natCast] at d0 d1
          have hlt2 : j < (allCh y).length := by rw [← HNN.out]; exact hlt
          have hcut := getD_cut z42 hlt2
          rw [show (allCh y).getD j z42 = rd_T42 (allCh y) j from rfl] at hcut
          generalize rd_T42 (allCh y) j = x at *
          have hT2 : T + wCh x = S + sumW wCh ((allCh y).take (j + 1)) := by rw [hcut, sumW_app, hT]; simp only [sumW]; omega
          have hle : T + wCh x ≤ 4611686018427387904 := by
            have h1 := sumW_take wCh_pos (allCh y) (j + 1)
            have h2 := HW.out
            unfold weightI at h2
            have h3 := HSZ.out
            have h4 := HSS.out
            omega
          have hT0 : 0 ≤ T := by have := sumW_pos wCh_pos ((allCh y).take j); omega
          unfold wCh at hle hT2
          have b1 : 2 * (x.f0.size : Int) ≤ 9223372036854775807 := by omega
          have b2 : (x.f1.length : Int) + 2 * (x.f0.size : Int) ≤ 9223372036854775807 := by omega
          have b3 : T + ((x.f1.length : Int) + 2 * (x.f0.size : Int)) ≤ 9223372036854775807 := by omega
          have HSL := Aside0.mk (hs.alloc #[.string x.f0, .slice B x.f1.length e] 42).swap
          have HT2 := Aside0.mk hT2
          have HLT := Aside0.mk hlt
          clear hcut hT hs hC hlt hlt2 hj hle hT2 g1
          go_wp2_with fail
          go_roundw
          case rel => exact ⟨j + 1, _, HLT.out, rfl, HT2.out, by go_num, HSL.out.swap.drop⟩
          case measure => have := HLT.out; simp [intOf]; omega
        · have y1 : decide ((j : Int) < n) = false := decide_eq_false (by omega)
          have y2 : decide (j < n) = false := decide_eq_false hlt
          obtain rfl : j = n := by omega
          have HR : Aside0 (weightI y = T) := ⟨by
            rw [hT, HSS.out, HNN.out, List.take_length, HSZ.out]; rfl⟩
          have HB := Aside0.mk hs.below
          clear hT hs hlt hj
          go_wp2_with fail
          go_ret
          exact ⟨by rw [HR.out]; rfl, HB.out⟩
end Go.Proofs.Ythkocpcjcpohcaa.P
end
section
namespace Go.Proofs.Ythkocpcjcpohcaa.P
open Go Go.RowKit Go.Proofs.YthkocpcjcpohcaaW.PrintWords Go.Proofs.YthkocpcjcpohcaaW.PrintLast Go.Proofs.YthkocpcjcpohcaaW.PrintMore Go.Proofs.Ythkocpcjcpohcaa.U Go.Proofs.Ythkocpcjcpohcaa.Pure
set_option linter.unusedVariables false
set_option linter.unusedSimpArgs false
attribute [local go_sem] max2_int min2_int max_two min_two max_three min_three max_four min_four
theorem cells1 {w w1 : World} {P : Array Value} {T : TypeId} (hx : Below (w.alloc (.cells P T)).heap.size (w.alloc (.cells P T)) w1) (i : Nat) : w1.cell? ⟨w.heap.size, i, none⟩ = P[i]? := (((St.refl w).alloc P T).belowR hx).cell i
def plainD (kind : Int) (data : List Int) : Dc := ⟨true, 0, 0, false, false, 0, 0, [], [], [], false, false, false, [⟨0, 0, 0, 0, 0, false, false, kind, [], data, []⟩], []⟩
def plainP (d : Dc) : Prop := ∃ f, d.f13 = [f] ∧ kindB f = true ∧ d = plainD f.f7 f.f9
theorem C_one {w : World} {f : Fr} {cs : List Value} {g : Nat} (hc : w.heap[g]? = some (.cells cs.toArray 44 (0, 0))) (hk : k44.K w f cs) : k44.C w (some ⟨g, 0, none⟩) 1 [f] := by
  refine ⟨rfl, by decide, fun _ => ⟨_, rfl, fun j p hp => ?_⟩⟩
  have hj : j = 0 := by
    rcases j with _ | j
    · rfl
    · simp at hp
  subst hj
  have hpf : f = p := by simpa using hp
  subst hpf
  refine ⟨cs, k44.K_len hk, hk, fun i u hu => ?_⟩
  have e : (Addr.add ⟨g, 0, none⟩ (0 * k44.sz + i)) = ⟨g, i, none⟩ := by rw [Addr.add_lit]; congr 1; omega
  rw [e, blk_cell hc]
  simpa using hu
theorem plain_K {w1 : World} {o : Obj} {k : Int} {d : List Int} {A : Option Addr} {c : Nat} (hc : d.length ≤ c) (hd : (Kd.int .u8).C w1 A d.length d) :
    k27.K ((w1.alloc o).alloc (.cells #[.int .i64 0, .int .i64 0, .int .i64 0, .int .i64 0, .int .i64 0, .bool false, .bool false, .int .i64 k, .slice none 0 0, .slice A d.length c, .slice none 0 0] 44)) (plainD k d)
      [.bool true, .int .i64 0, .int .i64 0, .bool false, .bool false, .int .u32 0, .int .i64 0, .slice none 0 0, .slice none 0 0, .slice none 0 0, .bool false, .bool false, .bool false, .slice (some ⟨w1.heap.size + 1, 0, none⟩) 1 1, .slice none 0 0] := by
  have e : (w1.alloc o).heap.size = w1.heap.size + 1 := by simp
  have hh := heap_alloc_new (w1.alloc o) (.cells #[.int .i64 0, .int .i64 0, .int .i64 0, .int .i64 0, .int .i64 0, .bool false, .bool false, .int .i64 k, .slice none 0 0, .slice A d.length c, .slice none 0 0] 44)
  rw [e] at hh
  refine k27_mk _ (plainD k d) (A7 := none) (c7 := 0) (Nat.le_refl 0) (Kd.C_nil _ _) (A8 := none) (c8 := 0) (Nat.le_refl 0) (Kd.C_nil _ _) (A9 := none) (c9 := 0) (Nat.le_refl 0) (Kd.C_nil _ _) (Nat.le_refl 1) (C_one (cs := [.int .i64 0, .int .i64 0, .int .i64 0, .int .i64 0, .int .i64 0, .bool false, .bool false, .int .i64 k, .slice none 0 0, .slice A d.length c, .slice none 0 0]) hh ?_) (A14 := none) (c14 := 0) (Nat.le_refl 0) (Kd.C_nil _ _)
  exact k44_mk _ ⟨0, 0, 0, 0, 0, false, false, k, [], d, []⟩ (A8 := none) (c8 := 0) (Nat.le_refl 0) (Kd.C_nil _ _) hc (Kd.C_below hd (below_alloc (below_alloc (Below.refl _ _) _) _)) (A10 := none) (c10 := 0) (Nat.le_refl 0) (Kd.C_nil _ _)
theorem plain_ok {k : Int} {d : List Int} (hk : i64r k) (hd : datL d) : okDc (plainD k d) := by
  have z : i64r 0 := ⟨by decide, by decide⟩
  have nl : datL [] := ⟨(fun b hb => absurd hb (by simp)), by decide⟩
  have nc : chsL [] := ⟨by decide, (fun b hb => absurd hb (by simp))⟩
  refine ⟨z, z, ⟨Int.le_refl 0, (by decide : (0 : Int) ≤ 4294967295)⟩, z, nl, nl, nl, ⟨(by decide : 1 * 128 ≤ 140737488351232), fun f hf => ?_⟩, nc⟩
  rw [List.mem_singleton.1 hf]
  exact ⟨z, z, z, z, z, hk, nl, hd, nc⟩
set_option maxHeartbeats 8000000 in
set_option maxRecDepth 100000 in
theorem plain_calls (y : Dc) (ds : List Value) (w : World) (hy : k27.K w y ds) (ho : okDc y) (b : Bool) (hb : b = true ↔ plainP y) :
    Calls Try.prog 24 #[.agg ds.toArray] w fun e w' => e = .returned (.bool b) ∧ Below w.heap.size w w' := by
  have HBB := Aside0.mk hb
  clear hb
  have HY := Aside0.mk hy
  obtain ⟨B1, d1, B2, d2, B3, d3, B4, d4, B5, d5, rfl, m1, h1, m2, h2, m3, h3, m4, h4, m5, h5⟩ := k27_open hy
  have HO := Aside0.mk ho
  by_cases hl : y.f13.length = 1
  case neg =>
    have HN : Aside0 (¬ plainP y) := ⟨fun ⟨f, hf, _⟩ => hl (by rw [hf]; rfl)⟩
    have z : ((y.f13.length : Int) != 1) = true := by simp; omega
    clear hl hy h1 h2 h3 h4 h5 ho
    go_enter Try.func24, Try.ntmps24
    go_wp2_with fail
    go_ret
    exact ⟨congrArg (fun b => Ending.returned (.bool b)) (Bool.eq_iff_iff.2 (by rw [HBB.out]; simp [HN.out])), by repeat (first | exact Below.refl _ _ | apply pw_below_drewN | apply below_alloc)⟩
  have z : ((y.f13.length : Int) != 1) = false := by simp [hl]
  obtain ⟨f, hf⟩ : ∃ f, y.f13 = [f] := List.length_eq_one_iff.1 hl
  obtain ⟨ad1, A8, c8, A9, c9, A10, c10, rfl, q0, q1, q2, q3, q4, q5, q6, q7, q8, q9, q10, n8, g8, n9, g9, n10, g10⟩ := at_T44 h4 0 (by omega) (by omega)
  rw [show rd_T44 y.f13 0 = f by rw [hf]; rfl] at q0 q1 q2 q3 q4 q5 q6 q7 q8 q9 q10 n8 g8 n9 g9 n10 g10
  have hof : okFr f := ho.fr.2 f (by rw [hf]; exact List.mem_singleton.2 rfl)
  have y1 : (0 < y.f13.length) = True := eq_true (by omega)
  have y2 : ((0 : Int) < (y.f13.length : Int)) = True := eq_true (by omega)
  have HF := Aside0.mk hf
  have HP : Aside0 (plainP y ↔ kindB f = true ∧ y = plainD f.f7 f.f9) := ⟨⟨fun ⟨g, hg, h⟩ => by rw [hf] at hg; injection hg with hg _; subst hg; exact h, fun h => ⟨f, hf, h⟩⟩⟩
  have HKK := Aside0.mk (k44_mk w f n8 g8 n9 g9 n10 g10)
  have HK1 := Aside0.mk fun (W : World) (hb : Below w.heap.size w W) => kind_calls f _ W (k44.K_below hb HKK.out)
  have HSM := Aside0.mk fun (w1 W : World) (o : Obj) (hb : Below w.heap.size w w1) (hW : W = ((w1.alloc o).alloc (.cells #[.int .i64 0, .int .i64 0, .int .i64 0, .int .i64 0, .int .i64 0, .bool false, .bool false, .int .i64 f.f7, .slice none 0 0, .slice A9 f.f9.length c9, .slice none 0 0] 44))) =>
    Same_calls y (plainD f.f7 f.f9) _ _ W (k27.K_below (show Below w.heap.size w W by rw [hW]; exact below_alloc (below_alloc hb _) _) hy) (hW ▸ plain_K n9 (Kd.C_below g9 hb)) ho (plain_ok hof.i7 hof.da)
  have HOF := Aside0.mk hof
  simp only [Int.toNat_zero, Nat.zero_mul, Addr.add_zero'] at q0 q1 q2 q3 q4 q5 q6 q7 q8 q9 q10
  have hsa := ((St.refl w).alloc #[.bool y.f0, .int .i64 y.f1, .int .i64 y.f2, .bool y.f3, .bool y.f4, .int .u32 y.f5, .int .i64 y.f6, .slice B1 y.f7.length d1, .slice B2 y.f8.length d2, .slice B3 y.f9.length d3, .bool y.f10, .bool y.f11, .bool y.f12, .slice (some ad1) y.f13.length d4, .slice B5 y.f14.length d5] 27).below
  have e0 := (hsa.cell (World.block_lt_of_cell? _ _ q0)).trans q0
  have e1 := (hsa.cell (World.block_lt_of_cell? _ _ q1)).trans q1
  have e2 := (hsa.cell (World.block_lt_of_cell? _ _ q2)).trans q2
  have e3 := (hsa.cell (World.block_lt_of_cell? _ _ q3)).trans q3
  have e4 := (hsa.cell (World.block_lt_of_cell? _ _ q4)).trans q4
  have e5 := (hsa.cell (World.block_lt_of_cell? _ _ q5)).trans q5
  have e6 := (hsa.cell (World.block_lt_of_cell? _ _ q6)).trans q6
  have e7 := (hsa.cell (World.block_lt_of_cell? _ _ q7)).trans q7
  have e8 := (hsa.cell (World.block_lt_of_cell? _ _ q8)).trans q8
  have e9 := (hsa.cell (World.block_lt_of_cell? _ _ q9)).trans q9
  have e10 := (hsa.cell (World.block_lt_of_cell? _ _ q10)).trans q10
  clear hy h1 h2 h3 h4 h5 ho g8 g9 g10 hl hf hof hsa
  go_enter Try.func24, Try.ntmps24
  go_wp2_with (first
    | (go_at_call 61; with_reducible refine (HK1.out _ (by repeat (first | exact Below.refl _ _ | apply pw_below_drewN | apply below_alloc))).mono ?_; rintro e w1 ⟨rfl, hd⟩; have z1 := cells1 hd; have z2 := cells1 (bthen hd (below_alloc (Below.refl _ _) (.cells #[.int .i64 f.f0, .int .i64 f.f1, .int .i64 f.f2, .int .i64 f.f3, .int .i64 f.f4, .bool f.f5, .bool f.f6, .int .i64 f.f7, .slice A8 f.f8.length c8, .slice A9 f.f9.length c9, .slice A10 f.f10.length c10] 44))); have HB := Aside0.mk (bthen (show Below w.heap.size w _ by repeat (first | exact Below.refl _ _ | apply pw_below_drewN | apply below_alloc)) hd); (have hB := HB.out); (have r0 := (hB.cell (World.block_lt_of_cell? _ _ q0)).trans q0); (have r1 := (hB.cell (World.block_lt_of_cell? _ _ q1)).trans q1); (have r2 := (hB.cell (World.block_lt_of_cell? _ _ q2)).trans q2); (have r3 := (hB.cell (World.block_lt_of_cell? _ _ q3)).trans q3); (have r4 := (hB.cell (World.block_lt_of_cell? _ _ q4)).trans q4); (have r5 := (hB.cell (World.block_lt_of_cell? _ _ q5)).trans q5); (have r6 := (hB.cell (World.block_lt_of_cell? _ _ q6)).trans q6); (have r7 := (hB.cell (World.block_lt_of_cell? _ _ q7)).trans q7); (have r8 := (hB.cell (World.block_lt_of_cell? _ _ q8)).trans q8); (have r9 := (hB.cell (World.block_lt_of_cell? _ _ q9)).trans q9); (have r10 := (hB.cell (World.block_lt_of_cell? _ _ q10)).trans q10); clear hd hB)
    | (go_at_call 19; with_reducible refine (HSM.out w1 _ _ HB.out rfl).mono ?_; rintro e w2 ⟨rfl, hd⟩; have HB2 := Aside0.mk (bthen (show Below w.heap.size w _ from bthen HB.out (by repeat (first | exact Below.refl _ _ | apply pw_below_drewN | apply below_alloc))) hd); clear hd))
  · have hk : (!kindB f) = true := by assumption
    go_ret
    exact ⟨congrArg (fun b => Ending.returned (.bool b)) (Bool.eq_iff_iff.2 (by rw [HBB.out, HP.out]; simp at hk; simp [hk])), HB.out⟩
  · have hk : (!kindB f) = false := by assumption
    go_ret
    exact ⟨congrArg (fun b => Ending.returned (.bool b)) (Bool.eq_iff_iff.2 (by rw [HBB.out, HP.out]; simp at hk; simp [hk])), HB2.out⟩
end Go.Proofs.Ythkocpcjcpohcaa.P
end
section
namespace Go.Proofs.Ythkocpcjcpohcaa.P
open Go Go.RowKit Go.Proofs.YthkocpcjcpohcaaW.PrintWords Go.Proofs.YthkocpcjcpohcaaW.PrintLast Go.Proofs.YthkocpcjcpohcaaW.PrintMore Go.Proofs.Ythkocpcjcpohcaa.U Go.Proofs.Ythkocpcjcpohcaa.Pure
set_option linter.unusedVariables false
set_option linter.unusedSimpArgs false
attribute [local go_sem] max2_int min2_int max_two min_two max_three min_three max_four min_four
abbrev nALPH : ByteArray := ⟨#[65, 76, 80, 72]⟩
def payS (k : Int) : ByteArray := if k = 2 then ⟨#[86, 80, 56, 32]⟩ else ⟨#[86, 80, 56, 76]⟩
def alphaV (f : Fr) : List Ch := if 0 < f.f8.length then [⟨nALPH, f.f8⟩] else []
def picV (f : Fr) : List Ch := alphaV f ++ [⟨payS f.f7, f.f9⟩] ++ f.f10
theorem payload_calls (k : Int) (w : World) : Calls Try.prog 81 #[.int .i64 k] w fun e w' => e = .returned (.string (payS k)) ∧ Drawn0 w w' := by
  refine box_payload.calls k _ w ?_
  unfold box_payload.f payS
  by_cases c : k = 2
  · rw [if_pos c, if_pos c]
  · rw [if_neg c, if_neg c]
theorem KL_ch1 {w : World} {s : ByteArray} {l : List Int} {A : Option Addr} {c : Nat} (hc : l.length ≤ c) (h : (Kd.int .u8).C w A l.length l) : KL k42 w [⟨s, l⟩] [.string s, .slice A l.length c] :=
  ⟨[.string s, .slice A l.length c], [], rfl, rfl, k42_mk w ⟨s, l⟩ hc h, rfl⟩
set_option maxHeartbeats 8000000 in
set_option maxRecDepth 100000 in
theorem picture_calls_at (x : Fr) (cs : List Value) (u0 w : World) (hvw : Below u0.heap.size u0 w) (hx : k44.K u0 x cs) (ho : okFr x) (hn : (2 + x.f10.length) * 40 ≤ 140737488355328) :
    Calls Try.prog 55 #[.agg cs.toArray] w fun e w' => ∃ (B : Option Addr) (c : Nat) (xs : List Value), e = .returned (.slice B (picV x).length c) ∧ KL k42 u0 (picV x) xs ∧ St w w' (Asrt.row 42 2 (.slice B (picV x).length c) (picV x).length xs * Asrt.emp) := by
  obtain ⟨A1, c1, A2, c2, A3, c3, rfl, l1, g1, l2, g2, l3, g3⟩ := k44_open hx
  obtain ⟨zs, hzk, hzr⟩ := C_cells g3 (by decide)
  have HS0 := Aside0.mk (((St.refl w).alloc #[.int .i64 x.f0, .int .i64 x.f1, .int .i64 x.f2, .int .i64 x.f3, .int .i64 x.f4, .bool x.f5, .bool x.f6, .int .i64 x.f7, .slice A1 x.f8.length c1, .slice A2 x.f9.length c2, .slice A3 x.f10.length c3] 44).rowNil 42 2)
  have HZK := Aside0.mk hzk
  have HZR := Aside0.mk (hzr.below hvw)
  have HG1 := Aside0.mk (KL_ch1 (s := nALPH) l1 g1)
  have HG2 := Aside0.mk (KL_ch1 (s := payS x.f7) l2 g2)
  have HPS := Aside0.mk (fun W => payload_calls x.f7 W)
  have HN := Aside0.mk hn
  clear hx hzk hzr g1 g2 g3 ho hn hvw
  go_enter Try.func55, Try.ntmps55
  go_upto_if 7 with (fail)
  obtain ⟨W0, hW0⟩ : ∃ W0, W0 = w.alloc (.cells #[.int .i64 x.f0, .int .i64 x.f1, .int .i64 x.f2, .int .i64 x.f3, .int .i64 x.f4, .bool x.f5, .bool x.f6, .int .i64 x.f7, .slice A1 x.f8.length c1, .slice A2 x.f9.length c2, .slice A3 x.f10.length c3] 44) := ⟨_, rfl⟩
  obtain ⟨g, hg⟩ : ∃ g, g = w.heap.size := ⟨_, rfl⟩
  rw [← hW0, ← hg] at HS0 ⊢
  clear hW0 hg
  have m8 : W0.cell? ⟨g, 8, none⟩ = some (.slice A1 x.f8.length c1) := (HS0.out.swap.cell 8).trans rfl
  go_cut [3] from 7 to 13 (fun v wc => ∃ (B : Option Addr) (c : Nat) (xs : List Value), v = .slice B (alphaV x).length c ∧ KL k42 u0 (alphaV x) xs ∧ St w wc (Asrt.row 42 2 (.slice B (alphaV x).length c) (alphaV x).length xs * (Asrt.blk g 44 #[.int .i64 x.f0, .int .i64 x.f1, .int .i64 x.f2, .int .i64 x.f3, .int .i64 x.f4, .bool x.f5, .bool x.f6, .int .i64 x.f7, .slice A1 x.f8.length c1, .slice A2 x.f9.length c2, .slice A3 x.f10.length c3] * Asrt.emp)))
  case first =>
    have HA1 : Aside0 (0 < x.f8.length → alphaV x = [⟨nALPH, x.f8⟩]) := ⟨fun hp => by unfold alphaV; rw [if_pos hp]⟩
    have HA0 : Aside0 (¬ 0 < x.f8.length → alphaV x = []) := ⟨fun hp => by unfold alphaV; rw [if_neg hp]⟩
    have HSL := Aside0.mk ((HS0.out.allocCells 42 2 1 [.string nALPH, .slice A1 x.f8.length c1] rfl (by decide)).swap)
    go_wp2_with (at_builtin; refine St.append_cells (w0 := w) rfl (.tmp 8) (.tmp 12) 25 42 (.agg #[.string ⟨#[]⟩, .slice none 0 0]) 2 40 rfl Try.underlying25 (by kernel_rfl) rfl (by decide) (by decide) _ 0 [] [.string nALPH, .slice A1 x.f8.length c1] (some ⟨_, 0, none⟩) 1 1 rfl rfl HSL.out (rowReadsC HSL.out.swap (by simp [Value.oneCell'])) (by decide) ?_; intro B1 cB1 w5 hs; have HSP := Aside0.mk hs; clear hs)
    · go_meet
      case rel =>
        rw [HA1.out (by assumption)]
        exact ⟨B1, cB1, [.string nALPH, .slice A1 x.f8.length c1], rfl, HG1.out, HSP.out.swap.drop⟩
    · go_meet
      case rel =>
        rw [HA0.out (by assumption)]
        exact ⟨none, 0, [], rfl, rfl, HS0.out⟩
  case rest =>
    obtain ⟨B, c, xs, rfl, hk, hs⟩ := hcut
    clear HS0 m8
    have m7 : wc.cell? ⟨g, 7, none⟩ = some (.int .i64 x.f7) := (hs.swap.cell 7).trans rfl
    have m9 : wc.cell? ⟨g, 9, none⟩ = some (.slice A2 x.f9.length c2) := (hs.swap.cell 9).trans rfl
    have m10 : wc.cell? ⟨g, 10, none⟩ = some (.slice A3 x.f10.length c3) := (hs.swap.cell 10).trans rfl
    have HS := Aside0.mk hs
    have HK := Aside0.mk hk
    clear hs hk
    go_wp2_with fail
    have hb1 : ((alphaV x).length + 1) * 40 ≤ 140737488355328 := by have := HN.out; unfold alphaV; split <;> simp <;> omega
    have hb2 : ((alphaV x).length + 1 + x.f10.length) * 40 ≤ 140737488355328 := by have := HN.out; unfold alphaV; split <;> simp <;> omega
    have HB1 := Aside0.mk hb1
    have HB2 := Aside0.mk hb2
    clear hb1 hb2
    go_region_held3 (fun w' => w'.cell? ⟨g, 7, none⟩ = some (.int .i64 x.f7) ∧ w'.cell? ⟨g, 9, none⟩ = some (.slice A2 x.f9.length c2) ∧ w'.cell? ⟨g, 10, none⟩ = some (.slice A3 x.f10.length c3)) (go_keep) (first
      | (go_at_call 81; with_reducible refine (HPS.out _).mono ?_; rintro e w1 ⟨rfl, ⟨n1, rfl⟩⟩)
      | (refine St.append_cells_step (w0 := w) (by rfl) (.tmp 14) (.tmp 21) 25 42 (.agg #[.string ⟨#[]⟩, .slice none 0 0]) 2 40 rfl Try.underlying25 (by kernel_rfl) rfl (by decide) (by decide) _ (alphaV x).length xs [.string (payS x.f7), .slice A2 x.f9.length c2] (some ⟨_, 0, none⟩) 1 1 rfl rfl (((HS.out.drewN (1 + n1)).allocCells 42 2 1 [.string (payS x.f7), .slice A2 x.f9.length c2] rfl (by decide)).swap) (rowReadsC ((HS.out.drewN (1 + n1)).allocCells 42 2 1 [.string (payS x.f7), .slice A2 x.f9.length c2] rfl (by decide)) (by simp [Value.oneCell'])) HB1.out ?_; intro B1 cB1 w5 hs; have HS5 := Aside0.mk hs; have q7 := (hs.swap.drop.swap.cell 7).trans rfl; have q9 := (hs.swap.drop.swap.cell 9).trans rfl; have q10 := (hs.swap.drop.swap.cell 10).trans rfl; clear hs)
      | (refine St.append_cells_step (w0 := w) (by rfl) (.tmp 22) (.tmp 24) 25 42 (.agg #[.string ⟨#[]⟩, .slice none 0 0]) 2 40 rfl Try.underlying25 (by kernel_rfl) rfl (by decide) (by decide) _ ((alphaV x).length + 1) (xs ++ [.string (payS x.f7), .slice A2 x.f9.length c2]) zs A3 x.f10.length c3 rfl rfl HS5.out (HZR.out.below HS5.out.below) HB2.out ?_; intro B2 cB2 w6 hs; have HS6 := Aside0.mk hs; have r7 := (hs.swap.drop.swap.cell 7).trans rfl; have r9 := (hs.swap.drop.swap.cell 9).trans rfl; have r10 := (hs.swap.drop.swap.cell 10).trans rfl; clear hs))
    go_wp2_with fail
    go_ret
    have hl : (picV x).length = (alphaV x).length + 1 + x.f10.length := by unfold picV; simp only [List.length_append, List.length_singleton]
    rw [hl]
    refine ⟨B2, cB2, xs ++ [.string (payS x.f7), .slice A2 x.f9.length c2] ++ zs, rfl, KL_app (KL_app HK.out HG2.out) HZK.out, ?_⟩
    exact HS6.out.swap.drop.swap.drop
theorem picture_calls (x : Fr) (cs : List Value) (w : World) (hx : k44.K w x cs) (ho : okFr x) (hn : (2 + x.f10.length) * 40 ≤ 140737488355328) :
    Calls Try.prog 55 #[.agg cs.toArray] w fun e w' => ∃ (B : Option Addr) (c : Nat) (xs : List Value), e = .returned (.slice B (picV x).length c) ∧ KL k42 w (picV x) xs ∧ St w w' (Asrt.row 42 2 (.slice B (picV x).length c) (picV x).length xs * Asrt.emp) :=
  picture_calls_at x cs w w (Below.refl _ _) hx ho hn
end Go.Proofs.Ythkocpcjcpohcaa.P
end
section
namespace Go.Proofs.Ythkocpcjcpohcaa.P
open Go Go.RowKit Go.Proofs.YthkocpcjcpohcaaW.PrintWords Go.Proofs.YthkocpcjcpohcaaW.PrintLast Go.Proofs.YthkocpcjcpohcaaW.PrintMore Go.Proofs.Ythkocpcjcpohcaa.U Go.Proofs.Ythkocpcjcpohcaa.Pure
set_option linter.unusedVariables false
set_option linter.unusedSimpArgs false
attribute [local go_sem] max2_int min2_int max_two min_two max_three min_three max_four min_four
def pin (w0 : World) (Q : World → Prop) : Asrt where
  holds w F := (∀ k, F k → k < w.heap.size) ∧ ∀ w', Below w0.heap.size w0 w' → (∀ k, F k → w'.heap[k]? = w.heap[k]?) → Q w'
  loc := fun ⟨h1, h2⟩ hm => ⟨fun k hk => by
      have := h1 k hk
      have e := hm k hk
      rw [Array.getElem?_eq_getElem this] at e
      exact (Array.getElem?_eq_some_iff.1 e).1, fun w' hb ha => h2 w' hb fun k hk => (ha k hk).trans (hm k hk)⟩
  lt := fun ⟨h1, _⟩ hk => h1 _ hk
section
variable {w0 w w' : World} {r A : Asrt} {Q Q1 Q2 : World → Prop}
theorem St.pin0 (h : St w0 w r) (hq : ∀ W, Below w0.heap.size w0 W → Q W) : St w0 w (pin w0 Q * r) :=
  h.imp (Asrt.le_trans (Asrt.emp_l' r) (Asrt.mono_l (a := Asrt.emp) (b := pin w0 Q) fun he => ⟨fun k hk => (he k hk).elim, fun W hb _ => hq W hb⟩))
theorem St.pinGet (h : St w0 w (pin w0 Q * r)) : Q w := by
  obtain ⟨hb, F, ⟨G, H, ha, hr, hd, hF⟩, hw⟩ := h
  exact ha.2 w hb fun _ _ => rfl
theorem St.pinImp (h : St w0 w (pin w0 Q * r)) (hi : ∀ W, Below w0.heap.size w0 W → Q W → Q1 W) : St w0 w (pin w0 Q1 * r) :=
  h.imp (Asrt.mono_l (a := pin w0 Q) (b := pin w0 Q1) fun hq => ⟨hq.1, fun W hb ha => hi W hb (hq.2 W hb ha)⟩)
theorem St.pinAnd (h : St w0 w (pin w0 Q1 * (pin w0 Q2 * r))) : St w0 w (pin w0 (fun W => Q1 W ∧ Q2 W) * r) :=
  (h.assoc').imp (Asrt.mono_l (a := pin w0 Q1 * pin w0 Q2) (b := pin w0 fun W => Q1 W ∧ Q2 W) fun ⟨G, H, ha, hb, hd, hF⟩ =>
    ⟨fun k hk => ((hF k).1 hk).elim (ha.1 k) (hb.1 k), fun W hB hm => ⟨ha.2 W hB fun k hk => hm k ((hF k).2 (.inl hk)), hb.2 W hB fun k hk => hm k ((hF k).2 (.inr hk))⟩⟩)
theorem St.pinR {α : Type} {d : Kd α} {e : Nat} {v : Value} {xs : List α} (h : St w0 w A) (hb : Below w.heap.size w w') (hr : Kd.R d e w' w.heap.size (fun _ => True) v xs) :
    ∃ B c, v = .slice B xs.length c ∧ xs.length ≤ c ∧ St w0 w' (pin w0 (fun W => d.C W B xs.length xs) * A) := by
  obtain ⟨B, c, hv, hc, hC⟩ := Kd.R_reads hr
  refine ⟨B, c, hv, hc, ?_⟩
  refine St.move (a := Asrt.emp) (h.imp (Asrt.emp_l' A)) fun F hF _ => ⟨fun k => w.heap.size ≤ k ∧ k < w'.heap.size, ⟨fun k hk => hk.2, fun W hB hm => ?_⟩, hb.os, hb.tape, hb.output, hb.size, fun k hk _ => hb.block k hk, fun k hk => .inr hk.1⟩
  have h2 := Kd.R_move (w1 := W) (Kd.R_bound hr) fun k hk => hm k ⟨hk.2.1, hk.2.2.1⟩
  obtain ⟨B', c', hv', hc', hC'⟩ := Kd.R_reads h2
  rw [hv] at hv'
  injection hv' with e1 e2 e3
  rw [e1]
  exact hC'
theorem St.pinRow {e : TypeId} {k : IntKind} {B : Option Addr} {n c : Nat} {xs : List Int} (h : St w0 w (Asrt.row e 1 (.slice B n c) n (nums k xs) * A)) : St w0 w (pin w0 (fun W => (Kd.int k).C W B n xs) * A) :=
  h.imp (Asrt.mono_l (a := Asrt.row e 1 (.slice B n c) n (nums k xs)) (b := pin w0 fun W => (Kd.int k).C W B n xs) fun {u F} hr =>
    ⟨fun k hk => own_lt hr.1 k ((hr.2 k).1 hk), fun W hB hm => Kd.C_of_reads (readsInt_of.1 (own_reads' (own_move hr.1 fun k hk => hm k ((hr.2 k).2 hk))))⟩)
end
abbrev Nm := S85
def fitN (x : Nm) : Prop := 0 ≤ x.f0 ∧ 1 ≤ x.f1 ∧ x.f1 ≤ 4 ∧ x.f0 < 256 ^ x.f1.toNat
def putV (l : List Nm) : List Int := l.flatMap fun x => Pure.bytes x.f1.toNat x.f0
theorem putV_len {l : List Nm} (h : ∀ x ∈ l, fitN x) : (putV l).length ≤ 4 * l.length := by
  induction l with
  | nil => simp [putV]
  | cons x l ih =>
    have h1 := h x List.mem_cons_self
    have h2 := ih fun y hy => h y (List.mem_cons_of_mem _ hy)
    unfold fitN at h1
    unfold putV at h2 ⊢
    rw [List.flatMap_cons, List.length_append, bytes_len, List.length_cons]
    omega
theorem put_loop {l : List Nm} (hl : l.length ≤ 1000) (h : ∀ x ∈ l, fitN x) (d : Nat) : ∀ (i : Nat) (acc : List Int), i + d = l.length → acc.length ≤ 100000 + 4 * i → Ev (fun k => box_put.l0 k acc l l.length i) (acc ++ putV (l.drop i)) := by
  induction d with
  | zero =>
    intro i acc hi ha
    refine Ev.succ ?_
    simp only [box_put.l0]
    refine Ev.ite_neg (by omega) (Ev.fin ?_)
    rw [List.drop_of_length_le (by omega)]
    simp [putV]
  | succ d ih =>
    intro i acc hi ha
    have hlt : i < l.length := by omega
    refine Ev.succ ?_
    simp only [box_put.l0]
    refine Ev.ite_pos (by omega) (Ev.ite_pos (by omega) (Ev.ite_pos (by omega) ?_))
    have hx : rd_T85 l (i : Int) = l[i] := by
      unfold rd_T85
      rw [show ((i : Int)).toNat = i by omega, List.getD_eq_getElem?_getD, List.getElem?_eq_getElem hlt]
      rfl
    have hf := h _ (List.getElem_mem hlt)
    rw [hx]
    unfold fitN at hf
    have hp : (256 : Int) ^ (l[i].f1).toNat ≤ 4294967296 := by
      have := (pow256 (i := (l[i].f1).toNat) (by omega)).2
      rw [this]
      exact Int.le_trans (pow_le (show 8 * (l[i].f1).toNat ≤ 32 by omega)) (by decide)
    rw [wu64 (by omega) (by omega)]
    refine Ev.bind (le_Put_ev _ _ hf.1 (by omega)) ?_
    rw [put_good ⟨by omega, by omega, hf.2.2.2⟩]
    have hbl := bytes_len (l[i].f1).toNat l[i].f0
    refine Ev.ite_pos (by show acc.length + (Pure.bytes _ _).length < _; omega) ?_
    rw [w64 (by omega) (by omega)]
    have := ih (i + 1) (acc ++ Pure.bytes (l[i].f1).toNat l[i].f0) (by omega) (by rw [List.length_append, hbl]; omega)
    rw [List.drop_eq_getElem_cons hlt]
    unfold putV at this ⊢
    rw [List.flatMap_cons, ← List.append_assoc]
    exact this
theorem put_calls (A : Option Addr) (c : Nat) (l : List Nm) (w : World) (hr : k85.C w A l.length l) (hc : l.length ≤ c) (hl : l.length ≤ 1000) (h : ∀ x ∈ l, fitN x) :
    Calls Try.prog 57 #[.slice A l.length c] w fun e w' => ∃ v, e = .returned v ∧ Kd.R (Kd.int .u8) 5 w' w.heap.size (fun _ => True) v (putV l) ∧ Below w.heap.size w w' := by
  have he : Ev (fun k => box_put.f k l) (putV l) := by
    unfold box_put.f
    have := put_loop hl h l.length 0 [] (Nat.zero_add _) (by simp)
    simpa using this
  obtain ⟨k, hk⟩ := he.rounds
  exact box_put.calls k A c l _ w hr hc hk
end Go.Proofs.Ythkocpcjcpohcaa.P
end
