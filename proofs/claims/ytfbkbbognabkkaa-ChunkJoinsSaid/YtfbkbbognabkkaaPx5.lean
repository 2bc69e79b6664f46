-- Printed by mp.py (our own program over the kit's printer) out of the translation.
import Derived.Test.YtfbkbbognabkkaaPx0
import Derived.Test.YtfbkbbognabkkaaPx3
import Derived.Test.YtfbkbbognabkkaaPx4
namespace Go.Proofs.Ytfbkbbognabkkaa.P
open Go.RowKit Go.Proofs.YtfbkbbognabkkaaW.PrintWords Go.Proofs.YtfbkbbognabkkaaW.PrintLast Go.Proofs.YtfbkbbognabkkaaW.PrintMore
attribute [local go_sem] max2_int min2_int max_two min_two max_three min_three max_four min_four   -- for this text's walks alone
set_option linter.unusedVariables false
set_option linter.unusedSimpArgs false

/-! ### chunk_Scan: function 9 -/
def chunk_Scan.j0 : Nat → List Int → Int → Bool → Option ((List (S35)) × Int)
  | 0, _, _, _ => none
  | k + 1, x0, x4, x14 => if x14 = true then (some (([] : List (S35)), 3)) else (if x4 > (IntKind.u64.wrap (wrap64 ((x0.length : Int) - 8))) then (some (([] : List (S35)), 2)) else (if 12 ≤ (wrap64 (8 + (wrap64 (x4)))) then (if (wrap64 (8 + (wrap64 (x4)))) ≤ (x0.length : Int) then ((chunk_Inner.f k ((x0.take ((wrap64 (8 + (wrap64 (x4)))) : Int).toNat).drop 12)).bind fun bt161 => (some (bt161.1, bt161.2))) else (none)) else (none)))
def chunk_Scan.f (k : Nat) (l0 : List Int) : Option ((List (S35)) × Int) := if (l0.length : Int) < 12 then (some (([] : List (S35)), 2)) else ((le_Get.f k l0 4 4).bind fun bt156 => (if 4 ≤ (l0.length : Int) then (if (strOfNums (l0.take 4)).toList = ([82, 73, 70, 70] : List UInt8) then (if 8 ≤ 12 then (if 12 ≤ (l0.length : Int) then (if (strOfNums ((l0.take 12).drop 8)).toList = ([87, 69, 66, 80] : List UInt8) then (if bt156.1 < 4 then (chunk_Scan.j0 k l0 bt156.1 true) else (chunk_Scan.j0 k l0 bt156.1 ((Int.tmod bt156.1 2) == 1))) else (chunk_Scan.j0 k l0 bt156.1 true)) else (none)) else (none)) else (chunk_Scan.j0 k l0 bt156.1 true)) else (none)))
theorem chunk_Scan.mono_l : ∀ k, (∀ y0 y1 y2, LeO (chunk_Scan.j0 k y0 y1 y2) (chunk_Scan.j0 (k + 1) y0 y1 y2))
  | 0 => fun _ _ _ r h => by simp [chunk_Scan.j0] at h
  | k + 1 => by
    have ih0 := chunk_Scan.mono_l k
    · intro y0 y1 y2
      unfold chunk_Scan.j0
      repeat' first
      | (with_reducible exact ih0 _ _ _)
      | (with_reducible exact chunk_Inner.mono _ _)
      | (with_reducible exact le_Get.mono _ _ _ _)
      | (with_reducible exact LeO.refl _)
      | (with_reducible exact LeO.none _)
      | (with_reducible refine LeO.ite ?_ ?_)
      | (with_reducible refine LeO.bind ?_ (fun _ => ?_))
      | exact ih0 _ _ _
      | exact chunk_Inner.mono _ _
      | exact le_Get.mono _ _ _ _
      | exact LeO.none _
      | refine LeO.ite ?_ ?_
      | refine LeO.bind ?_ (fun _ => ?_)
theorem chunk_Scan.mono : ∀ a0 k, LeO (chunk_Scan.f k a0) (chunk_Scan.f (k + 1) a0) := by
  intro a0 k
  have ih0 := chunk_Scan.mono_l k
  unfold chunk_Scan.f
  repeat' first
      | (with_reducible exact ih0 _ _ _)
      | (with_reducible exact chunk_Inner.mono _ _)
      | (with_reducible exact le_Get.mono _ _ _ _)
      | (with_reducible exact LeO.refl _)
      | (with_reducible exact LeO.none _)
      | (with_reducible refine LeO.ite ?_ ?_)
      | (with_reducible refine LeO.bind ?_ (fun _ => ?_))
      | exact ih0 _ _ _
      | exact chunk_Inner.mono _ _
      | exact le_Get.mono _ _ _ _
      | exact LeO.none _
      | refine LeO.ite ?_ ?_
      | refine LeO.bind ?_ (fun _ => ?_)
set_option maxHeartbeats 8000000 in
set_option maxRecDepth 100000 in
theorem chunk_Scan.calls (k : Nat) (A0 : Option Addr) (c0 : Nat) (l0 : List Int) (r1 : List (S35)) (r2 : Int) (w : World) (hr0 : Kd.C (Kd.int .u8) w A0 l0.length l0) (hc0 : l0.length ≤ c0) (h : chunk_Scan.f k l0 = some (r1, r2)) :
    Calls Try.prog 9 #[.slice A0 l0.length c0] w fun e w' => ∃ v0_ : Value, e = .returned (.tuple #[v0_, .int .i64 r2]) ∧ Kd.S k35 35 w' w.heap.size (fun _ => True) v0_ r1 ∧ Below w.heap.size w w' := by
  have HR0 := Aside0.mk hr0
  have HC0 := Aside0.mk hc0
  clear hr0 hc0
  have HB := Aside0.mk (Below.refl w.heap.size w)
  have H : (if (l0.length : Int) < 12 then (some (([] : List (S35)), 2)) else ((le_Get.f k l0 4 4).bind fun bt156 => (if 4 ≤ (l0.length : Int) then (if (strOfNums (l0.take 4)).toList = ([82, 73, 70, 70] : List UInt8) then (if 8 ≤ 12 then (if 12 ≤ (l0.length : Int) then (if (strOfNums ((l0.take 12).drop 8)).toList = ([87, 69, 66, 80] : List UInt8) then (if bt156.1 < 4 then (chunk_Scan.j0 k l0 bt156.1 true) else (chunk_Scan.j0 k l0 bt156.1 ((Int.tmod bt156.1 2) == 1))) else (chunk_Scan.j0 k l0 bt156.1 true)) else (none)) else (none)) else (chunk_Scan.j0 k l0 bt156.1 true)) else (none)))) = some (r1, r2) := h
  clear h
  by_cases c2 : (l0.length : Int) < 12
  · rw [if_pos c2] at H
    have c2b0 : decide ((l0.length : Int) < 12) = true := decide_eq_true c2
    have c2b1 : decide (l0.length < 12) = true := decide_eq_true (by omega)
    clear c2
    simp only [Option.some.injEq, Prod.mk.injEq] at H
    obtain ⟨rfl, rfl⟩ := H
    go_enter Try.func9, Try.ntmps9
    go_wp2
    go_ret2
    exact ⟨_, by first | rfl | (simp [errW_none, errW_some] <;> rfl) | (simp [*, errW_none, errW_some] <;> rfl), by first | exact Kd.S_nil _ _ _ _ _ | exact Kd.N_nil _ _ _ _ _ | exact Kd.V_nil _ _ _ _ _ | exact Kd.Q_nil _ _ _ _ _ | exact Kd.R_nil _ _ _ _ _, by repeat (first | (with_reducible first | exact HB.out | apply below_alloc | apply pw_below_drewN | apply below_drew1) | exact HB.out)⟩
  · rw [if_neg c2] at H
    have c2b0 : decide ((l0.length : Int) < 12) = false := decide_eq_false c2
    have c2b1 : decide (l0.length < 12) = false := decide_eq_false (by omega)
    clear c2
    replace H := Option.bind_eq_some_iff.mp H
    obtain ⟨⟨t156, t157⟩, A30, H⟩ := H
    replace H : (if 4 ≤ (l0.length : Int) then (if (strOfNums (l0.take 4)).toList = ([82, 73, 70, 70] : List UInt8) then (if 8 ≤ 12 then (if 12 ≤ (l0.length : Int) then (if (strOfNums ((l0.take 12).drop 8)).toList = ([87, 69, 66, 80] : List UInt8) then (if t156 < 4 then (chunk_Scan.j0 k l0 t156 true) else (chunk_Scan.j0 k l0 t156 ((Int.tmod t156 2) == 1))) else (chunk_Scan.j0 k l0 t156 true)) else (none)) else (none)) else (chunk_Scan.j0 k l0 t156 true)) else (none)) = some (r1, r2) := H
    have A3 := Aside0.mk A30
    clear A30
    have HC4 := Aside0.mk H
    clear H
    go_enter Try.func9, Try.ntmps9
    go_upto_region 4 with (first | ((with_reducible refine gate_callee (f := 21) rfl ?_); refine goesL_ (some 11) rfl rfl Try.func21 (by kernel_rfl) rfl #[.slice A0 l0.length c0, .int .i64 4, .int .i64 4] rfl (by (try simp only [List.map_toArray, List.map_cons, List.map_nil]); first | done | rfl | (simp only [List.length_drop, List.length_take]; rfl)) ?_; (with_reducible refine (le_Get.calls k _ _ l0 4 4 t156 t157 _ ?side1 ?side2 A3.out).mono ?_); (case side1 => repeat (first | exact HR0.out | (with_reducible refine Kd.C_alloc ?_ _) | (with_reducible refine Kd.C_drewN ?_ _) | (with_reducible refine Kd.C_drew ?_))); (case side2 => exact HC0.out); rintro e w' ⟨rfl, ⟨nd, rfl⟩⟩; refine ⟨_, rfl, ?_⟩) | (go_at_call 21; (with_reducible refine (le_Get.calls k _ _ l0 4 4 t156 t157 _ ?side1 ?side2 A3.out).mono ?_); (case side1 => repeat (first | exact HR0.out | (with_reducible refine Kd.C_alloc ?_ _) | (with_reducible refine Kd.C_drewN ?_ _) | (with_reducible refine Kd.C_drew ?_))); (case side2 => exact HC0.out); rintro e w' ⟨rfl, ⟨nd, rfl⟩⟩))
    (try simp only [Act.put, List.setIfInBounds_toArray, List.set_cons_zero, List.set_cons_succ])
    go_cut [14] (fun v14 wc => ∃ (kq : Nat) (x14_3 : Bool), v14 = .bool x14_3 ∧ Aside0 (chunk_Scan.j0 kq l0 t156 x14_3 = some (r1, r2)) ∧ Aside0 (kq ≤ k) ∧ Aside0 (Below w.heap.size w wc))
    case first =>
      have H := HC4.out
      clear HC4
      by_cases c5 : 4 ≤ (l0.length : Int)
      · rw [if_pos c5] at H
        have c5b0 := eq_true c5
        have c5b1 : decide (4 ≤ (l0.length : Int)) = true := decide_eq_true c5
        clear c5
        by_cases c6 : (strOfNums (l0.take 4)).toList = ([82, 73, 70, 70] : List UInt8)
        · rw [if_pos c6] at H
          have c6b0 : ((strOfNums (l0.take 4)).toList == ([82, 73, 70, 70] : List UInt8)) = true := beq_iff_eq.mpr c6
          have c6b1 : ((strOfNums (l0.take 4)).toList != ([82, 73, 70, 70] : List UInt8)) = false := bne_eq_false_iff_eq.mpr c6
          clear c6
          (first | rw [c6b0] | (simp only [i64_w, i32_w]; rw [c6b0]) | skip)
          by_cases c7 : 8 ≤ 12
          · rw [if_pos c7] at H
            have c7b0 := eq_true c7
            have c7b1 : decide (8 ≤ 12) = true := decide_eq_true c7
            clear c7
            by_cases c8 : 12 ≤ (l0.length : Int)
            · rw [if_pos c8] at H
              have c8b0 := eq_true c8
              have c8b1 : decide (12 ≤ (l0.length : Int)) = true := decide_eq_true c8
              clear c8
              by_cases c9 : (strOfNums ((l0.take 12).drop 8)).toList = ([87, 69, 66, 80] : List UInt8)
              · rw [if_pos c9] at H
                have c9b0 : ((strOfNums ((l0.take 12).drop 8)).toList == ([87, 69, 66, 80] : List UInt8)) = true := beq_iff_eq.mpr c9
                have c9b1 : ((strOfNums ((l0.take 12).drop 8)).toList != ([87, 69, 66, 80] : List UInt8)) = false := bne_eq_false_iff_eq.mpr c9
                clear c9
                by_cases c10 : t156 < 4
                · rw [if_pos c10] at H
                  have c10b0 : decide (t156 < 4) = true := decide_eq_true c10
                  clear c10
                  have H' := Aside0.mk H
                  clear H
                  obtain ⟨i011, hi011, _, hsz11, _⟩ := info_parts info5
                  obtain ⟨hcut11, hA11, hC11⟩ := print_take_of (P := Try.prog) (Value.int .u8) 0 22 5 .i64 Try.underlying22 hi011 hsz11 A0 c0 l0 4 (by omega) (of_decide_eq_true (by first | (with_reducible assumption) | assumption)) HC0.out
                  have HR158 := Aside0.mk (Kd.C_of_reads (h1 := fun _ => rfl) (hA11 _ (Kd.reads_of_C HR0.out)))
                  have HC158 := Aside0.mk hC11
                  clear hA11 hC11 hi011 hsz11
                  have hcv12 := Kd.C_string (P := Try.prog) (A := A0) (c := c0) Try.underlying22 Try.underlying5 Try.underlying9 (Kd.C_below HR158.out HB.out); have hcv12q := hcv12; (try simp only [List.length_take, List.length_drop, Int.reduceToNat] at hcv12q); have hcv12d := fun nd => Kd.C_string (P := Try.prog) (A := A0) (c := c0) Try.underlying22 Try.underlying5 Try.underlying9 (Kd.C_drewN (Kd.C_below HR158.out HB.out) nd); (try simp only [List.length_take, List.length_drop, Int.reduceToNat] at hcv12d); have hcv12e := hcv12; have hcv12f := hcv12d
                  obtain ⟨i013, hi013, _, hsz13, _⟩ := info_parts info5
                  obtain ⟨A13, hcut13, hA13, hC13⟩ := print_mid_of (P := Try.prog) (Value.int .u8) 0 22 5 .i64 .i64 Try.underlying22 hi013 hsz13 A0 c0 l0 8 12 (by omega) (by first | omega | exact of_decide_eq_true (by first | (with_reducible assumption) | assumption)) (of_decide_eq_true (by first | (with_reducible assumption) | assumption)) HC0.out
                  have HR159 := Aside0.mk (Kd.C_of_reads (h1 := fun _ => rfl) (hA13 _ (Kd.reads_of_C HR0.out)))
                  have HC159 := Aside0.mk hC13
                  clear hA13 hC13 hi013 hsz13
                  have hcv14 := Kd.C_string (P := Try.prog) (A := A13) (c := (c0 - 8)) Try.underlying22 Try.underlying5 Try.underlying9 (Kd.C_below HR159.out HB.out); have hcv14q := hcv14; (try simp only [List.length_take, List.length_drop, Int.reduceToNat] at hcv14q); have hcv14d := fun nd => Kd.C_string (P := Try.prog) (A := A13) (c := (c0 - 8)) Try.underlying22 Try.underlying5 Try.underlying9 (Kd.C_drewN (Kd.C_below HR159.out HB.out) nd); (try simp only [List.length_take, List.length_drop, Int.reduceToNat] at hcv14d); have hcv14e := hcv14; have hcv14f := hcv14d; (try (have hmn_ : (12 : Int) ≤ (l0.length : Int) := (by first | omega | exact of_decide_eq_true (by assumption)); (try simp only [List.length_take, List.length_drop, Int.reduceToNat] at hcv14e); rw [Nat.min_eq_left (by omega)] at hcv14e; (try (rw [Nat.min_eq_left (by omega)] at hcv14d)); clear hmn_))
                  go_wp2
                  go_meet
                  case rel => exact ⟨_, (true), (by first | rfl | (simp; done) | (simp [*]; done)), H', ⟨by first | omega | exact Nat.le_refl _⟩, ⟨by repeat (first | (with_reducible first | exact HB.out | apply below_alloc | apply pw_below_drewN | apply below_drew1) | exact HB.out)⟩⟩
                · rw [if_neg c10] at H
                  have c10b0 : decide (t156 < 4) = false := decide_eq_false c10
                  clear c10
                  have H' := Aside0.mk H
                  clear H
                  obtain ⟨i015, hi015, _, hsz15, _⟩ := info_parts info5
                  obtain ⟨hcut15, hA15, hC15⟩ := print_take_of (P := Try.prog) (Value.int .u8) 0 22 5 .i64 Try.underlying22 hi015 hsz15 A0 c0 l0 4 (by omega) (of_decide_eq_true (by first | (with_reducible assumption) | assumption)) HC0.out
                  have HR158 := Aside0.mk (Kd.C_of_reads (h1 := fun _ => rfl) (hA15 _ (Kd.reads_of_C HR0.out)))
                  have HC158 := Aside0.mk hC15
                  clear hA15 hC15 hi015 hsz15
                  have hcv16 := Kd.C_string (P := Try.prog) (A := A0) (c := c0) Try.underlying22 Try.underlying5 Try.underlying9 (Kd.C_below HR158.out HB.out); have hcv16q := hcv16; (try simp only [List.length_take, List.length_drop, Int.reduceToNat] at hcv16q); have hcv16d := fun nd => Kd.C_string (P := Try.prog) (A := A0) (c := c0) Try.underlying22 Try.underlying5 Try.underlying9 (Kd.C_drewN (Kd.C_below HR158.out HB.out) nd); (try simp only [List.length_take, List.length_drop, Int.reduceToNat] at hcv16d); have hcv16e := hcv16; have hcv16f := hcv16d; (try (have hmn_ : (12 : Int) ≤ (l0.length : Int) := (by first | omega | exact of_decide_eq_true (by assumption)); (try simp only [List.length_take, List.length_drop, Int.reduceToNat] at hcv16e); rw [Nat.min_eq_left (by omega)] at hcv16e; (try (rw [Nat.min_eq_left (by omega)] at hcv16d)); clear hmn_))
                  obtain ⟨i017, hi017, _, hsz17, _⟩ := info_parts info5
                  obtain ⟨A17, hcut17, hA17, hC17⟩ := print_mid_of (P := Try.prog) (Value.int .u8) 0 22 5 .i64 .i64 Try.underlying22 hi017 hsz17 A0 c0 l0 8 12 (by omega) (by first | omega | exact of_decide_eq_true (by first | (with_reducible assumption) | assumption)) (of_decide_eq_true (by first | (with_reducible assumption) | assumption)) HC0.out
                  have HR159 := Aside0.mk (Kd.C_of_reads (h1 := fun _ => rfl) (hA17 _ (Kd.reads_of_C HR0.out)))
                  have HC159 := Aside0.mk hC17
                  clear hA17 hC17 hi017 hsz17
                  have hcv18 := Kd.C_string (P := Try.prog) (A := A17) (c := (c0 - 8)) Try.underlying22 Try.underlying5 Try.underlying9 (Kd.C_below HR159.out HB.out); have hcv18q := hcv18; (try simp only [List.length_take, List.length_drop, Int.reduceToNat] at hcv18q); have hcv18d := fun nd => Kd.C_string (P := Try.prog) (A := A17) (c := (c0 - 8)) Try.underlying22 Try.underlying5 Try.underlying9 (Kd.C_drewN (Kd.C_below HR159.out HB.out) nd); (try simp only [List.length_take, List.length_drop, Int.reduceToNat] at hcv18d); have hcv18e := hcv18; have hcv18f := hcv18d; (try (have hmn_ : (12 : Int) ≤ (l0.length : Int) := (by first | omega | exact of_decide_eq_true (by assumption)); (try simp only [List.length_take, List.length_drop, Int.reduceToNat] at hcv18e); rw [Nat.min_eq_left (by omega)] at hcv18e; (try (rw [Nat.min_eq_left (by omega)] at hcv18d)); clear hmn_))
                  go_wp2
                  go_meet
                  case rel => exact ⟨_, (((Int.tmod t156 2) == 1)), (by first | rfl | (simp; done) | (simp [*]; done)), H', ⟨by first | omega | exact Nat.le_refl _⟩, ⟨by repeat (first | (with_reducible first | exact HB.out | apply below_alloc | apply pw_below_drewN | apply below_drew1) | exact HB.out)⟩⟩
              · rw [if_neg c9] at H
                have c9b0 : ((strOfNums ((l0.take 12).drop 8)).toList == ([87, 69, 66, 80] : List UInt8)) = false := beq_eq_false_iff_ne.mpr c9
                have c9b1 : ((strOfNums ((l0.take 12).drop 8)).toList != ([87, 69, 66, 80] : List UInt8)) = true := bne_iff_ne.mpr c9
                have H' := Aside0.mk H
                clear H
                obtain ⟨i019, hi019, _, hsz19, _⟩ := info_parts info5
                obtain ⟨hcut19, hA19, hC19⟩ := print_take_of (P := Try.prog) (Value.int .u8) 0 22 5 .i64 Try.underlying22 hi019 hsz19 A0 c0 l0 4 (by omega) (of_decide_eq_true (by first | (with_reducible assumption) | assumption)) HC0.out
                have HR158 := Aside0.mk (Kd.C_of_reads (h1 := fun _ => rfl) (hA19 _ (Kd.reads_of_C HR0.out)))
                have HC158 := Aside0.mk hC19
                clear hA19 hC19 hi019 hsz19
                have hcv20 := Kd.C_string (P := Try.prog) (A := A0) (c := c0) Try.underlying22 Try.underlying5 Try.underlying9 (Kd.C_below HR158.out HB.out); have hcv20q := hcv20; (try simp only [List.length_take, List.length_drop, Int.reduceToNat] at hcv20q); have hcv20d := fun nd => Kd.C_string (P := Try.prog) (A := A0) (c := c0) Try.underlying22 Try.underlying5 Try.underlying9 (Kd.C_drewN (Kd.C_below HR158.out HB.out) nd); (try simp only [List.length_take, List.length_drop, Int.reduceToNat] at hcv20d); have hcv20e := hcv20; have hcv20f := hcv20d; (try (have hmn_ : (12 : Int) ≤ (l0.length : Int) := (by first | omega | exact of_decide_eq_true (by assumption)); (try simp only [List.length_take, List.length_drop, Int.reduceToNat] at hcv20e); rw [Nat.min_eq_left (by omega)] at hcv20e; (try (rw [Nat.min_eq_left (by omega)] at hcv20d)); clear hmn_))
                obtain ⟨i021, hi021, _, hsz21, _⟩ := info_parts info5
                obtain ⟨A21, hcut21, hA21, hC21⟩ := print_mid_of (P := Try.prog) (Value.int .u8) 0 22 5 .i64 .i64 Try.underlying22 hi021 hsz21 A0 c0 l0 8 12 (by omega) (by first | omega | exact of_decide_eq_true (by first | (with_reducible assumption) | assumption)) (of_decide_eq_true (by first | (with_reducible assumption) | assumption)) HC0.out
                have HR159 := Aside0.mk (Kd.C_of_reads (h1 := fun _ => rfl) (hA21 _ (Kd.reads_of_C HR0.out)))
                have HC159 := Aside0.mk hC21
                clear hA21 hC21 hi021 hsz21
                have hcv22 := Kd.C_string (P := Try.prog) (A := A21) (c := (c0 - 8)) Try.underlying22 Try.underlying5 Try.underlying9 (Kd.C_below HR159.out HB.out); have hcv22q := hcv22; (try simp only [List.length_take, List.length_drop, Int.reduceToNat] at hcv22q); have hcv22d := fun nd => Kd.C_string (P := Try.prog) (A := A21) (c := (c0 - 8)) Try.underlying22 Try.underlying5 Try.underlying9 (Kd.C_drewN (Kd.C_below HR159.out HB.out) nd); (try simp only [List.length_take, List.length_drop, Int.reduceToNat] at hcv22d); have hcv22e := hcv22; have hcv22f := hcv22d; (try (have hmn_ : (12 : Int) ≤ (l0.length : Int) := (by first | omega | exact of_decide_eq_true (by assumption)); (try simp only [List.length_take, List.length_drop, Int.reduceToNat] at hcv22e); rw [Nat.min_eq_left (by omega)] at hcv22e; (try (rw [Nat.min_eq_left (by omega)] at hcv22d)); clear hmn_))
                go_wp2
                go_meet
                case rel => exact ⟨_, (true), (by first | rfl | (simp; done) | (simp [*]; done)), H', ⟨by first | omega | exact Nat.le_refl _⟩, ⟨by repeat (first | (with_reducible first | exact HB.out | apply below_alloc | apply pw_below_drewN | apply below_drew1) | exact HB.out)⟩⟩
            · rw [if_neg c8] at H
              exact absurd H (by simp)
          · rw [if_neg c7] at H
            exact absurd H (by simp)
        · rw [if_neg c6] at H
          have c6b0 : ((strOfNums (l0.take 4)).toList == ([82, 73, 70, 70] : List UInt8)) = false := beq_eq_false_iff_ne.mpr c6
          have c6b1 : ((strOfNums (l0.take 4)).toList != ([82, 73, 70, 70] : List UInt8)) = true := bne_iff_ne.mpr c6
          (first | rw [c6b0] | (simp only [i64_w, i32_w]; rw [c6b0]) | skip)
          have H' := Aside0.mk H
          clear H
          obtain ⟨i023, hi023, _, hsz23, _⟩ := info_parts info5
          obtain ⟨hcut23, hA23, hC23⟩ := print_take_of (P := Try.prog) (Value.int .u8) 0 22 5 .i64 Try.underlying22 hi023 hsz23 A0 c0 l0 4 (by omega) (of_decide_eq_true (by first | (with_reducible assumption) | assumption)) HC0.out
          have HR158 := Aside0.mk (Kd.C_of_reads (h1 := fun _ => rfl) (hA23 _ (Kd.reads_of_C HR0.out)))
          have HC158 := Aside0.mk hC23
          clear hA23 hC23 hi023 hsz23
          have hcv24 := Kd.C_string (P := Try.prog) (A := A0) (c := c0) Try.underlying22 Try.underlying5 Try.underlying9 (Kd.C_below HR158.out HB.out); have hcv24q := hcv24; (try simp only [List.length_take, List.length_drop, Int.reduceToNat] at hcv24q); have hcv24d := fun nd => Kd.C_string (P := Try.prog) (A := A0) (c := c0) Try.underlying22 Try.underlying5 Try.underlying9 (Kd.C_drewN (Kd.C_below HR158.out HB.out) nd); (try simp only [List.length_take, List.length_drop, Int.reduceToNat] at hcv24d); have hcv24e := hcv24; have hcv24f := hcv24d; (try (have hmn_ : (12 : Int) ≤ (l0.length : Int) := (by first | omega | exact of_decide_eq_true (by assumption)); (try simp only [List.length_take, List.length_drop, Int.reduceToNat] at hcv24e); rw [Nat.min_eq_left (by omega)] at hcv24e; (try (rw [Nat.min_eq_left (by omega)] at hcv24d)); clear hmn_))
          go_wp2
          go_meet
          case rel => exact ⟨_, (true), (by first | rfl | (simp; done) | (simp [*]; done)), H', ⟨by first | omega | exact Nat.le_refl _⟩, ⟨by repeat (first | (with_reducible first | exact HB.out | apply below_alloc | apply pw_below_drewN | apply below_drew1) | exact HB.out)⟩⟩
      · rw [if_neg c5] at H
        exact absurd H (by simp)
    case rest =>
      clear HC4
      try clear c1
      try clear hcv1
      try clear c2
      try clear c2b0
      try clear c2b1
      try clear p2
      try clear hcv2
      try clear c5
      try clear c5b0
      try clear c5b1
      try clear c6
      try clear c6b0
      try clear c6b1
      try clear c7
      try clear c7b0
      try clear c7b1
      try clear c8
      try clear c8b0
      try clear c8b1
      try clear c9
      try clear c9b0
      try clear c9b1
      try clear c10
      try clear c10b0
      try clear hcv12
      try clear hcv14
      try clear hcv16
      try clear hcv18
      try clear hcv20
      try clear c21
      try clear hcv22
      try clear hcv24
      obtain ⟨kq, x14_3, rfl, HA, HJ3, HB⟩ := hcut
      cases kq with
      | zero => exact absurd HA.out (by simp [chunk_Scan.j0])
      | succ kj3 =>
        have H := HA.out
        clear HA
        simp only [chunk_Scan.j0] at H
        by_cases c25 : x14_3 = true
        · subst c25
          have H1 : (some (([] : List (S35)), 3)) = some (r1, r2) := by rw [if_pos rfl] at H; exact H
          clear H
          have H := H1
          clear H1
          simp only [Option.some.injEq, Prod.mk.injEq] at H
          obtain ⟨rfl, rfl⟩ := H
          go_wp2
          go_ret2
          exact ⟨_, by first | rfl | (simp [errW_none, errW_some] <;> rfl) | (simp [*, errW_none, errW_some] <;> rfl), by first | exact Kd.S_nil _ _ _ _ _ | exact Kd.N_nil _ _ _ _ _ | exact Kd.V_nil _ _ _ _ _ | exact Kd.Q_nil _ _ _ _ _ | exact Kd.R_nil _ _ _ _ _, by repeat (first | (with_reducible first | exact HB.out | apply below_alloc | apply pw_below_drewN | apply below_drew1) | exact HB.out)⟩
        · replace c25 := Bool.eq_false_iff.mpr c25
          subst c25
          have H1 : (if t156 > (IntKind.u64.wrap (wrap64 ((l0.length : Int) - 8))) then (some (([] : List (S35)), 2)) else (if 12 ≤ (wrap64 (8 + (wrap64 (t156)))) then (if (wrap64 (8 + (wrap64 (t156)))) ≤ (l0.length : Int) then ((chunk_Inner.f kj3 ((l0.take ((wrap64 (8 + (wrap64 (t156)))) : Int).toNat).drop 12)).bind fun bt161 => (some (bt161.1, bt161.2))) else (none)) else (none))) = some (r1, r2) := by rw [if_neg (show ¬ (false = true) by decide)] at H; exact H
          clear H
          have H := H1
          clear H1
          by_cases c26 : t156 > (IntKind.u64.wrap (wrap64 ((l0.length : Int) - 8)))
          · rw [if_pos c26] at H
            have c26b0 : decide ((IntKind.u64.wrap (wrap64 ((l0.length : Int) - 8))) < t156) = true := decide_eq_true c26
            clear c26
            simp only [Option.some.injEq, Prod.mk.injEq] at H
            obtain ⟨rfl, rfl⟩ := H
            go_wp2
            go_ret2
            exact ⟨_, by first | rfl | (simp [errW_none, errW_some] <;> rfl) | (simp [*, errW_none, errW_some] <;> rfl), by first | exact Kd.S_nil _ _ _ _ _ | exact Kd.N_nil _ _ _ _ _ | exact Kd.V_nil _ _ _ _ _ | exact Kd.Q_nil _ _ _ _ _ | exact Kd.R_nil _ _ _ _ _, by repeat (first | (with_reducible first | exact HB.out | apply below_alloc | apply pw_below_drewN | apply below_drew1) | exact HB.out)⟩
          · rw [if_neg c26] at H
            have c26b0 : decide ((IntKind.u64.wrap (wrap64 ((l0.length : Int) - 8))) < t156) = false := decide_eq_false c26
            clear c26
            by_cases c27 : 12 ≤ (wrap64 (8 + (wrap64 (t156))))
            · rw [if_pos c27] at H
              have c27b0 := eq_true c27
              have c27b1 : decide (12 ≤ (wrap64 (8 + (wrap64 (t156))))) = true := decide_eq_true c27
              by_cases c28 : (wrap64 (8 + (wrap64 (t156)))) ≤ (l0.length : Int)
              · rw [if_pos c28] at H
                have c28b0 := eq_true c28
                have c28b1 : decide ((wrap64 (8 + (wrap64 (t156)))) ≤ (l0.length : Int)) = true := decide_eq_true c28
                replace H := Option.bind_eq_some_iff.mp H
                obtain ⟨⟨t161, t164⟩, A290, H⟩ := H
                replace H : (some (t161, t164)) = some (r1, r2) := H
                have A29 := Aside0.mk A290
                clear A290
                simp only [Option.some.injEq, Prod.mk.injEq] at H
                obtain ⟨rfl, rfl⟩ := H
                obtain ⟨i030, hi030, _, hsz30, _⟩ := info_parts info5
                obtain ⟨A30, hcut30, hA30, hC30⟩ := print_mid_of (P := Try.prog) (Value.int .u8) 0 22 5 .i64 .i64 Try.underlying22 hi030 hsz30 A0 c0 l0 12 (wrap64 (8 + (wrap64 (t156)))) (by omega) (by first | omega | exact of_decide_eq_true (by first | (with_reducible assumption) | assumption)) (of_decide_eq_true (by first | (with_reducible assumption) | assumption)) HC0.out
                have HR160 := Aside0.mk (Kd.C_of_reads (h1 := fun _ => rfl) (hA30 _ (Kd.reads_of_C HR0.out)))
                have HC160 := Aside0.mk hC30
                clear hA30 hC30 hi030 hsz30
                go_wp2_with (first | ((with_reducible refine gate_callee (f := 11) rfl ?_); refine goesL_ (some 46) rfl rfl Try.func11 (by kernel_rfl) rfl #[.slice A30 ((l0.take ((wrap64 (8 + (wrap64 (t156)))) : Int).toNat).drop 12).length (c0 - 12)] rfl (by (try simp only [List.map_toArray, List.map_cons, List.map_nil]); first | done | (rw [show ((l0.take ((wrap64 (8 + (wrap64 (t156)))) : Int).toNat).drop 12).length = ((wrap64 (8 + (wrap64 (t156)))).toNat - 12) from (by rw [List.length_drop, List.length_take]; have h_ : ((wrap64 (8 + (wrap64 (t156)))) : Int) ≤ (l0.length : Int) := of_decide_eq_true (by first | (with_reducible assumption) | assumption); omega)] <;> rfl) | rfl | (simp only [List.length_drop, List.length_take]; rfl)) ?_; (with_reducible refine (chunk_Inner.calls kj3 (fun k_ => k_ < w.heap.size) _ _ ((l0.take ((wrap64 (8 + (wrap64 (t156)))) : Int).toNat).drop 12) t161 t164 _ ?side1 A29.out).mono ?_); (case side1 => exact Kd.V_mk HC160.out (Kd.F_below (Kd.C_F (Kd.heap_int .u8) HR160.out) (by repeat (first | (with_reducible first | exact HB.out | apply below_alloc | apply pw_below_drewN | apply below_drew1) | exact HB.out)))); rintro e w31 ⟨v162, rfl, ho0, hb⟩; refine ⟨_, rfl, ?_⟩; have n0_ := Aside0.mk (Kd.S_lower (Kd.S_mono (ok' := fun k_ => True) ho0 (fun _ hk_ => trivial)) (below_size (by repeat (first | (with_reducible first | exact HB.out | apply below_alloc | apply pw_below_drewN | apply below_drew1) | exact HB.out)))); have n1_ := Aside0.mk (below_step (by repeat (first | (with_reducible first | exact HB.out | apply below_alloc | apply pw_below_drewN | apply below_drew1) | exact HB.out)) hb); clear HB; have HO163 := n0_; have HB := n1_; clear n0_ n1_; (try clear hb); (try clear hb2); (try clear hk); (try clear hi); (try clear ho0)) | (go_at_call 11; (with_reducible refine (chunk_Inner.calls kj3 (fun k_ => k_ < w.heap.size) _ _ ((l0.take ((wrap64 (8 + (wrap64 (t156)))) : Int).toNat).drop 12) t161 t164 _ ?side1 A29.out).mono ?_); (case side1 => exact Kd.V_mk HC160.out (Kd.F_below (Kd.C_F (Kd.heap_int .u8) HR160.out) (by repeat (first | (with_reducible first | exact HB.out | apply below_alloc | apply pw_below_drewN | apply below_drew1) | exact HB.out)))); rintro e w31 ⟨v162, rfl, ho0, hb⟩; have n0_ := Aside0.mk (Kd.S_lower (Kd.S_mono (ok' := fun k_ => True) ho0 (fun _ hk_ => trivial)) (below_size (by repeat (first | (with_reducible first | exact HB.out | apply below_alloc | apply pw_below_drewN | apply below_drew1) | exact HB.out)))); have n1_ := Aside0.mk (below_step (by repeat (first | (with_reducible first | exact HB.out | apply below_alloc | apply pw_below_drewN | apply below_drew1) | exact HB.out)) hb); clear HB; have HO163 := n0_; have HB := n1_; clear n0_ n1_; (try clear hb); (try clear hb2); (try clear hk); (try clear hi); (try clear ho0)))
                go_ret2
                exact ⟨_, by first | rfl | (simp [errW_none, errW_some] <;> rfl) | (simp [*, errW_none, errW_some] <;> rfl), by (with_reducible repeat (first | apply Kd.S_alloc | apply Kd.S_drewN | apply Kd.S_drew)); exact HO163.out, by repeat (first | (with_reducible first | exact HB.out | apply below_alloc | apply pw_below_drewN | apply below_drew1) | exact HB.out)⟩
              · rw [if_neg c28] at H
                exact absurd H (by simp)
            · rw [if_neg c27] at H
              exact absurd H (by simp)

/-! ### marquetrylaw24_answers: function 8 -/
def marquetrylaw24_answers.f : Option Bool := some true
theorem answers24_print : chunk_Print.f 40 [(⟨⟨#[97, 98, 99, 100]⟩, [7]⟩ : S35)] = some ([82, 73, 70, 70, 14, 0, 0, 0, 87, 69, 66, 80, 97, 98, 99, 100, 1, 0, 0, 0, 7, 0], 0) := by kernel_rfl
theorem answers24_scan : chunk_Scan.f 40 [82, 73, 70, 70, 14, 0, 0, 0, 87, 69, 66, 80, 97, 98, 99, 100, 1, 0, 0, 0, 7, 0] = some ([(⟨⟨#[97, 98, 99, 100]⟩, [7]⟩ : S35)], 0) := by kernel_rfl
theorem lit1_C {w : World} {g h : Nat} (h1 : w.heap[g]? = some (.cells #[.int .u8 7] 5 (0, 0))) (h2 : w.heap[h]? = some (.cells #[.string ⟨#[97, 98, 99, 100]⟩, .slice (some ⟨g, 0, none⟩) 1 1] 35 (0, 0))) : Kd.C k35 w (some ⟨h, 0, none⟩) 1 [(⟨⟨#[97, 98, 99, 100]⟩, [7]⟩ : S35)] := by
  have ha : ∀ (g i : Nat), (⟨g, 0, none⟩ : Addr).add i = ⟨g, i, none⟩ := fun g i => by unfold Addr.add; split <;> simp_all
  refine ⟨rfl, by decide, fun _ => ⟨_, rfl, fun j p hj => ?_⟩⟩
  obtain rfl : j = 0 := by have := (List.getElem?_eq_some_iff.1 hj).1; simp at this; omega
  injection hj with hj
  subst hj
  refine ⟨[.string ⟨#[97, 98, 99, 100]⟩, .slice (some ⟨g, 0, none⟩) 1 1], rfl, k35_mk w _ (A1 := some ⟨g, 0, none⟩) (c1 := 1) (by decide) ?_, fun i u hu => ?_⟩
  · refine ⟨rfl, by decide, fun _ => ⟨_, rfl, fun j p hj => ?_⟩⟩
    obtain rfl : j = 0 := by have := (List.getElem?_eq_some_iff.1 hj).1; simp at this; omega
    injection hj with hj
    subst hj
    refine ⟨[.int .u8 7], rfl, rfl, fun i u hu => ?_⟩
    obtain rfl : i = 0 := by have := (List.getElem?_eq_some_iff.1 hu).1; simp at this; omega
    injection hu with hu
    subst hu
    rw [ha, cell_of_row _ _ _ _ _ _ h1]
    rfl
  · rw [ha, cell_of_row _ _ _ _ _ _ h2, Nat.zero_mul, Nat.zero_add]
    simpa using hu
set_option maxHeartbeats 800000 in
set_option maxRecDepth 100000 in
theorem marquetrylaw24_answers.calls (r : Bool) (w : World) (h : marquetrylaw24_answers.f = some r) :
    Calls Try.prog 8 #[] w fun e w' => e = .returned (.bool r) ∧ Below w.heap.size w w' := by
  obtain rfl : true = r := Option.some.inj h
  clear h
  obtain ⟨bs, cs, hl, hp, hc, hr, hq⟩ : ∃ (bs : List Int) (cs : List S35), bs.length = 22 ∧ chunk_Print.f 40 [(⟨⟨#[97, 98, 99, 100]⟩, [7]⟩ : S35)] = some (bs, 0) ∧ cs.length = 1 ∧ (rd_T35 cs 0).f0 = ⟨#[97, 98, 99, 100]⟩ ∧ chunk_Scan.f 40 bs = some (cs, 0) := ⟨_, _, rfl, answers24_print, rfl, rfl, answers24_scan⟩
  have HP := Aside0.mk hp; clear hp
  have HQ := Aside0.mk hq; clear hq
  have HL := Aside0.mk hl; clear hl
  have HCl := Aside0.mk hc; clear hc
  have HN := Aside0.mk hr; clear hr
  have t1 : ((bs.length : Int) == 22) = true := by have := HL.out; simp [this]
  have t3 : (0 < cs.length) = True := by simp [HCl.out]
  have t2 : ((cs.length : Int) == 1) = true := by have := HCl.out; simp [this]
  have hs1 := (St.refl w).alloc #[.int .u8 7] 5
  have hs2 := hs1.alloc #[.string ⟨#[97, 98, 99, 100]⟩, .slice (some ⟨w.heap.size, 0, none⟩) 1 1] 35
  have hC := lit1_C hs2.swap.blk hs2.blk
  rw [show (w.alloc (.cells #[.int .u8 7] 5)).heap.size = w.heap.size + 1 from by simp] at hC
  have HC := Aside0.mk hC; clear hC
  have HS := Aside0.mk hs2; clear hs1 hs2
  go_enter Try.func8, Try.ntmps8
  go_wp2_with fail
  refine (chunk_Print.calls 40 _ 1 [(⟨⟨#[97, 98, 99, 100]⟩, [7]⟩ : S35)] bs 0 _ HC.out (by decide) HP.out).mono ?_; rintro e w1 ⟨v, rfl, ho, hb⟩
  obtain ⟨B, cb, rfl⟩ := Kd.R_slice ho
  have hb2 := below_then HS.out.below HS.out.below.size hb
  have hro := (Kd.R_reads' ho)
  have HR := Aside0.mk hro; clear hro ho
  have HB := Aside0.mk hb2; clear hb2 hb HS HC
  go_wp2_with fail
  refine (chunk_Scan.calls 40 B cb bs cs 0 _ HR.out.2.2 HR.out.2.1 HQ.out).mono ?_; rintro e w2 ⟨v, rfl, ho, hb⟩
  have hb2 := below_then HB.out HB.out.size hb
  have hR := Kd.S_R ho
  obtain ⟨C, cc, rfl⟩ := Kd.R_slice hR
  obtain ⟨ad, A1, c1, rfl, m0, m1, _, _⟩ := at_T35 (Kd.R_reads' hR).2.2 0 (by decide) (by have := HCl.out; omega)
  rw [HN.out, show ((0 : Int)).toNat = 0 from rfl, show 0 * 2 = 0 from rfl, Addr.add_zero'] at m0
  clear m1
  have HB2 := Aside0.mk hb2; clear hb2 hb HB HR ho hR
  go_wp2_with fail
  go_ret
  exact ⟨rfl, HB2.out⟩

/-! ### marquetryref01_Get: function 22 -/
mutual
def marquetryref01_Get.j0 : Nat → List Int → Int → Int → Bool → Option (Int × Bool)
  | 0, _, _, _, _ => none
  | k + 1, x0, x1, x2, x33 => if x33 = true then (some (0, false)) else (marquetryref01_Get.l0 k x0 x1 0 (wrap64 (x2 - 1)))
def marquetryref01_Get.l0 : Nat → List Int → Int → Int → Int → Option (Int × Bool)
  | 0, _, _, _, _ => none
  | k + 1, x0, x1, x8, x9 => if x9 ≥ 0 then (if 0 ≤ (wrap64 (x1 + x9)) then (if (wrap64 (x1 + x9)) < (x0.length : Int) then (marquetryref01_Get.l0 k x0 x1 (IntKind.u64.wrap ((IntKind.u64.wrap (x8 * 256)) + (IntKind.u64.wrap (rd x0 (wrap64 (x1 + x9)))))) (wrap64 (x9 - 1))) else (none)) else (none)) else (some (x8, true))
end
def marquetryref01_Get.f (k : Nat) (l0 : List Int) (a1 : Int) (a2 : Int) : Option (Int × Bool) := if a2 < 1 then (marquetryref01_Get.j0 k l0 a1 a2 true) else (if a2 > 8 then (marquetryref01_Get.j0 k l0 a1 a2 true) else (if a1 < 0 then (marquetryref01_Get.j0 k l0 a1 a2 true) else (if a1 > (l0.length : Int) then (marquetryref01_Get.j0 k l0 a1 a2 true) else (marquetryref01_Get.j0 k l0 a1 a2 (decide (a2 > (wrap64 ((l0.length : Int) - a1))))))))
theorem marquetryref01_Get.mono_l : ∀ k, (∀ y0 y1 y2 y3, LeO (marquetryref01_Get.j0 k y0 y1 y2 y3) (marquetryref01_Get.j0 (k + 1) y0 y1 y2 y3)) ∧ (∀ y0 y1 y2 y3, LeO (marquetryref01_Get.l0 k y0 y1 y2 y3) (marquetryref01_Get.l0 (k + 1) y0 y1 y2 y3))
  | 0 => ⟨fun _ _ _ _ r h => by simp [marquetryref01_Get.j0] at h, fun _ _ _ _ r h => by simp [marquetryref01_Get.l0] at h⟩
  | k + 1 => by
    obtain ⟨ih0, ih1⟩ := marquetryref01_Get.mono_l k
    refine ⟨?_, ?_⟩
    · intro y0 y1 y2 y3
      unfold marquetryref01_Get.j0
      repeat' first
      | (with_reducible exact ih0 _ _ _ _)
      | (with_reducible exact ih1 _ _ _ _)
      | (with_reducible exact LeO.refl _)
      | (with_reducible exact LeO.none _)
      | (with_reducible refine LeO.ite ?_ ?_)
      | (with_reducible refine LeO.bind ?_ (fun _ => ?_))
      | exact ih0 _ _ _ _
      | exact ih1 _ _ _ _
      | exact LeO.none _
      | refine LeO.ite ?_ ?_
      | refine LeO.bind ?_ (fun _ => ?_)
    · intro y0 y1 y2 y3
      unfold marquetryref01_Get.l0
      repeat' first
      | (with_reducible exact ih0 _ _ _ _)
      | (with_reducible exact ih1 _ _ _ _)
      | (with_reducible exact LeO.refl _)
      | (with_reducible exact LeO.none _)
      | (with_reducible refine LeO.ite ?_ ?_)
      | (with_reducible refine LeO.bind ?_ (fun _ => ?_))
      | exact ih0 _ _ _ _
      | exact ih1 _ _ _ _
      | exact LeO.none _
      | refine LeO.ite ?_ ?_
      | refine LeO.bind ?_ (fun _ => ?_)
theorem marquetryref01_Get.mono : ∀ a0 a1 a2 k, LeO (marquetryref01_Get.f k a0 a1 a2) (marquetryref01_Get.f (k + 1) a0 a1 a2) := by
  intro a0 a1 a2 k
  obtain ⟨ih0, ih1⟩ := marquetryref01_Get.mono_l k
  unfold marquetryref01_Get.f
  repeat' first
      | (with_reducible exact ih0 _ _ _ _)
      | (with_reducible exact ih1 _ _ _ _)
      | (with_reducible exact LeO.refl _)
      | (with_reducible exact LeO.none _)
      | (with_reducible refine LeO.ite ?_ ?_)
      | (with_reducible refine LeO.bind ?_ (fun _ => ?_))
      | exact ih0 _ _ _ _
      | exact ih1 _ _ _ _
      | exact LeO.none _
      | refine LeO.ite ?_ ?_
      | refine LeO.bind ?_ (fun _ => ?_)
set_option maxHeartbeats 8000000 in
set_option maxRecDepth 100000 in
theorem marquetryref01_Get.calls (k : Nat) (A0 : Option Addr) (c0 : Nat) (l0 : List Int) (a1 : Int) (a2 : Int) (r1 : Int) (r2 : Bool) (w : World) (hr0 : Kd.C (Kd.int .u8) w A0 l0.length l0) (hc0 : l0.length ≤ c0) (h : marquetryref01_Get.f k l0 a1 a2 = some (r1, r2)) :
    Calls Try.prog 22 #[.slice A0 l0.length c0, .int .i64 a1, .int .i64 a2] w fun e w' => e = .returned (.tuple #[.int .u64 r1, .bool r2]) ∧ Drawn0 w w' := by
  have HR0 := Aside0.mk hr0
  have HC0 := Aside0.mk hc0
  clear hr0 hc0
  have H : (if a2 < 1 then (marquetryref01_Get.j0 k l0 a1 a2 true) else (if a2 > 8 then (marquetryref01_Get.j0 k l0 a1 a2 true) else (if a1 < 0 then (marquetryref01_Get.j0 k l0 a1 a2 true) else (if a1 > (l0.length : Int) then (marquetryref01_Get.j0 k l0 a1 a2 true) else (marquetryref01_Get.j0 k l0 a1 a2 (decide (a2 > (wrap64 ((l0.length : Int) - a1))))))))) = some (r1, r2) := h
  clear h
  have HC4 := Aside0.mk H
  clear H
  go_enter Try.func22, Try.ntmps22
  go_upto_region 1 with (fail)
  go_cut [33] (fun v33 wc => ∃ (kq : Nat) (x33_3 : Bool), v33 = .bool x33_3 ∧ Aside0 (marquetryref01_Get.j0 kq l0 a1 a2 x33_3 = some (r1, r2)) ∧ Aside0 (kq ≤ k) ∧ Drawn0 w wc)
  case first =>
    have H := HC4.out
    clear HC4
    by_cases c5 : a2 < 1
    · rw [if_pos c5] at H
      have c5b0 : decide (a2 < 1) = true := decide_eq_true c5
      clear c5
      (first | rw [c5b0] | (simp only [i64_w, i32_w]; rw [c5b0]) | skip)
      have H' := Aside0.mk H
      clear H
      go_wp2
      go_meet
      case rel => exact ⟨_, (true), (by first | rfl | (simp; done) | (simp [*]; done)), H', ⟨by first | omega | exact Nat.le_refl _⟩, by repeat (first | exact Drawn0.refl _ | apply Drawn0.step)⟩
    · rw [if_neg c5] at H
      have c5b0 : decide (a2 < 1) = false := decide_eq_false c5
      clear c5
      (first | rw [c5b0] | (simp only [i64_w, i32_w]; rw [c5b0]) | skip)
      by_cases c6 : a2 > 8
      · rw [if_pos c6] at H
        have c6b0 : decide (8 < a2) = true := decide_eq_true c6
        clear c6
        have H' := Aside0.mk H
        clear H
        go_wp2
        go_meet
        case rel => exact ⟨_, (true), (by first | rfl | (simp; done) | (simp [*]; done)), H', ⟨by first | omega | exact Nat.le_refl _⟩, by repeat (first | exact Drawn0.refl _ | apply Drawn0.step)⟩
      · rw [if_neg c6] at H
        have c6b0 : decide (8 < a2) = false := decide_eq_false c6
        clear c6
        by_cases c7 : a1 < 0
        · rw [if_pos c7] at H
          have c7b0 : decide (a1 < 0) = true := decide_eq_true c7
          clear c7
          have H' := Aside0.mk H
          clear H
          go_wp2
          go_meet
          case rel => exact ⟨_, (true), (by first | rfl | (simp; done) | (simp [*]; done)), H', ⟨by first | omega | exact Nat.le_refl _⟩, by repeat (first | exact Drawn0.refl _ | apply Drawn0.step)⟩
        · rw [if_neg c7] at H
          have c7b0 : decide (a1 < 0) = false := decide_eq_false c7
          clear c7
          by_cases c8 : a1 > (l0.length : Int)
          · rw [if_pos c8] at H
            have c8b0 : decide ((l0.length : Int) < a1) = true := decide_eq_true c8
            clear c8
            have H' := Aside0.mk H
            clear H
            go_wp2
            go_meet
            case rel => exact ⟨_, (true), (by first | rfl | (simp; done) | (simp [*]; done)), H', ⟨by first | omega | exact Nat.le_refl _⟩, by repeat (first | exact Drawn0.refl _ | apply Drawn0.step)⟩
          · rw [if_neg c8] at H
            have c8b0 : decide ((l0.length : Int) < a1) = false := decide_eq_false c8
            clear c8
            have H' := Aside0.mk H
            clear H
            go_wp2
            go_meet
            case rel => exact ⟨_, (decide (a2 > (wrap64 ((l0.length : Int) - a1)))), (by first | rfl | (simp; done) | (simp [*]; done)), H', ⟨by first | omega | exact Nat.le_refl _⟩, by repeat (first | exact Drawn0.refl _ | apply Drawn0.step)⟩
  case rest =>
    clear HC4
    try clear c2
    try clear p2
    try clear c5
    try clear c5b0
    try clear c6
    try clear c6b0
    try clear p6
    try clear c7
    try clear c7b0
    try clear c8
    try clear c8b0
    obtain ⟨kq, x33_3, rfl, HA, HJ3, ⟨mc3, rfl⟩⟩ := hcut
    cases kq with
    | zero => exact absurd HA.out (by simp [marquetryref01_Get.j0])
    | succ kj3 =>
      have H := HA.out
      clear HA
      simp only [marquetryref01_Get.j0] at H
      by_cases c9 : x33_3 = true
      · subst c9
        have H1 : (some (0, false)) = some (r1, r2) := by rw [if_pos rfl] at H; exact H
        clear H
        have H := H1
        clear H1
        simp only [Option.some.injEq, Prod.mk.injEq] at H
        obtain ⟨rfl, rfl⟩ := H
        go_wp2
        go_ret2
        exact ⟨by first | rfl | (simp; done) | (simp [*]; done), by repeat (first | exact Drawn0.refl _ | apply Drawn0.step)⟩
      · replace c9 := Bool.eq_false_iff.mpr c9
        subst c9
        have H1 : (marquetryref01_Get.l0 kj3 l0 a1 0 (wrap64 (a2 - 1))) = some (r1, r2) := by rw [if_neg (show ¬ (false = true) by decide)] at H; exact H
        clear H
        have H := H1
        clear H1
        have H' := Aside0.mk H
        clear H
        go_wp2
        go_loopg [8, 9] kj3 (fun kq v8 v9 w' => ∃ (x8_2 : Int) (x9_2 : Int), v8 = .int .u64 x8_2 ∧ v9 = .int .i64 x9_2 ∧ Aside0 (marquetryref01_Get.l0 kq l0 a1 x8_2 x9_2 = some (r1, r2)) ∧ Aside0 (kq ≤ kj3) ∧ Drawn0 w w')
        case atStart => exact ⟨(0), (wrap64 (a2 - 1)), (by first | rfl | (simp; done) | (simp [*]; done)), (by first | rfl | (simp; done) | (simp [*]; done)), H', ⟨Nat.le_refl _⟩, by repeat (first | exact Drawn0.refl _ | apply Drawn0.step)⟩
        case round =>
          clear H'
          try clear c2
          try clear p2
          try clear c3
          try clear c5
          try clear c5b0
          try clear c6
          try clear c6b0
          try clear p6
          try clear c7
          try clear c7b0
          try clear c8
          try clear c8b0
          try clear c9
          try clear p2
          try clear p6
          obtain ⟨x8_2, x9_2, rfl, rfl, HA, HK2, ⟨m2, rfl⟩⟩ := hrel
          cases gk with
          | zero => exact absurd HA.out (by simp [marquetryref01_Get.l0])
          | succ k2 =>
            have H := HA.out
            clear HA
            simp only [marquetryref01_Get.l0] at H
            by_cases c10 : x9_2 ≥ 0
            · rw [if_pos c10] at H
              have c10b0 : decide (0 ≤ x9_2) = true := decide_eq_true c10
              clear c10
              obtain ⟨ji11, hji11⟩ : ∃ j_ : Int, (wrap64 (a1 + x9_2)) = j_ := ⟨_, rfl⟩
              replace H : (if 0 ≤ (ji11) then (if (ji11) < (l0.length : Int) then (marquetryref01_Get.l0 k2 l0 a1 (IntKind.u64.wrap ((IntKind.u64.wrap (x8_2 * 256)) + (IntKind.u64.wrap (rd l0 (ji11))))) (wrap64 (x9_2 - 1))) else (none)) else (none)) = some (r1, r2) := by first | (rw [hji11] at H; exact H) | (simp only [hji11] at H ⊢; exact H)
              have hji11w : (IntKind.i64.wrap (a1 + x9_2)) = ji11 := (i64_w _).trans hji11
              by_cases c12 : 0 ≤ (ji11)
              · rw [if_pos c12] at H
                have c12b0 : decide (0 ≤ (ji11)) = true := decide_eq_true c12
                clear c12
                by_cases c13 : (ji11) < (l0.length : Int)
                · rw [if_pos c13] at H
                  have c13b0 : decide ((ji11) < (l0.length : Int)) = true := decide_eq_true c13
                  clear c13
                  have H' := Aside0.mk H
                  clear H
                  have p165 : 0 ≤ ((ji11) : Int) := of_decide_eq_true (by first | (with_reducible assumption) | assumption)
                  have q165 : (ji11) < (l0.length : Int) := of_decide_eq_true (by first | (with_reducible assumption) | assumption)
                  obtain ⟨ad165, e165, hx165_0⟩ := Kd.at_int HR0.out (ji11) p165 q165
                  cases e165
                  replace p165 := eq_true p165
                  replace q165 := eq_true q165
                  go_wp2
                  go_roundg k2
                  case measure => have := HJ3.out; have := HK2.out; omega
                  case rel => exact ⟨(IntKind.u64.wrap ((IntKind.u64.wrap (x8_2 * 256)) + (IntKind.u64.wrap (rd l0 (ji11))))), (wrap64 (x9_2 - 1)), (by first | rfl | (simp; done) | (simp only [← hji11] <;> (first | rfl | simp)) | (simp [*]; done)), (by first | rfl | (simp; done) | (simp [*]; done)), H', ⟨by have := HJ3.out; have := HK2.out; omega⟩, by repeat (first | exact Drawn0.refl _ | apply Drawn0.step)⟩
                · rw [if_neg c13] at H
                  exact absurd H (by simp)
              · rw [if_neg c12] at H
                exact absurd H (by simp)
            · rw [if_neg c10] at H
              have c10b0 : decide (0 ≤ x9_2) = false := decide_eq_false c10
              clear c10
              simp only [Option.some.injEq, Prod.mk.injEq] at H
              obtain ⟨rfl, rfl⟩ := H
              go_wp2
              go_ret2
              exact ⟨by first | rfl | (simp; done) | (simp [*]; done), by repeat (first | exact Drawn0.refl _ | apply Drawn0.step)⟩

/-! ### marquetryref24_Name: function 17 -/
def marquetryref24_Name.l0 : Nat → ByteArray → Int → Option (Bool)
  | 0, _, _ => none
  | k + 1, x0, x3 => if x3 < (x0.size : Int) then (if 0 ≤ x3 then (if (bt x0 x3) < 32 then (some false) else (if (bt x0 x3) > 126 then (some false) else (marquetryref24_Name.l0 k x0 (wrap64 (x3 + 1))))) else (none)) else (some ((x0.size : Int) == 4))
def marquetryref24_Name.f (k : Nat) (a0 : ByteArray) : Option (Bool) := marquetryref24_Name.l0 k a0 0
theorem marquetryref24_Name.mono_l : ∀ k, (∀ y0 y1, LeO (marquetryref24_Name.l0 k y0 y1) (marquetryref24_Name.l0 (k + 1) y0 y1))
  | 0 => fun _ _ r h => by simp [marquetryref24_Name.l0] at h
  | k + 1 => by
    have ih0 := marquetryref24_Name.mono_l k
    · intro y0 y1
      unfold marquetryref24_Name.l0
      repeat' first
      | (with_reducible exact ih0 _ _)
      | (with_reducible exact LeO.refl _)
      | (with_reducible exact LeO.none _)
      | (with_reducible refine LeO.ite ?_ ?_)
      | (with_reducible refine LeO.bind ?_ (fun _ => ?_))
      | exact ih0 _ _
      | exact LeO.none _
      | refine LeO.ite ?_ ?_
      | refine LeO.bind ?_ (fun _ => ?_)
theorem marquetryref24_Name.mono : ∀ a0 k, LeO (marquetryref24_Name.f k a0) (marquetryref24_Name.f (k + 1) a0) := by
  intro a0 k
  have ih0 := marquetryref24_Name.mono_l k
  unfold marquetryref24_Name.f
  repeat' first
      | (with_reducible exact ih0 _ _)
      | (with_reducible exact LeO.refl _)
      | (with_reducible exact LeO.none _)
      | (with_reducible refine LeO.ite ?_ ?_)
      | (with_reducible refine LeO.bind ?_ (fun _ => ?_))
      | exact ih0 _ _
      | exact LeO.none _
      | refine LeO.ite ?_ ?_
      | refine LeO.bind ?_ (fun _ => ?_)
set_option maxHeartbeats 8000000 in
set_option maxRecDepth 100000 in
theorem marquetryref24_Name.calls (k : Nat) (a0 : ByteArray) (r : Bool) (w : World) (h : marquetryref24_Name.f k a0 = some r) :
    Calls Try.prog 17 #[.string a0] w fun e w' => e = .returned (.bool r) ∧ Drawn0 w w' := by
  have H : (marquetryref24_Name.l0 k a0 0) = some r := h
  clear h
  have H' := Aside0.mk H
  clear H
  go_enter Try.func17, Try.ntmps17
  go_wp2
  go_loopg [3] k (fun kq v3 w' => ∃ (x3_1 : Int), v3 = .int .i64 x3_1 ∧ Aside0 (marquetryref24_Name.l0 kq a0 x3_1 = some r) ∧ Aside0 (kq ≤ k) ∧ Drawn0 w w')
  case atStart => exact ⟨(0), (by first | rfl | (simp; done) | (simp [*]; done)), H', ⟨Nat.le_refl _⟩, by repeat (first | exact Drawn0.refl _ | apply Drawn0.step)⟩
  case round =>
    clear H'
    try clear c1
    obtain ⟨x3_1, rfl, HA, HK1, ⟨m1, rfl⟩⟩ := hrel
    cases gk with
    | zero => exact absurd HA.out (by simp [marquetryref24_Name.l0])
    | succ k1 =>
      have H := HA.out
      clear HA
      simp only [marquetryref24_Name.l0] at H
      by_cases c2 : x3_1 < (a0.size : Int)
      · rw [if_pos c2] at H
        have c2b0 : decide (x3_1 < (a0.size : Int)) = true := decide_eq_true c2
        clear c2
        by_cases c3 : 0 ≤ x3_1
        · rw [if_pos c3] at H
          have c3b0 : decide (0 ≤ x3_1) = true := decide_eq_true c3
          clear c3
          by_cases c5 : (bt a0 x3_1) < 32
          · rw [if_pos c5] at H
            have c5b0 : decide ((bt a0 x3_1) < 32) = true := decide_eq_true c5
            clear c5
            obtain rfl := Option.some.inj H
            have p4 : 0 ≤ (x3_1 : Int) := of_decide_eq_true (by first | (with_reducible assumption) | assumption)
            have q4 : x3_1 < (a0.size : Int) := of_decide_eq_true (by first | (with_reducible assumption) | assumption)
            have hx4 := bt_at a0 x3_1
            replace p4 := eq_true p4
            replace q4 := eq_true q4
            go_wp2
            go_ret
            exact ⟨by first | rfl | (simp; done) | (simp [*]; done), by repeat (first | exact Drawn0.refl _ | apply Drawn0.step)⟩
          · rw [if_neg c5] at H
            have c5b0 : decide ((bt a0 x3_1) < 32) = false := decide_eq_false c5
            clear c5
            by_cases c7 : (bt a0 x3_1) > 126
            · rw [if_pos c7] at H
              have c7b0 : decide (126 < (bt a0 x3_1)) = true := decide_eq_true c7
              clear c7
              obtain rfl := Option.some.inj H
              have p4 : 0 ≤ (x3_1 : Int) := of_decide_eq_true (by first | (with_reducible assumption) | assumption)
              have q4 : x3_1 < (a0.size : Int) := of_decide_eq_true (by first | (with_reducible assumption) | assumption)
              have hx4 := bt_at a0 x3_1
              replace p4 := eq_true p4
              replace q4 := eq_true q4
              have p6 : 0 ≤ (x3_1 : Int) := of_decide_eq_true (by first | (with_reducible assumption) | assumption)
              have q6 : x3_1 < (a0.size : Int) := of_decide_eq_true (by first | (with_reducible assumption) | assumption)
              have hx6 := bt_at a0 x3_1
              replace p6 := eq_true p6
              replace q6 := eq_true q6
              go_wp2
              go_ret
              exact ⟨by first | rfl | (simp; done) | (simp [*]; done), by repeat (first | exact Drawn0.refl _ | apply Drawn0.step)⟩
            · rw [if_neg c7] at H
              have c7b0 : decide (126 < (bt a0 x3_1)) = false := decide_eq_false c7
              clear c7
              have H' := Aside0.mk H
              clear H
              have p4 : 0 ≤ (x3_1 : Int) := of_decide_eq_true (by first | (with_reducible assumption) | assumption)
              have q4 : x3_1 < (a0.size : Int) := of_decide_eq_true (by first | (with_reducible assumption) | assumption)
              have hx4 := bt_at a0 x3_1
              replace p4 := eq_true p4
              replace q4 := eq_true q4
              have p6 : 0 ≤ (x3_1 : Int) := of_decide_eq_true (by first | (with_reducible assumption) | assumption)
              have q6 : x3_1 < (a0.size : Int) := of_decide_eq_true (by first | (with_reducible assumption) | assumption)
              have hx6 := bt_at a0 x3_1
              replace p6 := eq_true p6
              replace q6 := eq_true q6
              go_wp2
              go_roundg k1
              case measure => have := HK1.out; omega
              case rel => exact ⟨(wrap64 (x3_1 + 1)), (by first | rfl | (simp; done) | (simp [*]; done)), H', ⟨by have := HK1.out; omega⟩, by repeat (first | exact Drawn0.refl _ | apply Drawn0.step)⟩
        · rw [if_neg c3] at H
          exact absurd H (by simp)
      · rw [if_neg c2] at H
        have c2b0 : decide (x3_1 < (a0.size : Int)) = false := decide_eq_false c2
        clear c2
        obtain rfl := Option.some.inj H
        go_wp2
        go_ret
        exact ⟨by first | rfl | (simp; done) | (simp [*]; done), by repeat (first | exact Drawn0.refl _ | apply Drawn0.step)⟩

end Go.Proofs.Ytfbkbbognabkkaa.P
