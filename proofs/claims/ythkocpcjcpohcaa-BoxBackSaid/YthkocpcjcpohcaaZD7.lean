/- The part of our texts, and of the print's, that these laws' proofs use. -/
import Derived.Test.YthkocpcjcpohcaaZD6
set_option linter.unusedVariables false
set_option linter.unusedSimpArgs false
section
namespace Go.Proofs.Ythkocpcjcpohcaa.P
open Go.RowKit Go.Proofs.YthkocpcjcpohcaaW.PrintWords Go.Proofs.YthkocpcjcpohcaaW.PrintLast Go.Proofs.YthkocpcjcpohcaaW.PrintMore
attribute [local go_sem] max2_int min2_int max_two min_two max_three min_three max_four min_four   -- for this text's walks alone
def chunk_Scan.j0 : Nat → List Int → Int → Bool → Option ((List (S42)) × Int)
  | 0, _, _, _ => none
  | k + 1, x0, x4, x14 => if x14 = true then (some (([] : List (S42)), 3)) else (if x4 > (IntKind.u64.wrap (wrap64 ((x0.length : Int) - 8))) then (some (([] : List (S42)), 2)) else (if 12 ≤ (wrap64 (8 + (wrap64 (x4)))) then (if (wrap64 (8 + (wrap64 (x4)))) ≤ (x0.length : Int) then ((chunk_Inner.f k ((x0.take ((wrap64 (8 + (wrap64 (x4)))) : Int).toNat).drop 12)).bind fun bt188 => (some (bt188.1, bt188.2))) else (none)) else (none)))
def chunk_Scan.f (k : Nat) (l0 : List Int) : Option ((List (S42)) × Int) := if (l0.length : Int) < 12 then (some (([] : List (S42)), 2)) else ((le_Get.f k l0 4 4).bind fun bt183 => (if 4 ≤ (l0.length : Int) then (if (strOfNums (l0.take 4)).toList = ([82, 73, 70, 70] : List UInt8) then (if 8 ≤ 12 then (if 12 ≤ (l0.length : Int) then (if (strOfNums ((l0.take 12).drop 8)).toList = ([87, 69, 66, 80] : List UInt8) then (if bt183.1 < 4 then (chunk_Scan.j0 k l0 bt183.1 true) else (chunk_Scan.j0 k l0 bt183.1 ((Int.tmod bt183.1 2) == 1))) else (chunk_Scan.j0 k l0 bt183.1 true)) else (none)) else (none)) else (chunk_Scan.j0 k l0 bt183.1 true)) else (none)))
theorem chunk_Scan.mono_l : ∀ k, (∀ y0 y1 y2, LeO (chunk_Scan.j0 k y0 y1 y2) (chunk_Scan.j0 (k + 1) y0 y1 y2))
  | 0 => fun _ _ _ r h => by simp [chunk_Scan.j0] at h
  | k + 1 => by
    have ih0 := chunk_Scan.mono_l k
    · intro y0 y1 y2
      unfold chunk_Scan.j0
      repeat' first
      | (with_reducible exact ih0 _ _ _)
      | (with_reducible exact chunk_Inner.mono _ _)
      | (with_reducible exact le_Get.mono _ _ _ _)
      | (with_reducible exact LeO.refl _)
      | (with_reducible exact LeO.none _)
      | (with_reducible refine LeO.ite ?_ ?_)
      | (with_reducible refine LeO.bind ?_ (fun _ => ?_))
      | exact ih0 _ _ _
      | exact chunk_Inner.mono _ _
      | exact le_Get.mono _ _ _ _
      | exact LeO.none _
      | refine LeO.ite ?_ ?_
      | refine LeO.bind ?_ (fun _ => ?_)
theorem chunk_Scan.mono : ∀ a0 k, LeO (chunk_Scan.f k a0) (chunk_Scan.f (k + 1) a0) := by
  intro a0 k
  have ih0 := chunk_Scan.mono_l k
  unfold chunk_Scan.f
  repeat' first
      | (with_reducible exact ih0 _ _ _)
      | (with_reducible exact chunk_Inner.mono _ _)
      | (with_reducible exact le_Get.mono _ _ _ _)
      | (with_reducible exact LeO.refl _)
      | (with_reducible exact LeO.none _)
      | (with_reducible refine LeO.ite ?_ ?_)
      | (with_reducible refine LeO.bind ?_ (fun _ => ?_))
      | exact ih0 _ _ _
      | exact chunk_Inner.mono _ _
      | exact le_Get.mono _ _ _ _
      | exact LeO.none _
      | refine LeO.ite ?_ ?_
      | refine LeO.bind ?_ (fun _ => ?_)
set_option maxHeartbeats 8000000 in
set_option maxRecDepth 100000 in
theorem chunk_Scan.calls (k : Nat) (A0 : Option Addr) (c0 : Nat) (l0 : List Int) (r1 : List (S42)) (r2 : Int) (w : World) (hr0 : Kd.C (Kd.int .u8) w A0 l0.length l0) (hc0 : l0.length ≤ c0) (h : chunk_Scan.f k l0 = some (r1, r2)) :
    Calls Try.prog 33 #[.slice A0 l0.length c0] w fun e w' => ∃ v0_ : Value, e = .returned (.tuple #[v0_, .int .i64 r2]) ∧ Kd.S k42 42 w' w.heap.size (fun _ => True) v0_ r1 ∧ Below w.heap.size w w' := by
  have HR0 := asiD hr0
  have HC0 := asiD hc0
  clear hr0 hc0
  have HB := asiD (Below.refl w.heap.size w)
  have H : (if (l0.length : Int) < 12 then (some (([] : List (S42)), 2)) else ((le_Get.f k l0 4 4).bind fun bt183 => (if 4 ≤ (l0.length : Int) then (if (strOfNums (l0.take 4)).toList = ([82, 73, 70, 70] : List UInt8) then (if 8 ≤ 12 then (if 12 ≤ (l0.length : Int) then (if (strOfNums ((l0.take 12).drop 8)).toList = ([87, 69, 66, 80] : List UInt8) then (if bt183.1 < 4 then (chunk_Scan.j0 k l0 bt183.1 true) else (chunk_Scan.j0 k l0 bt183.1 ((Int.tmod bt183.1 2) == 1))) else (chunk_Scan.j0 k l0 bt183.1 true)) else (none)) else (none)) else (chunk_Scan.j0 k l0 bt183.1 true)) else (none)))) = some (r1, r2) := h
  clear h
  by_cases c2 : (l0.length : Int) < 12
  · rw [if_pos c2] at H
    have c2b0 : decide ((l0.length : Int) < 12) = true := decide_eq_true c2
    have c2b1 : decide (l0.length < 12) = true := decide_eq_true (by omega)
    clear c2
    simp only [Option.some.injEq, Prod.mk.injEq] at H
    obtain ⟨rfl, rfl⟩ := H
    go_enter Try.func33, Try.ntmps33
    go_wp2
    go_ret2
    exact ⟨_, by first | rfl | (simp [errW_none, errW_some] <;> rfl) | (simp [*, errW_none, errW_some] <;> rfl), by first | exact Kd.S_nil _ _ _ _ _ | exact Kd.N_nil _ _ _ _ _ | exact Kd.V_nil _ _ _ _ _ | exact Kd.Q_nil _ _ _ _ _ | exact Kd.R_nil _ _ _ _ _, by repeat (first | (with_reducible first | exact HB.out | apply below_alloc | apply pw_below_drewN | apply below_drew1) | exact HB.out)⟩
  · rw [if_neg c2] at H
    have c2b0 : decide ((l0.length : Int) < 12) = false := decide_eq_false c2
    have c2b1 : decide (l0.length < 12) = false := decide_eq_false (by omega)
    clear c2
    replace H := Option.bind_eq_some_iff.mp H
    obtain ⟨⟨t183, t184⟩, A30, H⟩ := H
    replace H : (if 4 ≤ (l0.length : Int) then (if (strOfNums (l0.take 4)).toList = ([82, 73, 70, 70] : List UInt8) then (if 8 ≤ 12 then (if 12 ≤ (l0.length : Int) then (if (strOfNums ((l0.take 12).drop 8)).toList = ([87, 69, 66, 80] : List UInt8) then (if t183 < 4 then (chunk_Scan.j0 k l0 t183 true) else (chunk_Scan.j0 k l0 t183 ((Int.tmod t183 2) == 1))) else (chunk_Scan.j0 k l0 t183 true)) else (none)) else (none)) else (chunk_Scan.j0 k l0 t183 true)) else (none)) = some (r1, r2) := H
    have A3 := asiD A30
    clear A30
    have HC4 := asiD H
    clear H
    go_enter Try.func33, Try.ntmps33
    go_upto_region 4 with (first | ((with_reducible refine gate_callee (f := 68) rfl ?_); refine goesL_ (some 11) rfl rfl Try.func68 (by kernel_rfl) rfl #[.slice A0 l0.length c0, .int .i64 4, .int .i64 4] rfl (by (try simp only [List.map_toArray, List.map_cons, List.map_nil]); first | done | rfl | (simp only [List.length_drop, List.length_take]; rfl)) ?_; (with_reducible refine (le_Get.calls k _ _ l0 4 4 t183 t184 _ ?side1 ?side2 A3.out).mono ?_); (case side1 => repeat (first | exact HR0.out | (with_reducible refine Kd.C_alloc ?_ _) | (with_reducible refine Kd.C_drewN ?_ _) | (with_reducible refine Kd.C_drew ?_))); (case side2 => exact HC0.out); rintro e w' ⟨rfl, ⟨nd, rfl⟩⟩; refine ⟨_, rfl, ?_⟩) | (go_at_call 68; (with_reducible refine (le_Get.calls k _ _ l0 4 4 t183 t184 _ ?side1 ?side2 A3.out).mono ?_); (case side1 => repeat (first | exact HR0.out | (with_reducible refine Kd.C_alloc ?_ _) | (with_reducible refine Kd.C_drewN ?_ _) | (with_reducible refine Kd.C_drew ?_))); (case side2 => exact HC0.out); rintro e w' ⟨rfl, ⟨nd, rfl⟩⟩))
    (try simp only [Act.put, List.setIfInBounds_toArray, List.set_cons_zero, List.set_cons_succ])
    go_cut [14] (fun v14 wc => ∃ (kq : Nat) (x14_3 : Bool), v14 = .bool x14_3 ∧ Aside0 (chunk_Scan.j0 kq l0 t183 x14_3 = some (r1, r2)) ∧ Aside0 (kq ≤ k) ∧ Aside0 (Below w.heap.size w wc))
    case first =>
      have H := HC4.out
      clear HC4
      by_cases c5 : 4 ≤ (l0.length : Int)
      · rw [if_pos c5] at H
        have c5b0 := eq_true c5
        have c5b1 : decide (4 ≤ (l0.length : Int)) = true := decide_eq_true c5
        clear c5
        by_cases c6 : (strOfNums (l0.take 4)).toList = ([82, 73, 70, 70] : List UInt8)
        · rw [if_pos c6] at H
          have c6b0 : ((strOfNums (l0.take 4)).toList == ([82, 73, 70, 70] : List UInt8)) = true := beq_iff_eq.mpr c6
          have c6b1 : ((strOfNums (l0.take 4)).toList != ([82, 73, 70, 70] : List UInt8)) = false := bne_eq_false_iff_eq.mpr c6
          clear c6
          (first | rw [c6b0] | (simp only [i64_w, i32_w]; rw [c6b0]) | skip)
          by_cases c7 : 8 ≤ 12
          · rw [if_pos c7] at H
            have c7b0 := eq_true c7
            have c7b1 : decide (8 ≤ 12) = true := decide_eq_true c7
            clear c7
            by_cases c8 : 12 ≤ (l0.length : Int)
            · rw [if_pos c8] at H
              have c8b0 := eq_true c8
              have c8b1 : decide (12 ≤ (l0.length : Int)) = true := decide_eq_true c8
              clear c8
              by_cases c9 : (strOfNums ((l0.take 12).drop 8)).toList = ([87, 69, 66, 80] : List UInt8)
              · rw [if_pos c9] at H
                have c9b0 : ((strOfNums ((l0.take 12).drop 8)).toList == ([87, 69, 66, 80] : List UInt8)) = true := beq_iff_eq.mpr c9
                have c9b1 : ((strOfNums ((l0.take 12).drop 8)).toList != ([87, 69, 66, 80] : List UInt8)) = false := bne_eq_false_iff_eq.mpr c9
                clear c9
                by_cases c10 : t183 < 4
                · rw [if_pos c10] at H
                  have c10b0 : decide (t183 < 4) = true := decide_eq_true c10
                  clear c10
                  have H' := asiD H
                  clear H
                  obtain ⟨i011, hi011, _, hsz11, _⟩ := info_parts info5
                  obtain ⟨hcut11, hA11, hC11⟩ := print_take_of (P := Try.prog) (Value.int .u8) 0 23 5 .i64 Try.underlying23 hi011 hsz11 A0 c0 l0 4 (by omega) (of_decide_eq_true (by first | (with_reducible assumption) | assumption)) HC0.out
                  have HR185 := asiD (Kd.C_of_reads (h1 := fun _ => rfl) (hA11 _ (Kd.reads_of_C HR0.out)))
                  have HC185 := asiD hC11
                  clear hA11 hC11 hi011 hsz11
                  have hcv12 := Kd.C_string (P := Try.prog) (A := A0) (c := c0) Try.underlying23 Try.underlying5 Try.underlying9 (Kd.C_below HR185.out HB.out); have hcv12q := hcv12; (try simp only [List.length_take, List.length_drop, Int.reduceToNat] at hcv12q); have hcv12d := fun nd => Kd.C_string (P := Try.prog) (A := A0) (c := c0) Try.underlying23 Try.underlying5 Try.underlying9 (Kd.C_drewN (Kd.C_below HR185.out HB.out) nd); (try simp only [List.length_take, List.length_drop, Int.reduceToNat] at hcv12d); have hcv12e := hcv12; have hcv12f := hcv12d
                  obtain ⟨i013, hi013, _, hsz13, _⟩ := info_parts info5
                  obtain ⟨A13, hcut13, hA13, hC13⟩ := print_mid_of (P := Try.prog) (Value.int .u8) 0 23 5 .i64 .i64 Try.underlying23 hi013 hsz13 A0 c0 l0 8 12 (by omega) (by first | omega | exact of_decide_eq_true (by first | (with_reducible assumption) | assumption)) (of_decide_eq_true (by first | (with_reducible assumption) | assumption)) HC0.out
                  have HR186 := asiD (Kd.C_of_reads (h1 := fun _ => rfl) (hA13 _ (Kd.reads_of_C HR0.out)))
                  have HC186 := asiD hC13
                  clear hA13 hC13 hi013 hsz13
                  have hcv14 := Kd.C_string (P := Try.prog) (A := A13) (c := (c0 - 8)) Try.underlying23 Try.underlying5 Try.underlying9 (Kd.C_below HR186.out HB.out); have hcv14q := hcv14; (try simp only [List.length_take, List.length_drop, Int.reduceToNat] at hcv14q); have hcv14d := fun nd => Kd.C_string (P := Try.prog) (A := A13) (c := (c0 - 8)) Try.underlying23 Try.underlying5 Try.underlying9 (Kd.C_drewN (Kd.C_below HR186.out HB.out) nd); (try simp only [List.length_take, List.length_drop, Int.reduceToNat] at hcv14d); have hcv14e := hcv14; have hcv14f := hcv14d; (try (have hmn_ : (12 : Int) ≤ (l0.length : Int) := (by first | omega | exact of_decide_eq_true (by assumption)); (try simp only [List.length_take, List.length_drop, Int.reduceToNat] at hcv14e); rw [Nat.min_eq_left (by omega)] at hcv14e; (try (rw [Nat.min_eq_left (by omega)] at hcv14d)); clear hmn_))
                  go_wp2
                  go_meet
                  case rel => exact ⟨_, (true), (by first | rfl | (simp; done) | (simp [*]; done)), H', ⟨by first | omega | exact Nat.le_refl _⟩, ⟨by repeat (first | (with_reducible first | exact HB.out | apply below_alloc | apply pw_below_drewN | apply below_drew1) | exact HB.out)⟩⟩
                · rw [if_neg c10] at H
                  have c10b0 : decide (t183 < 4) = false := decide_eq_false c10
                  clear c10
                  have H' := asiD H
                  clear H
                  obtain ⟨i015, hi015, _, hsz15, _⟩ := info_parts info5
                  obtain ⟨hcut15, hA15, hC15⟩ := print_take_of (P := Try.prog) (Value.int .u8) 0 23 5 .i64 Try.underlying23 hi015 hsz15 A0 c0 l0 4 (by omega) (of_decide_eq_true (by first | (with_reducible assumption) | assumption)) HC0.out
                  have HR185 := asiD (Kd.C_of_reads (h1 := fun _ => rfl) (hA15 _ (Kd.reads_of_C HR0.out)))
                  have HC185 := asiD hC15
                  clear hA15 hC15 hi015 hsz15
                  have hcv16 := Kd.C_string (P := Try.prog) (A := A0) (c := c0) Try.underlying23 Try.underlying5 Try.underlying9 (Kd.C_below HR185.out HB.out); have hcv16q := hcv16; (try simp only [List.length_take, List.length_drop, Int.reduceToNat] at hcv16q); have hcv16d := fun nd => Kd.C_string (P := Try.prog) (A := A0) (c := c0) Try.underlying23 Try.underlying5 Try.underlying9 (Kd.C_drewN (Kd.C_below HR185.out HB.out) nd); (try simp only [List.length_take, List.length_drop, Int.reduceToNat] at hcv16d); have hcv16e := hcv16; have hcv16f := hcv16d; (try (have hmn_ : (12 : Int) ≤ (l0.length : Int) := (by first | omega | exact of_decide_eq_true (by assumption)); (try simp only [List.length_take, List.length_drop, Int.reduceToNat] at hcv16e); rw [Nat.min_eq_left (by omega)] at hcv16e; (try (rw [Nat.min_eq_left (by omega)] at hcv16d)); clear hmn_))
                  obtain ⟨i017, hi017, _, hsz17, _⟩ := info_parts info5
                  obtain ⟨A17, hcut17, hA17, hC17⟩ := print_mid_of (P := Try.prog) (Value.int .u8) 0 23 5 .i64 .i64 Try.underlying23 hi017 hsz17 A0 c0 l0 8 12 (by omega) (by first | omega | exact of_decide_eq_true (by first | (with_reducible assumption) | assumption)) (of_decide_eq_true (by first | (with_reducible assumption) | assumption)) HC0.out
                  have HR186 := asiD (Kd.C_of_reads (h1 := fun _ => rfl) (hA17 _ (Kd.reads_of_C HR0.out)))
                  have HC186 := asiD hC17
                  clear hA17 hC17 hi017 hsz17
                  have hcv18 := Kd.C_string (P := Try.prog) (A := A17) (c := (c0 - 8)) Try.underlying23 Try.underlying5 Try.underlying9 (Kd.C_below HR186.out HB.out); have hcv18q := hcv18; (try simp only [List.length_take, List.length_drop, Int.reduceToNat] at hcv18q); have hcv18d := fun nd => Kd.C_string (P := Try.prog) (A := A17) (c := (c0 - 8)) Try.underlying23 Try.underlying5 Try.underlying9 (Kd.C_drewN (Kd.C_below HR186.out HB.out) nd); (try simp only [List.length_take, List.length_drop, Int.reduceToNat] at hcv18d); have hcv18e := hcv18; have hcv18f := hcv18d; (try (have hmn_ : (12 : Int) ≤ (l0.length : Int) := (by first | omega | exact of_decide_eq_true (by assumption)); (try simp only [List.length_take, List.length_drop, Int.reduceToNat] at hcv18e); rw [Nat.min_eq_left (by omega)] at hcv18e; (try (rw [Nat.min_eq_left (by omega)] at hcv18d)); clear hmn_))
                  go_wp2
                  go_meet
                  case rel => exact ⟨_, (((Int.tmod t183 2) == 1)), (by first | rfl | (simp; done) | (simp [*]; done)), H', ⟨by first | omega | exact Nat.le_refl _⟩, ⟨by repeat (first | (with_reducible first | exact HB.out | apply below_alloc | apply pw_below_drewN | apply below_drew1) | exact HB.out)⟩⟩
              · rw [if_neg c9] at H
                have c9b0 : ((strOfNums ((l0.take 12).drop 8)).toList == ([87, 69, 66, 80] : List UInt8)) = false := beq_eq_false_iff_ne.mpr c9
                have c9b1 : ((strOfNums ((l0.take 12).drop 8)).toList != ([87, 69, 66, 80] : List UInt8)) = true := bne_iff_ne.mpr c9
                have H' := asiD H
                clear H
                obtain ⟨i019, hi019, _, hsz19, _⟩ := info_parts info5
                obtain ⟨hcut19, hA19, hC19⟩ := print_take_of (P := Try.prog) (Value.int .u8) 0 23 5 .i64 Try.underlying23 hi019 hsz19 A0 c0 l0 4 (by omega) (of_decide_eq_true (by first | (with_reducible assumption) | assumption)) HC0.out
                have HR185 := asiD (Kd.C_of_reads (h1 := fun _ => rfl) (hA19 _ (Kd.reads_of_C HR0.out)))
                have HC185 := asiD hC19
                clear hA19 hC19 hi019 hsz19
                have hcv20 := Kd.C_string (P := Try.prog) (A := A0) (c := c0) Try.underlying23 Try.underlying5 Try.underlying9 (Kd.C_below HR185.out HB.out); have hcv20q := hcv20; (try simp only [List.length_take, List.length_drop, Int.reduceToNat] at hcv20q); have hcv20d := fun nd => Kd.C_string (P := Try.prog) (A := A0) (c := c0) Try.underlying23 Try.underlying5 Try.underlying9 (Kd.C_drewN (Kd.C_below HR185.out HB.out) nd); (try simp only [List.length_take, List.length_drop, Int.reduceToNat] at hcv20d); have hcv20e := hcv20; have hcv20f := hcv20d; (try (have hmn_ : (12 : Int) ≤ (l0.length : Int) := (by first | omega | exact of_decide_eq_true (by assumption)); (try simp only [List.length_take, List.length_drop, Int.reduceToNat] at hcv20e); rw [Nat.min_eq_left (by omega)] at hcv20e; (try (rw [Nat.min_eq_left (by omega)] at hcv20d)); clear hmn_))
                obtain ⟨i021, hi021, _, hsz21, _⟩ := info_parts info5
                obtain ⟨A21, hcut21, hA21, hC21⟩ := print_mid_of (P := Try.prog) (Value.int .u8) 0 23 5 .i64 .i64 Try.underlying23 hi021 hsz21 A0 c0 l0 8 12 (by omega) (by first | omega | exact of_decide_eq_true (by first | (with_reducible assumption) | assumption)) (of_decide_eq_true (by first | (with_reducible assumption) | assumption)) HC0.out
                have HR186 := asiD (Kd.C_of_reads (h1 := fun _ => rfl) (hA21 _ (Kd.reads_of_C HR0.out)))
                have HC186 := asiD hC21
                clear hA21 hC21 hi021 hsz21
                have hcv22 := Kd.C_string (P := Try.prog) (A := A21) (c := (c0 - 8)) Try.underlying23 Try.underlying5 Try.underlying9 (Kd.C_below HR186.out HB.out); have hcv22q := hcv22; (try simp only [List.length_take, List.length_drop, Int.reduceToNat] at hcv22q); have hcv22d := fun nd => Kd.C_string (P := Try.prog) (A := A21) (c := (c0 - 8)) Try.underlying23 Try.underlying5 Try.underlying9 (Kd.C_drewN (Kd.C_below HR186.out HB.out) nd); (try simp only [List.length_take, List.length_drop, Int.reduceToNat] at hcv22d); have hcv22e := hcv22; have hcv22f := hcv22d; (try (have hmn_ : (12 : Int) ≤ (l0.length : Int) := (by first | omega | exact of_decide_eq_true (by assumption)); (try simp only [List.length_take, List.length_drop, Int.reduceToNat] at hcv22e); rw [Nat.min_eq_left (by omega)] at hcv22e; (try (rw [Nat.min_eq_left (by omega)] at hcv22d)); clear hmn_))
                go_wp2
                go_meet
                case rel => exact ⟨_, (true), (by first | rfl | (simp; done) | (simp [*]; done)), H', ⟨by first | omega | exact Nat.le_refl _⟩, ⟨by repeat (first | (with_reducible first | exact HB.out | apply below_alloc | apply pw_below_drewN | apply below_drew1) | exact HB.out)⟩⟩
            · rw [if_neg c8] at H
              exact absurd H (by simp)
          · rw [if_neg c7] at H
            exact absurd H (by simp)
        · rw [if_neg c6] at H
          have c6b0 : ((strOfNums (l0.take 4)).toList == ([82, 73, 70, 70] : List UInt8)) = false := beq_eq_false_iff_ne.mpr c6
          have c6b1 : ((strOfNums (l0.take 4)).toList != ([82, 73, 70, 70] : List UInt8)) = true := bne_iff_ne.mpr c6
          (first | rw [c6b0] | (simp only [i64_w, i32_w]; rw [c6b0]) | skip)
          have H' := asiD H
          clear H
          obtain ⟨i023, hi023, _, hsz23, _⟩ := info_parts info5
          obtain ⟨hcut23, hA23, hC23⟩ := print_take_of (P := Try.prog) (Value.int .u8) 0 23 5 .i64 Try.underlying23 hi023 hsz23 A0 c0 l0 4 (by omega) (of_decide_eq_true (by first | (with_reducible assumption) | assumption)) HC0.out
          have HR185 := asiD (Kd.C_of_reads (h1 := fun _ => rfl) (hA23 _ (Kd.reads_of_C HR0.out)))
          have HC185 := asiD hC23
          clear hA23 hC23 hi023 hsz23
          have hcv24 := Kd.C_string (P := Try.prog) (A := A0) (c := c0) Try.underlying23 Try.underlying5 Try.underlying9 (Kd.C_below HR185.out HB.out); have hcv24q := hcv24; (try simp only [List.length_take, List.length_drop, Int.reduceToNat] at hcv24q); have hcv24d := fun nd => Kd.C_string (P := Try.prog) (A := A0) (c := c0) Try.underlying23 Try.underlying5 Try.underlying9 (Kd.C_drewN (Kd.C_below HR185.out HB.out) nd); (try simp only [List.length_take, List.length_drop, Int.reduceToNat] at hcv24d); have hcv24e := hcv24; have hcv24f := hcv24d; (try (have hmn_ : (12 : Int) ≤ (l0.length : Int) := (by first | omega | exact of_decide_eq_true (by assumption)); (try simp only [List.length_take, List.length_drop, Int.reduceToNat] at hcv24e); rw [Nat.min_eq_left (by omega)] at hcv24e; (try (rw [Nat.min_eq_left (by omega)] at hcv24d)); clear hmn_))
          go_wp2
          go_meet
          case rel => exact ⟨_, (true), (by first | rfl | (simp; done) | (simp [*]; done)), H', ⟨by first | omega | exact Nat.le_refl _⟩, ⟨by repeat (first | (with_reducible first | exact HB.out | apply below_alloc | apply pw_below_drewN | apply below_drew1) | exact HB.out)⟩⟩
      · rw [if_neg c5] at H
        exact absurd H (by simp)
    case rest =>
      clear HC4
      try clear c1
      try clear hcv1
      try clear c2
      try clear c2b0
      try clear c2b1
      try clear p2
      try clear hcv2
      try clear c3
      try clear c5
      try clear c5b0
      try clear c5b1
      try clear c6
      try clear c6b0
      try clear c6b1
      try clear c7
      try clear c7b0
      try clear c7b1
      try clear c8
      try clear c8b0
      try clear c8b1
      try clear c9
      try clear c9b0
      try clear c9b1
      try clear c10
      try clear c10b0
      try clear hcv12
      try clear hcv14
      try clear hcv16
      try clear hcv18
      try clear hcv20
      try clear hcv22
      try clear hcv24
      obtain ⟨kq, x14_3, rfl, HA, HJ3, HB⟩ := hcut
      cases kq with
      | zero => exact absurd HA.out (by simp [chunk_Scan.j0])
      | succ kj3 =>
        have H := HA.out
        clear HA
        simp only [chunk_Scan.j0] at H
        by_cases c25 : x14_3 = true
        · subst c25
          have H1 : (some (([] : List (S42)), 3)) = some (r1, r2) := by rw [if_pos rfl] at H; exact H
          clear H
          have H := H1
          clear H1
          simp only [Option.some.injEq, Prod.mk.injEq] at H
          obtain ⟨rfl, rfl⟩ := H
          go_wp2
          go_ret2
          exact ⟨_, by first | rfl | (simp [errW_none, errW_some] <;> rfl) | (simp [*, errW_none, errW_some] <;> rfl), by first | exact Kd.S_nil _ _ _ _ _ | exact Kd.N_nil _ _ _ _ _ | exact Kd.V_nil _ _ _ _ _ | exact Kd.Q_nil _ _ _ _ _ | exact Kd.R_nil _ _ _ _ _, by repeat (first | (with_reducible first | exact HB.out | apply below_alloc | apply pw_below_drewN | apply below_drew1) | exact HB.out)⟩
        · replace c25 := Bool.eq_false_iff.mpr c25
          subst c25
          have H1 : (if t183 > (IntKind.u64.wrap (wrap64 ((l0.length : Int) - 8))) then (some (([] : List (S42)), 2)) else (if 12 ≤ (wrap64 (8 + (wrap64 (t183)))) then (if (wrap64 (8 + (wrap64 (t183)))) ≤ (l0.length : Int) then ((chunk_Inner.f kj3 ((l0.take ((wrap64 (8 + (wrap64 (t183)))) : Int).toNat).drop 12)).bind fun bt188 => (some (bt188.1, bt188.2))) else (none)) else (none))) = some (r1, r2) := by rw [if_neg (show ¬ (false = true) by decide)] at H; exact H
          clear H
          have H := H1
          clear H1
          by_cases c26 : t183 > (IntKind.u64.wrap (wrap64 ((l0.length : Int) - 8)))
          · rw [if_pos c26] at H
            have c26b0 : decide ((IntKind.u64.wrap (wrap64 ((l0.length : Int) - 8))) < t183) = true := decide_eq_true c26
            clear c26
            simp only [Option.some.injEq, Prod.mk.injEq] at H
            obtain ⟨rfl, rfl⟩ := H
            go_wp2
            go_ret2
            exact ⟨_, by first | rfl | (simp [errW_none, errW_some] <;> rfl) | (simp [*, errW_none, errW_some] <;> rfl), by first | exact Kd.S_nil _ _ _ _ _ | exact Kd.N_nil _ _ _ _ _ | exact Kd.V_nil _ _ _ _ _ | exact Kd.Q_nil _ _ _ _ _ | exact Kd.R_nil _ _ _ _ _, by repeat (first | (with_reducible first | exact HB.out | apply below_alloc | apply pw_below_drewN | apply below_drew1) | exact HB.out)⟩
          · rw [if_neg c26] at H
            have c26b0 : decide ((IntKind.u64.wrap (wrap64 ((l0.length : Int) - 8))) < t183) = false := decide_eq_false c26
            clear c26
            by_cases c27 : 12 ≤ (wrap64 (8 + (wrap64 (t183))))
            · rw [if_pos c27] at H
              have c27b0 := eq_true c27
              have c27b1 : decide (12 ≤ (wrap64 (8 + (wrap64 (t183))))) = true := decide_eq_true c27
              by_cases c28 : (wrap64 (8 + (wrap64 (t183)))) ≤ (l0.length : Int)
              · rw [if_pos c28] at H
                have c28b0 := eq_true c28
                have c28b1 : decide ((wrap64 (8 + (wrap64 (t183)))) ≤ (l0.length : Int)) = true := decide_eq_true c28
                replace H := Option.bind_eq_some_iff.mp H
                obtain ⟨⟨t188, t191⟩, A290, H⟩ := H
                replace H : (some (t188, t191)) = some (r1, r2) := H
                have A29 := asiD A290
                clear A290
                simp only [Option.some.injEq, Prod.mk.injEq] at H
                obtain ⟨rfl, rfl⟩ := H
                obtain ⟨i030, hi030, _, hsz30, _⟩ := info_parts info5
                obtain ⟨A30, hcut30, hA30, hC30⟩ := print_mid_of (P := Try.prog) (Value.int .u8) 0 23 5 .i64 .i64 Try.underlying23 hi030 hsz30 A0 c0 l0 12 (wrap64 (8 + (wrap64 (t183)))) (by omega) (by first | omega | exact of_decide_eq_true (by first | (with_reducible assumption) | assumption)) (of_decide_eq_true (by first | (with_reducible assumption) | assumption)) HC0.out
                have HR187 := asiD (Kd.C_of_reads (h1 := fun _ => rfl) (hA30 _ (Kd.reads_of_C HR0.out)))
                have HC187 := asiD hC30
                clear hA30 hC30 hi030 hsz30
                go_wp2_with (first | ((with_reducible refine gate_callee (f := 69) rfl ?_); refine goesL_ (some 46) rfl rfl Try.func69 (by kernel_rfl) rfl #[.slice A30 ((l0.take ((wrap64 (8 + (wrap64 (t183)))) : Int).toNat).drop 12).length (c0 - 12)] rfl (by (try simp only [List.map_toArray, List.map_cons, List.map_nil]); first | done | (rw [show ((l0.take ((wrap64 (8 + (wrap64 (t183)))) : Int).toNat).drop 12).length = ((wrap64 (8 + (wrap64 (t183)))).toNat - 12) from (by rw [List.length_drop, List.length_take]; have h_ : ((wrap64 (8 + (wrap64 (t183)))) : Int) ≤ (l0.length : Int) := of_decide_eq_true (by first | (with_reducible assumption) | assumption); omega)] <;> rfl) | rfl | (simp only [List.length_drop, List.length_take]; rfl)) ?_; (with_reducible refine (chunk_Inner.calls kj3 (fun k_ => k_ < w.heap.size) _ _ ((l0.take ((wrap64 (8 + (wrap64 (t183)))) : Int).toNat).drop 12) t188 t191 _ ?side1 A29.out).mono ?_); (case side1 => exact Kd.V_mk HC187.out (Kd.F_below (Kd.C_F (Kd.heap_int .u8) HR187.out) (by repeat (first | (with_reducible first | exact HB.out | apply below_alloc | apply pw_below_drewN | apply below_drew1) | exact HB.out)))); rintro e w31 ⟨v189, rfl, ho0, hb⟩; refine ⟨_, rfl, ?_⟩; have n0_ := asiD (Kd.S_lower (Kd.S_mono (ok' := fun k_ => True) ho0 (fun _ hk_ => trivial)) (below_size (by repeat (first | (with_reducible first | exact HB.out | apply below_alloc | apply pw_below_drewN | apply below_drew1) | exact HB.out)))); have n1_ := asiD (below_step (by repeat (first | (with_reducible first | exact HB.out | apply below_alloc | apply pw_below_drewN | apply below_drew1) | exact HB.out)) hb); clear HB; have HO190 := n0_; have HB := n1_; clear n0_ n1_; (try clear hb); (try clear hb2); (try clear hk); (try clear hi); (try clear ho0)) | (go_at_call 69; (with_reducible refine (chunk_Inner.calls kj3 (fun k_ => k_ < w.heap.size) _ _ ((l0.take ((wrap64 (8 + (wrap64 (t183)))) : Int).toNat).drop 12) t188 t191 _ ?side1 A29.out).mono ?_); (case side1 => exact Kd.V_mk HC187.out (Kd.F_below (Kd.C_F (Kd.heap_int .u8) HR187.out) (by repeat (first | (with_reducible first | exact HB.out | apply below_alloc | apply pw_below_drewN | apply below_drew1) | exact HB.out)))); rintro e w31 ⟨v189, rfl, ho0, hb⟩; have n0_ := asiD (Kd.S_lower (Kd.S_mono (ok' := fun k_ => True) ho0 (fun _ hk_ => trivial)) (below_size (by repeat (first | (with_reducible first | exact HB.out | apply below_alloc | apply pw_below_drewN | apply below_drew1) | exact HB.out)))); have n1_ := asiD (below_step (by repeat (first | (with_reducible first | exact HB.out | apply below_alloc | apply pw_below_drewN | apply below_drew1) | exact HB.out)) hb); clear HB; have HO190 := n0_; have HB := n1_; clear n0_ n1_; (try clear hb); (try clear hb2); (try clear hk); (try clear hi); (try clear ho0)))
                go_ret2
                exact ⟨_, by first | rfl | (simp [errW_none, errW_some] <;> rfl) | (simp [*, errW_none, errW_some] <;> rfl), by (with_reducible repeat (first | apply Kd.S_alloc | apply Kd.S_drewN | apply Kd.S_drew)); exact HO190.out, by repeat (first | (with_reducible first | exact HB.out | apply below_alloc | apply pw_below_drewN | apply below_drew1) | exact HB.out)⟩
              · rw [if_neg c28] at H
                exact absurd H (by simp)
            · rw [if_neg c27] at H
              exact absurd H (by simp)
def box_num.f (k : Nat) (l0 : List Int) (a1 : Int) (a2 : Int) : Option (Int) := (le_Get.f k l0 a1 a2).bind fun bt192 => (some (wrap64 (bt192.1)))
theorem box_num.mono : ∀ a0 a1 a2 k, LeO (box_num.f k a0 a1 a2) (box_num.f (k + 1) a0 a1 a2) := by
  intro a0 a1 a2 k
  unfold box_num.f
  repeat' first
      | (with_reducible exact le_Get.mono _ _ _ _)
      | (with_reducible exact LeO.refl _)
      | (with_reducible exact LeO.none _)
      | (with_reducible refine LeO.ite ?_ ?_)
      | (with_reducible refine LeO.bind ?_ (fun _ => ?_))
      | exact le_Get.mono _ _ _ _
      | exact LeO.none _
      | refine LeO.ite ?_ ?_
      | refine LeO.bind ?_ (fun _ => ?_)
set_option maxHeartbeats 8000000 in
set_option maxRecDepth 100000 in
theorem box_num.calls (k : Nat) (A0 : Option Addr) (c0 : Nat) (l0 : List Int) (a1 : Int) (a2 : Int) (r : Int) (w : World) (hr0 : Kd.C (Kd.int .u8) w A0 l0.length l0) (hc0 : l0.length ≤ c0) (h : box_num.f k l0 a1 a2 = some r) :
    Calls Try.prog 85 #[.slice A0 l0.length c0, .int .i64 a1, .int .i64 a2] w fun e w' => e = .returned (.int .i64 r) ∧ Drawn0 w w' := by
  have HR0 := asiD hr0
  have HC0 := asiD hc0
  clear hr0 hc0
  have H : ((le_Get.f k l0 a1 a2).bind fun bt192 => (some (wrap64 (bt192.1)))) = some r := h
  clear h
  replace H := Option.bind_eq_some_iff.mp H
  obtain ⟨⟨t192, t193⟩, A40, H⟩ := H
  replace H : (some (wrap64 (t192))) = some r := H
  have A4 := asiD A40
  clear A40
  obtain rfl := Option.some.inj H
  go_enter Try.func85, Try.ntmps85
  go_wp2_with (first | ((with_reducible refine gate_callee (f := 68) rfl ?_); refine goesL_ (some 13) rfl rfl Try.func68 (by kernel_rfl) rfl #[.slice A0 l0.length c0, .int .i64 a1, .int .i64 a2] rfl (by (try simp only [List.map_toArray, List.map_cons, List.map_nil]); first | done | rfl | (simp only [List.length_drop, List.length_take]; rfl)) ?_; (with_reducible refine (le_Get.calls k _ _ l0 a1 a2 t192 t193 _ ?side1 ?side2 A4.out).mono ?_); (case side1 => repeat (first | exact HR0.out | (with_reducible refine Kd.C_alloc ?_ _) | (with_reducible refine Kd.C_drewN ?_ _) | (with_reducible refine Kd.C_drew ?_))); (case side2 => exact HC0.out); rintro e w' ⟨rfl, ⟨nd, rfl⟩⟩; refine ⟨_, rfl, ?_⟩) | (go_at_call 68; (with_reducible refine (le_Get.calls k _ _ l0 a1 a2 t192 t193 _ ?side1 ?side2 A4.out).mono ?_); (case side1 => repeat (first | exact HR0.out | (with_reducible refine Kd.C_alloc ?_ _) | (with_reducible refine Kd.C_drewN ?_ _) | (with_reducible refine Kd.C_drew ?_))); (case side2 => exact HC0.out); rintro e w' ⟨rfl, ⟨nd, rfl⟩⟩))
  go_ret
  exact ⟨by first | rfl | (simp; done) | (simp [*]; done), by repeat (first | exact Drawn0.refl _ | apply Drawn0.step)⟩
def marquetryref24_kind.f (a0_0 : Int) (a0_1 : Int) (a0_2 : Int) (a0_3 : Int) (a0_4 : Int) (a0_5 : Bool) (a0_6 : Bool) (a0_7 : Int) (l0_8 : List Int) (l0_9 : List Int) (l0_10 : List (S42)) : Option (Bool) := if a0_7 = 2 then (some true) else (if a0_7 = 1 then (some ((l0_8.length : Int) == 0)) else (some false))
set_option maxHeartbeats 8000000 in
set_option maxRecDepth 100000 in
theorem marquetryref24_kind.calls (a0_0 : Int) (a0_1 : Int) (a0_2 : Int) (a0_3 : Int) (a0_4 : Int) (a0_5 : Bool) (a0_6 : Bool) (a0_7 : Int) (A0_8 : Option Addr) (c0_8 : Nat) (l0_8 : List Int) (A0_9 : Option Addr) (c0_9 : Nat) (l0_9 : List Int) (A0_10 : Option Addr) (c0_10 : Nat) (l0_10 : List (S42)) (r : Bool) (w : World) (hr0_8 : Kd.C (Kd.int .u8) w A0_8 l0_8.length l0_8) (hc0_8 : l0_8.length ≤ c0_8) (hr0_9 : Kd.C (Kd.int .u8) w A0_9 l0_9.length l0_9) (hc0_9 : l0_9.length ≤ c0_9) (hr0_10 : Kd.C k42 w A0_10 l0_10.length l0_10) (hc0_10 : l0_10.length ≤ c0_10) (h : marquetryref24_kind.f a0_0 a0_1 a0_2 a0_3 a0_4 a0_5 a0_6 a0_7 l0_8 l0_9 l0_10 = some r) :
    Calls Try.prog 31 #[.agg #[.int .i64 a0_0, .int .i64 a0_1, .int .i64 a0_2, .int .i64 a0_3, .int .i64 a0_4, .bool a0_5, .bool a0_6, .int .i64 a0_7, .slice A0_8 l0_8.length c0_8, .slice A0_9 l0_9.length c0_9, .slice A0_10 l0_10.length c0_10]] w fun e w' => e = .returned (.bool r) ∧ Below w.heap.size w w' := by
  have hu44 := Try.underlying44
  have HR0_8 := asiD hr0_8
  have HC0_8 := asiD hc0_8
  clear hr0_8 hc0_8
  have HR0_9 := asiD hr0_9
  have HC0_9 := asiD hc0_9
  clear hr0_9 hc0_9
  have HR0_10 := asiD hr0_10
  have HC0_10 := asiD hc0_10
  clear hr0_10 hc0_10
  have HB := asiD (Below.refl w.heap.size w)
  have H : (if a0_7 = 2 then (some true) else (if a0_7 = 1 then (some ((l0_8.length : Int) == 0)) else (some false))) = some r := h
  clear h
  by_cases c2 : a0_7 = 2
  · rw [if_pos c2] at H
    have c2b0 : (a0_7 == 2) = true := beq_iff_eq.mpr c2
    have c2b1 : (a0_7 != 2) = false := bne_eq_false_iff_eq.mpr c2
    clear c2
    obtain rfl := Option.some.inj H
    go_enter Try.func31, Try.ntmps31
    go_wp2_with (first | ((with_reducible refine gate_dst (N := 1) rfl ?_); (try (refine gate_guard (by rfl) ?_; dsimp only)); refine box_event ?hg (N := 1) ?hd (cs := #[.int .i64 a0_0, .int .i64 a0_1, .int .i64 a0_2, .int .i64 a0_3, .int .i64 a0_4, .bool a0_5, .bool a0_6, .int .i64 a0_7, .slice A0_8 l0_8.length c0_8, .slice A0_9 l0_9.length c0_9, .slice A0_10 l0_10.length c0_10]) (t := 44) ?hr ?_; (case hd => rfl); (case hg => rfl); (case hr => first | (go_simp; done) | (go_simp; rfl)); intro gb211 hg w3 hbox hb; have n0_ := asiD (below_step (by repeat (first | (with_reducible first | exact HB.out | apply below_alloc | apply pw_below_drewN | apply below_drew1) | exact HB.out)) hb); have n1_ := asiD (hbox); have n2_ := asiD ((by rw [hg]; exact (below_size (by repeat (first | (with_reducible first | exact HB.out | apply below_alloc | apply pw_below_drewN | apply below_drew1) | exact HB.out))) : w.heap.size ≤ gb211)); have n3_ := asiD ((by rw [hg]; exact (below_size (by repeat (first | (with_reducible first | exact HB.out | apply below_alloc | apply pw_below_drewN | apply below_drew1) | exact HB.out))) : w.heap.size ≤ gb211)); clear HB; have HB := n0_; have BK211 := n1_; have GW211 := n2_; have GE211 := n3_; clear n0_ n1_ n2_ n3_; clear hb hbox hg; have hcz4_0 : w3.cell? ⟨gb211, 0, none⟩ = some (.int .i64 a0_0) := (blk_cell BK211.out 0).trans rfl; have hcz4_1 : w3.cell? ⟨gb211, 1, none⟩ = some (.int .i64 a0_1) := (blk_cell BK211.out 1).trans rfl; have hcz4_2 : w3.cell? ⟨gb211, 2, none⟩ = some (.int .i64 a0_2) := (blk_cell BK211.out 2).trans rfl; have hcz4_3 : w3.cell? ⟨gb211, 3, none⟩ = some (.int .i64 a0_3) := (blk_cell BK211.out 3).trans rfl; have hcz4_4 : w3.cell? ⟨gb211, 4, none⟩ = some (.int .i64 a0_4) := (blk_cell BK211.out 4).trans rfl; have hcz4_5 : w3.cell? ⟨gb211, 5, none⟩ = some (.bool a0_5) := (blk_cell BK211.out 5).trans rfl; have hcz4_6 : w3.cell? ⟨gb211, 6, none⟩ = some (.bool a0_6) := (blk_cell BK211.out 6).trans rfl; have hcz4_7 : w3.cell? ⟨gb211, 7, none⟩ = some (.int .i64 a0_7) := (blk_cell BK211.out 7).trans rfl; have hcz4_8 : w3.cell? ⟨gb211, 8, none⟩ = some (.slice A0_8 l0_8.length c0_8) := (blk_cell BK211.out 8).trans rfl; have hcz4_9 : w3.cell? ⟨gb211, 9, none⟩ = some (.slice A0_9 l0_9.length c0_9) := (blk_cell BK211.out 9).trans rfl; have hcz4_10 : w3.cell? ⟨gb211, 10, none⟩ = some (.slice A0_10 l0_10.length c0_10) := (blk_cell BK211.out 10).trans rfl; have hfz4_0 := blk_frozen BK211.out 0; have hfz4_1 := blk_frozen BK211.out 1; have hfz4_2 := blk_frozen BK211.out 2; have hfz4_3 := blk_frozen BK211.out 3; have hfz4_4 := blk_frozen BK211.out 4; have hfz4_5 := blk_frozen BK211.out 5; have hfz4_6 := blk_frozen BK211.out 6; have hfz4_7 := blk_frozen BK211.out 7; have hfz4_8 := blk_frozen BK211.out 8; have hfz4_9 := blk_frozen BK211.out 9; have hfz4_10 := blk_frozen BK211.out 10))
    go_ret
    exact ⟨by first | rfl | (simp [errW_none, errW_some] <;> rfl) | (simp [*, errW_none, errW_some] <;> rfl), by repeat (first | (with_reducible first | exact HB.out | apply below_alloc | apply pw_below_drewN | apply below_drew1 | refine below_set ?_ GE211.out) | exact HB.out)⟩
  · rw [if_neg c2] at H
    have c2b0 : (a0_7 == 2) = false := beq_eq_false_iff_ne.mpr c2
    have c2b1 : (a0_7 != 2) = true := bne_iff_ne.mpr c2
    by_cases c5 : a0_7 = 1
    · rw [if_pos c5] at H
      have c5b0 : (a0_7 == 1) = true := beq_iff_eq.mpr c5
      have c5b1 : (a0_7 != 1) = false := bne_eq_false_iff_eq.mpr c5
      clear c5
      obtain rfl := Option.some.inj H
      go_enter Try.func31, Try.ntmps31
      go_wp2_with (first | ((with_reducible refine gate_dst (N := 1) rfl ?_); (try (refine gate_guard (by rfl) ?_; dsimp only)); refine box_event ?hg (N := 1) ?hd (cs := #[.int .i64 a0_0, .int .i64 a0_1, .int .i64 a0_2, .int .i64 a0_3, .int .i64 a0_4, .bool a0_5, .bool a0_6, .int .i64 a0_7, .slice A0_8 l0_8.length c0_8, .slice A0_9 l0_9.length c0_9, .slice A0_10 l0_10.length c0_10]) (t := 44) ?hr ?_; (case hd => rfl); (case hg => rfl); (case hr => first | (go_simp; done) | (go_simp; rfl)); intro gb211 hg w6 hbox hb; have n0_ := asiD (below_step (by repeat (first | (with_reducible first | exact HB.out | apply below_alloc | apply pw_below_drewN | apply below_drew1) | exact HB.out)) hb); have n1_ := asiD (hbox); have n2_ := asiD ((by rw [hg]; exact (below_size (by repeat (first | (with_reducible first | exact HB.out | apply below_alloc | apply pw_below_drewN | apply below_drew1) | exact HB.out))) : w.heap.size ≤ gb211)); have n3_ := asiD ((by rw [hg]; exact (below_size (by repeat (first | (with_reducible first | exact HB.out | apply below_alloc | apply pw_below_drewN | apply below_drew1) | exact HB.out))) : w.heap.size ≤ gb211)); clear HB; have HB := n0_; have BK211 := n1_; have GW211 := n2_; have GE211 := n3_; clear n0_ n1_ n2_ n3_; clear hb hbox hg; have hcz7_0 : w6.cell? ⟨gb211, 0, none⟩ = some (.int .i64 a0_0) := (blk_cell BK211.out 0).trans rfl; have hcz7_1 : w6.cell? ⟨gb211, 1, none⟩ = some (.int .i64 a0_1) := (blk_cell BK211.out 1).trans rfl; have hcz7_2 : w6.cell? ⟨gb211, 2, none⟩ = some (.int .i64 a0_2) := (blk_cell BK211.out 2).trans rfl; have hcz7_3 : w6.cell? ⟨gb211, 3, none⟩ = some (.int .i64 a0_3) := (blk_cell BK211.out 3).trans rfl; have hcz7_4 : w6.cell? ⟨gb211, 4, none⟩ = some (.int .i64 a0_4) := (blk_cell BK211.out 4).trans rfl; have hcz7_5 : w6.cell? ⟨gb211, 5, none⟩ = some (.bool a0_5) := (blk_cell BK211.out 5).trans rfl; have hcz7_6 : w6.cell? ⟨gb211, 6, none⟩ = some (.bool a0_6) := (blk_cell BK211.out 6).trans rfl; have hcz7_7 : w6.cell? ⟨gb211, 7, none⟩ = some (.int .i64 a0_7) := (blk_cell BK211.out 7).trans rfl; have hcz7_8 : w6.cell? ⟨gb211, 8, none⟩ = some (.slice A0_8 l0_8.length c0_8) := (blk_cell BK211.out 8).trans rfl; have hcz7_9 : w6.cell? ⟨gb211, 9, none⟩ = some (.slice A0_9 l0_9.length c0_9) := (blk_cell BK211.out 9).trans rfl; have hcz7_10 : w6.cell? ⟨gb211, 10, none⟩ = some (.slice A0_10 l0_10.length c0_10) := (blk_cell BK211.out 10).trans rfl; have hfz7_0 := blk_frozen BK211.out 0; have hfz7_1 := blk_frozen BK211.out 1; have hfz7_2 := blk_frozen BK211.out 2; have hfz7_3 := blk_frozen BK211.out 3; have hfz7_4 := blk_frozen BK211.out 4; have hfz7_5 := blk_frozen BK211.out 5; have hfz7_6 := blk_frozen BK211.out 6; have hfz7_7 := blk_frozen BK211.out 7; have hfz7_8 := blk_frozen BK211.out 8; have hfz7_9 := blk_frozen BK211.out 9; have hfz7_10 := blk_frozen BK211.out 10))
      go_ret
      exact ⟨by first | rfl | (simp [errW_none, errW_some] <;> rfl) | (simp [*, errW_none, errW_some] <;> rfl), by repeat (first | (with_reducible first | exact HB.out | apply below_alloc | apply pw_below_drewN | apply below_drew1 | refine below_set ?_ GE211.out) | exact HB.out)⟩
    · rw [if_neg c5] at H
      have c5b0 : (a0_7 == 1) = false := beq_eq_false_iff_ne.mpr c5
      have c5b1 : (a0_7 != 1) = true := bne_iff_ne.mpr c5
      obtain rfl := Option.some.inj H
      go_enter Try.func31, Try.ntmps31
      go_wp2_with (first | ((with_reducible refine gate_dst (N := 1) rfl ?_); (try (refine gate_guard (by rfl) ?_; dsimp only)); refine box_event ?hg (N := 1) ?hd (cs := #[.int .i64 a0_0, .int .i64 a0_1, .int .i64 a0_2, .int .i64 a0_3, .int .i64 a0_4, .bool a0_5, .bool a0_6, .int .i64 a0_7, .slice A0_8 l0_8.length c0_8, .slice A0_9 l0_9.length c0_9, .slice A0_10 l0_10.length c0_10]) (t := 44) ?hr ?_; (case hd => rfl); (case hg => rfl); (case hr => first | (go_simp; done) | (go_simp; rfl)); intro gb211 hg w8 hbox hb; have n0_ := asiD (below_step (by repeat (first | (with_reducible first | exact HB.out | apply below_alloc | apply pw_below_drewN | apply below_drew1) | exact HB.out)) hb); have n1_ := asiD (hbox); have n2_ := asiD ((by rw [hg]; exact (below_size (by repeat (first | (with_reducible first | exact HB.out | apply below_alloc | apply pw_below_drewN | apply below_drew1) | exact HB.out))) : w.heap.size ≤ gb211)); have n3_ := asiD ((by rw [hg]; exact (below_size (by repeat (first | (with_reducible first | exact HB.out | apply below_alloc | apply pw_below_drewN | apply below_drew1) | exact HB.out))) : w.heap.size ≤ gb211)); clear HB; have HB := n0_; have BK211 := n1_; have GW211 := n2_; have GE211 := n3_; clear n0_ n1_ n2_ n3_; clear hb hbox hg; have hcz9_0 : w8.cell? ⟨gb211, 0, none⟩ = some (.int .i64 a0_0) := (blk_cell BK211.out 0).trans rfl; have hcz9_1 : w8.cell? ⟨gb211, 1, none⟩ = some (.int .i64 a0_1) := (blk_cell BK211.out 1).trans rfl; have hcz9_2 : w8.cell? ⟨gb211, 2, none⟩ = some (.int .i64 a0_2) := (blk_cell BK211.out 2).trans rfl; have hcz9_3 : w8.cell? ⟨gb211, 3, none⟩ = some (.int .i64 a0_3) := (blk_cell BK211.out 3).trans rfl; have hcz9_4 : w8.cell? ⟨gb211, 4, none⟩ = some (.int .i64 a0_4) := (blk_cell BK211.out 4).trans rfl; have hcz9_5 : w8.cell? ⟨gb211, 5, none⟩ = some (.bool a0_5) := (blk_cell BK211.out 5).trans rfl; have hcz9_6 : w8.cell? ⟨gb211, 6, none⟩ = some (.bool a0_6) := (blk_cell BK211.out 6).trans rfl; have hcz9_7 : w8.cell? ⟨gb211, 7, none⟩ = some (.int .i64 a0_7) := (blk_cell BK211.out 7).trans rfl; have hcz9_8 : w8.cell? ⟨gb211, 8, none⟩ = some (.slice A0_8 l0_8.length c0_8) := (blk_cell BK211.out 8).trans rfl; have hcz9_9 : w8.cell? ⟨gb211, 9, none⟩ = some (.slice A0_9 l0_9.length c0_9) := (blk_cell BK211.out 9).trans rfl; have hcz9_10 : w8.cell? ⟨gb211, 10, none⟩ = some (.slice A0_10 l0_10.length c0_10) := (blk_cell BK211.out 10).trans rfl; have hfz9_0 := blk_frozen BK211.out 0; have hfz9_1 := blk_frozen BK211.out 1; have hfz9_2 := blk_frozen BK211.out 2; have hfz9_3 := blk_frozen BK211.out 3; have hfz9_4 := blk_frozen BK211.out 4; have hfz9_5 := blk_frozen BK211.out 5; have hfz9_6 := blk_frozen BK211.out 6; have hfz9_7 := blk_frozen BK211.out 7; have hfz9_8 := blk_frozen BK211.out 8; have hfz9_9 := blk_frozen BK211.out 9; have hfz9_10 := blk_frozen BK211.out 10))
      go_ret
      exact ⟨by first | rfl | (simp [errW_none, errW_some] <;> rfl) | (simp [*, errW_none, errW_some] <;> rfl), by repeat (first | (with_reducible first | exact HB.out | apply below_alloc | apply pw_below_drewN | apply below_drew1 | refine below_set ?_ GE211.out) | exact HB.out)⟩
def marquetryref24_Name.l0 : Nat → ByteArray → Int → Option (Bool)
  | 0, _, _ => none
  | k + 1, x0, x3 => if x3 < (x0.size : Int) then (if 0 ≤ x3 then (if (bt x0 x3) < 32 then (some false) else (if (bt x0 x3) > 126 then (some false) else (marquetryref24_Name.l0 k x0 (wrap64 (x3 + 1))))) else (none)) else (some ((x0.size : Int) == 4))
def marquetryref24_Name.f (k : Nat) (a0 : ByteArray) : Option (Bool) := marquetryref24_Name.l0 k a0 0
theorem marquetryref24_Name.mono_l : ∀ k, (∀ y0 y1, LeO (marquetryref24_Name.l0 k y0 y1) (marquetryref24_Name.l0 (k + 1) y0 y1))
  | 0 => fun _ _ r h => by simp [marquetryref24_Name.l0] at h
  | k + 1 => by
    have ih0 := marquetryref24_Name.mono_l k
    · intro y0 y1
      unfold marquetryref24_Name.l0
      repeat' first
      | (with_reducible exact ih0 _ _)
      | (with_reducible exact LeO.refl _)
      | (with_reducible exact LeO.none _)
      | (with_reducible refine LeO.ite ?_ ?_)
      | (with_reducible refine LeO.bind ?_ (fun _ => ?_))
      | exact ih0 _ _
      | exact LeO.none _
      | refine LeO.ite ?_ ?_
      | refine LeO.bind ?_ (fun _ => ?_)
theorem marquetryref24_Name.mono : ∀ a0 k, LeO (marquetryref24_Name.f k a0) (marquetryref24_Name.f (k + 1) a0) := by
  intro a0 k
  have ih0 := marquetryref24_Name.mono_l k
  unfold marquetryref24_Name.f
  repeat' first
      | (with_reducible exact ih0 _ _)
      | (with_reducible exact LeO.refl _)
      | (with_reducible exact LeO.none _)
      | (with_reducible refine LeO.ite ?_ ?_)
      | (with_reducible refine LeO.bind ?_ (fun _ => ?_))
      | exact ih0 _ _
      | exact LeO.none _
      | refine LeO.ite ?_ ?_
      | refine LeO.bind ?_ (fun _ => ?_)
set_option maxHeartbeats 8000000 in
set_option maxRecDepth 100000 in
theorem marquetryref24_Name.calls (k : Nat) (a0 : ByteArray) (r : Bool) (w : World) (h : marquetryref24_Name.f k a0 = some r) :
    Calls Try.prog 77 #[.string a0] w fun e w' => e = .returned (.bool r) ∧ Drawn0 w w' := by
  have H : (marquetryref24_Name.l0 k a0 0) = some r := h
  clear h
  have H' := asiD H
  clear H
  go_enter Try.func77, Try.ntmps77
  go_wp2
  go_loopg [3] k (fun kq v3 w' => ∃ (x3_1 : Int), v3 = .int .i64 x3_1 ∧ Aside0 (marquetryref24_Name.l0 kq a0 x3_1 = some r) ∧ Aside0 (kq ≤ k) ∧ Drawn0 w w')
  case atStart => exact ⟨(0), (by first | rfl | (simp; done) | (simp [*]; done)), H', ⟨Nat.le_refl _⟩, by repeat (first | exact Drawn0.refl _ | apply Drawn0.step)⟩
  case round =>
    clear H'
    obtain ⟨x3_1, rfl, HA, HK1, ⟨m1, rfl⟩⟩ := hrel
    cases gk with
    | zero => exact absurd HA.out (by simp [marquetryref24_Name.l0])
    | succ k1 =>
      have H := HA.out
      clear HA
      simp only [marquetryref24_Name.l0] at H
      by_cases c2 : x3_1 < (a0.size : Int)
      · rw [if_pos c2] at H
        have c2b0 : decide (x3_1 < (a0.size : Int)) = true := decide_eq_true c2
        clear c2
        by_cases c3 : 0 ≤ x3_1
        · rw [if_pos c3] at H
          have c3b0 : decide (0 ≤ x3_1) = true := decide_eq_true c3
          clear c3
          by_cases c5 : (bt a0 x3_1) < 32
          · rw [if_pos c5] at H
            have c5b0 : decide ((bt a0 x3_1) < 32) = true := decide_eq_true c5
            clear c5
            obtain rfl := Option.some.inj H
            have p4 : 0 ≤ (x3_1 : Int) := of_decide_eq_true (by first | (with_reducible assumption) | assumption)
            have q4 : x3_1 < (a0.size : Int) := of_decide_eq_true (by first | (with_reducible assumption) | assumption)
            have hx4 := bt_at a0 x3_1
            replace p4 := eq_true p4
            replace q4 := eq_true q4
            go_wp2
            go_ret
            exact ⟨by first | rfl | (simp; done) | (simp [*]; done), by repeat (first | exact Drawn0.refl _ | apply Drawn0.step)⟩
          · rw [if_neg c5] at H
            have c5b0 : decide ((bt a0 x3_1) < 32) = false := decide_eq_false c5
            clear c5
            by_cases c7 : (bt a0 x3_1) > 126
            · rw [if_pos c7] at H
              have c7b0 : decide (126 < (bt a0 x3_1)) = true := decide_eq_true c7
              clear c7
              obtain rfl := Option.some.inj H
              have p4 : 0 ≤ (x3_1 : Int) := of_decide_eq_true (by first | (with_reducible assumption) | assumption)
              have q4 : x3_1 < (a0.size : Int) := of_decide_eq_true (by first | (with_reducible assumption) | assumption)
              have hx4 := bt_at a0 x3_1
              replace p4 := eq_true p4
              replace q4 := eq_true q4
              have p6 : 0 ≤ (x3_1 : Int) := of_decide_eq_true (by first | (with_reducible assumption) | assumption)
              have q6 : x3_1 < (a0.size : Int) := of_decide_eq_true (by first | (with_reducible assumption) | assumption)
              have hx6 := bt_at a0 x3_1
              replace p6 := eq_true p6
              replace q6 := eq_true q6
              go_wp2
              go_ret
              exact ⟨by first | rfl | (simp; done) | (simp [*]; done), by repeat (first | exact Drawn0.refl _ | apply Drawn0.step)⟩
            · rw [if_neg c7] at H
              have c7b0 : decide (126 < (bt a0 x3_1)) = false := decide_eq_false c7
              clear c7
              have H' := asiD H
              clear H
              have p4 : 0 ≤ (x3_1 : Int) := of_decide_eq_true (by first | (with_reducible assumption) | assumption)
              have q4 : x3_1 < (a0.size : Int) := of_decide_eq_true (by first | (with_reducible assumption) | assumption)
              have hx4 := bt_at a0 x3_1
              replace p4 := eq_true p4
              replace q4 := eq_true q4
              have p6 : 0 ≤ (x3_1 : Int) := of_decide_eq_true (by first | (with_reducible assumption) | assumption)
              have q6 : x3_1 < (a0.size : Int) := of_decide_eq_true (by first | (with_reducible assumption) | assumption)
              have hx6 := bt_at a0 x3_1
              replace p6 := eq_true p6
              replace q6 := eq_true q6
              go_wp2
              go_roundg k1
              case measure => have := HK1.out; omega
              case rel => exact ⟨(wrap64 (x3_1 + 1)), (by first | rfl | (simp; done) | (simp [*]; done)), H', ⟨by have := HK1.out; omega⟩, by repeat (first | exact Drawn0.refl _ | apply Drawn0.step)⟩
        · rw [if_neg c3] at H
          exact absurd H (by simp)
      · rw [if_neg c2] at H
        have c2b0 : decide (x3_1 < (a0.size : Int)) = false := decide_eq_false c2
        clear c2
        obtain rfl := Option.some.inj H
        go_wp2
        go_ret
        exact ⟨by first | rfl | (simp; done) | (simp [*]; done), by repeat (first | exact Drawn0.refl _ | apply Drawn0.step)⟩
def marquetryref24_own.l0 : Nat → ByteArray → List ByteArray → Int → Option (Bool)
  | 0, _, _, _ => none
  | k + 1, x0, x3, x4 => if x4 < (x3.length : Int) then (if 0 ≤ x4 then (if (rdOf ByteArray.empty x3 x4).toList = x0.toList then (some false) else (marquetryref24_own.l0 k x0 x3 (wrap64 (x4 + 1)))) else (none)) else ((marquetryref24_Name.f k x0).bind fun t216 => (some t216))
def marquetryref24_own.f (k : Nat) (a0 : ByteArray) : Option (Bool) := marquetryref24_own.l0 k a0 (([(⟨#[86, 80, 56, 88]⟩ : ByteArray), (⟨#[73, 67, 67, 80]⟩ : ByteArray), (⟨#[65, 78, 73, 77]⟩ : ByteArray), (⟨#[65, 78, 77, 70]⟩ : ByteArray), (⟨#[65, 76, 80, 72]⟩ : ByteArray), (⟨#[86, 80, 56, 76]⟩ : ByteArray), (⟨#[86, 80, 56, 32]⟩ : ByteArray), (⟨#[69, 88, 73, 70]⟩ : ByteArray), (⟨#[88, 77, 80, 32]⟩ : ByteArray)] : List ByteArray)) 0
theorem marquetryref24_own.mono_l : ∀ k, (∀ y0 y1 y2, LeO (marquetryref24_own.l0 k y0 y1 y2) (marquetryref24_own.l0 (k + 1) y0 y1 y2))
  | 0 => fun _ _ _ r h => by simp [marquetryref24_own.l0] at h
  | k + 1 => by
    have ih0 := marquetryref24_own.mono_l k
    · intro y0 y1 y2
      unfold marquetryref24_own.l0
      repeat' first
      | (with_reducible exact ih0 _ _ _)
      | (with_reducible exact marquetryref24_Name.mono _ _)
      | (with_reducible exact LeO.refl _)
      | (with_reducible exact LeO.none _)
      | (with_reducible refine LeO.ite ?_ ?_)
      | (with_reducible refine LeO.bind ?_ (fun _ => ?_))
      | exact ih0 _ _ _
      | exact marquetryref24_Name.mono _ _
      | exact LeO.none _
      | refine LeO.ite ?_ ?_
      | refine LeO.bind ?_ (fun _ => ?_)
theorem marquetryref24_own.mono : ∀ a0 k, LeO (marquetryref24_own.f k a0) (marquetryref24_own.f (k + 1) a0) := by
  intro a0 k
  have ih0 := marquetryref24_own.mono_l k
  unfold marquetryref24_own.f
  repeat' first
      | (with_reducible exact ih0 _ _ _)
      | (with_reducible exact marquetryref24_Name.mono _ _)
      | (with_reducible exact LeO.refl _)
      | (with_reducible exact LeO.none _)
      | (with_reducible refine LeO.ite ?_ ?_)
      | (with_reducible refine LeO.bind ?_ (fun _ => ?_))
      | exact ih0 _ _ _
      | exact marquetryref24_Name.mono _ _
      | exact LeO.none _
      | refine LeO.ite ?_ ?_
      | refine LeO.bind ?_ (fun _ => ?_)
set_option maxHeartbeats 8000000 in
set_option maxRecDepth 100000 in
theorem marquetryref24_own.calls (k : Nat) (a0 : ByteArray) (r : Bool) (w : World) (h : marquetryref24_own.f k a0 = some r) :
    Calls Try.prog 67 #[.string a0] w fun e w' => e = .returned (.bool r) ∧ Below w.heap.size w w' := by
  have HB := asiD (Below.refl w.heap.size w)
  have H : (marquetryref24_own.l0 k a0 (([(⟨#[86, 80, 56, 88]⟩ : ByteArray), (⟨#[73, 67, 67, 80]⟩ : ByteArray), (⟨#[65, 78, 73, 77]⟩ : ByteArray), (⟨#[65, 78, 77, 70]⟩ : ByteArray), (⟨#[65, 76, 80, 72]⟩ : ByteArray), (⟨#[86, 80, 56, 76]⟩ : ByteArray), (⟨#[86, 80, 56, 32]⟩ : ByteArray), (⟨#[69, 88, 73, 70]⟩ : ByteArray), (⟨#[88, 77, 80, 32]⟩ : ByteArray)] : List ByteArray)) 0) = some r := h
  clear h
  obtain ⟨y212, hy212⟩ : ∃ y_ : List ByteArray, y_ = (([(⟨#[86, 80, 56, 88]⟩ : ByteArray), (⟨#[73, 67, 67, 80]⟩ : ByteArray), (⟨#[65, 78, 73, 77]⟩ : ByteArray), (⟨#[65, 78, 77, 70]⟩ : ByteArray), (⟨#[65, 76, 80, 72]⟩ : ByteArray), (⟨#[86, 80, 56, 76]⟩ : ByteArray), (⟨#[86, 80, 56, 32]⟩ : ByteArray), (⟨#[69, 88, 73, 70]⟩ : ByteArray), (⟨#[88, 77, 80, 32]⟩ : ByteArray)] : List ByteArray)) := ⟨_, rfl⟩
  replace H : (marquetryref24_own.l0 k a0 y212 0) = some r := by first | (rw [hy212]; with_reducible exact H) | (have H2_ := (Option.bind_some _ _).symm.trans H; rw [hy212]; with_reducible exact H2_) | (have H2_ := (Option.bind_some _ _).symm.trans H; with_reducible exact H2_) | with_reducible exact H | (rw [hy212]; exact H) | exact H
  have Ny212 := asiD hy212
  clear hy212
  have H' := asiD H
  clear H
  go_enter Try.func67, Try.ntmps67
  go_wp2_with (first | ((with_reducible refine gate_dst (N := 5) rfl ?_); refine Kd.R_lit Kd.string _ 9 ?hg (N := 5) ?hd (xs := ([(⟨#[86, 80, 56, 88]⟩ : ByteArray), (⟨#[73, 67, 67, 80]⟩ : ByteArray), (⟨#[65, 78, 73, 77]⟩ : ByteArray), (⟨#[65, 78, 77, 70]⟩ : ByteArray), (⟨#[65, 76, 80, 72]⟩ : ByteArray), (⟨#[86, 80, 56, 76]⟩ : ByteArray), (⟨#[86, 80, 56, 32]⟩ : ByteArray), (⟨#[69, 88, 73, 70]⟩ : ByteArray), (⟨#[88, 77, 80, 32]⟩ : ByteArray)] : List ByteArray)) (inner := [.string (⟨#[86, 80, 56, 88]⟩ : ByteArray), .string (⟨#[73, 67, 67, 80]⟩ : ByteArray), .string (⟨#[65, 78, 73, 77]⟩ : ByteArray), .string (⟨#[65, 78, 77, 70]⟩ : ByteArray), .string (⟨#[65, 76, 80, 72]⟩ : ByteArray), .string (⟨#[86, 80, 56, 76]⟩ : ByteArray), .string (⟨#[86, 80, 56, 32]⟩ : ByteArray), .string (⟨#[69, 88, 73, 70]⟩ : ByteArray), .string (⟨#[88, 77, 80, 32]⟩ : ByteArray)]) (ok := fun _ => True) (okp := fun _ => True) ?hr ?hp (fun _ hk => hk) trivial (Below.refl _ _) (Nat.le_refl _) (by simp) ?_; (case hd => rfl); (case hg => rfl); (case hr => first | (go_simp; done) | (go_simp; rfl)); (case hp => exact (Reps.one (show Kd.M Kd.string _ _ _ (⟨#[86, 80, 56, 88]⟩ : ByteArray) [.string (⟨#[86, 80, 56, 88]⟩ : ByteArray)] from rfl) (Reps.one (show Kd.M Kd.string _ _ _ (⟨#[73, 67, 67, 80]⟩ : ByteArray) [.string (⟨#[73, 67, 67, 80]⟩ : ByteArray)] from rfl) (Reps.one (show Kd.M Kd.string _ _ _ (⟨#[65, 78, 73, 77]⟩ : ByteArray) [.string (⟨#[65, 78, 73, 77]⟩ : ByteArray)] from rfl) (Reps.one (show Kd.M Kd.string _ _ _ (⟨#[65, 78, 77, 70]⟩ : ByteArray) [.string (⟨#[65, 78, 77, 70]⟩ : ByteArray)] from rfl) (Reps.one (show Kd.M Kd.string _ _ _ (⟨#[65, 76, 80, 72]⟩ : ByteArray) [.string (⟨#[65, 76, 80, 72]⟩ : ByteArray)] from rfl) (Reps.one (show Kd.M Kd.string _ _ _ (⟨#[86, 80, 56, 76]⟩ : ByteArray) [.string (⟨#[86, 80, 56, 76]⟩ : ByteArray)] from rfl) (Reps.one (show Kd.M Kd.string _ _ _ (⟨#[86, 80, 56, 32]⟩ : ByteArray) [.string (⟨#[86, 80, 56, 32]⟩ : ByteArray)] from rfl) (Reps.one (show Kd.M Kd.string _ _ _ (⟨#[69, 88, 73, 70]⟩ : ByteArray) [.string (⟨#[69, 88, 73, 70]⟩ : ByteArray)] from rfl) (Reps.one (show Kd.M Kd.string _ _ _ (⟨#[88, 77, 80, 32]⟩ : ByteArray) [.string (⟨#[88, 77, 80, 32]⟩ : ByteArray)] from rfl) (Reps.none _ _))))))))))); intro v213 w2 ho3 hb hg_ hnew_; clear hg_ hnew_; (first | rw [← Ny212.out] at ho3 | (simp only [Int.reduceToNat] at ho3; rw [← Ny212.out] at ho3)); have n0_ := asiD (Kd.R_lower ho3 (below_size (by repeat (first | (with_reducible first | exact HB.out | apply below_alloc | apply pw_below_drewN | apply below_drew1) | exact HB.out)))); have n1_ := asiD (below_step (by repeat (first | (with_reducible first | exact HB.out | apply below_alloc | apply pw_below_drewN | apply below_drew1) | exact HB.out)) hb); clear HB; have HO214 := n0_; have HB := n1_; clear n0_ n1_; clear hb ho3))
  go_loopg [4] k (fun kq v4 w' => ∃ (x4_1 : Int), v4 = .int .i64 x4_1 ∧ Aside0 (marquetryref24_own.l0 kq a0 y212 x4_1 = some r) ∧ Aside0 (kq ≤ k) ∧ Aside0 (Kd.R Kd.string 9 w' w.heap.size (fun _ => True) v213 y212) ∧ Aside0 (Below w.heap.size w w'))
  case atStart => exact ⟨(0), (by first | rfl | (simp; done) | (simp [*]; done)), H', ⟨Nat.le_refl _⟩, ⟨by (with_reducible repeat (first | apply Kd.R_alloc | apply Kd.R_drewN | apply Kd.R_drew)); exact HO214.out⟩, ⟨by repeat (first | (with_reducible first | exact HB.out | apply below_alloc | apply pw_below_drewN | apply below_drew1) | exact HB.out)⟩⟩
  case round =>
    clear H'
    try clear p2
    obtain ⟨x4_1, rfl, HA, HK1, HO_3, HB⟩ := hrel
    cases gk with
    | zero => exact absurd HA.out (by simp [marquetryref24_own.l0])
    | succ k1 =>
      have H := HA.out
      clear HA
      simp only [marquetryref24_own.l0] at H
      by_cases c4 : x4_1 < (y212.length : Int)
      · rw [if_pos c4] at H
        have c4b0 : decide (x4_1 < (y212.length : Int)) = true := decide_eq_true c4
        clear c4
        by_cases c5 : 0 ≤ x4_1
        · rw [if_pos c5] at H
          have c5b0 : decide (0 ≤ x4_1) = true := decide_eq_true c5
          clear c5
          by_cases c6 : (rdOf ByteArray.empty y212 x4_1).toList = a0.toList
          · rw [if_pos c6] at H
            have c6b0 : ((rdOf ByteArray.empty y212 x4_1).toList == a0.toList) = true := beq_iff_eq.mpr c6
            have c6b1 : ((rdOf ByteArray.empty y212 x4_1).toList != a0.toList) = false := bne_eq_false_iff_eq.mpr c6
            clear c6
            obtain rfl := Option.some.inj H
            obtain ⟨Ao7, co7, eo7⟩ := Kd.R_slice HO_3.out
            subst eo7
            have p215 : 0 ≤ (x4_1 : Int) := of_decide_eq_true (by first | (with_reducible assumption) | assumption)
            have q215 : x4_1 < (y212.length : Int) := of_decide_eq_true (by first | (with_reducible assumption) | assumption)
            obtain ⟨ad215, e215, hx215_0⟩ := Kd.at_string (Kd.R_reads' HO_3.out).2.2 x4_1 p215 q215
            cases e215
            replace p215 := eq_true p215
            replace q215 := eq_true q215
            go_wp2
            go_ret
            exact ⟨by first | rfl | (simp [errW_none, errW_some] <;> rfl) | (simp [*, errW_none, errW_some] <;> rfl), by repeat (first | (with_reducible first | exact HB.out | apply below_alloc | apply pw_below_drewN | apply below_drew1) | exact HB.out)⟩
          · rw [if_neg c6] at H
            have c6b0 : ((rdOf ByteArray.empty y212 x4_1).toList == a0.toList) = false := beq_eq_false_iff_ne.mpr c6
            have c6b1 : ((rdOf ByteArray.empty y212 x4_1).toList != a0.toList) = true := bne_iff_ne.mpr c6
            have H' := asiD H
            clear H
            obtain ⟨Ao8, co8, eo8⟩ := Kd.R_slice HO_3.out
            subst eo8
            have p215 : 0 ≤ (x4_1 : Int) := of_decide_eq_true (by first | (with_reducible assumption) | assumption)
            have q215 : x4_1 < (y212.length : Int) := of_decide_eq_true (by first | (with_reducible assumption) | assumption)
            obtain ⟨ad215, e215, hx215_0⟩ := Kd.at_string (Kd.R_reads' HO_3.out).2.2 x4_1 p215 q215
            cases e215
            replace p215 := eq_true p215
            replace q215 := eq_true q215
            go_wp2
            go_roundg k1
            case measure => have := HK1.out; omega
            case rel => exact ⟨(wrap64 (x4_1 + 1)), (by first | rfl | (simp; done) | (simp [*]; done)), H', ⟨by have := HK1.out; omega⟩, ⟨by (with_reducible repeat (first | apply Kd.R_alloc | apply Kd.R_drewN | apply Kd.R_drew)); exact HO_3.out⟩, ⟨by repeat (first | (with_reducible first | exact HB.out | apply below_alloc | apply pw_below_drewN | apply below_drew1) | exact HB.out)⟩⟩
        · rw [if_neg c5] at H
          exact absurd H (by simp)
      · rw [if_neg c4] at H
        have c4b0 : decide (x4_1 < (y212.length : Int)) = false := decide_eq_false c4
        clear c4
        replace H := Option.bind_eq_some_iff.mp H
        obtain ⟨t216, A90, H⟩ := H
        replace H : (some t216) = some r := H
        have A9 := asiD A90
        clear A90
        obtain rfl := Option.some.inj H
        obtain ⟨Ao10, co10, eo10⟩ := Kd.R_slice HO_3.out
        subst eo10
        go_wp2_with (first | ((with_reducible refine gate_callee (f := 77) rfl ?_); refine goesL_ (some 19) rfl rfl Try.func77 (by kernel_rfl) rfl #[.string a0] rfl (by (try simp only [List.map_toArray, List.map_cons, List.map_nil]); first | done | rfl | (simp only [List.length_drop, List.length_take]; rfl)) ?_; (with_reducible refine (marquetryref24_Name.calls k1 a0 t216 _ A9.out).mono ?_); clear A9; rintro e w' ⟨rfl, ⟨nd, rfl⟩⟩; refine ⟨_, rfl, ?_⟩) | (go_at_call 77; (with_reducible refine (marquetryref24_Name.calls k1 a0 t216 _ A9.out).mono ?_); clear A9; rintro e w' ⟨rfl, ⟨nd, rfl⟩⟩))
        go_ret
        exact ⟨by first | rfl | (simp [errW_none, errW_some] <;> rfl) | (simp [*, errW_none, errW_some] <;> rfl), by repeat (first | (with_reducible first | exact HB.out | apply below_alloc | apply pw_below_drewN | apply below_drew1) | exact HB.out)⟩
def marquetryref24_more.l0 : Nat → List (S42) → Int → Option (Bool)
  | 0, _, _ => none
  | k + 1, x0, x3 => if x3 < (x0.length : Int) then (if 0 ≤ x3 then ((marquetryref24_own.f k ((rd_T42 x0 x3).f0)).bind fun t218 => (if t218 = true then (marquetryref24_more.l0 k x0 (wrap64 (x3 + 1))) else (some false))) else (none)) else (some true)
def marquetryref24_more.f (k : Nat) (l0 : List (S42)) : Option (Bool) := marquetryref24_more.l0 k l0 0
theorem marquetryref24_more.mono_l : ∀ k, (∀ y0 y1, LeO (marquetryref24_more.l0 k y0 y1) (marquetryref24_more.l0 (k + 1) y0 y1))
  | 0 => fun _ _ r h => by simp [marquetryref24_more.l0] at h
  | k + 1 => by
    have ih0 := marquetryref24_more.mono_l k
    · intro y0 y1
      unfold marquetryref24_more.l0
      repeat' first
      | (with_reducible exact ih0 _ _)
      | (with_reducible exact marquetryref24_own.mono _ _)
      | (with_reducible exact LeO.refl _)
      | (with_reducible exact LeO.none _)
      | (with_reducible refine LeO.ite ?_ ?_)
      | (with_reducible refine LeO.bind ?_ (fun _ => ?_))
      | exact ih0 _ _
      | exact marquetryref24_own.mono _ _
      | exact LeO.none _
      | refine LeO.ite ?_ ?_
      | refine LeO.bind ?_ (fun _ => ?_)
theorem marquetryref24_more.mono : ∀ a0 k, LeO (marquetryref24_more.f k a0) (marquetryref24_more.f (k + 1) a0) := by
  intro a0 k
  have ih0 := marquetryref24_more.mono_l k
  unfold marquetryref24_more.f
  repeat' first
      | (with_reducible exact ih0 _ _)
      | (with_reducible exact marquetryref24_own.mono _ _)
      | (with_reducible exact LeO.refl _)
      | (with_reducible exact LeO.none _)
      | (with_reducible refine LeO.ite ?_ ?_)
      | (with_reducible refine LeO.bind ?_ (fun _ => ?_))
      | exact ih0 _ _
      | exact marquetryref24_own.mono _ _
      | exact LeO.none _
      | refine LeO.ite ?_ ?_
      | refine LeO.bind ?_ (fun _ => ?_)
set_option maxHeartbeats 8000000 in
set_option maxRecDepth 100000 in
theorem marquetryref24_more.calls (k : Nat) (A0 : Option Addr) (c0 : Nat) (l0 : List (S42)) (r : Bool) (w : World) (hr0 : Kd.C k42 w A0 l0.length l0) (hc0 : l0.length ≤ c0) (h : marquetryref24_more.f k l0 = some r) :
    Calls Try.prog 32 #[.slice A0 l0.length c0] w fun e w' => e = .returned (.bool r) ∧ Below w.heap.size w w' := by
  have HR0 := asiD hr0
  have HC0 := asiD hc0
  clear hr0 hc0
  have HB := asiD (Below.refl w.heap.size w)
  have H : (marquetryref24_more.l0 k l0 0) = some r := h
  clear h
  have H' := asiD H
  clear H
  go_enter Try.func32, Try.ntmps32
  go_wp2
  go_loopg [3] k (fun kq v3 w' => ∃ (x3_1 : Int), v3 = .int .i64 x3_1 ∧ Aside0 (marquetryref24_more.l0 kq l0 x3_1 = some r) ∧ Aside0 (kq ≤ k) ∧ Aside0 (Below w.heap.size w w'))
  case atStart => exact ⟨(0), (by first | rfl | (simp; done) | (simp [*]; done)), H', ⟨Nat.le_refl _⟩, ⟨by repeat (first | (with_reducible first | exact HB.out | apply below_alloc | apply pw_below_drewN | apply below_drew1) | exact HB.out)⟩⟩
  case round =>
    clear H'
    obtain ⟨x3_1, rfl, HA, HK1, HB⟩ := hrel
    cases gk with
    | zero => exact absurd HA.out (by simp [marquetryref24_more.l0])
    | succ k1 =>
      have H := HA.out
      clear HA
      simp only [marquetryref24_more.l0] at H
      by_cases c2 : x3_1 < (l0.length : Int)
      · rw [if_pos c2] at H
        have c2b0 : decide (x3_1 < (l0.length : Int)) = true := decide_eq_true c2
        clear c2
        by_cases c3 : 0 ≤ x3_1
        · rw [if_pos c3] at H
          have c3b0 : decide (0 ≤ x3_1) = true := decide_eq_true c3
          clear c3
          replace H := Option.bind_eq_some_iff.mp H
          obtain ⟨t218, A40, H⟩ := H
          replace H : (if t218 = true then (marquetryref24_more.l0 k1 l0 (wrap64 (x3_1 + 1))) else (some false)) = some r := H
          have A4 := asiD A40
          clear A40
          by_cases c5 : t218 = true
          · subst c5
            have H1 : (marquetryref24_more.l0 k1 l0 (wrap64 (x3_1 + 1))) = some r := by rw [if_pos rfl] at H; exact H
            clear H
            have H := H1
            clear H1
            have H' := asiD H
            clear H
            have p217 : 0 ≤ (x3_1 : Int) := of_decide_eq_true (by first | (with_reducible assumption) | assumption)
            have q217 : x3_1 < (l0.length : Int) := of_decide_eq_true (by first | (with_reducible assumption) | assumption)
            obtain ⟨ad217, A217_1, c217_1, e217, hx217_0, hx217_1, hl217_1, hi217_1⟩ := at_T42 HR0.out x3_1 p217 q217
            cases e217
            replace hx217_0 := (cellL HB.out hx217_0)
            replace hx217_1 := (cellL HB.out hx217_1)
            have HR217_1 := asiD hi217_1
            have HC217_1 := asiD hl217_1
            clear hi217_1 hl217_1
            replace p217 := eq_true p217
            replace q217 := eq_true q217
            go_wp2_with (first | ((with_reducible refine gate_callee (f := 67) rfl ?_); refine goesL_ (some 15) rfl rfl Try.func67 (by kernel_rfl) rfl #[.string ((rd_T42 l0 x3_1).f0)] rfl (by (try simp only [List.map_toArray, List.map_cons, List.map_nil]); first | done | rfl | (simp only [List.length_drop, List.length_take]; rfl)) ?_; (with_reducible refine (marquetryref24_own.calls k1 ((rd_T42 l0 x3_1).f0) true _ A4.out).mono ?_); clear A4; rintro e w6 ⟨rfl, hb⟩; refine ⟨_, rfl, ?_⟩; have n0_ := asiD (below_step (by repeat (first | (with_reducible first | exact HB.out | apply below_alloc | apply pw_below_drewN | apply below_drew1) | exact HB.out)) hb); clear HB; have HB := n0_; clear n0_; (try clear hb); (try clear hb2); (try clear hk); (try clear hi)) | (go_at_call 67; (with_reducible refine (marquetryref24_own.calls k1 ((rd_T42 l0 x3_1).f0) true _ A4.out).mono ?_); clear A4; rintro e w6 ⟨rfl, hb⟩; have n0_ := asiD (below_step (by repeat (first | (with_reducible first | exact HB.out | apply below_alloc | apply pw_below_drewN | apply below_drew1) | exact HB.out)) hb); clear HB; have HB := n0_; clear n0_; (try clear hb); (try clear hb2); (try clear hk); (try clear hi)))
            go_roundg k1
            case measure => have := HK1.out; omega
            case rel => exact ⟨(wrap64 (x3_1 + 1)), (by first | rfl | (simp; done) | (simp [*]; done)), H', ⟨by have := HK1.out; omega⟩, ⟨by repeat (first | (with_reducible first | exact HB.out | apply below_alloc | apply pw_below_drewN | apply below_drew1) | exact HB.out)⟩⟩
          · replace c5 := Bool.eq_false_iff.mpr c5
            subst c5
            have H1 : (some false) = some r := by rw [if_neg (show ¬ (false = true) by decide)] at H; exact H
            clear H
            have H := H1
            clear H1
            obtain rfl := Option.some.inj H
            have p217 : 0 ≤ (x3_1 : Int) := of_decide_eq_true (by first | (with_reducible assumption) | assumption)
            have q217 : x3_1 < (l0.length : Int) := of_decide_eq_true (by first | (with_reducible assumption) | assumption)
            obtain ⟨ad217, A217_1, c217_1, e217, hx217_0, hx217_1, hl217_1, hi217_1⟩ := at_T42 HR0.out x3_1 p217 q217
            cases e217
            replace hx217_0 := (cellL HB.out hx217_0)
            replace hx217_1 := (cellL HB.out hx217_1)
            have HR217_1 := asiD hi217_1
            have HC217_1 := asiD hl217_1
            clear hi217_1 hl217_1
            replace p217 := eq_true p217
            replace q217 := eq_true q217
            go_wp2_with (first | ((with_reducible refine gate_callee (f := 67) rfl ?_); refine goesL_ (some 15) rfl rfl Try.func67 (by kernel_rfl) rfl #[.string ((rd_T42 l0 x3_1).f0)] rfl (by (try simp only [List.map_toArray, List.map_cons, List.map_nil]); first | done | rfl | (simp only [List.length_drop, List.length_take]; rfl)) ?_; (with_reducible refine (marquetryref24_own.calls k1 ((rd_T42 l0 x3_1).f0) false _ A4.out).mono ?_); clear A4; rintro e w7 ⟨rfl, hb⟩; refine ⟨_, rfl, ?_⟩; have n0_ := asiD (below_step (by repeat (first | (with_reducible first | exact HB.out | apply below_alloc | apply pw_below_drewN | apply below_drew1) | exact HB.out)) hb); clear HB; have HB := n0_; clear n0_; (try clear hb); (try clear hb2); (try clear hk); (try clear hi)) | (go_at_call 67; (with_reducible refine (marquetryref24_own.calls k1 ((rd_T42 l0 x3_1).f0) false _ A4.out).mono ?_); clear A4; rintro e w7 ⟨rfl, hb⟩; have n0_ := asiD (below_step (by repeat (first | (with_reducible first | exact HB.out | apply below_alloc | apply pw_below_drewN | apply below_drew1) | exact HB.out)) hb); clear HB; have HB := n0_; clear n0_; (try clear hb); (try clear hb2); (try clear hk); (try clear hi)))
            go_ret
            exact ⟨by first | rfl | (simp [errW_none, errW_some] <;> rfl) | (simp [*, errW_none, errW_some] <;> rfl), by repeat (first | (with_reducible first | exact HB.out | apply below_alloc | apply pw_below_drewN | apply below_drew1) | exact HB.out)⟩
        · rw [if_neg c3] at H
          exact absurd H (by simp)
      · rw [if_neg c2] at H
        have c2b0 : decide (x3_1 < (l0.length : Int)) = false := decide_eq_false c2
        clear c2
        obtain rfl := Option.some.inj H
        go_wp2
        go_ret
        exact ⟨by first | rfl | (simp [errW_none, errW_some] <;> rfl) | (simp [*, errW_none, errW_some] <;> rfl), by repeat (first | (with_reducible first | exact HB.out | apply below_alloc | apply pw_below_drewN | apply below_drew1) | exact HB.out)⟩
end Go.Proofs.Ythkocpcjcpohcaa.P
end
