/- The part of our texts, and of the print's, that these laws' proofs use. -/
import Derived.Test.YthkocpcjcpohcaaZD14
set_option linter.unusedVariables false
set_option linter.unusedSimpArgs false
section
namespace Go.Proofs.Ythkocpcjcpohcaa.P
open Go Go.RowKit Go.Proofs.YthkocpcjcpohcaaW.PrintWords Go.Proofs.YthkocpcjcpohcaaW.PrintLast Go.Proofs.YthkocpcjcpohcaaW.PrintMore Go.Proofs.Ythkocpcjcpohcaa.U Go.Proofs.Ythkocpcjcpohcaa.Pure
attribute [local go_sem] max2_int min2_int max_two min_two max_three min_three max_four min_four
theorem rown_loop (s : ByteArray) (hs : s.size ≤ 140737488355328) (l : List ByteArray) (hl : l.length ≤ 100) (d : Nat) : ∀ i : Nat, i + d = l.length → Ev (fun k => marquetryref24_own.l0 k s l i) (okName s && !((l.drop i).any fun x => decide (s.toList = x.toList))) := by
  induction d with
  | zero =>
    intro i hi
    refine Ev.succ ?_
    simp only [marquetryref24_own.l0]
    rw [List.drop_of_length_le (by omega), List.any_nil, Bool.not_false, Bool.and_true]
    refine Ev.ite_neg (by omega) (Ev.bind (Name_ev s hs) (Ev.now _))
  | succ d ih =>
    intro i hi
    refine Ev.succ ?_
    simp only [marquetryref24_own.l0]
    have hlt : i < l.length := by omega
    rw [any_drop hlt, rdOf_nat hlt, w64 (by omega) (by omega)]
    refine Ev.ite_pos (by omega) (Ev.ite_pos (by omega) ?_)
    by_cases h : l[i].toList = s.toList
    · refine Ev.ite_pos h ?_
      rw [decide_eq_true h.symm, Bool.true_or, Bool.not_true, Bool.and_false]
      exact Ev.now _
    · refine Ev.ite_neg h ?_
      rw [decide_eq_false fun x => h x.symm, Bool.false_or]
      exact ih (i + 1) (by omega)
theorem rown_ev (s : ByteArray) (hs : s.size ≤ 140737488355328) : Ev (fun k => marquetryref24_own.f k s) (ownB s) := by
  unfold marquetryref24_own.f ownB
  exact rown_loop s hs names (by decide) 9 0 rfl
theorem rmore_loop (l : List Ch) (hl : l.length ≤ 140737488355328) (hd : ∀ x ∈ l, x.f0.size ≤ 140737488355328) (d : Nat) : ∀ i : Nat, i + d = l.length → Ev (fun k => marquetryref24_more.l0 k l i) (moreB (l.drop i)) := by
  induction d with
  | zero =>
    intro i hi
    refine Ev.succ ?_
    simp only [marquetryref24_more.l0]
    rw [List.drop_of_length_le (by omega)]
    exact Ev.ite_neg (by omega) (Ev.now _)
  | succ d ih =>
    intro i hi
    have hlt : i < l.length := by omega
    refine Ev.succ ?_
    simp only [marquetryref24_more.l0]
    rw [rdT_at hlt, List.drop_eq_getElem_cons hlt, w64 (by omega) (by omega)]
    refine Ev.ite_pos (by omega) (Ev.ite_pos (by omega) (Ev.bind (rown_ev _ (hd _ (List.getElem_mem _))) ?_))
    have e : moreB (l[i] :: l.drop (i + 1)) = (ownB l[i].f0 && moreB (l.drop (i + 1))) := rfl
    rw [e]
    cases ownB l[i].f0 with
    | true => exact Ev.ite_pos rfl (by rw [Bool.true_and]; exact ih (i + 1) (by omega))
    | false => exact Ev.ite_neg (by simp) (Ev.now _)
theorem rmore_calls (A : Option Addr) (c : Nat) (l : List Ch) (w : World) (hl : chsL l) (hr : k42.C w A l.length l) (hc : l.length ≤ c) :
    Calls Try.prog 32 #[.slice A l.length c] w fun e w' => e = .returned (.bool (moreB l)) ∧ Below w.heap.size w w' := by
  have h := rmore_loop l (by have := hl.1; omega) (fun x hx => by have := (hl.2 x hx).1; omega) l.length 0 (by omega)
  obtain ⟨k, hk⟩ := h.rounds
  exact marquetryref24_more.calls k A c l _ w hr hc hk
theorem rkind_calls (x : Fr) (cs : List Value) (w : World) (hx : k44.K w x cs) : Calls Try.prog 31 #[.agg cs.toArray] w fun e w' => e = .returned (.bool (kindB x)) ∧ Below w.heap.size w w' := by
  obtain ⟨A1, c1, A2, c2, A3, c3, rfl, l1, g1, l2, g2, l3, g3⟩ := k44_open hx
  refine marquetryref24_kind.calls x.f0 x.f1 x.f2 x.f3 x.f4 x.f5 x.f6 x.f7 A1 c1 x.f8 A2 c2 x.f9 A3 c3 x.f10 (kindB x) w g1 l1 g2 l2 g3 l3 ?_
  unfold marquetryref24_kind.f kindB
  by_cases c : x.f7 = 2
  · rw [if_pos c, decide_eq_true (.inl c)]
  · rw [if_neg c]
    by_cases d : x.f7 = 1
    · rw [if_pos d]
      refine congrArg some ?_
      rw [Bool.eq_iff_iff, decide_eq_true_iff, beq_iff_eq]
      omega
    · rw [if_neg d, decide_eq_false (by omega)]
set_option maxHeartbeats 8000000 in
set_option maxRecDepth 100000 in
theorem rweight_calls (y : Dc) (ds : List Value) (w : World) (hy : k27.K w y ds) (ho : okDc y) (hn : smallN y < 4000000) :
    Calls Try.prog 30 #[.agg ds.toArray] w fun e w' => ∃ n : Nat, e = .returned (.int .i64 n) ∧ n ≤ 67108864 ∧ Below w.heap.size w w' := by
  obtain ⟨B1, d1, B2, d2, B3, d3, B4, d4, B5, d5, rfl, m1, h1, m2, h2, m3, h3, m4, h4, m5, h5⟩ := k27_open hy
  have w1 : IntKind.i64.wrap ((y.f7.length : Int) + y.f8.length) = (y.f7.length : Int) + y.f8.length := by unfold smallN at hn; exact wi64 (by omega) (by omega)
  have w2 : IntKind.i64.wrap ((y.f7.length : Int) + y.f8.length + y.f9.length) = ((y.f7.length + y.f8.length + y.f9.length : Nat) : Int) := by unfold smallN at hn; rw [wi64 (by omega) (by omega)]; omega
  obtain ⟨b0, hb0⟩ : ∃ b0 : Nat, b0 = y.f7.length + y.f8.length + y.f9.length := ⟨_, rfl⟩
  rw [← hb0] at w2
  have hbl : b0 ≤ 4000000 ∧ y.f14.length ≤ 200000 ∧ y.f13.length ≤ 200000 ∧ Pure.weight y.f14 ≤ 4000000 ∧ sumN frN y.f13 ≤ 4000000 := by unfold smallN at hn; omega
  have HS0 := asiD ((St.refl w).alloc #[.bool y.f0, .int .i64 y.f1, .int .i64 y.f2, .bool y.f3, .bool y.f4, .int .u32 y.f5, .int .i64 y.f6, .slice B1 y.f7.length d1, .slice B2 y.f8.length d2, .slice B3 y.f9.length d3, .bool y.f10, .bool y.f11, .bool y.f12, .slice B4 y.f13.length d4, .slice B5 y.f14.length d5] 27)
  have H4 := asiD h4
  have H5 := asiD h5
  have HO := asiD ho
  have HBL := asiD hbl
  clear hy h1 h2 h3 h4 h5 ho hbl hb0 hn
  go_enter Try.func30, Try.ntmps30
  go_upto_region 1 with (fail)
  generalize w.alloc (.cells _ 27) = W1 at HS0 ⊢
  generalize w.heap.size = g at HS0 ⊢
  have z := fun i => HS0.out.cell i
  go_upto_region 2 with (fail)
  clear z w1 w2
  go_wp2_with fail
  go_loopw [3, 4] (fun s i wr => ∃ k n : Nat, k ≤ y.f14.length ∧ s = .int .i64 n ∧ i = .int .i64 k ∧ n ≤ 4000000 + 8 * k + Pure.weight (y.f14.take k) ∧ St w wr (Asrt.blk g 27 #[.bool y.f0, .int .i64 y.f1, .int .i64 y.f2, .bool y.f3, .bool y.f4, .int .u32 y.f5, .int .i64 y.f6, .slice B1 y.f7.length d1, .slice B2 y.f8.length d2, .slice B3 y.f9.length d3, .bool y.f10, .bool y.f11, .bool y.f12, .slice B4 y.f13.length d4, .slice B5 y.f14.length d5] * Asrt.emp)) (fun _ i _ => y.f14.length - (intOf i).toNat)
  case atStart => exact ⟨0, b0, Nat.zero_le _, rfl, rfl, by have := HBL.out.1; omega, HS0.out⟩
  case round =>
    obtain ⟨k, n, hk, rfl, rfl, hn, hs⟩ := hrel
    clear HS0
    have z14 := (hs.cell 14).trans (show _ = some (Value.slice B5 y.f14.length d5) from rfl)
    by_cases hlt : k < y.f14.length
    · have y1 : decide ((k : Int) < y.f14.length) = true := decide_eq_true (by omega)
      have y2 : decide (k < y.f14.length) = true := decide_eq_true hlt
      have y3 : (k < y.f14.length) = True := eq_true hlt
      have y4 : ((k : Int) < y.f14.length) = True := eq_true (by omega)
      have k16 : k ≤ 9223372036854775806 := by have := HBL.out; omega
      have hwt := weight_snoc hlt
      have hwl := weight_take y.f14 (k + 1)
      obtain ⟨ad1, Bc, cc, rfl, e0, e1, mc, gc⟩ := at_T42 (Kd.C_below H5.out hs.below) (k : Int) (by omega) (by omega)
      simp only [Int.toNat_natCast] at e0 e1
      rw [show y.f14.getD k z42 = rd_T42 y.f14 k from rfl] at hwt
      generalize rd_T42 y.f14 k = x at *
      have hb := HBL.out
      have w1 : IntKind.i64.wrap ((n : Int) + 8) = (n : Int) + 8 := wi64 (by omega) (by omega)
      have w2 : IntKind.i64.wrap ((n : Int) + 8 + (x.f1.length : Int)) = ((n + 8 + x.f1.length : Nat) : Int) := by rw [wi64 (by omega) (by omega)]; omega
      have HN := asiD (show n + 8 + x.f1.length ≤ 4000000 + 8 * (k + 1) + Pure.weight (y.f14.take (k + 1)) by omega)
      have HLT := asiD hlt
      have HS := asiD hs
      clear hs hwt hwl gc hn hk hlt hb
      go_wp2_with fail
      go_roundw
      case rel => exact ⟨k + 1, n + 8 + x.f1.length, HLT.out, rfl, by go_num, HN.out, HS.out⟩
      case measure => have := HLT.out; simp [intOf]; omega
    · have y1 : decide ((k : Int) < y.f14.length) = false := decide_eq_false (by omega)
      have y2 : decide (k < y.f14.length) = false := decide_eq_false hlt
      have HN0 := asiD (show n ≤ 20000000 by have := weight_take y.f14 k; have := HBL.out; omega)
      have HS := asiD hs
      clear hs hn hk hlt
      go_wp2_with fail
      clear z14
      go_loopw [3, 5] (fun s i wr => ∃ k n : Nat, k ≤ y.f13.length ∧ s = .int .i64 n ∧ i = .int .i64 k ∧ n ≤ 20000000 + 32 * k + 2 * sumN frN (y.f13.take k) ∧ ∃ r, St w wr (Asrt.blk g 27 #[.bool y.f0, .int .i64 y.f1, .int .i64 y.f2, .bool y.f3, .bool y.f4, .int .u32 y.f5, .int .i64 y.f6, .slice B1 y.f7.length d1, .slice B2 y.f8.length d2, .slice B3 y.f9.length d3, .bool y.f10, .bool y.f11, .bool y.f12, .slice B4 y.f13.length d4, .slice B5 y.f14.length d5] * r)) (fun _ i _ => y.f13.length - (intOf i).toNat)
      case atStart => exact ⟨0, n, Nat.zero_le _, rfl, rfl, by have := HN0.out; omega, _, HS.out⟩
      case round =>
        obtain ⟨k, n, hk, rfl, rfl, hn, r, hs⟩ := hrel
        clear HS HN0
        have z13 := (hs.cell 13).trans (show _ = some (Value.slice B4 y.f13.length d4) from rfl)
        by_cases hlt : k < y.f13.length
        · have x1 : decide ((k : Int) < y.f13.length) = true := decide_eq_true (by omega)
          have x2 : decide (k < y.f13.length) = true := decide_eq_true hlt
          have x3 : (k < y.f13.length) = True := eq_true hlt
          have x4 : ((k : Int) < y.f13.length) = True := eq_true (by omega)
          have k16 : k ≤ 9223372036854775806 := by have := HBL.out; omega
          have hin := getD_in z44 hlt
          have hsn := sumN_snoc hlt
          have hst := sumN_take frN y.f13 (k + 1)
          obtain ⟨ad1, A8, c8, A9, c9, A10, c10, rfl, e0, e1, e2, e3, e4, e5, e6, e7, e8, e9, e10, n8, g8, n9, g9, n10, g10⟩ := at_T44 H4.out (k : Int) (by omega) (by omega)
          simp only [Int.toNat_natCast] at e0 e1 e2 e3 e4 e5 e6 e7 e8 e9 e10
          replace e0 := (cellL hs.below e0)
          replace e1 := (cellL hs.below e1)
          replace e2 := (cellL hs.below e2)
          replace e3 := (cellL hs.below e3)
          replace e4 := (cellL hs.below e4)
          replace e5 := (cellL hs.below e5)
          replace e6 := (cellL hs.below e6)
          replace e7 := (cellL hs.below e7)
          replace e8 := (cellL hs.below e8)
          replace e9 := (cellL hs.below e9)
          replace e10 := (cellL hs.below e10)
          rw [show y.f13.getD k z44 = rd_T44 y.f13 k from rfl] at hin hsn
          generalize rd_T44 y.f13 k = x at *
          have hfx : frN x = x.f8.length + x.f9.length + 20 * x.f10.length + Pure.weight x.f10 := rfl
          have hb := HBL.out
          have w1 : IntKind.i64.wrap ((n : Int) + 32) = (n : Int) + 32 := wi64 (by omega) (by omega)
          have w2 : IntKind.i64.wrap ((n : Int) + 32 + (x.f8.length : Int)) = (n : Int) + 32 + (x.f8.length : Int) := wi64 (by omega) (by omega)
          have w3 : IntKind.i64.wrap ((n : Int) + 32 + (x.f8.length : Int) + (x.f9.length : Int)) = ((n + 32 + x.f8.length + x.f9.length : Nat) : Int) := by rw [wi64 (by omega) (by omega)]; omega
          have HFX : Aside0 (2 * sumN frN (y.f13.take (k + 1)) = 2 * sumN frN (y.f13.take k) + 2 * (x.f8.length + x.f9.length + 20 * x.f10.length + Pure.weight x.f10)) := ⟨by omega⟩
          have HN1 := asiD (show n + 32 + x.f8.length + x.f9.length ≤ 20000000 + 32 * (k + 1) + 2 * sumN frN (y.f13.take k) + 2 * (x.f8.length + x.f9.length) by omega)
          have HBW := asiD (show 20000000 + 32 * (k + 1) + 2 * sumN frN (y.f13.take (k + 1)) ≤ 60000000 by omega)
          have HLT := asiD hlt
          have HG10 := asiD g10
          have HAL := asiD (hs.alloc #[.int .i64 x.f0, .int .i64 x.f1, .int .i64 x.f2, .int .i64 x.f3, .int .i64 x.f4, .bool x.f5, .bool x.f6, .int .i64 x.f7, .slice A8 x.f8.length c8, .slice A9 x.f9.length c9, .slice A10 x.f10.length c10] 44)
          clear hs hin hsn hst hfx hb g8 g9 g10 n8 n9 n10 hn hk hlt
          go_upto_region 10 with (fail)
          generalize wr.alloc (.cells _ 44) = W2 at HAL ⊢
          generalize wr.heap.size = gf at HAL ⊢
          have z8 := (HAL.out.cell 8).trans (show _ = some (Value.slice A8 x.f8.length c8) from rfl)
          have z9 := (HAL.out.cell 9).trans (show _ = some (Value.slice A9 x.f9.length c9) from rfl)
          have z10 := (HAL.out.cell 10).trans (show _ = some (Value.slice A10 x.f10.length c10) from rfl)
          go_wp2_with fail
          clear z8 z9 z10 z13 e0 e1 e2 e3 e4 e5 e6 e7 e8 e9 e10
          go_loopw [3, 7] (fun s i w2 => ∃ j n2 : Nat, j ≤ x.f10.length ∧ s = .int .i64 n2 ∧ i = .int .i64 j ∧ n2 ≤ 20000000 + 32 * (k + 1) + 2 * sumN frN (y.f13.take k) + 2 * (x.f8.length + x.f9.length) + 2 * Pure.weight (x.f10.take j) ∧ ∃ r2, St w w2 (Asrt.blk gf 44 #[.int .i64 x.f0, .int .i64 x.f1, .int .i64 x.f2, .int .i64 x.f3, .int .i64 x.f4, .bool x.f5, .bool x.f6, .int .i64 x.f7, .slice A8 x.f8.length c8, .slice A9 x.f9.length c9, .slice A10 x.f10.length c10] * (Asrt.blk g 27 #[.bool y.f0, .int .i64 y.f1, .int .i64 y.f2, .bool y.f3, .bool y.f4, .int .u32 y.f5, .int .i64 y.f6, .slice B1 y.f7.length d1, .slice B2 y.f8.length d2, .slice B3 y.f9.length d3, .bool y.f10, .bool y.f11, .bool y.f12, .slice (some ad1) y.f13.length d4, .slice B5 y.f14.length d5] * r2))) (fun _ i _ => x.f10.length - (intOf i).toNat)
          case atStart => exact ⟨0, n + 32 + x.f8.length + x.f9.length, Nat.zero_le _, rfl, rfl, by have := HN1.out; omega, _, HAL.out⟩
          case round =>
            obtain ⟨j, n2, hj, rfl, rfl, hn2, r2, hs2⟩ := hrel
            clear HAL HN1
            have z10 := (hs2.cell 10).trans (show _ = some (Value.slice A10 x.f10.length c10) from rfl)
            by_cases hlt2 : j < x.f10.length
            · have v1 : decide ((j : Int) < x.f10.length) = true := decide_eq_true (by omega)
              have v2 : decide (j < x.f10.length) = true := decide_eq_true hlt2
              have v3 : (j < x.f10.length) = True := eq_true hlt2
              have v4 : ((j : Int) < x.f10.length) = True := eq_true (by omega)
              have hwt := weight_snoc hlt2
              have hwl := weight_take x.f10 (j + 1)
              have hbw := HBW.out
              have hfx := HFX.out
              have j16 : j ≤ 9223372036854775806 := by have := HG10.out.2.1; omega
              obtain ⟨ad2, Bc, cc, rfl, u0, u1, mc, gc⟩ := at_T42 (Kd.C_below HG10.out hs2.below) (j : Int) (by omega) (by omega)
              simp only [Int.toNat_natCast] at u0 u1
              rw [show x.f10.getD j z42 = rd_T42 x.f10 j from rfl] at hwt
              generalize rd_T42 x.f10 j = q at *
              have q0 : IntKind.i64.wrap (2 * (q.f0.size : Int)) = 2 * (q.f0.size : Int) := wi64 (by omega) (by omega)
              have q1 : IntKind.i64.wrap ((n2 : Int) + 2 * (q.f0.size : Int)) = (n2 : Int) + 2 * (q.f0.size : Int) := wi64 (by omega) (by omega)
              have q2 : IntKind.i64.wrap ((n2 : Int) + 2 * (q.f0.size : Int) + (q.f1.length : Int)) = ((n2 + 2 * q.f0.size + q.f1.length : Nat) : Int) := by rw [wi64 (by omega) (by omega)]; omega
              have HN2 := asiD (show n2 + 2 * q.f0.size + q.f1.length ≤ 20000000 + 32 * (k + 1) + 2 * sumN frN (y.f13.take k) + 2 * (x.f8.length + x.f9.length) + 2 * Pure.weight (x.f10.take (j + 1)) by omega)
              have HLT2 := asiD hlt2
              have HS2 := asiD hs2
              clear hs2 hwt hwl hbw hfx gc hn2 hj hlt2
              go_upto_region 14 with (fail)
              go_quiet (fail)
              go_wp2_with fail
              go_roundw
              case rel => exact ⟨j + 1, n2 + 2 * q.f0.size + q.f1.length, HLT2.out, rfl, by go_num, HN2.out, r2, HS2.out.drewN _⟩
              case measure => have := HLT2.out; simp [intOf]; omega
            · have v1 : decide ((j : Int) < x.f10.length) = false := decide_eq_false (by omega)
              have v2 : decide (j < x.f10.length) = false := decide_eq_false hlt2
              have HN2 := asiD (show n2 ≤ 20000000 + 32 * (k + 1) + 2 * sumN frN (y.f13.take (k + 1)) by have := weight_take x.f10 j; have := HFX.out; omega)
              have HS2 := asiD hs2.swap
              clear hs2 hn2 hj hlt2
              go_wp2_with fail
              go_roundw
              case rel => exact ⟨k + 1, n2, HLT.out, rfl, by go_num, HN2.out, _, HS2.out⟩
              case measure => have := HLT.out; simp [intOf]; omega
        · have x1 : decide ((k : Int) < y.f13.length) = false := decide_eq_false (by omega)
          have x2 : decide (k < y.f13.length) = false := decide_eq_false hlt
          have HN2 := asiD (show n ≤ 67108864 by have := sumN_take frN y.f13 k; have := HBL.out; omega)
          have HB := asiD hs.below
          clear hs hn hk hlt
          go_wp2_with fail
          go_ret
          exact ⟨n, rfl, HN2.out, HB.out⟩
theorem nlen (l : List Int) : (l.length = 0) = ¬ (0 < l.length) := by rw [eq_iff_iff]; omega
def restP (d : Dc) : Prop := if d.f0 = true then plainP d else
  wideP d ∧ d.f1 * d.f2 < 4294967296 ∧ 0 ≤ d.f6 ∧ d.f6 < 65536 ∧ (d.f4 = false → (d.f13.length : Int) = 1 ∧ d.f5 = 0 ∧ d.f6 = 0) ∧
  moreB d.f14 = true ∧ toldP d.f10 d.f7 ∧ toldP d.f11 d.f8 ∧ toldP d.f12 d.f9 ∧ ∀ f ∈ d.f13, frameP f d
theorem sumW_chunks : ∀ l : List Ch, sumW wCh l ≤ 2 * (Pure.weight l : Int)
  | [] => by simp [sumW, Pure.weight]
  | x :: l => by
    have := sumW_chunks l
    simp only [sumW, Pure.weight, wCh]
    omega
theorem sumW_frames : ∀ l : List Fr, sumW wFr l + sumW wCh (l.flatMap (·.f10)) ≤ 32 * (l.length : Int) + 2 * (sumN frN l : Int)
  | [] => by simp [sumW, sumN]
  | x :: l => by
    have h1 := sumW_frames l
    have h2 := sumW_chunks x.f10
    rw [List.flatMap_cons, sumW_app]
    simp only [sumW, sumN, wFr, frN, List.length_cons]
    omega
theorem sound_rest {y : Dc} (hn : smallN y < 4000000) (hf : y.f13.length ≤ 4096) : soundP y ↔ restP y := by
  have h1 := sumW_chunks y.f14
  have h2 : sumW wFr y.f13 + sumW wCh (y.f13.flatMap (·.f10)) ≤ 32 * (y.f13.length : Int) + 2 * (sumN frN y.f13 : Int) := sumW_frames y.f13
  have hw : weightI y ≤ 67108864 ∧ (y.f13.length : Int) ≤ 4096 := by
    unfold smallN at hn
    have e : sumW wCh (allCh y) = sumW wCh y.f14 + sumW wCh (y.f13.flatMap (·.f10)) := sumW_app
    unfold weightI
    omega
  exact ⟨fun h => h.2, fun h => ⟨hw, h⟩⟩
theorem plain_iff {y : Dc} {f : Fr} (h0 : y.f0 = true) (hf : y.f13 = [f]) : plainP y ↔ (kindB f = true ∧ f.f8.length = 0) ∧ (y.f1 = 0 ∧ y.f2 = 0 ∧ y.f3 = false ∧ y.f4 = false ∧ y.f5 = 0 ∧ y.f6 = 0 ∧ y.f10 = false ∧ y.f11 = false ∧ y.f12 = false ∧ y.f7.length + y.f8.length + y.f9.length + y.f14.length = 0) ∧
    f.f0 = 0 ∧ f.f1 = 0 ∧ f.f2 = 0 ∧ f.f3 = 0 ∧ f.f4 = 0 ∧ f.f5 = false ∧ f.f6 = false ∧ f.f10.length = 0 := by
  constructor
  · rintro ⟨g, hg, hk, hy⟩
    obtain rfl : f = g := by rw [hf] at hg; simpa using hg
    have hfe : f = ⟨0, 0, 0, 0, 0, false, false, f.f7, [], f.f9, []⟩ := by
      have h13 : y.f13 = [⟨0, 0, 0, 0, 0, false, false, f.f7, [], f.f9, []⟩] := by rw [hy]; rfl
      rw [hf] at h13
      simpa using h13
    refine ⟨⟨hk, by rw [hfe]; rfl⟩, ?_, ?_⟩
    · rw [hy]; exact ⟨rfl, rfl, rfl, rfl, rfl, rfl, rfl, rfl, rfl, rfl⟩
    · rw [hfe]; exact ⟨rfl, rfl, rfl, rfl, rfl, rfl, rfl, rfl⟩
  · rintro ⟨⟨hk, h8⟩, ⟨a1, a2, a3, a4, a5, a6, a10, a11, a12, al⟩, b0, b1, b2, b3, b4, b5, b6, b10⟩
    refine ⟨f, hf, hk, ?_⟩
    have e7 : y.f7 = [] := List.length_eq_zero_iff.1 (by omega)
    have e8 : y.f8 = [] := List.length_eq_zero_iff.1 (by omega)
    have e9 : y.f9 = [] := List.length_eq_zero_iff.1 (by omega)
    have e14 : y.f14 = [] := List.length_eq_zero_iff.1 (by omega)
    have g8 : f.f8 = [] := List.length_eq_zero_iff.1 h8
    have g10 : f.f10 = [] := List.length_eq_zero_iff.1 b10
    have hfe : f = ⟨0, 0, 0, 0, 0, false, false, f.f7, [], f.f9, []⟩ := by cases f; simp_all
    rw [dc_eq]
    unfold plainD
    simp only [h0, a1, a2, a3, a4, a5, a6, a10, a11, a12, e7, e8, e9, e14, hf, true_and, and_true]
    rw [← hfe]
theorem nlenC (l : List Ch) : (l.length = 0) = ¬ (0 < l.length) := by rw [eq_iff_iff]; omega
def sideQ (x : Fr) (y : Dc) : Prop := sidesP x y.f1 y.f2 ∧ kindB x = true ∧ 0 ≤ x.f4 ∧ x.f4 < 16777216 ∧ moreB x.f10 = true
def standQ (x : Fr) (y : Dc) : Prop := y.f4 = false → (x.f2 = y.f1 ∧ x.f3 = y.f2 ∧ x.f4 = 0 ∧ x.f5 = false ∧ x.f6 = false ∧ x.f10.length = 0)
theorem frameP_iff {x : Fr} {y : Dc} : frameP x y ↔ sideQ x y ∧ standQ x y := by
  unfold frameP sideQ standQ sidesP
  cases h4 : y.f4 with
  | true => rw [if_pos rfl]; simp only [Bool.true_eq_false, false_imp_iff, and_true]
  | false =>
    rw [if_neg (by simp)]
    constructor
    · rintro ⟨h1, h2, h3, h3', g0, g1, g2, g3, g4, g5, g6, g10⟩
      exact ⟨⟨h1, h2, h3, h3', by rw [List.length_eq_zero_iff.1 g10]; rfl⟩, fun _ => ⟨g2, g3, g4, g5, g6, g10⟩⟩
    · rintro ⟨⟨h1, h2, h3, h3', _⟩, h⟩
      obtain ⟨g2, g3, g4, g5, g6, g10⟩ := h rfl
      exact ⟨h1, h2, h3, h3', by omega, by omega, g2, g3, g4, g5, g6, g10⟩
set_option maxHeartbeats 16000000 in
set_option maxRecDepth 100000 in
theorem refSoundP_calls (y : Dc) (ds : List Value) (w : World) (hy : k27.K w y ds) (ho : okDc y) (hn : smallN y < 4000000) (hf : y.f13.length ≤ 4096) (h0 : y.f0 = true) (b : Bool) (hb : b = true ↔ soundP y) :
    Calls Try.prog 13 #[.agg ds.toArray] w fun e w' => e = .returned (.bool b) ∧ Below w.heap.size w w' := by
  rw [sound_rest hn hf] at hb
  have HWT := asiD fun (W : World) (hb : Below w.heap.size w W) => rweight_calls y ds W (k27.K_below hb hy) ho hn
  obtain ⟨B1, d1, B2, d2, B3, d3, B4, d4, B5, d5, rfl, m1, h1, m2, h2, m3, h3, m4, h4, m5, h5⟩ := k27_open hy
  have HBB := asiD hb
  have hlens : y.f7.length < 4000000 ∧ y.f8.length < 4000000 ∧ y.f9.length < 4000000 ∧ y.f13.length ≤ 4096 ∧ y.f14.length ≤ 200000 := by unfold smallN at hn; omega
  have HO := asiD ho
  have HMO := asiD fun (W : World) (hb : Below w.heap.size w W) => rmore_calls B5 d5 y.f14 W ho.mo (Kd.C_below h5 hb) m5
  have H4 := asiD h4
  have HS0 := asiD ((St.refl w).alloc #[.bool y.f0, .int .i64 y.f1, .int .i64 y.f2, .bool y.f3, .bool y.f4, .int .u32 y.f5, .int .i64 y.f6, .slice B1 y.f7.length d1, .slice B2 y.f8.length d2, .slice B3 y.f9.length d3, .bool y.f10, .bool y.f11, .bool y.f12, .slice B4 y.f13.length d4, .slice B5 y.f14.length d5] 27)
  have f13 : decide ((4096 : Int) < y.f13.length) = false := decide_eq_false (by omega)
  have f13b : decide (4096 < y.f13.length) = false := decide_eq_false (by omega)
  clear hy h1 h2 h3 h4 h5 ho hn hb hf
  by_cases hl : y.f13.length = 1
  case neg =>
    have HN : Aside0 (b = false) := ⟨Bool.eq_false_iff.2 fun hbt => by
      have h := HBB.out.1 hbt
      unfold restP at h
      rw [if_pos h0] at h
      obtain ⟨f, hf, _⟩ := h
      exact hl (by rw [hf]; rfl)⟩
    have x1 : ((y.f13.length : Int) != 1) = true := by simp; omega
    rw [h0] at HS0 HWT ⊢
    clear h0 hl hlens
    go_enter Try.func13, Try.ntmps13
    go_upto_region 1 with (fail)
    generalize w.alloc (.cells _ 27) = W1 at HS0 ⊢
    generalize w.heap.size = g at HS0 ⊢
    have z := fun i => HS0.out.cell i
    go_wp2_with (go_at_call 30; refine (HWT.out _ HS0.out.below).mono ?_; rintro e w2 ⟨nw, rfl, hw, hb⟩; have HS1 := asiD (HS0.out.belowR hb); have z1 := fun i => HS1.out.cell i; have u1 : decide ((67108864 : Int) < (nw : Int)) = false := decide_eq_false (by omega); have u2 : decide (67108864 < nw) = false := decide_eq_false (by omega); clear hw hb)
    go_ret
    rw [HN.out]
    exact ⟨rfl, HS1.out.below⟩
  case pos =>
    obtain ⟨f, hf⟩ : ∃ f, y.f13 = [f] := List.length_eq_one_iff.1 hl
    have hbp := HBB.out
    unfold restP at hbp
    rw [if_pos h0, plain_iff h0 hf] at hbp
    have HPI := asiD hbp
    have hC := H4.out
    rw [hl] at hC
    obtain ⟨ad1, A8, c8, A9, c9, A10, c10, rfl, e0, e1, e2, e3, e4, e5, e6, e7, e8, e9, e10, n8, g8, n9, g9, n10, g10⟩ := at_T44 hC (0 : Int) (by omega) (by omega)
    simp only [Int.toNat_zero, Nat.zero_mul] at e0 e1 e2 e3 e4 e5 e6 e7 e8 e9 e10
    have h0' : ad1.add 0 = ad1 := by cases ad1; unfold Addr.add; split <;> simp_all
    rw [show rd_T44 y.f13 0 = f by rw [hf]; rfl] at e0 e1 e2 e3 e4 e5 e6 e7 e8 e9 e10 n8 g8 n9 g9 n10 g10
    rw [h0'] at e0 e1 e2 e3 e4 e5 e6 e7 e8 e9 e10
    have HKD := asiD fun (W : World) (hb : Below w.heap.size w W) => rkind_calls f _ W (k44.K_below hb (k44_mk w f n8 g8 n9 g9 n10 g10))
    have hlf : (f.f10.length : Int) ≤ 9223372036854775807 := by have := g10.2.1; omega
    have v1 : IntKind.i64.wrap ((y.f7.length : Int) + y.f8.length) = (y.f7.length : Int) + y.f8.length := wi64 (by omega) (by omega)
    have v2 : IntKind.i64.wrap ((y.f7.length : Int) + y.f8.length + y.f9.length) = (y.f7.length : Int) + y.f8.length + y.f9.length := wi64 (by omega) (by omega)
    have v3 : IntKind.i64.wrap ((y.f7.length : Int) + y.f8.length + y.f9.length + y.f14.length) = (y.f7.length : Int) + y.f8.length + y.f9.length + y.f14.length := wi64 (by omega) (by omega)
    have x1 : ((y.f13.length : Int) != 1) = false := by simp [hl]
    have x3 : (0 < y.f13.length) = True := eq_true (by omega)
    have x4 : ((0 : Int) < y.f13.length) = True := eq_true (by omega)
    rw [h0] at HS0 HWT ⊢
    clear h0 hl hC hf hbp g8 g9 g10 hlens h0' HBB H4 HO HMO
    go_enter Try.func13, Try.ntmps13
    go_upto_region 1 with (fail)
    generalize w.alloc (.cells _ 27) = W1 at HS0 ⊢
    generalize w.heap.size = g at HS0 ⊢
    have z := fun i => HS0.out.cell i
    go_wp2_with (first
      | (go_at_call 30; refine (HWT.out _ HS0.out.below).mono ?_; rintro e w2 ⟨nw, rfl, hw, hb⟩; have HS1 := asiD (HS0.out.belowR hb); have z1 := fun i => HS1.out.cell i; have a0 := (cellL HS1.out.below e0); have a1 := (cellL HS1.out.below e1); have a2 := (cellL HS1.out.below e2); have a3 := (cellL HS1.out.below e3); have a4 := (cellL HS1.out.below e4); have a5 := (cellL HS1.out.below e5); have a6 := (cellL HS1.out.below e6); have a7 := (cellL HS1.out.below e7); have a8 := (cellL HS1.out.below e8); have a9 := (cellL HS1.out.below e9); have a10 := (cellL HS1.out.below e10); have u1 : decide ((67108864 : Int) < (nw : Int)) = false := decide_eq_false (by omega); have u2 : decide (67108864 < nw) = false := decide_eq_false (by omega); clear hw hb z)
      | (go_at_call 31; refine (HKD.out _ HS1.out.below).mono ?_; rintro e w3 ⟨rfl, hb⟩; have HS2 := asiD (HS1.out.belowR hb); have z2 := fun i => HS2.out.cell i; have z3 := fun (cs : Array Value) (T : TypeId) (i : Nat) => (HS2.out.alloc cs T).swap.cell i; have b0 := (cellL HS2.out.below e0); have b1 := (cellL HS2.out.below e1); have b2 := (cellL HS2.out.below e2); have b3 := (cellL HS2.out.below e3); have b4 := (cellL HS2.out.below e4); have b5 := (cellL HS2.out.below e5); have b6 := (cellL HS2.out.below e6); have b7 := (cellL HS2.out.below e7); have b8 := (cellL HS2.out.below e8); have b9 := (cellL HS2.out.below e9); have b10 := (cellL HS2.out.below e10); clear hb z1))
    all_goals go_ret
    all_goals refine ⟨congrArg (fun b => Ending.returned (.bool b)) (Bool.eq_iff_iff.2 (Iff.trans ?_ HPI.out.symm)), by first | exact HS2.out.below | exact bthen HS2.out.below (by repeat (first | exact Below.refl _ _ | apply pw_below_drewN | apply below_alloc))⟩
    all_goals first
      | (simp [*]; done)
      | (simp [*]; omega)
      | (rw [beq_iff_eq]; refine Iff.intro (fun h => ?_) (fun h => by have h2 := h.2.2.2.2.2.2.2.2.2; omega); refine ⟨⟨?_, ?_⟩, ⟨?_, ?_, ?_, ?_, ?_, ?_, ?_, ?_, ?_, ?_⟩, ?_, ?_, ?_, ?_, ?_, ?_, ?_, ?_⟩ <;> first | assumption | omega | (simp_all; done))
      | (refine ⟨fun h => absurd h Bool.false_ne_true, ?_⟩; rintro ⟨⟨k1, k2⟩, ⟨a1, a2, a3, a4, a5, a6, a10, a11, a12, al⟩, c0, c1, c2, c3, c4, c5, c6, c10⟩; first | omega | (simp_all; done))
      | trace_state
end Go.Proofs.Ythkocpcjcpohcaa.P
end
section
namespace Go.Proofs.Ythkocpcjcpohcaa.P
open Go
def regionIn (n : Nat) : Code → Option Code
  | .region id ops d => if id = n then some (.region id ops d) else none
  | .seq a b => match regionIn n a with
    | some c => some c
    | none => regionIn n b
  | .block _ c => regionIn n c
  | .loop c => regionIn n c
  | .scope c => regionIn n c
  | .cond _ a b => match regionIn n a with
    | some c => some c
    | none => regionIn n b
  | _ => none
end Go.Proofs.Ythkocpcjcpohcaa.P
end
section
namespace Go.Proofs.Ythkocpcjcpohcaa.P
open Go Go.RowKit Go.Proofs.YthkocpcjcpohcaaW.PrintWords Go.Proofs.YthkocpcjcpohcaaW.PrintLast Go.Proofs.YthkocpcjcpohcaaW.PrintMore Go.Proofs.Ythkocpcjcpohcaa.U Go.Proofs.Ythkocpcjcpohcaa.Pure
attribute [local go_sem] max2_int min2_int max_two min_two max_three min_three max_four min_four
noncomputable def rs9_code : Code := ((Try.f13.body).bind (regionIn 9)).getD .skip
set_option maxHeartbeats 16000000 in
set_option maxRecDepth 1000000 in
theorem rs9 {c0 c2 c3 c4 c5 c6 c7 c8 c9 c10 c11 c12 c13 c14 c15 c16 c17 c18 c19 c20 c21 c22 c23 c24 c25 c26 c27 c28 c29 c30 c31 c32 c33 c34 c35 c36 c37 c38 c39 c40 c41 c42 c43 c44 c45 c46 c47 c48 c49 c50 c51 c52 c53 c54 c55 c56 c57 c58 c59 c60 c61 c62 c63 c64 c65 c66 c67 c68 c69 c70 c71 c72 c73 c74 c75 c76 c77 c78 c79 c80 c81 c82 c83 c84 c85 c86 c87 c88 c89 c90 c91 c92 c93 c94 c95 c96 c97 c98 c99 c100 c101 c102 c103 c104 c105 c106 c107 c108 c109 c110 c111 c112 c113 c114 c115 c116 c117 c118 c119 c120 c121 c122 c123 c124 c125 c126 c127 c128 c129 c130 c131 c132 c133 c134 c135 c136 c137 c138 c139 c140 c141 c142 c143 c144 c145 c146 c147 c148 c149 c150 c151 c152 c153 c154 c155 c156 c157 c158 c159 c160 c161 c162 c163 c164 c165 c166 c167 c168 c169 c170 c171 c172 c173 c174 c175 c176 c177 c178 c179 c180 c181 c182 c183 c184 c185 c186 c187 c188 c189 c190 c191 c192 c193 c194 c195 c196 c197 c198 c199 c200 c201 c202 c203 c204 c205 c206 c207 c208 c209 c210 c211 c212 c213 c214 c215 c216 c217 c218 c219 c220 c221 c222 c223 c224 c225 c226 c227 c228 c229 c230 c231 c232 c233 c234 c235 c236 c237 c238 c239 c240 c241 c242 c243 c244 c245 c246 c247 c248 c249 c250 c251 c252 c253 c254 c255 c256 c257 c258 c259 c260 c261 c262 c263 c264 c265 c266 c267 c268 c269 c270 c271 c272 c273 c274 c275 c276 c277 c278 c279 c280 c281 c282 c283 c284 c285 c286 c287 c288 c289 c290 c291 c292 c293 c294 c295 c296 c297 c298 c299 c300 c301 c302 c303 c304 c305 c306 c307 c308 c309 c310 c311 c312 c313 c314 c315 c316 c317 c318 c319 c320 c321 c322 c323 c324 c325 c326 c327 c328 c329 c330 c331 c332 c333 c334 c335 c336 c337 c338 c339 c340 c341 c342 c343 c344 c345 c346 c347 c348 c349 c350 c351 c352 c353 c354 c355 c356 c357 c358 c359 c360 c361 c362 c363 c364 c365 c366 c367 c368 c369 c370 : Value} {Q : Exit → Act → World → Prop} (y : Dc) (w w2 : World) (g : Nat) (R : Asrt) {B1 B2 B3 B4 B5 : Option Addr} {d1 d2 d3 d4 d5 : Nat} (HS1 : Aside0 (St w w2 (Asrt.blk g 27 #[.bool false, .int .i64 y.f1, .int .i64 y.f2, .bool y.f3, .bool y.f4, .int .u32 y.f5, .int .i64 y.f6, .slice B1 y.f7.length d1, .slice B2 y.f8.length d2, .slice B3 y.f9.length d3, .bool y.f10, .bool y.f11, .bool y.f12, .slice B4 y.f13.length d4, .slice B5 y.f14.length d5] * R))) (HC : Aside0 (wideP y)) (HMO : Aside0 (∀ W : World, Below w.heap.size w W → Calls Try.prog 32 #[.slice B5 y.f14.length d5] W fun e w' => e = .returned (.bool (moreB y.f14)) ∧ Below W.heap.size W w'))
    (hK : ∀ (v u146 u147 u148 u149 u150 u151 u152 u153 u154 u155 u156 u157 u158 u159 u160 u161 u162 u163 u164 u165 u166 u167 u168 u169 u170 u171 u172 u173 u174 u175 u176 u177 u178 u179 u180 u181 u182 u183 u184 u185 u186 : Value) (wc : World), (∃ t : Bool, v = .bool t ∧ (t = false ↔ (y.f1 * y.f2 < 4294967296 ∧ 0 ≤ y.f6 ∧ y.f6 < 65536 ∧ moreB y.f14 = true)) ∧ St w wc (Asrt.blk g 27 #[.bool false, .int .i64 y.f1, .int .i64 y.f2, .bool y.f3, .bool y.f4, .int .u32 y.f5, .int .i64 y.f6, .slice B1 y.f7.length d1, .slice B2 y.f8.length d2, .slice B3 y.f9.length d3, .bool y.f10, .bool y.f11, .bool y.f12, .slice B4 y.f13.length d4, .slice B5 y.f14.length d5] * R)) → Q .normal ⟨#[c0, Value.pointer (some ⟨g, 0, none⟩), c2, c3, c4, c5, c6, c7, c8, c9, c10, c11, c12, c13, c14, c15, c16, c17, c18, c19, c20, c21, c22, c23, c24, c25, c26, c27, c28, c29, c30, c31, c32, c33, c34, c35, c36, c37, c38, c39, c40, c41, c42, c43, c44, c45, c46, c47, c48, c49, c50, c51, c52, c53, c54, c55, c56, c57, c58, c59, c60, c61, c62, c63, c64, c65, c66, c67, c68, c69, c70, c71, c72, c73, c74, c75, c76, c77, c78, c79, c80, c81, c82, c83, c84, c85, c86, c87, c88, c89, c90, c91, c92, c93, c94, c95, c96, c97, c98, c99, c100, c101, c102, c103, c104, c105, c106, c107, c108, c109, c110, c111, c112, c113, c114, c115, c116, c117, c118, c119, c120, c121, c122, c123, c124, c125, c126, c127, c128, c129, c130, c131, c132, c133, c134, c135, c136, c137, c138, c139, c140, c141, c142, c143, c144, c145, u146, u147, u148, u149, u150, u151, u152, u153, u154, u155, u156, u157, u158, u159, u160, u161, u162, u163, u164, u165, u166, u167, u168, u169, u170, u171, u172, u173, u174, u175, u176, u177, u178, u179, u180, u181, u182, u183, u184, u185, u186, v, c188, c189, c190, c191, c192, c193, c194, c195, c196, c197, c198, c199, c200, c201, c202, c203, c204, c205, c206, c207, c208, c209, c210, c211, c212, c213, c214, c215, c216, c217, c218, c219, c220, c221, c222, c223, c224, c225, c226, c227, c228, c229, c230, c231, c232, c233, c234, c235, c236, c237, c238, c239, c240, c241, c242, c243, c244, c245, c246, c247, c248, c249, c250, c251, c252, c253, c254, c255, c256, c257, c258, c259, c260, c261, c262, c263, c264, c265, c266, c267, c268, c269, c270, c271, c272, c273, c274, c275, c276, c277, c278, c279, c280, c281, c282, c283, c284, c285, c286, c287, c288, c289, c290, c291, c292, c293, c294, c295, c296, c297, c298, c299, c300, c301, c302, c303, c304, c305, c306, c307, c308, c309, c310, c311, c312, c313, c314, c315, c316, c317, c318, c319, c320, c321, c322, c323, c324, c325, c326, c327, c328, c329, c330, c331, c332, c333, c334, c335, c336, c337, c338, c339, c340, c341, c342, c343, c344, c345, c346, c347, c348, c349, c350, c351, c352, c353, c354, c355, c356, c357, c358, c359, c360, c361, c362, c363, c364, c365, c366, c367, c368, c369, c370], []⟩ wc) :
    Code.wp Try.prog rs9_code Q ⟨#[c0, Value.pointer (some ⟨g, 0, none⟩), c2, c3, c4, c5, c6, c7, c8, c9, c10, c11, c12, c13, c14, c15, c16, c17, c18, c19, c20, c21, c22, c23, c24, c25, c26, c27, c28, c29, c30, c31, c32, c33, c34, c35, c36, c37, c38, c39, c40, c41, c42, c43, c44, c45, c46, c47, c48, c49, c50, c51, c52, c53, c54, c55, c56, c57, c58, c59, c60, c61, c62, c63, c64, c65, c66, c67, c68, c69, c70, c71, c72, c73, c74, c75, c76, c77, c78, c79, c80, c81, c82, c83, c84, c85, c86, c87, c88, c89, c90, c91, c92, c93, c94, c95, c96, c97, c98, c99, c100, c101, c102, c103, c104, c105, c106, c107, c108, c109, c110, c111, c112, c113, c114, c115, c116, c117, c118, c119, c120, c121, c122, c123, c124, c125, c126, c127, c128, c129, c130, c131, c132, c133, c134, c135, c136, c137, c138, c139, c140, c141, c142, c143, c144, c145, c146, c147, c148, c149, c150, c151, c152, c153, c154, c155, c156, c157, c158, c159, c160, c161, c162, c163, c164, c165, c166, c167, c168, c169, c170, c171, c172, c173, c174, c175, c176, c177, c178, c179, c180, c181, c182, c183, c184, c185, c186, c187, c188, c189, c190, c191, c192, c193, c194, c195, c196, c197, c198, c199, c200, c201, c202, c203, c204, c205, c206, c207, c208, c209, c210, c211, c212, c213, c214, c215, c216, c217, c218, c219, c220, c221, c222, c223, c224, c225, c226, c227, c228, c229, c230, c231, c232, c233, c234, c235, c236, c237, c238, c239, c240, c241, c242, c243, c244, c245, c246, c247, c248, c249, c250, c251, c252, c253, c254, c255, c256, c257, c258, c259, c260, c261, c262, c263, c264, c265, c266, c267, c268, c269, c270, c271, c272, c273, c274, c275, c276, c277, c278, c279, c280, c281, c282, c283, c284, c285, c286, c287, c288, c289, c290, c291, c292, c293, c294, c295, c296, c297, c298, c299, c300, c301, c302, c303, c304, c305, c306, c307, c308, c309, c310, c311, c312, c313, c314, c315, c316, c317, c318, c319, c320, c321, c322, c323, c324, c325, c326, c327, c328, c329, c330, c331, c332, c333, c334, c335, c336, c337, c338, c339, c340, c341, c342, c343, c344, c345, c346, c347, c348, c349, c350, c351, c352, c353, c354, c355, c356, c357, c358, c359, c360, c361, c362, c363, c364, c365, c366, c367, c368, c369, c370], []⟩ w2 := by
  have HK := asiD hK
  clear hK
  conv => arg 2; whnf
  have hcc := HC.out
  unfold wideP at hcc
  have pp : 0 ≤ y.f1 * y.f2 := Int.mul_nonneg (by omega) (by omega)
  have pq : y.f1 * y.f2 ≤ 281474976710656 := Int.le_trans (Int.mul_le_mul hcc.1.2 hcc.2.2 (by omega) (by decide)) (by decide)
  have t1 : IntKind.i64.wrap (y.f1 * y.f2) = y.f1 * y.f2 := wi64 (by omega) (by omega)
  have t2 : decide (y.f1 < 1) = false := decide_eq_false (by omega)
  have t3 : decide (16777216 < y.f1) = false := decide_eq_false (by omega)
  have t4 : decide (y.f2 < 1) = false := decide_eq_false (by omega)
  have t5 : decide (16777216 < y.f2) = false := decide_eq_false (by omega)
  clear hcc pp pq
  have z1 := fun i => HS1.out.cell i
  go_wp2_with (go_at_call 32; refine (HMO.out _ HS1.out.below).mono ?_; rintro e w3 ⟨rfl, hb⟩; have HS2 := asiD (HS1.out.belowR hb); clear hb)
  all_goals apply HK.out
  all_goals (refine ⟨_, rfl, ?_, by first | exact HS2.out | exact HS1.out⟩; clear z1 HK HMO; first | (simp [*]; done) | (simp [*]; omega) | (refine ⟨fun h => absurd h (by simp), fun h => ?_⟩; omega) | (cases hmo : moreB y.f14 <;> simp [*] <;> omega) | trace_state)
noncomputable def rs11_code : Code := ((Try.f13.body).bind (regionIn 11)).getD .skip
set_option maxHeartbeats 16000000 in
set_option maxRecDepth 1000000 in
theorem rs11 {c0 c2 c3 c4 c5 c6 c7 c8 c9 c10 c11 c12 c13 c14 c15 c16 c17 c18 c19 c20 c21 c22 c23 c24 c25 c26 c27 c28 c29 c30 c31 c32 c33 c34 c35 c36 c37 c38 c39 c40 c41 c42 c43 c44 c45 c46 c47 c48 c49 c50 c51 c52 c53 c54 c55 c56 c57 c58 c59 c60 c61 c62 c63 c64 c65 c66 c67 c68 c69 c70 c71 c72 c73 c74 c75 c76 c77 c78 c79 c80 c81 c82 c83 c84 c85 c86 c87 c88 c89 c90 c91 c92 c93 c94 c95 c96 c97 c98 c99 c100 c101 c102 c103 c104 c105 c106 c107 c108 c109 c110 c111 c112 c113 c114 c115 c116 c117 c118 c119 c120 c121 c122 c123 c124 c125 c126 c127 c128 c129 c130 c131 c132 c133 c134 c135 c136 c137 c138 c139 c140 c141 c142 c143 c144 c145 c146 c147 c148 c149 c150 c151 c152 c153 c154 c155 c156 c157 c158 c159 c160 c161 c162 c163 c164 c165 c166 c167 c168 c169 c170 c171 c172 c173 c174 c175 c176 c177 c178 c179 c180 c181 c182 c183 c184 c185 c186 c187 c188 c189 c190 c191 c192 c193 c194 c195 c196 c197 c198 c199 c200 c201 c202 c203 c204 c205 c206 c207 c208 c209 c210 c211 c212 c213 c214 c215 c216 c217 c218 c219 c220 c221 c222 c223 c224 c225 c226 c227 c228 c229 c230 c231 c232 c233 c234 c235 c236 c237 c238 c239 c240 c241 c242 c243 c244 c245 c246 c247 c248 c249 c250 c251 c252 c253 c254 c255 c256 c257 c258 c259 c260 c261 c262 c263 c264 c265 c266 c267 c268 c269 c270 c271 c272 c273 c274 c275 c276 c277 c278 c279 c280 c281 c282 c283 c284 c285 c286 c287 c288 c289 c290 c291 c292 c293 c294 c295 c296 c297 c298 c299 c300 c301 c302 c303 c304 c305 c306 c307 c308 c309 c310 c311 c312 c313 c314 c315 c316 c317 c318 c319 c320 c321 c322 c323 c324 c325 c326 c327 c328 c329 c330 c331 c332 c333 c334 c335 c336 c337 c338 c339 c340 c341 c342 c343 c344 c345 c346 c347 c348 c349 c350 c351 c352 c353 c354 c355 c356 c357 c358 c359 c360 c361 c362 c363 c364 c365 c366 c367 c368 c369 c370 : Value} {Q : Exit → Act → World → Prop} (y : Dc) (w w2 : World) (g : Nat) (R : Asrt) {B1 B2 B3 B4 B5 : Option Addr} {d1 d2 d3 d4 d5 : Nat} (HS1 : Aside0 (St w w2 (Asrt.blk g 27 #[.bool false, .int .i64 y.f1, .int .i64 y.f2, .bool y.f3, .bool y.f4, .int .u32 y.f5, .int .i64 y.f6, .slice B1 y.f7.length d1, .slice B2 y.f8.length d2, .slice B3 y.f9.length d3, .bool y.f10, .bool y.f11, .bool y.f12, .slice B4 y.f13.length d4, .slice B5 y.f14.length d5] * R)))
    (hK : ∀ (v u188 u189 u190 u191 u192 u193 u194 u195 u196 u197 u198 u199 u200 u201 u202 u203 u204 u205 u206 u207 u208 u209 u210 u211 u212 u213 u214 u215 u216 u217 : Value) (wc : World), (∃ t : Bool, v = .bool t ∧ (t = false ↔ (toldP y.f10 y.f7 ∧ toldP y.f11 y.f8 ∧ toldP y.f12 y.f9)) ∧ St w wc (Asrt.blk g 27 #[.bool false, .int .i64 y.f1, .int .i64 y.f2, .bool y.f3, .bool y.f4, .int .u32 y.f5, .int .i64 y.f6, .slice B1 y.f7.length d1, .slice B2 y.f8.length d2, .slice B3 y.f9.length d3, .bool y.f10, .bool y.f11, .bool y.f12, .slice B4 y.f13.length d4, .slice B5 y.f14.length d5] * R)) → Q .normal ⟨#[c0, Value.pointer (some ⟨g, 0, none⟩), c2, c3, c4, c5, c6, c7, c8, c9, c10, c11, c12, c13, c14, c15, c16, c17, c18, c19, c20, c21, c22, c23, c24, c25, c26, c27, c28, c29, c30, c31, c32, c33, c34, c35, c36, c37, c38, c39, c40, c41, c42, c43, c44, c45, c46, c47, c48, c49, c50, c51, c52, c53, c54, c55, c56, c57, c58, c59, c60, c61, c62, c63, c64, c65, c66, c67, c68, c69, c70, c71, c72, c73, c74, c75, c76, c77, c78, c79, c80, c81, c82, c83, c84, c85, c86, c87, c88, c89, c90, c91, c92, c93, c94, c95, c96, c97, c98, c99, c100, c101, c102, c103, c104, c105, c106, c107, c108, c109, c110, c111, c112, c113, c114, c115, c116, c117, c118, c119, c120, c121, c122, c123, c124, c125, c126, c127, c128, c129, c130, c131, c132, c133, c134, c135, c136, c137, c138, c139, c140, c141, c142, c143, c144, c145, c146, c147, c148, c149, c150, c151, c152, c153, c154, c155, c156, c157, c158, c159, c160, c161, c162, c163, c164, c165, c166, c167, c168, c169, c170, c171, c172, c173, c174, c175, c176, c177, c178, c179, c180, c181, c182, c183, c184, c185, c186, c187, u188, u189, u190, u191, u192, u193, u194, u195, u196, u197, u198, u199, u200, u201, u202, u203, u204, u205, u206, u207, u208, u209, u210, u211, u212, u213, u214, u215, u216, u217, v, c219, c220, c221, c222, c223, c224, c225, c226, c227, c228, c229, c230, c231, c232, c233, c234, c235, c236, c237, c238, c239, c240, c241, c242, c243, c244, c245, c246, c247, c248, c249, c250, c251, c252, c253, c254, c255, c256, c257, c258, c259, c260, c261, c262, c263, c264, c265, c266, c267, c268, c269, c270, c271, c272, c273, c274, c275, c276, c277, c278, c279, c280, c281, c282, c283, c284, c285, c286, c287, c288, c289, c290, c291, c292, c293, c294, c295, c296, c297, c298, c299, c300, c301, c302, c303, c304, c305, c306, c307, c308, c309, c310, c311, c312, c313, c314, c315, c316, c317, c318, c319, c320, c321, c322, c323, c324, c325, c326, c327, c328, c329, c330, c331, c332, c333, c334, c335, c336, c337, c338, c339, c340, c341, c342, c343, c344, c345, c346, c347, c348, c349, c350, c351, c352, c353, c354, c355, c356, c357, c358, c359, c360, c361, c362, c363, c364, c365, c366, c367, c368, c369, c370], []⟩ wc) :
    Code.wp Try.prog rs11_code Q ⟨#[c0, Value.pointer (some ⟨g, 0, none⟩), c2, c3, c4, c5, c6, c7, c8, c9, c10, c11, c12, c13, c14, c15, c16, c17, c18, c19, c20, c21, c22, c23, c24, c25, c26, c27, c28, c29, c30, c31, c32, c33, c34, c35, c36, c37, c38, c39, c40, c41, c42, c43, c44, c45, c46, c47, c48, c49, c50, c51, c52, c53, c54, c55, c56, c57, c58, c59, c60, c61, c62, c63, c64, c65, c66, c67, c68, c69, c70, c71, c72, c73, c74, c75, c76, c77, c78, c79, c80, c81, c82, c83, c84, c85, c86, c87, c88, c89, c90, c91, c92, c93, c94, c95, c96, c97, c98, c99, c100, c101, c102, c103, c104, c105, c106, c107, c108, c109, c110, c111, c112, c113, c114, c115, c116, c117, c118, c119, c120, c121, c122, c123, c124, c125, c126, c127, c128, c129, c130, c131, c132, c133, c134, c135, c136, c137, c138, c139, c140, c141, c142, c143, c144, c145, c146, c147, c148, c149, c150, c151, c152, c153, c154, c155, c156, c157, c158, c159, c160, c161, c162, c163, c164, c165, c166, c167, c168, c169, c170, c171, c172, c173, c174, c175, c176, c177, c178, c179, c180, c181, c182, c183, c184, c185, c186, c187, c188, c189, c190, c191, c192, c193, c194, c195, c196, c197, c198, c199, c200, c201, c202, c203, c204, c205, c206, c207, c208, c209, c210, c211, c212, c213, c214, c215, c216, c217, c218, c219, c220, c221, c222, c223, c224, c225, c226, c227, c228, c229, c230, c231, c232, c233, c234, c235, c236, c237, c238, c239, c240, c241, c242, c243, c244, c245, c246, c247, c248, c249, c250, c251, c252, c253, c254, c255, c256, c257, c258, c259, c260, c261, c262, c263, c264, c265, c266, c267, c268, c269, c270, c271, c272, c273, c274, c275, c276, c277, c278, c279, c280, c281, c282, c283, c284, c285, c286, c287, c288, c289, c290, c291, c292, c293, c294, c295, c296, c297, c298, c299, c300, c301, c302, c303, c304, c305, c306, c307, c308, c309, c310, c311, c312, c313, c314, c315, c316, c317, c318, c319, c320, c321, c322, c323, c324, c325, c326, c327, c328, c329, c330, c331, c332, c333, c334, c335, c336, c337, c338, c339, c340, c341, c342, c343, c344, c345, c346, c347, c348, c349, c350, c351, c352, c353, c354, c355, c356, c357, c358, c359, c360, c361, c362, c363, c364, c365, c366, c367, c368, c369, c370], []⟩ w2 := by
  have HK := asiD hK
  clear hK
  conv => arg 2; whnf
  have z1 := fun i => HS1.out.cell i
  go_wp2_with fail
  all_goals apply HK.out
  all_goals (refine ⟨_, rfl, ?_, HS1.out⟩; clear z1 HK; unfold toldP; rw [nlen y.f7, nlen y.f8, nlen y.f9]; simp only [*, or_true, true_or, or_false, false_or, and_true, true_and, not_true_eq_false, not_false_eq_true, and_false, false_and, decide_eq_false_iff_not, Bool.true_eq_false, Bool.false_eq_true, iff_false, iff_true, iff_self, decide_true, decide_false, reduceCtorEq])
noncomputable def rs13_code : Code := ((Try.f13.body).bind (regionIn 13)).getD .skip
set_option maxHeartbeats 16000000 in
set_option maxRecDepth 1000000 in
theorem rs13 {c0 c2 c3 c4 c5 c6 c7 c8 c9 c10 c11 c12 c13 c14 c15 c16 c17 c18 c19 c20 c21 c22 c23 c24 c25 c26 c27 c28 c29 c30 c31 c32 c33 c34 c35 c36 c37 c38 c39 c40 c41 c42 c43 c44 c45 c46 c47 c48 c49 c50 c51 c52 c53 c54 c55 c56 c57 c58 c59 c60 c61 c62 c63 c64 c65 c66 c67 c68 c69 c70 c71 c72 c73 c74 c75 c76 c77 c78 c79 c80 c81 c82 c83 c84 c85 c86 c87 c88 c89 c90 c91 c92 c93 c94 c95 c96 c97 c98 c99 c100 c101 c102 c103 c104 c105 c106 c107 c108 c109 c110 c111 c112 c113 c114 c115 c116 c117 c118 c119 c120 c121 c122 c123 c124 c125 c126 c127 c128 c129 c130 c131 c132 c133 c134 c135 c136 c137 c138 c139 c140 c141 c142 c143 c144 c145 c146 c147 c148 c149 c150 c151 c152 c153 c154 c155 c156 c157 c158 c159 c160 c161 c162 c163 c164 c165 c166 c167 c168 c169 c170 c171 c172 c173 c174 c175 c176 c177 c178 c179 c180 c181 c182 c183 c184 c185 c186 c187 c188 c189 c190 c191 c192 c193 c194 c195 c196 c197 c198 c199 c200 c201 c202 c203 c204 c205 c206 c207 c208 c209 c210 c211 c212 c213 c214 c215 c216 c217 c218 c219 c220 c221 c222 c223 c224 c225 c226 c227 c228 c229 c230 c231 c232 c233 c234 c235 c236 c237 c238 c239 c240 c241 c242 c243 c244 c245 c246 c247 c248 c249 c250 c251 c252 c253 c254 c255 c256 c257 c258 c259 c260 c261 c262 c263 c264 c265 c266 c267 c268 c269 c270 c271 c272 c273 c274 c275 c276 c277 c278 c279 c280 c281 c282 c283 c284 c285 c286 c287 c288 c289 c290 c291 c292 c293 c294 c295 c296 c297 c298 c299 c300 c301 c302 c303 c304 c305 c306 c307 c308 c309 c310 c311 c312 c313 c314 c315 c316 c317 c318 c319 c320 c321 c322 c323 c324 c325 c326 c327 c328 c329 c330 c331 c332 c333 c334 c335 c336 c337 c338 c339 c340 c341 c342 c343 c344 c345 c346 c347 c348 c349 c350 c351 c352 c353 c354 c355 c356 c357 c358 c359 c360 c361 c362 c363 c364 c365 c366 c367 c368 c369 c370 : Value} {Q : Exit → Act → World → Prop} (y : Dc) (w w2 : World) (g : Nat) (R : Asrt) {B1 B2 B3 B4 B5 : Option Addr} {d1 d2 d3 d4 d5 : Nat} (HS1 : Aside0 (St w w2 (Asrt.blk g 27 #[.bool false, .int .i64 y.f1, .int .i64 y.f2, .bool y.f3, .bool y.f4, .int .u32 y.f5, .int .i64 y.f6, .slice B1 y.f7.length d1, .slice B2 y.f8.length d2, .slice B3 y.f9.length d3, .bool y.f10, .bool y.f11, .bool y.f12, .slice B4 y.f13.length d4, .slice B5 y.f14.length d5] * R)))
    (hK : ∀ (v u219 u220 u221 u222 u223 u224 u225 u226 u227 u228 u229 u230 u231 u232 u233 u234 u235 u236 : Value) (wc : World), (∃ t : Bool, v = .bool t ∧ (t = false ↔ (y.f4 = false → (y.f13.length : Int) = 1 ∧ y.f5 = 0 ∧ y.f6 = 0)) ∧ St w wc (Asrt.blk g 27 #[.bool false, .int .i64 y.f1, .int .i64 y.f2, .bool y.f3, .bool y.f4, .int .u32 y.f5, .int .i64 y.f6, .slice B1 y.f7.length d1, .slice B2 y.f8.length d2, .slice B3 y.f9.length d3, .bool y.f10, .bool y.f11, .bool y.f12, .slice B4 y.f13.length d4, .slice B5 y.f14.length d5] * R)) → Q .normal ⟨#[c0, Value.pointer (some ⟨g, 0, none⟩), c2, c3, c4, c5, c6, c7, c8, c9, c10, c11, c12, c13, c14, c15, c16, c17, c18, c19, c20, c21, c22, c23, c24, c25, c26, c27, c28, c29, c30, c31, c32, c33, c34, c35, c36, c37, c38, c39, c40, c41, c42, c43, c44, c45, c46, c47, c48, c49, c50, c51, c52, c53, c54, c55, c56, c57, c58, c59, c60, c61, c62, c63, c64, c65, c66, c67, c68, c69, c70, c71, c72, c73, c74, c75, c76, c77, c78, c79, c80, c81, c82, c83, c84, c85, c86, c87, c88, c89, c90, c91, c92, c93, c94, c95, c96, c97, c98, c99, c100, c101, c102, c103, c104, c105, c106, c107, c108, c109, c110, c111, c112, c113, c114, c115, c116, c117, c118, c119, c120, c121, c122, c123, c124, c125, c126, c127, c128, c129, c130, c131, c132, c133, c134, c135, c136, c137, c138, c139, c140, c141, c142, c143, c144, c145, c146, c147, c148, c149, c150, c151, c152, c153, c154, c155, c156, c157, c158, c159, c160, c161, c162, c163, c164, c165, c166, c167, c168, c169, c170, c171, c172, c173, c174, c175, c176, c177, c178, c179, c180, c181, c182, c183, c184, c185, c186, c187, c188, c189, c190, c191, c192, c193, c194, c195, c196, c197, c198, c199, c200, c201, c202, c203, c204, c205, c206, c207, c208, c209, c210, c211, c212, c213, c214, c215, c216, c217, c218, u219, u220, u221, u222, u223, u224, u225, u226, u227, u228, u229, u230, u231, u232, u233, u234, u235, u236, v, c238, c239, c240, c241, c242, c243, c244, c245, c246, c247, c248, c249, c250, c251, c252, c253, c254, c255, c256, c257, c258, c259, c260, c261, c262, c263, c264, c265, c266, c267, c268, c269, c270, c271, c272, c273, c274, c275, c276, c277, c278, c279, c280, c281, c282, c283, c284, c285, c286, c287, c288, c289, c290, c291, c292, c293, c294, c295, c296, c297, c298, c299, c300, c301, c302, c303, c304, c305, c306, c307, c308, c309, c310, c311, c312, c313, c314, c315, c316, c317, c318, c319, c320, c321, c322, c323, c324, c325, c326, c327, c328, c329, c330, c331, c332, c333, c334, c335, c336, c337, c338, c339, c340, c341, c342, c343, c344, c345, c346, c347, c348, c349, c350, c351, c352, c353, c354, c355, c356, c357, c358, c359, c360, c361, c362, c363, c364, c365, c366, c367, c368, c369, c370], []⟩ wc) :
    Code.wp Try.prog rs13_code Q ⟨#[c0, Value.pointer (some ⟨g, 0, none⟩), c2, c3, c4, c5, c6, c7, c8, c9, c10, c11, c12, c13, c14, c15, c16, c17, c18, c19, c20, c21, c22, c23, c24, c25, c26, c27, c28, c29, c30, c31, c32, c33, c34, c35, c36, c37, c38, c39, c40, c41, c42, c43, c44, c45, c46, c47, c48, c49, c50, c51, c52, c53, c54, c55, c56, c57, c58, c59, c60, c61, c62, c63, c64, c65, c66, c67, c68, c69, c70, c71, c72, c73, c74, c75, c76, c77, c78, c79, c80, c81, c82, c83, c84, c85, c86, c87, c88, c89, c90, c91, c92, c93, c94, c95, c96, c97, c98, c99, c100, c101, c102, c103, c104, c105, c106, c107, c108, c109, c110, c111, c112, c113, c114, c115, c116, c117, c118, c119, c120, c121, c122, c123, c124, c125, c126, c127, c128, c129, c130, c131, c132, c133, c134, c135, c136, c137, c138, c139, c140, c141, c142, c143, c144, c145, c146, c147, c148, c149, c150, c151, c152, c153, c154, c155, c156, c157, c158, c159, c160, c161, c162, c163, c164, c165, c166, c167, c168, c169, c170, c171, c172, c173, c174, c175, c176, c177, c178, c179, c180, c181, c182, c183, c184, c185, c186, c187, c188, c189, c190, c191, c192, c193, c194, c195, c196, c197, c198, c199, c200, c201, c202, c203, c204, c205, c206, c207, c208, c209, c210, c211, c212, c213, c214, c215, c216, c217, c218, c219, c220, c221, c222, c223, c224, c225, c226, c227, c228, c229, c230, c231, c232, c233, c234, c235, c236, c237, c238, c239, c240, c241, c242, c243, c244, c245, c246, c247, c248, c249, c250, c251, c252, c253, c254, c255, c256, c257, c258, c259, c260, c261, c262, c263, c264, c265, c266, c267, c268, c269, c270, c271, c272, c273, c274, c275, c276, c277, c278, c279, c280, c281, c282, c283, c284, c285, c286, c287, c288, c289, c290, c291, c292, c293, c294, c295, c296, c297, c298, c299, c300, c301, c302, c303, c304, c305, c306, c307, c308, c309, c310, c311, c312, c313, c314, c315, c316, c317, c318, c319, c320, c321, c322, c323, c324, c325, c326, c327, c328, c329, c330, c331, c332, c333, c334, c335, c336, c337, c338, c339, c340, c341, c342, c343, c344, c345, c346, c347, c348, c349, c350, c351, c352, c353, c354, c355, c356, c357, c358, c359, c360, c361, c362, c363, c364, c365, c366, c367, c368, c369, c370], []⟩ w2 := by
  have HK := asiD hK
  clear hK
  conv => arg 2; whnf
  have z1 := fun i => HS1.out.cell i
  go_wp2_with fail
  all_goals apply HK.out
  all_goals (refine ⟨_, rfl, ?_, HS1.out⟩; clear z1 HK; first | (simp [*]; done) | (simp [*]; omega) | trace_state)
noncomputable def rs19_code : Code := ((Try.f13.body).bind (regionIn 19)).getD .skip
set_option maxHeartbeats 16000000 in
set_option maxRecDepth 1000000 in
theorem rs19 {c0 c2 c3 c4 c5 c7 c8 c9 c10 c11 c12 c13 c14 c15 c16 c17 c18 c19 c20 c21 c22 c23 c24 c25 c26 c27 c28 c29 c30 c31 c32 c33 c34 c35 c36 c37 c38 c39 c40 c41 c42 c43 c44 c45 c46 c47 c48 c49 c50 c51 c52 c53 c54 c55 c56 c57 c58 c59 c60 c61 c62 c63 c64 c65 c66 c67 c68 c69 c70 c71 c72 c73 c74 c75 c76 c77 c78 c79 c80 c81 c82 c83 c84 c85 c86 c87 c88 c89 c90 c91 c92 c93 c94 c95 c96 c97 c98 c99 c100 c101 c102 c103 c104 c105 c106 c107 c108 c109 c110 c111 c112 c113 c114 c115 c116 c117 c118 c119 c120 c121 c122 c123 c124 c125 c126 c127 c128 c129 c130 c131 c132 c133 c134 c135 c136 c137 c138 c139 c140 c141 c142 c143 c144 c145 c146 c147 c148 c149 c150 c151 c152 c153 c154 c155 c156 c157 c158 c159 c160 c161 c162 c163 c164 c165 c166 c167 c168 c169 c170 c171 c172 c173 c174 c175 c176 c177 c178 c179 c180 c181 c182 c183 c184 c185 c186 c187 c188 c189 c190 c191 c192 c193 c194 c195 c196 c197 c198 c199 c200 c201 c202 c203 c204 c205 c206 c207 c208 c209 c210 c211 c212 c213 c214 c215 c216 c217 c218 c219 c220 c221 c222 c223 c224 c225 c226 c227 c228 c229 c230 c231 c232 c233 c234 c235 c236 c237 c238 c239 c240 c241 c242 c243 c244 c245 c246 c247 c248 c249 c250 c251 c252 c253 c254 c255 c256 c257 c258 c259 c260 c261 c262 c263 c264 c265 c266 c267 c268 c269 c270 c271 c272 c273 c274 c275 c276 c277 c278 c279 c280 c281 c282 c283 c284 c285 c286 c287 c288 c289 c290 c291 c292 c293 c294 c295 c296 c297 c298 c299 c300 c301 c302 c303 c304 c305 c306 c307 c308 c309 c310 c311 c312 c313 c314 c315 c316 c317 c318 c319 c320 c321 c322 c323 c324 c325 c326 c327 c328 c329 c330 c331 c332 c333 c334 c335 c336 c337 c338 c339 c340 c341 c342 c343 c344 c345 c346 c347 c348 c349 c350 c351 c352 c353 c354 c355 c356 c357 c358 c359 c360 c361 c362 c363 c364 c365 c366 c367 c368 c369 c370 : Value} {Q : Exit → Act → World → Prop} (y : Dc) (x : Fr) (w w2 : World) (g gf : Nat) (R : Asrt) {B1 B2 B3 B4 B5 : Option Addr} {d1 d2 d3 d4 d5 : Nat} {A8 A9 A10 : Option Addr} {p8 p9 p10 : Nat} (HAL : Aside0 (St w w2 (Asrt.blk gf 44 #[.int .i64 x.f0, .int .i64 x.f1, .int .i64 x.f2, .int .i64 x.f3, .int .i64 x.f4, .bool x.f5, .bool x.f6, .int .i64 x.f7, .slice A8 x.f8.length p8, .slice A9 x.f9.length p9, .slice A10 x.f10.length p10] * (Asrt.blk g 27 #[.bool false, .int .i64 y.f1, .int .i64 y.f2, .bool y.f3, .bool y.f4, .int .u32 y.f5, .int .i64 y.f6, .slice B1 y.f7.length d1, .slice B2 y.f8.length d2, .slice B3 y.f9.length d3, .bool y.f10, .bool y.f11, .bool y.f12, .slice B4 y.f13.length d4, .slice B5 y.f14.length d5] * R)))) (HC : Aside0 (wideP y)) (hx2 : i64r x.f2) (hx3 : i64r x.f3) (HKD : Aside0 (∀ W : World, Below w.heap.size w W → Calls Try.prog 31 #[.agg #[.int .i64 x.f0, .int .i64 x.f1, .int .i64 x.f2, .int .i64 x.f3, .int .i64 x.f4, .bool x.f5, .bool x.f6, .int .i64 x.f7, .slice A8 x.f8.length p8, .slice A9 x.f9.length p9, .slice A10 x.f10.length p10]] W fun e w' => e = .returned (.bool (kindB x)) ∧ Below W.heap.size W w')) (HMX : Aside0 (∀ W : World, Below w.heap.size w W → Calls Try.prog 32 #[.slice A10 x.f10.length p10] W fun e w' => e = .returned (.bool (moreB x.f10)) ∧ Below W.heap.size W w'))
    (hK : ∀ (v u250 u251 u252 u253 u254 u255 u256 u257 u258 u259 u260 u261 u262 u263 u264 u265 u266 u267 u268 u269 u270 u271 u272 u273 u274 u275 u276 u277 u278 u279 u280 u281 u282 u283 u284 u285 u286 u287 u288 u289 u290 u291 u292 u293 u294 u295 u296 u297 u298 u299 u300 u301 u302 u303 u304 u305 u306 u307 u308 u309 u310 u311 u312 u313 u314 u315 u316 u317 u318 u319 u320 u321 u322 u323 u324 u325 u326 u327 u328 u329 u330 u331 u332 u333 : Value) (wc : World), (∃ t : Bool, v = .bool t ∧ (t = false ↔ sideQ x y) ∧ St w wc (Asrt.blk gf 44 #[.int .i64 x.f0, .int .i64 x.f1, .int .i64 x.f2, .int .i64 x.f3, .int .i64 x.f4, .bool x.f5, .bool x.f6, .int .i64 x.f7, .slice A8 x.f8.length p8, .slice A9 x.f9.length p9, .slice A10 x.f10.length p10] * (Asrt.blk g 27 #[.bool false, .int .i64 y.f1, .int .i64 y.f2, .bool y.f3, .bool y.f4, .int .u32 y.f5, .int .i64 y.f6, .slice B1 y.f7.length d1, .slice B2 y.f8.length d2, .slice B3 y.f9.length d3, .bool y.f10, .bool y.f11, .bool y.f12, .slice B4 y.f13.length d4, .slice B5 y.f14.length d5] * R))) → Q .normal ⟨#[c0, Value.pointer (some ⟨g, 0, none⟩), c2, c3, c4, c5, Value.pointer (some ⟨gf, 0, none⟩), c7, c8, c9, c10, c11, c12, c13, c14, c15, c16, c17, c18, c19, c20, c21, c22, c23, c24, c25, c26, c27, c28, c29, c30, c31, c32, c33, c34, c35, c36, c37, c38, c39, c40, c41, c42, c43, c44, c45, c46, c47, c48, c49, c50, c51, c52, c53, c54, c55, c56, c57, c58, c59, c60, c61, c62, c63, c64, c65, c66, c67, c68, c69, c70, c71, c72, c73, c74, c75, c76, c77, c78, c79, c80, c81, c82, c83, c84, c85, c86, c87, c88, c89, c90, c91, c92, c93, c94, c95, c96, c97, c98, c99, c100, c101, c102, c103, c104, c105, c106, c107, c108, c109, c110, c111, c112, c113, c114, c115, c116, c117, c118, c119, c120, c121, c122, c123, c124, c125, c126, c127, c128, c129, c130, c131, c132, c133, c134, c135, c136, c137, c138, c139, c140, c141, c142, c143, c144, c145, c146, c147, c148, c149, c150, c151, c152, c153, c154, c155, c156, c157, c158, c159, c160, c161, c162, c163, c164, c165, c166, c167, c168, c169, c170, c171, c172, c173, c174, c175, c176, c177, c178, c179, c180, c181, c182, c183, c184, c185, c186, c187, c188, c189, c190, c191, c192, c193, c194, c195, c196, c197, c198, c199, c200, c201, c202, c203, c204, c205, c206, c207, c208, c209, c210, c211, c212, c213, c214, c215, c216, c217, c218, c219, c220, c221, c222, c223, c224, c225, c226, c227, c228, c229, c230, c231, c232, c233, c234, c235, c236, c237, c238, c239, c240, c241, c242, c243, c244, c245, c246, c247, c248, c249, u250, u251, u252, u253, u254, u255, u256, u257, u258, u259, u260, u261, u262, u263, u264, u265, u266, u267, u268, u269, u270, u271, u272, u273, u274, u275, u276, u277, u278, u279, u280, u281, u282, u283, u284, u285, u286, u287, u288, u289, u290, u291, u292, u293, u294, u295, u296, u297, u298, u299, u300, u301, u302, u303, u304, u305, u306, u307, u308, u309, u310, u311, u312, u313, u314, u315, u316, u317, u318, u319, u320, u321, u322, u323, u324, u325, u326, u327, u328, u329, u330, u331, u332, u333, v, c335, c336, c337, c338, c339, c340, c341, c342, c343, c344, c345, c346, c347, c348, c349, c350, c351, c352, c353, c354, c355, c356, c357, c358, c359, c360, c361, c362, c363, c364, c365, c366, c367, c368, c369, c370], []⟩ wc) :
    Code.wp Try.prog rs19_code Q ⟨#[c0, Value.pointer (some ⟨g, 0, none⟩), c2, c3, c4, c5, Value.pointer (some ⟨gf, 0, none⟩), c7, c8, c9, c10, c11, c12, c13, c14, c15, c16, c17, c18, c19, c20, c21, c22, c23, c24, c25, c26, c27, c28, c29, c30, c31, c32, c33, c34, c35, c36, c37, c38, c39, c40, c41, c42, c43, c44, c45, c46, c47, c48, c49, c50, c51, c52, c53, c54, c55, c56, c57, c58, c59, c60, c61, c62, c63, c64, c65, c66, c67, c68, c69, c70, c71, c72, c73, c74, c75, c76, c77, c78, c79, c80, c81, c82, c83, c84, c85, c86, c87, c88, c89, c90, c91, c92, c93, c94, c95, c96, c97, c98, c99, c100, c101, c102, c103, c104, c105, c106, c107, c108, c109, c110, c111, c112, c113, c114, c115, c116, c117, c118, c119, c120, c121, c122, c123, c124, c125, c126, c127, c128, c129, c130, c131, c132, c133, c134, c135, c136, c137, c138, c139, c140, c141, c142, c143, c144, c145, c146, c147, c148, c149, c150, c151, c152, c153, c154, c155, c156, c157, c158, c159, c160, c161, c162, c163, c164, c165, c166, c167, c168, c169, c170, c171, c172, c173, c174, c175, c176, c177, c178, c179, c180, c181, c182, c183, c184, c185, c186, c187, c188, c189, c190, c191, c192, c193, c194, c195, c196, c197, c198, c199, c200, c201, c202, c203, c204, c205, c206, c207, c208, c209, c210, c211, c212, c213, c214, c215, c216, c217, c218, c219, c220, c221, c222, c223, c224, c225, c226, c227, c228, c229, c230, c231, c232, c233, c234, c235, c236, c237, c238, c239, c240, c241, c242, c243, c244, c245, c246, c247, c248, c249, c250, c251, c252, c253, c254, c255, c256, c257, c258, c259, c260, c261, c262, c263, c264, c265, c266, c267, c268, c269, c270, c271, c272, c273, c274, c275, c276, c277, c278, c279, c280, c281, c282, c283, c284, c285, c286, c287, c288, c289, c290, c291, c292, c293, c294, c295, c296, c297, c298, c299, c300, c301, c302, c303, c304, c305, c306, c307, c308, c309, c310, c311, c312, c313, c314, c315, c316, c317, c318, c319, c320, c321, c322, c323, c324, c325, c326, c327, c328, c329, c330, c331, c332, c333, c334, c335, c336, c337, c338, c339, c340, c341, c342, c343, c344, c345, c346, c347, c348, c349, c350, c351, c352, c353, c354, c355, c356, c357, c358, c359, c360, c361, c362, c363, c364, c365, c366, c367, c368, c369, c370], []⟩ w2 := by
  have HK := asiD hK
  clear hK
  conv => arg 2; whnf
  have hcc := HC.out
  unfold wideP at hcc
  unfold i64r at hx2 hx3
  have w1 : ¬ x.f2 < 1 → IntKind.i64.wrap (y.f1 - x.f2) = y.f1 - x.f2 := fun h => wi64 (by omega) (by omega)
  have w2' : ¬ x.f3 < 1 → IntKind.i64.wrap (y.f2 - x.f3) = y.f2 - x.f3 := fun h => wi64 (by omega) (by omega)
  clear hcc hx2 hx3
  have z := fun i => HAL.out.swap.cell i
  have zf := fun i => HAL.out.cell i
  simp only [List.append_eq, List.cons_append, List.nil_append]
  go_wp2_with (first
    | (go_at_call 31; with_reducible refine (HKD.out _ HAL.out.below).mono ?_; rintro e w3 ⟨rfl, hb⟩; have HS1 := asiD (HAL.out.belowR hb); have zf1 := fun i => HS1.out.cell i; clear hb)
    | (go_at_call 32; with_reducible refine (HMX.out _ HS1.out.below).mono ?_; rintro e w4 ⟨rfl, hb⟩; have HS2 := asiD (HS1.out.belowR hb); clear hb))
  all_goals apply HK.out
  all_goals clear w1 w2' HK HKD HMX
  all_goals (refine ⟨_, rfl, ?_, by first | exact HS2.out | exact HS1.out | exact HAL.out⟩; unfold sideQ sidesP; first | (simp [*]; done) | (simp [*]; omega) | trace_state)
noncomputable def rs21_code : Code := ((Try.f13.body).bind (regionIn 21)).getD .skip
set_option maxHeartbeats 16000000 in
set_option maxRecDepth 1000000 in
theorem rs21 {c0 c2 c3 c4 c5 c7 c8 c9 c10 c11 c12 c13 c14 c15 c16 c17 c18 c19 c20 c21 c22 c23 c24 c25 c26 c27 c28 c29 c30 c31 c32 c33 c34 c35 c36 c37 c38 c39 c40 c41 c42 c43 c44 c45 c46 c47 c48 c49 c50 c51 c52 c53 c54 c55 c56 c57 c58 c59 c60 c61 c62 c63 c64 c65 c66 c67 c68 c69 c70 c71 c72 c73 c74 c75 c76 c77 c78 c79 c80 c81 c82 c83 c84 c85 c86 c87 c88 c89 c90 c91 c92 c93 c94 c95 c96 c97 c98 c99 c100 c101 c102 c103 c104 c105 c106 c107 c108 c109 c110 c111 c112 c113 c114 c115 c116 c117 c118 c119 c120 c121 c122 c123 c124 c125 c126 c127 c128 c129 c130 c131 c132 c133 c134 c135 c136 c137 c138 c139 c140 c141 c142 c143 c144 c145 c146 c147 c148 c149 c150 c151 c152 c153 c154 c155 c156 c157 c158 c159 c160 c161 c162 c163 c164 c165 c166 c167 c168 c169 c170 c171 c172 c173 c174 c175 c176 c177 c178 c179 c180 c181 c182 c183 c184 c185 c186 c187 c188 c189 c190 c191 c192 c193 c194 c195 c196 c197 c198 c199 c200 c201 c202 c203 c204 c205 c206 c207 c208 c209 c210 c211 c212 c213 c214 c215 c216 c217 c218 c219 c220 c221 c222 c223 c224 c225 c226 c227 c228 c229 c230 c231 c232 c233 c234 c235 c236 c237 c238 c239 c240 c241 c242 c243 c244 c245 c246 c247 c248 c249 c250 c251 c252 c253 c254 c255 c256 c257 c258 c259 c260 c261 c262 c263 c264 c265 c266 c267 c268 c269 c270 c271 c272 c273 c274 c275 c276 c277 c278 c279 c280 c281 c282 c283 c284 c285 c286 c287 c288 c289 c290 c291 c292 c293 c294 c295 c296 c297 c298 c299 c300 c301 c302 c303 c304 c305 c306 c307 c308 c309 c310 c311 c312 c313 c314 c315 c316 c317 c318 c319 c320 c321 c322 c323 c324 c325 c326 c327 c328 c329 c330 c331 c332 c333 c334 c335 c336 c337 c338 c339 c340 c341 c342 c343 c344 c345 c346 c347 c348 c349 c350 c351 c352 c353 c354 c355 c356 c357 c358 c359 c360 c361 c362 c363 c364 c365 c366 c367 c368 c369 c370 : Value} {Q : Exit → Act → World → Prop} (y : Dc) (x : Fr) (w w2 : World) (g gf : Nat) (R : Asrt) {B1 B2 B3 B4 B5 : Option Addr} {d1 d2 d3 d4 d5 : Nat} {A8 A9 A10 : Option Addr} {p8 p9 p10 : Nat} (HS3 : Aside0 (St w w2 (Asrt.blk gf 44 #[.int .i64 x.f0, .int .i64 x.f1, .int .i64 x.f2, .int .i64 x.f3, .int .i64 x.f4, .bool x.f5, .bool x.f6, .int .i64 x.f7, .slice A8 x.f8.length p8, .slice A9 x.f9.length p9, .slice A10 x.f10.length p10] * (Asrt.blk g 27 #[.bool false, .int .i64 y.f1, .int .i64 y.f2, .bool y.f3, .bool y.f4, .int .u32 y.f5, .int .i64 y.f6, .slice B1 y.f7.length d1, .slice B2 y.f8.length d2, .slice B3 y.f9.length d3, .bool y.f10, .bool y.f11, .bool y.f12, .slice B4 y.f13.length d4, .slice B5 y.f14.length d5] * R))))
    (hK : ∀ (v u335 u336 u337 u338 u339 u340 u341 u342 u343 u344 u345 u346 u347 u348 u349 u350 u351 u352 u353 u354 u355 u356 u357 u358 u359 u360 u361 u362 u363 u364 u365 u366 u367 u368 u369 : Value) (wc : World), (∃ t : Bool, v = .bool t ∧ (t = false ↔ standQ x y) ∧ St w wc (Asrt.blk gf 44 #[.int .i64 x.f0, .int .i64 x.f1, .int .i64 x.f2, .int .i64 x.f3, .int .i64 x.f4, .bool x.f5, .bool x.f6, .int .i64 x.f7, .slice A8 x.f8.length p8, .slice A9 x.f9.length p9, .slice A10 x.f10.length p10] * (Asrt.blk g 27 #[.bool false, .int .i64 y.f1, .int .i64 y.f2, .bool y.f3, .bool y.f4, .int .u32 y.f5, .int .i64 y.f6, .slice B1 y.f7.length d1, .slice B2 y.f8.length d2, .slice B3 y.f9.length d3, .bool y.f10, .bool y.f11, .bool y.f12, .slice B4 y.f13.length d4, .slice B5 y.f14.length d5] * R))) → Q .normal ⟨#[c0, Value.pointer (some ⟨g, 0, none⟩), c2, c3, c4, c5, Value.pointer (some ⟨gf, 0, none⟩), c7, c8, c9, c10, c11, c12, c13, c14, c15, c16, c17, c18, c19, c20, c21, c22, c23, c24, c25, c26, c27, c28, c29, c30, c31, c32, c33, c34, c35, c36, c37, c38, c39, c40, c41, c42, c43, c44, c45, c46, c47, c48, c49, c50, c51, c52, c53, c54, c55, c56, c57, c58, c59, c60, c61, c62, c63, c64, c65, c66, c67, c68, c69, c70, c71, c72, c73, c74, c75, c76, c77, c78, c79, c80, c81, c82, c83, c84, c85, c86, c87, c88, c89, c90, c91, c92, c93, c94, c95, c96, c97, c98, c99, c100, c101, c102, c103, c104, c105, c106, c107, c108, c109, c110, c111, c112, c113, c114, c115, c116, c117, c118, c119, c120, c121, c122, c123, c124, c125, c126, c127, c128, c129, c130, c131, c132, c133, c134, c135, c136, c137, c138, c139, c140, c141, c142, c143, c144, c145, c146, c147, c148, c149, c150, c151, c152, c153, c154, c155, c156, c157, c158, c159, c160, c161, c162, c163, c164, c165, c166, c167, c168, c169, c170, c171, c172, c173, c174, c175, c176, c177, c178, c179, c180, c181, c182, c183, c184, c185, c186, c187, c188, c189, c190, c191, c192, c193, c194, c195, c196, c197, c198, c199, c200, c201, c202, c203, c204, c205, c206, c207, c208, c209, c210, c211, c212, c213, c214, c215, c216, c217, c218, c219, c220, c221, c222, c223, c224, c225, c226, c227, c228, c229, c230, c231, c232, c233, c234, c235, c236, c237, c238, c239, c240, c241, c242, c243, c244, c245, c246, c247, c248, c249, c250, c251, c252, c253, c254, c255, c256, c257, c258, c259, c260, c261, c262, c263, c264, c265, c266, c267, c268, c269, c270, c271, c272, c273, c274, c275, c276, c277, c278, c279, c280, c281, c282, c283, c284, c285, c286, c287, c288, c289, c290, c291, c292, c293, c294, c295, c296, c297, c298, c299, c300, c301, c302, c303, c304, c305, c306, c307, c308, c309, c310, c311, c312, c313, c314, c315, c316, c317, c318, c319, c320, c321, c322, c323, c324, c325, c326, c327, c328, c329, c330, c331, c332, c333, c334, u335, u336, u337, u338, u339, u340, u341, u342, u343, u344, u345, u346, u347, u348, u349, u350, u351, u352, u353, u354, u355, u356, u357, u358, u359, u360, u361, u362, u363, u364, u365, u366, u367, u368, u369, v], []⟩ wc) :
    Code.wp Try.prog rs21_code Q ⟨#[c0, Value.pointer (some ⟨g, 0, none⟩), c2, c3, c4, c5, Value.pointer (some ⟨gf, 0, none⟩), c7, c8, c9, c10, c11, c12, c13, c14, c15, c16, c17, c18, c19, c20, c21, c22, c23, c24, c25, c26, c27, c28, c29, c30, c31, c32, c33, c34, c35, c36, c37, c38, c39, c40, c41, c42, c43, c44, c45, c46, c47, c48, c49, c50, c51, c52, c53, c54, c55, c56, c57, c58, c59, c60, c61, c62, c63, c64, c65, c66, c67, c68, c69, c70, c71, c72, c73, c74, c75, c76, c77, c78, c79, c80, c81, c82, c83, c84, c85, c86, c87, c88, c89, c90, c91, c92, c93, c94, c95, c96, c97, c98, c99, c100, c101, c102, c103, c104, c105, c106, c107, c108, c109, c110, c111, c112, c113, c114, c115, c116, c117, c118, c119, c120, c121, c122, c123, c124, c125, c126, c127, c128, c129, c130, c131, c132, c133, c134, c135, c136, c137, c138, c139, c140, c141, c142, c143, c144, c145, c146, c147, c148, c149, c150, c151, c152, c153, c154, c155, c156, c157, c158, c159, c160, c161, c162, c163, c164, c165, c166, c167, c168, c169, c170, c171, c172, c173, c174, c175, c176, c177, c178, c179, c180, c181, c182, c183, c184, c185, c186, c187, c188, c189, c190, c191, c192, c193, c194, c195, c196, c197, c198, c199, c200, c201, c202, c203, c204, c205, c206, c207, c208, c209, c210, c211, c212, c213, c214, c215, c216, c217, c218, c219, c220, c221, c222, c223, c224, c225, c226, c227, c228, c229, c230, c231, c232, c233, c234, c235, c236, c237, c238, c239, c240, c241, c242, c243, c244, c245, c246, c247, c248, c249, c250, c251, c252, c253, c254, c255, c256, c257, c258, c259, c260, c261, c262, c263, c264, c265, c266, c267, c268, c269, c270, c271, c272, c273, c274, c275, c276, c277, c278, c279, c280, c281, c282, c283, c284, c285, c286, c287, c288, c289, c290, c291, c292, c293, c294, c295, c296, c297, c298, c299, c300, c301, c302, c303, c304, c305, c306, c307, c308, c309, c310, c311, c312, c313, c314, c315, c316, c317, c318, c319, c320, c321, c322, c323, c324, c325, c326, c327, c328, c329, c330, c331, c332, c333, c334, c335, c336, c337, c338, c339, c340, c341, c342, c343, c344, c345, c346, c347, c348, c349, c350, c351, c352, c353, c354, c355, c356, c357, c358, c359, c360, c361, c362, c363, c364, c365, c366, c367, c368, c369, c370], []⟩ w2 := by
  have HK := asiD hK
  clear hK
  conv => arg 2; whnf
  have z := fun i => HS3.out.swap.cell i
  have zf := fun i => HS3.out.cell i
  go_wp2_with fail
  all_goals apply HK.out
  all_goals (refine ⟨_, rfl, ?_, HS3.out⟩; clear z zf HK; unfold standQ; first | (simp [*]; done) | (rw [nlenC x.f10]; simp only [*, or_true, true_or, or_false, false_or, and_true, true_and, not_true_eq_false, not_false_eq_true, and_false, false_and, decide_eq_false_iff_not, Bool.true_eq_false, Bool.false_eq_true, iff_false, iff_true, iff_self, decide_true, decide_false, reduceCtorEq, forall_const, true_implies, imp_false, not_and]; done) | trace_state)
set_option maxHeartbeats 16000000 in
set_option maxRecDepth 1000000 in
theorem refSoundW_calls (y : Dc) (ds : List Value) (w : World) (hy : k27.K w y ds) (ho : okDc y) (hn : smallN y < 4000000) (hf : y.f13.length ≤ 4096) (h0 : y.f0 = false) (b : Bool) (hb : b = true ↔ soundP y) :
    Calls Try.prog 13 #[.agg ds.toArray] w fun e w' => e = .returned (.bool b) ∧ Below w.heap.size w w' := by
  rw [sound_rest hn hf] at hb
  have HWT := asiD fun (W : World) (hb : Below w.heap.size w W) => rweight_calls y ds W (k27.K_below hb hy) ho hn
  obtain ⟨B1, d1, B2, d2, B3, d3, B4, d4, B5, d5, rfl, m1, h1, m2, h2, m3, h3, m4, h4, m5, h5⟩ := k27_open hy
  have HBB := asiD hb
  have hlens : y.f7.length < 4000000 ∧ y.f8.length < 4000000 ∧ y.f9.length < 4000000 ∧ y.f13.length ≤ 4096 ∧ y.f14.length ≤ 200000 := by unfold smallN at hn; omega
  have HO := asiD ho
  have HMO := asiD fun (W : World) (hb : Below w.heap.size w W) => rmore_calls B5 d5 y.f14 W ho.mo (Kd.C_below h5 hb) m5
  have H4 := asiD h4
  have HS0 := asiD ((St.refl w).alloc #[.bool y.f0, .int .i64 y.f1, .int .i64 y.f2, .bool y.f3, .bool y.f4, .int .u32 y.f5, .int .i64 y.f6, .slice B1 y.f7.length d1, .slice B2 y.f8.length d2, .slice B3 y.f9.length d3, .bool y.f10, .bool y.f11, .bool y.f12, .slice B4 y.f13.length d4, .slice B5 y.f14.length d5] 27)
  have f13 : decide ((4096 : Int) < y.f13.length) = false := decide_eq_false (by omega)
  have f13b : decide (4096 < y.f13.length) = false := decide_eq_false (by omega)
  clear hy h1 h2 h3 h4 h5 ho hn hb hf
  have hbp := HBB.out
  unfold restP at hbp
  rw [if_neg (by rw [h0]; simp)] at hbp
  have HPI := asiD hbp
  have hW1 := HO.out.i1
  have hW2 := HO.out.i2
  rw [h0] at HS0 HWT ⊢
  clear h0 HBB hbp
  by_cases hc : wideP y
  case neg =>
    have HN : Aside0 (b = false) := ⟨Bool.eq_false_iff.2 fun hbt => hc (HPI.out.1 hbt).1⟩
    have hc' : (decide (y.f1 < 1) = true) ∨ (decide (y.f1 < 1) = false ∧ decide (16777216 < y.f1) = true) ∨ (decide (y.f2 < 1) = true) ∨ (decide (y.f2 < 1) = false ∧ decide (16777216 < y.f2) = true) := by
      unfold wideP at hc
      simp only [decide_eq_true_iff, decide_eq_false_iff_not]
      omega
    clear hc hlens HMO
    rcases hc' with hc' | ⟨hc1, hc'⟩ | hc' | ⟨hc1, hc'⟩
    all_goals go_enter Try.func13, Try.ntmps13
    all_goals go_upto_region 1 with (fail)
    all_goals generalize w.alloc (.cells _ 27) = W1 at HS0 ⊢
    all_goals generalize w.heap.size = g at HS0 ⊢
    all_goals have z := fun i => HS0.out.cell i
    all_goals go_upto_region 9 with (go_at_call 30; refine (HWT.out _ HS0.out.below).mono ?_; rintro e w2 ⟨nw, rfl, hw, hb⟩; have HS1 := asiD (HS0.out.belowR hb); have z1 := fun i => HS1.out.cell i; have u1 : decide ((67108864 : Int) < (nw : Int)) = false := decide_eq_false (by omega); have u2 : decide (67108864 < nw) = false := decide_eq_false (by omega); clear hw hb)
    all_goals clear z
    all_goals go_wp2_with fail
    all_goals go_ret
    all_goals rw [HN.out]
    all_goals exact ⟨rfl, HS1.out.below⟩
  have HC := asiD hc
  have HLN := asiD hlens
  clear hc hlens hW1 hW2
  go_enter Try.func13, Try.ntmps13
  go_upto_region 1 with (fail)
  generalize w.alloc (.cells _ 27) = W1 at HS0 ⊢
  generalize w.heap.size = g at HS0 ⊢
  have z := fun i => HS0.out.cell i
  go_upto_region 9 with (go_at_call 30; refine (HWT.out _ HS0.out.below).mono ?_; rintro e w2 ⟨nw, rfl, hw, hb⟩; have HS1 := asiD (HS0.out.belowR hb); have z1 := fun i => HS1.out.cell i; have u1 : decide ((67108864 : Int) < (nw : Int)) = false := decide_eq_false (by omega); have u2 : decide (67108864 < nw) = false := decide_eq_false (by omega); clear hw hb)
  clear z z1 HS0 HWT u1 u2 f13 f13b
  refine rs9 y w _ g _ HS1 HC HMO ?_
  intro v u146 u147 u148 u149 u150 u151 u152 u153 u154 u155 u156 u157 u158 u159 u160 u161 u162 u163 u164 u165 u166 u167 u168 u169 u170 u171 u172 u173 u174 u175 u176 u177 u178 u179 u180 u181 u182 u183 u184 u185 u186 wc hcut
  clear HS1 HMO
  obtain ⟨t, rfl, ht, hs⟩ := hcut
  have HS1 := asiD hs
  clear hs
  cases t with
  | true =>
    have HN : Aside0 (b = false) := ⟨Bool.eq_false_iff.2 fun hbt => by
      have h := HPI.out.1 hbt
      exact absurd (ht.2 ⟨h.2.1, h.2.2.1, h.2.2.2.1, h.2.2.2.2.2.1⟩) (by simp)⟩
    clear ht
    go_wp2_with fail
    go_ret
    rw [HN.out]
    exact ⟨rfl, HS1.out.below⟩
  | false =>
  have H9 := asiD (ht.1 rfl)
  clear ht
  go_upto_region 11 with (fail)
  refine rs11 y w _ g _ HS1 ?_
  intro v u188 u189 u190 u191 u192 u193 u194 u195 u196 u197 u198 u199 u200 u201 u202 u203 u204 u205 u206 u207 u208 u209 u210 u211 u212 u213 u214 u215 u216 u217 wc hcut
  clear HS1
  obtain ⟨t, rfl, ht, hs⟩ := hcut
  have HS1 := asiD hs
  clear hs
  cases t with
  | true =>
    have HN : Aside0 (b = false) := ⟨Bool.eq_false_iff.2 fun hbt => by
      have h := HPI.out.1 hbt
      exact absurd (ht.2 ⟨h.2.2.2.2.2.2.1, h.2.2.2.2.2.2.2.1, h.2.2.2.2.2.2.2.2.1⟩) (by simp)⟩
    clear ht
    go_wp2_with fail
    go_ret
    rw [HN.out]
    exact ⟨rfl, HS1.out.below⟩
  | false =>
  have H11 := asiD (ht.1 rfl)
  clear ht
  go_upto_region 13 with (fail)
  refine rs13 y w _ g _ HS1 ?_
  intro v u219 u220 u221 u222 u223 u224 u225 u226 u227 u228 u229 u230 u231 u232 u233 u234 u235 u236 wc hcut
  clear HS1
  obtain ⟨t, rfl, ht, hs⟩ := hcut
  have HS3 := asiD hs
  have z := fun i => hs.cell i
  clear hs
  cases t with
  | true =>
    have HN : Aside0 (b = false) := ⟨Bool.eq_false_iff.2 fun hbt => by
      have h := HPI.out.1 hbt
      exact absurd (ht.2 h.2.2.2.2.1) (by simp)⟩
    clear ht
    go_wp2_with fail
    go_ret
    rw [HN.out]
    exact ⟨rfl, HS3.out.below⟩
  | false =>
  have HBF : Aside0 (b = true ↔ ∀ f ∈ y.f13, frameP f y) := ⟨HPI.out.trans ⟨fun h => h.2.2.2.2.2.2.2.2.2, fun h => ⟨HC.out, H9.out.1, H9.out.2.1, H9.out.2.2.1, ht.1 rfl, H9.out.2.2.2, H11.out.1, H11.out.2.1, H11.out.2.2, h⟩⟩⟩
  clear ht HPI H9 H11
  go_wp2_with fail
  have HS4 := HS3
  clear z HS3
  go_loopw [5] (fun i wr => ∃ k : Nat, k ≤ y.f13.length ∧ i = .int .i64 k ∧ (∀ f ∈ y.f13.take k, frameP f y) ∧ ∃ r, St w wr (Asrt.blk g 27 #[.bool false, .int .i64 y.f1, .int .i64 y.f2, .bool y.f3, .bool y.f4, .int .u32 y.f5, .int .i64 y.f6, .slice B1 y.f7.length d1, .slice B2 y.f8.length d2, .slice B3 y.f9.length d3, .bool y.f10, .bool y.f11, .bool y.f12, .slice B4 y.f13.length d4, .slice B5 y.f14.length d5] * r)) (fun i _ => y.f13.length - (intOf i).toNat)
  case atStart => exact ⟨0, Nat.zero_le _, rfl, fun f hf => by simp at hf, _, HS4.out⟩
  case round =>
    obtain ⟨k, hk, rfl, hpre, r, hs⟩ := hrel
    clear HS4
    have z := fun i => hs.cell i
    by_cases hlt : k < y.f13.length
    · have x1 : decide ((k : Int) < y.f13.length) = true := decide_eq_true (by omega)
      have x2 : decide (k < y.f13.length) = true := decide_eq_true hlt
      have x3 : (k < y.f13.length) = True := eq_true hlt
      have x4 : ((k : Int) < y.f13.length) = True := eq_true (by omega)
      have k16 : k ≤ 9223372036854775806 := by have := H4.out.2.1; omega
      have hin := getD_in z44 hlt
      have hcut2 := getD_cut z44 hlt
      obtain ⟨ad1, A8, c8, A9, c9, A10, c10, rfl, e0, e1, e2, e3, e4, e5, e6, e7, e8, e9, e10, n8, g8, n9, g9, n10, g10⟩ := at_T44 H4.out (k : Int) (by omega) (by omega)
      simp only [Int.toNat_natCast] at e0 e1 e2 e3 e4 e5 e6 e7 e8 e9 e10
      replace e0 := (cellL hs.below e0)
      replace e1 := (cellL hs.below e1)
      replace e2 := (cellL hs.below e2)
      replace e3 := (cellL hs.below e3)
      replace e4 := (cellL hs.below e4)
      replace e5 := (cellL hs.below e5)
      replace e6 := (cellL hs.below e6)
      replace e7 := (cellL hs.below e7)
      replace e8 := (cellL hs.below e8)
      replace e9 := (cellL hs.below e9)
      replace e10 := (cellL hs.below e10)
      rw [show y.f13.getD k z44 = rd_T44 y.f13 k from rfl] at hin hcut2
      generalize rd_T44 y.f13 k = x at *
      have hx := HO.out.fr.2 x hin
      have hx2 := hx.i2
      have hx3 := hx.i3
      have HKD := asiD fun (W : World) (hb : Below w.heap.size w W) => rkind_calls x _ W (k44.K_below hb (k44_mk w x n8 g8 n9 g9 n10 g10))
      have HMX := asiD fun (W : World) (hb : Below w.heap.size w W) => rmore_calls A10 c10 x.f10 W hx.mo (Kd.C_below g10 hb) n10
      have HPRE := asiD hpre
      have HIN := asiD hin
      have HC2 := asiD hcut2
      have HLT := asiD hlt
      have HAL := asiD (hs.alloc #[.int .i64 x.f0, .int .i64 x.f1, .int .i64 x.f2, .int .i64 x.f3, .int .i64 x.f4, .bool x.f5, .bool x.f6, .int .i64 x.f7, .slice A8 x.f8.length c8, .slice A9 x.f9.length c9, .slice A10 x.f10.length c10] 44)
      have HX2 := asiD hx2
      have HX3 := asiD hx3
      clear hs hin hcut2 hpre g8 g9 g10 n8 n9 n10 hx hk hlt hx2 hx3
      go_upto_region 19 with (fail)
      clear z e0 e1 e2 e3 e4 e5 e6 e7 e8 e9 e10
      generalize wr.alloc (.cells _ 44) = W2 at HAL ⊢
      generalize wr.heap.size = gf at HAL ⊢
      refine rs19 y x w _ g gf _ HAL HC HX2.out HX3.out HKD HMX ?_
      intro v u250 u251 u252 u253 u254 u255 u256 u257 u258 u259 u260 u261 u262 u263 u264 u265 u266 u267 u268 u269 u270 u271 u272 u273 u274 u275 u276 u277 u278 u279 u280 u281 u282 u283 u284 u285 u286 u287 u288 u289 u290 u291 u292 u293 u294 u295 u296 u297 u298 u299 u300 u301 u302 u303 u304 u305 u306 u307 u308 u309 u310 u311 u312 u313 u314 u315 u316 u317 u318 u319 u320 u321 u322 u323 u324 u325 u326 u327 u328 u329 u330 u331 u332 u333 wc hcut
      clear HAL HKD HMX
      obtain ⟨t, rfl, ht, hs⟩ := hcut
      have HS3 := asiD hs
      clear hs
      cases t with
      | true =>
        have HN : Aside0 (b = false) := ⟨Bool.eq_false_iff.2 fun hbt => absurd (ht.2 (frameP_iff.1 (HBF.out.1 hbt x HIN.out)).1) (by simp)⟩
        clear ht
        go_wp2_with fail
        go_ret
        rw [HN.out]
        exact ⟨rfl, HS3.out.below⟩
      | false =>
      have H19 := asiD (ht.1 rfl)
      clear ht
      go_upto_region 21 with (fail)
      refine rs21 y x w _ g gf _ HS3 ?_
      intro v u335 u336 u337 u338 u339 u340 u341 u342 u343 u344 u345 u346 u347 u348 u349 u350 u351 u352 u353 u354 u355 u356 u357 u358 u359 u360 u361 u362 u363 u364 u365 u366 u367 u368 u369 wc hcut
      clear HS3
      obtain ⟨t, rfl, ht, hs⟩ := hcut
      have HS3 := asiD hs
      clear hs
      cases t with
      | true =>
        have HN : Aside0 (b = false) := ⟨Bool.eq_false_iff.2 fun hbt => absurd (ht.2 (frameP_iff.1 (HBF.out.1 hbt x HIN.out)).2) (by simp)⟩
        clear ht
        go_wp2_with fail
        go_ret
        rw [HN.out]
        exact ⟨rfl, HS3.out.below⟩
      | false =>
      have HFX := asiD (frameP_iff.2 ⟨H19.out, ht.1 rfl⟩)
      clear ht
      go_wp2_with fail
      go_roundw
      case rel => exact ⟨k + 1, HLT.out, by go_num, fun f hf => by rw [HC2.out] at hf; rcases List.mem_append.1 hf with h | h; exact HPRE.out f h; rw [List.mem_singleton.1 h]; exact HFX.out, _, HS3.out.swap⟩
      case measure => have := HLT.out; simp [intOf]; omega
    · have x1 : decide ((k : Int) < y.f13.length) = false := decide_eq_false (by omega)
      have x2 : decide (k < y.f13.length) = false := decide_eq_false hlt
      have HN : Aside0 (b = true) := ⟨HBF.out.2 (by rw [show k = y.f13.length by omega, List.take_length] at hpre; exact hpre)⟩
      have HB := asiD hs.below
      clear hs hpre hk hlt
      go_wp2_with fail
      go_ret
      rw [HN.out]
      exact ⟨rfl, HB.out⟩
set_option maxHeartbeats 4000000 in
set_option maxRecDepth 100000 in
theorem refSoundL_calls (y : Dc) (ds : List Value) (w : World) (hy : k27.K w y ds) (hf : 4096 < y.f13.length) (b : Bool) (hb : b = true ↔ soundP y) :
    Calls Try.prog 13 #[.agg ds.toArray] w fun e w' => e = .returned (.bool b) ∧ Below w.heap.size w w' := by
  have hbf : b = false := Bool.eq_false_iff.2 fun h => by
    have := (hb.1 h).1.2
    omega
  subst hbf
  obtain ⟨B1, d1, B2, d2, B3, d3, B4, d4, B5, d5, rfl, m1, h1, m2, h2, m3, h3, m4, h4, m5, h5⟩ := k27_open hy
  have HS0 := asiD ((St.refl w).alloc #[.bool y.f0, .int .i64 y.f1, .int .i64 y.f2, .bool y.f3, .bool y.f4, .int .u32 y.f5, .int .i64 y.f6, .slice B1 y.f7.length d1, .slice B2 y.f8.length d2, .slice B3 y.f9.length d3, .bool y.f10, .bool y.f11, .bool y.f12, .slice B4 y.f13.length d4, .slice B5 y.f14.length d5] 27)
  have f13 : decide ((4096 : Int) < y.f13.length) = true := decide_eq_true (by omega)
  have f13b : decide (4096 < y.f13.length) = true := decide_eq_true hf
  clear hy h1 h2 h3 h4 h5 hb hf
  go_enter Try.func13, Try.ntmps13
  go_upto_region 1 with (fail)
  generalize w.alloc (.cells _ 27) = W1 at HS0 ⊢
  generalize w.heap.size = g at HS0 ⊢
  have z := fun i => HS0.out.cell i
  go_wp2_with fail
  go_ret
  exact ⟨rfl, HS0.out.below⟩
theorem refSoundG_calls (y : Dc) (ds : List Value) (w : World) (hy : k27.K w y ds) (ho : okDc y) (hn : smallN y < 4000000) (b : Bool) (hb : b = true ↔ soundP y) :
    Calls Try.prog 13 #[.agg ds.toArray] w fun e w' => e = .returned (.bool b) ∧ Below w.heap.size w w' := by
  by_cases hf : y.f13.length ≤ 4096
  · cases h0 : y.f0 with
    | true => exact refSoundP_calls y ds w hy ho hn hf h0 b hb
    | false => exact refSoundW_calls y ds w hy ho hn hf h0 b hb
  · exact refSoundL_calls y ds w hy (by omega) b hb
theorem refSound_calls (y : Dc) (ds : List Value) (w : World) (hy : k27.K w y ds) (ho : okDc y) (hn : smallN y < 20000) (b : Bool) (hb : b = true ↔ soundP y) :
    Calls Try.prog 13 #[.agg ds.toArray] w fun e w' => e = .returned (.bool b) ∧ Below w.heap.size w w' :=
  refSoundG_calls y ds w hy ho (by omega) b hb
end Go.Proofs.Ythkocpcjcpohcaa.P
end
