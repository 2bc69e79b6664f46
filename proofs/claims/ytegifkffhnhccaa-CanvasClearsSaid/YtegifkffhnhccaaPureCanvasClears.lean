/- A part that goes leaves nothing when the next one has come; till then it is there. -/
import Derived.Test.YtegifkffhnhccaaCanvasEv
import Derived.Test.YtegifkffhnhccaaClearsLaw
import Derived.Test.YtegifkffhnhccaaApp
namespace Go.Proofs.Ytegifkffhnhccaa.Pure
open Go Go.RowKit Go.Proofs.Ytegifkffhnhccaa.P Go.Proofs.YtegifkffhnhccaaW.PrintWords Go.Proofs.YtegifkffhnhccaaW.PrintLast Go.Proofs.YtegifkffhnhccaaW.PrintMore Go.Proofs.Ytegifkffhnhccaa.U
set_option linter.unusedVariables false
set_option linter.unusedSimpArgs false
attribute [local go_sem] max2_int min2_int max_two min_two max_three min_three max_four min_four
theorem same_loop {l : List Int} (hl : l.length ≤ 268435456) (d : Nat) : ∀ i : Nat, i + d = l.length → Ev (fun k => marquetryref11_Pixels.l0 k l l i) true := by
  induction d with
  | zero =>
    intro i hd
    refine Ev.succ ?_
    simp only [marquetryref11_Pixels.l0]
    exact Ev.ite_neg (by omega) (Ev.now _)
  | succ d ih =>
    intro i hd
    refine Ev.succ ?_
    simp only [marquetryref11_Pixels.l0]
    refine Ev.ite_pos (by omega) (Ev.ite_pos (by omega) (Ev.ite_pos (by omega) (Ev.ite_pos trivial ?_)))
    rw [w64 (by omega) (by omega)]
    exact ih (i + 1) (by omega)
theorem same_ev {a b : Int} {l : List Int} (hl : l.length ≤ 268435456) : Ev (fun k => marquetryref11_Same.f k a b l a b l) true := by
  unfold marquetryref11_Same.f marquetryref11_Pixels.f
  exact Ev.ite_pos rfl (Ev.ite_pos rfl (Ev.bind (Ev.ite_pos rfl (same_loop hl l.length 0 (Nat.zero_add _))) (Ev.now _)))
theorem ints_C {w : World} {k : IntKind} {A : Option Addr} {n : Nat} {xs : List Int} (h : ReadsInt w k A n xs) : Kd.C (Kd.int k) w A n xs := Kd.C_of_reads (readsInt_of.1 h)
set_option maxHeartbeats 4000000 in
set_option maxRecDepth 100000 in
theorem CanvasClears (a0 a1 : Int) (A : Option Addr) (c : Nat) (l : List Pt) (p q : Int) (w : World)
    (h1 : (Lit.int .u8 a0).wf = true) (h2 : (Lit.int .u8 a1).wf = true) (h3 : l.length ≤ maxLen) (h4 : l.length * 64 ≤ 140737488351232) (h5 : ∀ y ∈ l, q47 y) (h6 : (Lit.int .u32 p).wf = true) (h7 : (Lit.int .u32 q).wf = true)
    (g0 : Kd.C k47 w A l.length l) (l0 : l.length ≤ c) :
    Calls Try.prog 9 #[.int .u8 a0, .int .u8 a1, .slice A l.length c, .int .u32 p, .int .u32 q] w fun e w' => e = .returned (.bool true) ∧ Below w.heap.size w w' := by
  have hx8 := wf_u8 h1
  have hy8 := wf_u8 h2
  have hp : U32 p := wf_u32 h6
  have hq : U32 q := wf_u32 h7
  have hU := (part_known h5).1
  obtain ⟨X, hX⟩ : ∃ X, X = a0 % 20 := ⟨_, rfl⟩
  obtain ⟨Y, hY⟩ : ∃ Y, Y = a1 % 20 := ⟨_, rfl⟩
  have bX : 0 ≤ X ∧ X ≤ 19 := by omega
  have bY : 0 ≤ Y ∧ Y ≤ 19 := by omega
  obtain ⟨b, ⟨ks, hsm⟩, hb2⟩ := small_ev (W := X + 1) (H := Y + 1) h4 h5
  have hsm := hsm ks (Nat.le_refl _)
  have e5 : Int.tmod a0 20 = X := by rw [Int.tmod_eq_emod_of_nonneg hx8.1]; exact hX.symm
  have e6 : Int.tmod a1 20 = Y := by rw [Int.tmod_eq_emod_of_nonneg hy8.1]; exact hY.symm
  have e7 : wrap64 X = X := w64 (by omega) (by omega)
  have e8 : wrap64 Y = Y := w64 (by omega) (by omega)
  have e9 : wrap64 (X + 1) = X + 1 := w64 (by omega) (by omega)
  have e10 : wrap64 (Y + 1) = Y + 1 := w64 (by omega) (by omega)
  have f7 := i64_w X; rw [e7] at f7
  have f8 := i64_w Y; rw [e8] at f8
  have f9 := i64_w (X + 1); rw [e9] at f9
  have f10 := i64_w (Y + 1); rw [e10] at f10
  have G0 := Aside0.mk g0
  have L0 := Aside0.mk l0
  have HP := Aside0.mk hp
  have HQ := Aside0.mk hq
  have HU := Aside0.mk hU
  have BX := Aside0.mk bX
  have BY := Aside0.mk bY
  have HB2 := Aside0.mk hb2
  have HSM := Aside0.mk hsm
  clear h1 h2 h3 h5 h6 h7 hx8 hy8 hp hq hU hX hY bX bY g0 l0 hb2 hsm
  go_enter Try.func9, Try.ntmps9
  go_wp2_with fail
  refine (marquetrylaw27_small.calls ks (X + 1) (Y + 1) A c l b _ G0.out L0.out HSM.out).mono ?_; rintro e w1 ⟨rfl, ⟨nd, rfl⟩⟩
  cases b
  case false =>
    go_wp2_with fail
    refine (marquetrylaw27_answers.calls true _ rfl).mono ?_; rintro e w3 ⟨rfl, hb⟩
    have HB := Aside0.mk (below_then (pw_below_drewN (Below.refl w.heap.size w) nd) hb); clear hb
    go_wp2_with fail
    go_ret
    exact ⟨rfl, HB.out⟩
  have HS := Aside0.mk ((St.refl w).drewN nd)
  generalize w.drewN nd = v at *
  have hs1 := ((HS.out.alloc #[.int .u32 q] 22).alloc #[.int .i64 (X + 1), .int .i64 (Y + 1), .slice none 0 0] 31).alloc #[.int .i64 1, .int .i64 1, .slice (some ⟨v.heap.size, 0, none⟩) 1 1] 31
  rw [show ((v.alloc (.cells #[.int .u32 q] 22)).alloc (.cells #[.int .i64 (X + 1), .int .i64 (Y + 1), .slice none 0 0] 31)).heap.size = v.heap.size + 1 + 1 by simp, show (v.alloc (.cells #[.int .u32 q] 22)).heap.size = v.heap.size + 1 by simp] at hs1
  have HS1 := Aside0.mk (hs1.swap.rowNil 22 1)
  clear hs1 HS
  go_upto_region 5 with (fail)
  generalize ((v.alloc (.cells #[.int .u32 q] 22)).alloc (.cells #[.int .i64 (X + 1), .int .i64 (Y + 1), .slice none 0 0] 31)).alloc (.cells #[.int .i64 1, .int .i64 1, .slice (some ⟨v.heap.size, 0, none⟩) 1 1] 31) = v5 at *
  generalize v.heap.size + 1 + 1 = gn at *
  generalize v.heap.size + 1 = gm at *
  generalize v.heap.size = gq at *
  obtain ⟨N, hN, N1, N2⟩ : ∃ N : Nat, (N : Int) = (X + 1) * (Y + 1) ∧ 1 ≤ N ∧ N ≤ 400 := by
    have b1 := BX.out
    have b2 := BY.out
    have m1 := mul_bd (x := X + 1) (y := Y + 1) (X := 20) (Y := 20) (by omega) (by omega) (by omega) (by omega)
    have m2 := (mul_area (w := X + 1) (h := Y + 1) ⟨by omega, by omega⟩ ⟨by omega, by omega⟩).1
    exact ⟨((X + 1) * (Y + 1)).toNat, by omega, by omega, by omega⟩
  have n1 : wrap64 ((X + 1) * (Y + 1)) = N := by rw [← hN]; exact w64 (by omega) (by omega)
  have n2 := i64_w ((X + 1) * (Y + 1)); rw [n1] at n2
  have HN := Aside0.mk hN
  clear hN
  go_wp2_with fail
  go_loopw [15] (fun i wr => ∃ (n : Nat) (B : Option Addr) (cB : Nat), n ≤ N ∧ i = .int .i64 n ∧ St w wr (Asrt.row 22 1 (.slice B n cB) n (nums .u32 (List.replicate n p)) * (Asrt.blk gm 31 #[.int .i64 (X + 1), .int .i64 (Y + 1), .slice B n cB] * (Asrt.blk gn 31 #[.int .i64 1, .int .i64 1, .slice (some ⟨gq, 0, none⟩) 1 1] * (Asrt.blk gq 22 #[.int .u32 q] * Asrt.emp))))) (fun i _ => N - (intOf i).toNat)
  case atStart => exact ⟨0, none, 0, by omega, rfl, HS1.out⟩
  case round =>
    obtain ⟨n, B, cB, hn, rfl, hs⟩ := hrel
    clear HS1
    have m2 := (hs.swap.cell 2).trans rfl
    have HSN := Aside0.mk hs
    clear hs
    by_cases hlt : n < N
    · have y1 : decide ((n : Int) < N) = true := decide_eq_true (by omega)
      have y2 : (n + 1) * 4 ≤ 140737488355328 := by omega
      go_wp2_with (at_builtin; refine St.append_num (w0 := w) rfl (.tmp 50) (.tmp 52) 29 22 .u32 4 rfl Try.underlying29 (by kernel_rfl) (by decide) _ n (List.replicate n p) p rfl rfl HSN.out y2 ?_; intro A4 x4 w3 hs3; rw [← List.replicate_succ'] at hs3; have k2 := (hs3.swap.cell 2).trans rfl; have f2 := hs3.swap.frozen 2; have HS3 := Aside0.mk ((hs3.swap.set 2 (.slice A4 (n + 1) x4)).swap); clear hs3)
      go_roundw
      case rel => exact ⟨n + 1, A4, x4, by omega, by go_num, HS3.out⟩
      case measure => simp [intOf]; omega
    · have y1 : decide ((n : Int) < N) = false := decide_eq_false (by omega)
      obtain rfl : n = N := by omega
      go_upto_region 9 with (fail)
      have m0 := (HSN.out.swap.cell 0).trans rfl
      have m1 := (HSN.out.swap.cell 1).trans rfl
      have k0 := (HSN.out.rot3.cell 0).trans rfl
      have k1 := (HSN.out.rot3.cell 1).trans rfl
      have k2 := (HSN.out.rot3.cell 2).trans rfl
      have HBW := Aside0.mk HSN.out.below
      obtain ⟨xs, hkl, hrc⟩ := C_cells (Kd.C_below G0.out HSN.out.below) (show 0 < 7 by decide)
      have hrc2 : ReadsCells (wr.drew.alloc (.cells #[] 47)) 7 A l.length xs := hrc.below (below_alloc (below_drew1 (Below.refl _ _)) _)
      have HXS := Aside0.mk hkl
      have HRC := Aside0.mk hrc2
      have hrc0 := hrc
      clear hkl hrc hrc2
      have hbytes : (0 + l.length) * 64 ≤ 140737488355328 := by rw [Nat.zero_add]; exact Nat.le_trans h4 (by decide)
      have hbytes2 : (l.length + 2) * 64 ≤ 140737488355328 := by omega
      obtain ⟨lits, hlits⟩ : ∃ lits : List Value, lits = [.int .i64 0, .int .i64 0, .bool true, .bool true, .int .i64 (X + 1), .int .i64 (Y + 1), .slice B n cB, .int .i64 0, .int .i64 0, .bool true, .bool false, .int .i64 1, .int .i64 1, .slice (some ⟨gq, 0, none⟩) 1 1] := ⟨_, rfl⟩
      have HLL : Aside0 (lits.length = 2 * 7) := ⟨by rw [hlits]; rfl⟩
      have HLO : Aside0 (∀ u ∈ lits, u.oneCell' = true) := ⟨by rw [hlits]; simp [Value.oneCell']⟩
      have H0 := Aside0.mk ((St.refl wr).drew)
      have H1 := Aside0.mk (H0.out.allocCells 47 7 0 [] rfl (by decide))
      have h2 := (H1.out.allocCells 47 7 2 lits HLL.out (by decide)).swap
      have h3 := (H0.out.allocCells 47 7 2 lits HLL.out (by decide)).allocCells 47 7 0 [] rfl (by decide)
      rw [show (wr.drew.alloc (.cells ([] : List Value).toArray 47)).heap.size = wr.heap.size + 1 by simp] at h2
      rw [show (wr.drew.alloc (.cells lits.toArray 47)).heap.size = wr.heap.size + 1 by simp] at h3
      have HRC2 := Aside0.mk (HRC.out.below (below_alloc (Below.refl _ _) (.cells lits.toArray 47)))
      have hrc3 := (hrc0.below h3.below)
      have HRC3 := Aside0.mk hrc3
      rw [hlits] at h2 h3 HRC2 HRC3
      have H2 := Aside0.mk h2
      have H3 := Aside0.mk h3
      clear h2 h3 hrc0 hrc3
      have HLIT := Aside0.mk hlits
      clear hlits
      go_cut [16] from 55 to 63 (fun v16 wc => ∃ (A6 : Option Addr) (c6 : Nat) (R : Asrt), v16 = .slice A6 (l.length + 2) c6 ∧ St wr wc (Asrt.row 47 7 (.slice A6 (l.length + 2) c6) (l.length + 2) (xs ++ lits) * R))
      case first =>
        obtain ⟨hlits⟩ := HLIT
        subst hlits
        go_region_held3 (fun w' => w'.cell? ⟨gm, 0, none⟩ = some (.int .i64 (X + 1)) ∧ w'.cell? ⟨gm, 1, none⟩ = some (.int .i64 (Y + 1)) ∧ w'.cell? ⟨gm, 2, none⟩ = some (.slice B n cB) ∧ w'.cell? ⟨gn, 0, none⟩ = some (.int .i64 1) ∧ w'.cell? ⟨gn, 1, none⟩ = some (.int .i64 1) ∧ w'.cell? ⟨gn, 2, none⟩ = some (.slice (some ⟨gq, 0, none⟩) 1 1)) (go_keep) (first | (refine St.append_cells_step (w0 := wr) (by rfl) (.tmp 55) (.tmp 56) 27 47 (.agg #[.int .i64 0, .int .i64 0, .bool false, .bool false, .int .i64 0, .int .i64 0, .slice none 0 0]) 7 64 rfl Try.underlying27 (by kernel_rfl) rfl (by decide) (by decide) _ 0 [] xs A l.length c rfl rfl H1.out HRC.out hbytes ?_; intro A1 c1 w1 hs; rw [Nat.zero_add, List.nil_append] at hs; (try rw [Nat.zero_add]); have HS57 := Aside0.mk hs; have q0 := (hs.below.cell (World.block_lt_of_cell? wr _ m0)).trans m0; have q1 := (hs.below.cell (World.block_lt_of_cell? wr _ m1)).trans m1; have q2 := (hs.below.cell (World.block_lt_of_cell? wr _ m2)).trans m2; have q3 := (hs.below.cell (World.block_lt_of_cell? wr _ k0)).trans k0; have q4 := (hs.below.cell (World.block_lt_of_cell? wr _ k1)).trans k1; have q5 := (hs.below.cell (World.block_lt_of_cell? wr _ k2)).trans k2; clear hs) | (refine St.append_cells_step (w0 := wr) (by rfl) (.tmp 55) (.tmp 56) 27 47 (.agg #[.int .i64 0, .int .i64 0, .bool false, .bool false, .int .i64 0, .int .i64 0, .slice none 0 0]) 7 64 rfl Try.underlying27 (by kernel_rfl) rfl (by decide) (by decide) _ 0 [] xs A l.length c rfl rfl H2.out HRC2.out hbytes ?_; intro A1 c1 w1 hs; rw [Nat.zero_add, List.nil_append] at hs; (try rw [Nat.zero_add]); have HS57 := Aside0.mk hs; have q0 := (hs.below.cell (World.block_lt_of_cell? wr _ m0)).trans m0; have q1 := (hs.below.cell (World.block_lt_of_cell? wr _ m1)).trans m1; have q2 := (hs.below.cell (World.block_lt_of_cell? wr _ m2)).trans m2; have q3 := (hs.below.cell (World.block_lt_of_cell? wr _ k0)).trans k0; have q4 := (hs.below.cell (World.block_lt_of_cell? wr _ k1)).trans k1; have q5 := (hs.below.cell (World.block_lt_of_cell? wr _ k2)).trans k2; clear hs) | (refine St.append_cells_step (w0 := wr) (by rfl) (.tmp 55) (.tmp 56) 27 47 (.agg #[.int .i64 0, .int .i64 0, .bool false, .bool false, .int .i64 0, .int .i64 0, .slice none 0 0]) 7 64 rfl Try.underlying27 (by kernel_rfl) rfl (by decide) (by decide) _ 0 [] xs A l.length c rfl rfl H3.out HRC3.out hbytes ?_; intro A1 c1 w1 hs; rw [Nat.zero_add, List.nil_append] at hs; (try rw [Nat.zero_add]); have HS57 := Aside0.mk hs; have q0 := (hs.below.cell (World.block_lt_of_cell? wr _ m0)).trans m0; have q1 := (hs.below.cell (World.block_lt_of_cell? wr _ m1)).trans m1; have q2 := (hs.below.cell (World.block_lt_of_cell? wr _ m2)).trans m2; have q3 := (hs.below.cell (World.block_lt_of_cell? wr _ k0)).trans k0; have q4 := (hs.below.cell (World.block_lt_of_cell? wr _ k1)).trans k1; have q5 := (hs.below.cell (World.block_lt_of_cell? wr _ k2)).trans k2; clear hs) | (have H63 := Aside0.mk (HS57.out.allocCells 47 7 2 [.int .i64 0, .int .i64 0, .bool true, .bool true, .int .i64 (X + 1), .int .i64 (Y + 1), .slice B n cB, .int .i64 0, .int .i64 0, .bool true, .bool false, .int .i64 1, .int .i64 1, .slice (some ⟨gq, 0, none⟩) 1 1] HLL.out (by decide)).swap; refine St.append_cells_step (w0 := wr) (by rfl) (.tmp 57) (.tmp 62) 27 47 (.agg #[.int .i64 0, .int .i64 0, .bool false, .bool false, .int .i64 0, .int .i64 0, .slice none 0 0]) 7 64 rfl Try.underlying27 (by kernel_rfl) rfl (by decide) (by decide) _ l.length xs [.int .i64 0, .int .i64 0, .bool true, .bool true, .int .i64 (X + 1), .int .i64 (Y + 1), .slice B n cB, .int .i64 0, .int .i64 0, .bool true, .bool false, .int .i64 1, .int .i64 1, .slice (some ⟨gq, 0, none⟩) 1 1] (some ⟨_, 0, none⟩) 2 2 rfl rfl H63.out (rowReadsC H63.out.swap HLO.out) hbytes2 ?_; intro A6 c6 w6 hs; have HS63 := Aside0.mk hs; have q0 := (hs.below.cell (World.block_lt_of_cell? wr _ m0)).trans m0; have q1 := (hs.below.cell (World.block_lt_of_cell? wr _ m1)).trans m1; have q2 := (hs.below.cell (World.block_lt_of_cell? wr _ m2)).trans m2; have q3 := (hs.below.cell (World.block_lt_of_cell? wr _ k0)).trans k0; have q4 := (hs.below.cell (World.block_lt_of_cell? wr _ k1)).trans k1; have q5 := (hs.below.cell (World.block_lt_of_cell? wr _ k2)).trans k2; clear hs) | (refine St.append_cells_step (w0 := wr) (by rfl) (.tmp 57) (.tmp 62) 27 47 (.agg #[.int .i64 0, .int .i64 0, .bool false, .bool false, .int .i64 0, .int .i64 0, .slice none 0 0]) 7 64 rfl Try.underlying27 (by kernel_rfl) rfl (by decide) (by decide) _ l.length xs [.int .i64 0, .int .i64 0, .bool true, .bool true, .int .i64 (X + 1), .int .i64 (Y + 1), .slice B n cB, .int .i64 0, .int .i64 0, .bool true, .bool false, .int .i64 1, .int .i64 1, .slice (some ⟨gq, 0, none⟩) 1 1] (some ⟨_, 0, none⟩) 2 2 rfl rfl HS57.out (rowReadsC HS57.out.swap HLO.out) hbytes2 ?_; intro A6 c6 w6 hs; have HS63 := Aside0.mk hs; have q0 := (hs.below.cell (World.block_lt_of_cell? wr _ m0)).trans m0; have q1 := (hs.below.cell (World.block_lt_of_cell? wr _ m1)).trans m1; have q2 := (hs.below.cell (World.block_lt_of_cell? wr _ m2)).trans m2; have q3 := (hs.below.cell (World.block_lt_of_cell? wr _ k0)).trans k0; have q4 := (hs.below.cell (World.block_lt_of_cell? wr _ k1)).trans k1; have q5 := (hs.below.cell (World.block_lt_of_cell? wr _ k2)).trans k2; clear hs))
        all_goals (go_wp2_with fail; go_meet; case rel => exact ⟨_, _, _, rfl, HS63.out⟩)
      case rest =>
        obtain ⟨A6, c6, R6, rfl, hs6⟩ := hcut
        have hnn : ((X + 1) * (Y + 1)).toNat = n := by have := HN.out; omega
        have hB := own_le HSN.out.row
        have HCB := Aside0.mk (show Kd.C (Kd.int .u32) wr B n (List.replicate n p) from ints_C (rowReads HSN.out))
        have HQB := Aside0.mk (show Kd.C (Kd.int .u32) wr (some ⟨gq, 0, none⟩) 1 [q] from by
          refine C_one (cs := [.int .u32 q]) rfl rfl fun i u hi => ?_
          rw [show (⟨gq, 0, none⟩ : Addr).add i = ⟨gq, i, none⟩ by unfold Addr.add; split <;> simp_all]
          rw [HSN.out.rot4.cell i]
          simpa using hi)
        have hk2 : KL k47 wr [fullP (X + 1) (Y + 1) p, dotP q] lits := by
          rw [HLIT.out]
          have e1 : fullP (X + 1) (Y + 1) p = ⟨0, 0, true, true, ⟨X + 1, Y + 1, List.replicate n p⟩⟩ := by unfold fullP; rw [hnn]
          have g1 := k47_mk wr (⟨0, 0, true, true, ⟨X + 1, Y + 1, List.replicate n p⟩⟩ : Pt) (A6 := B) (c6 := cB) (by simpa using hB) (by simpa using HCB.out)
          have g2 := k47_mk wr (dotP q) (A6 := some ⟨gq, 0, none⟩) (c6 := 1) (Nat.le_refl 1) HQB.out
          simp only [List.length_replicate] at g1
          rw [e1]
          exact ⟨_, _, rfl, rfl, g1, _, [], rfl, rfl, g2, rfl⟩
        have hb6 := hs6.below
        have hkl := KL_below hb6 (KL_app HXS.out hk2)
        have hC := C_of_KL (d := k47) (l := allP l (X + 1) (Y + 1) p q) hkl allP_len (by omega) (rowReadsC hs6 (KL_one hkl))
        have hm := (own_le hs6.row)
        have HC := Aside0.mk hC
        have HM := Aside0.mk hm
        have HB6 := Aside0.mk hb6
        have e11 : wrap64 ((l.length : Int) + 1) = (l.length : Int) + 1 := w64 (by omega) (by omega)
        have f11 := i64_w ((l.length : Int) + 1); rw [e11] at f11
        have m0' := (hb6.cell (World.block_lt_of_cell? wr _ m0)).trans m0
        have m1' := (hb6.cell (World.block_lt_of_cell? wr _ m1)).trans m1
        have m2' := (hb6.cell (World.block_lt_of_cell? wr _ m2)).trans m2
        have hcb := Kd.C_below HCB.out hb6
        have HCB6 := Aside0.mk hcb
        have HBB := Aside0.mk hB
        have hw6 := below_then HBW.out hb6
        have HW6 := Aside0.mk hw6
        clear hk2 hkl hC hm hcb hB hb6 hs6 hw6 k0 k1 k2 m0 m1 m2 H0 H1 H2 H3 HRC HRC2 HRC3 HLL HLO HLIT HXS
        have bx := BX.out
        have by' := BY.out
        by_cases hin : allIn (X + 1) (Y + 1) l l.length
        case neg =>
          obtain ⟨r1, r2⟩ := clears_no (p := p) (q := q) (⟨by omega, by omega⟩ : 1 ≤ X + 1 ∧ X + 1 ≤ 20) (⟨by omega, by omega⟩ : 1 ≤ Y + 1 ∧ Y + 1 ≤ 20) HU.out HP.out HQ.out hin
          have c1 := renderF_calls (X + 1) (Y + 1) A6 c6 (allP l (X + 1) (Y + 1) p q) l.length 0 0 [] 1 wc (by rw [allP_len]; exact HC.out) (by rw [allP_len]; exact HM.out) r1
          rw [allP_len] at c1
          have C1 := Aside0.mk c1
          clear c1 bx by'
          go_wp2_with fail
          refine C1.out.mono ?_; rintro e w7 ⟨v7, rfl, ho, hb⟩
          obtain ⟨B7, c7, rfl⟩ := Kd.R_slice ho
          have hb7 := below_alloc hb (.cells #[.int .i64 0, .int .i64 0, .slice B7 ([] : List Int).length c7] 31)
          have hC7 := Kd.C_below HC.out hb7
          have c2 := renderF_calls (X + 1) (Y + 1) A6 c6 (allP l (X + 1) (Y + 1) p q) ((l.length : Int) + 1) 0 0 [] 1 _ (by rw [allP_len]; exact hC7) (by rw [allP_len]; exact HM.out) r2
          rw [allP_len] at c2
          have C2 := Aside0.mk c2
          have HW7 := Aside0.mk (below_then HW6.out hb7)
          clear c2 hb hb7 hC7 ho r1 r2
          go_wp2_with fail
          refine C2.out.mono ?_; rintro e w8 ⟨v8, rfl, ho, hb⟩
          obtain ⟨B8, c8, rfl⟩ := Kd.R_slice ho
          have hb8 := below_then HW7.out hb
          have HW8 := Aside0.mk (below_alloc hb8 (.cells #[.int .i64 0, .int .i64 0, .slice B8 ([] : List Int).length c8] 31))
          clear hb hb8 ho
          go_wp2_with fail
          refine (marquetrylaw27_answers.calls true _ rfl).mono ?_; rintro e w9 ⟨rfl, hb⟩
          have HW9 := Aside0.mk (below_then HW8.out hb); clear hb
          go_wp2_with fail
          go_ret
          exact ⟨rfl, HW9.out⟩
        obtain ⟨pb, r1, r2, hpl, hp0, hpz⟩ := clears_ok (p := p) (q := q) (⟨by omega, by omega⟩ : 1 ≤ X + 1 ∧ X + 1 ≤ 20) (⟨by omega, by omega⟩ : 1 ≤ Y + 1 ∧ Y + 1 ≤ 20) HU.out HP.out HQ.out hin
        rw [hnn] at r1
        have hpn : pb.length = n := by have := HN.out; omega
        have c1 := renderF_calls (X + 1) (Y + 1) A6 c6 (allP l (X + 1) (Y + 1) p q) l.length _ _ _ _ wc (by rw [allP_len]; exact HC.out) (by rw [allP_len]; exact HM.out) r1
        rw [allP_len] at c1
        have C1 := Aside0.mk c1
        obtain ⟨ks2, hsame⟩ := same_ev (a := X + 1) (b := Y + 1) (l := List.replicate n p) (by rw [List.length_replicate]; omega)
        have HSAME := Aside0.mk (hsame ks2 (Nat.le_refl _))
        have HPZ := Aside0.mk hpz
        have HP0 := Aside0.mk hp0
        clear c1 bx by' hsame hpz hp0 hpl hin
        go_wp2_with fail
        refine C1.out.mono ?_; rintro e w7 ⟨v7, rfl, ho, hb⟩
        obtain ⟨B7, c7, rfl⟩ := Kd.R_slice ho
        have hown7 := Kd.own_of_R ho
        simp only [List.length_replicate] at hown7
        have h7 := ((St.refl wc).newRow hb hown7 (Nat.le_refl _)).alloc #[.int .i64 (X + 1), .int .i64 (Y + 1), .slice B7 n c7] 31
        clear hown7
        have HS7 := Aside0.mk h7
        have hC7 := Kd.C_below HC.out h7.below
        have c2 := renderF_calls (X + 1) (Y + 1) A6 c6 (allP l (X + 1) (Y + 1) p q) ((l.length : Int) + 1) _ _ _ _ _ (by rw [allP_len]; exact hC7) (by rw [allP_len]; exact HM.out) r2
        rw [allP_len] at c2
        have C2 := Aside0.mk c2
        clear c2 hb hC7 ho r1 r2 h7 C1
        go_wp2_with fail
        refine C2.out.mono ?_; rintro e w8 ⟨v8, rfl, ho, hb⟩
        obtain ⟨B8, c8, rfl⟩ := Kd.R_slice ho
        have hown8 := Kd.own_of_R ho
        rw [hpn] at hown8
        have h8 := (HS7.out.newRow hb hown8 (Nat.le_refl _)).alloc #[.int .i64 (X + 1), .int .i64 (Y + 1), .slice B8 n c8] 31
        have ia0 := (h8.rot3.cell 0).trans rfl
        have ia1 := (h8.rot3.cell 1).trans rfl
        have ia2 := (h8.rot3.cell 2).trans rfl
        have ib2 := (h8.cell 2).trans rfl
        have n0 := (h8.below.cell (World.block_lt_of_cell? wc _ m0')).trans m0'
        have n1 := (h8.below.cell (World.block_lt_of_cell? wc _ m1')).trans m1'
        have n2 := (h8.below.cell (World.block_lt_of_cell? wc _ m2')).trans m2'
        have hca := rowReads h8.rot4
        have hl7 := own_le h8.rot4.row
        have SAME := Aside0.mk (marquetryref11_Same.calls ks2 (X + 1) (Y + 1) B7 c7 (List.replicate n p) (X + 1) (Y + 1) B cB (List.replicate n p) true _ (by rw [List.length_replicate]; exact ints_C hca) (by rw [List.length_replicate]; exact hl7) (by rw [List.length_replicate]; exact Kd.C_below HCB6.out h8.below) (by rw [List.length_replicate]; exact HBB.out) HSAME.out)
        have HS8 := Aside0.mk h8
        clear hb ho h8 hca hl7 HS7 C2
        rw [List.length_replicate] at SAME
        have sb : ∀ z : Nat, (List.replicate z p).length = z := fun z => List.length_replicate
        go_wp2_with fail
        refine SAME.out.mono ?_; rintro e w9 ⟨rfl, hb⟩
        have h9 := HS8.out.belowR hb
        obtain ⟨g8, rfl⟩ := h9.swap.rowForm (by omega)
        have jb2 := (h9.cell 2).trans rfl
        have j0 := (h9.swap.rowAt 0 (by decide) (by omega)).1
        rw [HP0.out] at j0
        have HS9 := Aside0.mk h9
        have qq : (q != q) = false := by simp
        have nn : ((n : Int) != (n : Int)) = false := by simp
        have np : decide ((0 : Int) < n) = true := decide_eq_true (by omega)
        have np2 : (0 < n) = True := eq_true (by omega)
        have np3 : ((0 : Int) < n) = True := eq_true (by omega)
        clear hb h9 ia0 ia1 ia2 ib2 n0 n1 n2 SAME HS8 m0' m1' m2'
        simp only [Int.toNat_zero] at j0
        go_wp2_with fail
        go_loopw [21] (fun i wr => ∃ j : Nat, 1 ≤ j ∧ j ≤ n ∧ i = .int .i64 j ∧ St wc wr (Asrt.blk w8.heap.size 31 #[.int .i64 (X + 1), .int .i64 (Y + 1), .slice (some ⟨g8, 0, none⟩) n c8] * (Asrt.row 22 1 (.slice (some ⟨g8, 0, none⟩) n c8) n (nums .u32 pb) * (Asrt.blk w7.heap.size 31 #[.int .i64 (X + 1), .int .i64 (Y + 1), .slice B7 n c7] * (Asrt.row 22 1 (.slice B7 n c7) n (nums .u32 (List.replicate n p)) * Asrt.emp))))) (fun i _ => n - (intOf i).toNat)
        case atStart => exact ⟨1, by omega, N1, rfl, HS9.out⟩
        case round =>
          obtain ⟨j, hj1, hj2, rfl, hs⟩ := hrel
          clear jb2 j0
          have jb2 := (hs.cell 2).trans rfl
          by_cases hlt : j < n
          · have y1 : decide ((j : Int) < n) = true := decide_eq_true (by omega)
            have jc := (hs.swap.rowAt (j : Int) (by omega) (by omega)).1
            rw [HPZ.out j hj1 (by rw [hpn]; exact hlt)] at jc
            simp only [Int.toNat_natCast] at jc
            have HSJ := Aside0.mk hs
            clear hs HS9
            go_wp2_with fail
            go_roundw
            case rel => exact ⟨j + 1, by omega, hlt, by go_num, HSJ.out⟩
            case measure => simp [intOf]; omega
          · have y1 : decide ((j : Int) < n) = false := decide_eq_false (by omega)
            obtain rfl : j = n := by omega
            have HSJ := Aside0.mk hs
            clear hs HS9
            go_wp2_with fail
            refine (marquetrylaw27_answers.calls true _ rfl).mono ?_; rintro e w10 ⟨rfl, hb⟩
            have HB := Aside0.mk (below_then HW6.out (HSJ.out.belowR hb).below); clear hb
            go_wp2_with fail
            go_ret
            exact ⟨rfl, HB.out⟩
end Go.Proofs.Ytegifkffhnhccaa.Pure
