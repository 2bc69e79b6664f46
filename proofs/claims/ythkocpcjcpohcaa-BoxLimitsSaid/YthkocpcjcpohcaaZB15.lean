/- The part of our texts, and of the print's, that these laws' proofs use. -/
import Derived.Test.YthkocpcjcpohcaaZB14
section
namespace Go.Proofs.Ythkocpcjcpohcaa.Pure
open Go Go.RowKit Go.Proofs.Ythkocpcjcpohcaa.P Go.Proofs.YthkocpcjcpohcaaW.PrintWords Go.Proofs.YthkocpcjcpohcaaW.PrintLast Go.Proofs.YthkocpcjcpohcaaW.PrintMore Go.Proofs.Ythkocpcjcpohcaa.U
set_option linter.unusedVariables false
set_option linter.unusedSimpArgs false
attribute [local go_sem] max2_int min2_int max_two min_two max_three min_three max_four min_four
def frL : Fr := ⟨0, 0, 1, 1, 0, false, false, 1, [], [], []⟩
def limD (m : Nat) : Dc := ⟨false, 4, 4, false, true, 0, 0, [], [], [], false, false, false, List.replicate m frL, []⟩
theorem lim_sum (m : Nat) : sumW wFr (List.replicate m frL) = 32 * m := by
  induction m with
  | zero => rfl
  | succ m ih =>
    rw [List.replicate_succ, sumW, ih]
    show ((0 : Nat) : Int) + ((0 : Nat) : Int) + 32 + 32 * (m : Int) = 32 * ((m + 1 : Nat) : Int)
    omega
theorem lim_flat (m : Nat) : (List.replicate m frL).flatMap (·.f10) = [] := by
  induction m with
  | zero => rfl
  | succ m ih => rw [List.replicate_succ, List.flatMap_cons, ih]; rfl
theorem lim_sumN (m : Nat) : sumN frN (List.replicate m frL) = 0 := by
  induction m with
  | zero => rfl
  | succ m ih =>
    rw [List.replicate_succ, sumN, ih]
    rfl
theorem lim_mem {m : Nat} {f : Fr} (h : f ∈ List.replicate m frL) : f = frL := List.eq_of_mem_replicate h
theorem lim_sound {m : Nat} (hm : m < 20) : soundP (limD m) := by
  refine ⟨⟨?_, ?_⟩, ?_⟩
  · unfold weightI allCh
    show ((0 : Nat) : Int) + ((0 : Nat) : Int) + ((0 : Nat) : Int) + sumW wFr (List.replicate m frL) + sumW wCh ([] ++ (List.replicate m frL).flatMap (·.f10)) ≤ _
    rw [lim_sum, lim_flat]
    simp only [List.append_nil, sumW]
    omega
  · show ((List.replicate m frL).length : Int) ≤ 4096
    rw [List.length_replicate]
    omega
  · rw [if_neg (show ¬ (limD m).f0 = true from Bool.false_ne_true)]
    refine ⟨(by decide : ((1 : Int) ≤ 4 ∧ (4 : Int) ≤ 16777216) ∧ (1 : Int) ≤ 4 ∧ (4 : Int) ≤ 16777216), (by decide : (4 : Int) * 4 < 4294967296), (by decide : (0 : Int) ≤ 0), (by decide : (0 : Int) < 65536), fun h => absurd h (show ¬ true = false by decide), rfl, .inr rfl, .inr rfl, .inr rfl, fun f hf => ?_⟩
    rw [lim_mem hf]
    exact ⟨(by decide : ((0 : Int) ≤ 0 ∧ (0 : Int) ≤ 0 ∧ (1 : Int) ≤ 1 ∧ (1 : Int) ≤ 1 ∧ (0 : Int) ≤ 4 - 1 ∧ (0 : Int) ≤ 4 - 1) ∧ (0 : Int) % 2 = 0 ∧ (0 : Int) % 2 = 0), rfl, (by decide : (0 : Int) ≤ 0), (by decide : (0 : Int) < 16777216), rfl⟩
theorem lim_ok {m : Nat} (hm : m < 20) : okDc (limD m) := by
  have z : i64r 0 := ⟨by decide, by decide⟩
  have o : i64r 1 := ⟨by decide, by decide⟩
  have nl : datL [] := ⟨(fun b hb => absurd hb (by simp)), by decide⟩
  have nc : chsL [] := ⟨by decide, (fun b hb => absurd hb (by simp))⟩
  have o4 : i64r 4 := ⟨by decide, by decide⟩
  refine ⟨o4, o4, (by decide : (0 : Int) ≤ 0 ∧ (0 : Int) ≤ 4294967295), z, nl, nl, nl, ⟨?_, fun f hf => ?_⟩, nc⟩
  · show (List.replicate m frL).length * 128 ≤ _
    rw [List.length_replicate]
    omega
  · rw [lim_mem hf]
    exact ⟨z, z, o, o, z, o, nl, nl, nc⟩
theorem lim_small {m : Nat} (hm : m < 20) : smallN (limD m) < 20000 := by
  show 0 + 0 + 0 + 20 * (List.replicate m frL).length + 20 * 0 + 0 + sumN frN (List.replicate m frL) < 20000
  rw [lim_sumN, List.length_replicate]
  omega
def FLs : List Value := [.int .i64 0, .int .i64 0, .int .i64 1, .int .i64 1, .int .i64 0, .bool false, .bool false, .int .i64 1, .slice none 0 0, .slice none 0 0, .slice none 0 0]
theorem FL_K (W : World) : KL k44 W [frL] [.int .i64 0, .int .i64 0, .int .i64 1, .int .i64 1, .int .i64 0, .bool false, .bool false, .int .i64 1, .slice none 0 0, .slice none 0 0, .slice none 0 0] :=
  KL_fr1 (k44_mk W frL (A8 := none) (c8 := 0) (Nat.le_refl 0) (Kd.C_nil _ _) (A9 := none) (c9 := 0) (Nat.le_refl 0) (Kd.C_nil _ _) (A10 := none) (c10 := 0) (Nat.le_refl 0) (Kd.C_nil _ _))
set_option maxHeartbeats 8000000 in
set_option maxRecDepth 100000 in
theorem BoxLimits (n most : Int) (w : World) (h0 : (Lit.int .u8 n).wf = true) (h1 : (Lit.int .u8 most).wf = true) :
    Calls Try.prog 8 #[.int .u8 n, .int .u8 most] w fun e w' => e = .returned (.bool true) ∧ Below w.heap.size w w' := by
  have hn := wf_u8 h0
  have hm := wf_u8 h1
  obtain ⟨M, hM⟩ : ∃ M : Nat, n.tmod 20 = (M : Int) := ⟨(n.tmod 20).toNat, by rw [Int.tmod_eq_emod_of_nonneg hn.1]; omega⟩
  obtain ⟨K, hK⟩ : ∃ K : Nat, most.tmod 20 = (K : Int) := ⟨(most.tmod 20).toNat, by rw [Int.tmod_eq_emod_of_nonneg hm.1]; omega⟩
  have hM20 : M < 20 := by rw [Int.tmod_eq_emod_of_nonneg hn.1] at hM; omega
  have hK20 : K < 20 := by rw [Int.tmod_eq_emod_of_nonneg hm.1] at hK; omega
  have hs' := lim_sound hM20
  have ho := lim_ok hM20
  have hsm := lim_small hM20
  have HS0 := Aside0.mk (((St.refl w).alloc #[.bool false, .int .i64 4, .int .i64 4, .bool false, .bool true, .int .u32 0, .int .i64 0, .slice none 0 0, .slice none 0 0, .slice none 0 0, .bool false, .bool false, .bool false, .slice none 0 0, .slice none 0 0] 27).rowNil 44 11).swap
  have HA := Aside0.mk fun (W : World) => answers_calls W
  clear h0 h1
  go_enter Try.func8, Try.ntmps8
  go_upto_region 2 with (fail)
  generalize w.alloc (.cells _ 27) = W1 at HS0 ⊢
  generalize w.heap.size = gd at HS0 ⊢
  go_wp2_with fail
  go_loopw [6] (fun i wr => ∃ (k : Nat) (B : Option Addr) (c : Nat) (xs : List Value), k ≤ M ∧ i = .int .i64 k ∧ (∀ W, KL k44 W (List.replicate k frL) xs) ∧
    St w wr (Asrt.blk gd 27 #[.bool false, .int .i64 4, .int .i64 4, .bool false, .bool true, .int .u32 0, .int .i64 0, .slice none 0 0, .slice none 0 0, .slice none 0 0, .bool false, .bool false, .bool false, .slice B k c, .slice none 0 0] * (Asrt.row 44 11 (.slice B k c) k xs * Asrt.emp))) (fun i _ => M - (intOf i).toNat)
  case atStart => exact ⟨0, none, 0, [], Nat.zero_le _, rfl, fun _ => rfl, HS0.out⟩
  case round =>
    obtain ⟨k, B, c, xs, hk, rfl, hkl, hs⟩ := hrel
    clear HS0
    by_cases hlt : k < M
    · have y1 : decide ((k : Int) < (M : Int)) = true := decide_eq_true (by omega)
      have y2 : decide (k < M) = true := decide_eq_true hlt
      have y3 : (k < M) = True := eq_true hlt
      have y4 : ((k : Int) < (M : Int)) = True := eq_true (by omega)
      have k16 : k ≤ 9223372036854775806 := by omega
      have hcap : (k + 1) * 128 ≤ 140737488355328 := by omega
      have HCAP := Aside0.mk hcap
      have m13 := (hs.cell 13).trans (show _ = some (Value.slice B k c) from rfl)
      have HSW := Aside0.mk hs.swap
      have HKL := Aside0.mk hkl
      have HLT := Aside0.mk hlt
      clear hs hkl hk hlt hcap
      go_upto_region 5 with (fail)
      have HSL := Aside0.mk ((HSW.out.allocCells 44 11 1 [.int .i64 0, .int .i64 0, .int .i64 1, .int .i64 1, .int .i64 0, .bool false, .bool false, .int .i64 1, .slice none 0 0, .slice none 0 0, .slice none 0 0] rfl (by decide)).swap)
      go_wp2_with (at_builtin; refine St.append_cells (w0 := w) rfl (.tmp 20) (.tmp 22) 24 44 (.agg #[.int .i64 0, .int .i64 0, .int .i64 0, .int .i64 0, .int .i64 0, .bool false, .bool false, .int .i64 0, .slice none 0 0, .slice none 0 0, .slice none 0 0]) 11 128 rfl Try.underlying24 (by kernel_rfl) rfl (by decide) (by decide) _ k xs [.int .i64 0, .int .i64 0, .int .i64 1, .int .i64 1, .int .i64 0, .bool false, .bool false, .int .i64 1, .slice none 0 0, .slice none 0 0, .slice none 0 0] (some ⟨_, 0, none⟩) 1 1 rfl rfl HSL.out (rowReadsC HSL.out.swap (by simp [Value.oneCell'])) HCAP.out ?_; intro B1 cB1 w5 hs; have hs2 := hs.swap.drop.swap; have p0 := (hs2.cell 13).trans (show _ = some (Value.slice B k c) from rfl); have q0 := hs2.frozen 13; have HSP := Aside0.mk hs2; clear hs hs2)
      go_roundw
      case rel => exact ⟨k + 1, B1, cB1, xs ++ FLs, HLT.out, by go_num, fun W => by rw [List.replicate_succ']; exact KL_app (HKL.out W) (FL_K W), HSP.out.set 13 (.slice B1 (k + 1) cB1)⟩
      case measure => have := HLT.out; simp [intOf]; omega
    · have y1 : decide ((k : Int) < (M : Int)) = false := decide_eq_false (by omega)
      have y2 : decide (k < M) = false := decide_eq_false hlt
      obtain rfl : k = M := by omega
      have e : (limD k).f13.length = k := List.length_replicate
      have hK : k27.K wr (limD k) [.bool false, .int .i64 4, .int .i64 4, .bool false, .bool true, .int .u32 0, .int .i64 0, .slice none 0 0, .slice none 0 0, .slice none 0 0, .bool false, .bool false, .bool false, .slice B k c, .slice none 0 0] := by
        have h := k27_mk wr (limD k) (A7 := none) (c7 := 0) (Nat.le_refl 0) (Kd.C_nil _ _) (A8 := none) (c8 := 0) (Nat.le_refl 0) (Kd.C_nil _ _) (A9 := none) (c9 := 0) (Nat.le_refl 0) (Kd.C_nil _ _) (A13 := B) (c13 := c) (by rw [e]; exact own_le hs.swap.row) (C_of_KL (hkl wr) rfl (by rw [e]; omega) (by rw [e]; exact rowReadsC hs.swap (KL_one (hkl wr)))) (A14 := none) (c14 := 0) (Nat.le_refl 0) (Kd.C_nil _ _)
        rw [e] at h
        exact h
      have hb := parse_back hs' ho hsm (K : Int)
      rw [e] at hb
      have hp : (K < k ∧ parseV (file (chunksV (limD k))) (K : Int) = (z27, 4)) ∨ (¬ K < k ∧ parseV (file (chunksV (limD k))) (K : Int) = (limD k, 0)) := by
        by_cases h : K < k
        · exact .inl ⟨h, hb.2 (by omega) (fun h0 => by have := e; rw [h0] at this; simp at this; omega)⟩
        · exact .inr ⟨h, hb.1 (.inl (by omega))⟩
      have hz := file_sz hs' hsm
      have hBf := file_bytes fun x hx => (chunks_mem hs' ho x hx).2
      have HPR := Aside0.mk (PrintS_calls (limD k) _ wr hK ho hsm true (by simp [hs']) : Calls Try.prog 11 #[.agg #[.bool false, .int .i64 4, .int .i64 4, .bool false, .bool true, .int .u32 0, .int .i64 0, .slice none 0 0, .slice none 0 0, .slice none 0 0, .bool false, .bool false, .bool false, .slice B k c, .slice none 0 0]] wr fun e w' => ∃ v : Value, e = .returned (.tuple #[v, .int .i64 0]) ∧ Kd.R (Kd.int .u8) 5 w' wr.heap.size (fun _ => True) v (file (chunksV (limD k))) ∧ Below wr.heap.size wr w')
      have HPA := Aside0.mk fun (A : Option Addr) (c : Nat) (W : World) (h : (Kd.int .u8).C W A (file (chunksV (limD k))).length (file (chunksV (limD k)))) (hc : (file (chunksV (limD k))).length ≤ c) => Parse_calls A c (file (chunksV (limD k))) (K : Int) W h hc hBf (by omega)
      have HB := Aside0.mk hs.below
      have z := fun i => hs.cell i
      clear hs hkl hK hb hz hBf hk ho hsm hs' hn hm
      have hu1 : IntKind.i64.wrap (K : Int) = (K : Int) := wi64 (by omega) (by omega)
      have hu2 : IntKind.i64.wrap (k : Int) = (k : Int) := wi64 (by omega) (by omega)
      rcases hp with ⟨hlt2, hp⟩ | ⟨hlt2, hp⟩
      · rw [hp] at HPA
        have x1 : decide ((K : Int) < (k : Int)) = true := decide_eq_true (by omega)
        have x2 : decide (K < k) = true := decide_eq_true hlt2
        have HY2 : Aside0 (z27.f13.length = 0) := ⟨rfl⟩
        obtain ⟨y2, hy2⟩ : ∃ y2, z27 = y2 := ⟨_, rfl⟩
        dsimp only at HPA
        rw [hy2] at HPA HY2
        clear hp hy2 hlt hlt2 e
        go_upto_region 7 with (go_at_call 11; refine HPR.out.mono ?_; rintro e w4 ⟨v, rfl, hr, hb⟩; obtain ⟨B4, c4, rfl, hc4, hC⟩ := Kd.R_reads hr; have HX := Aside0.mk (HPA.out B4 c4 w4 hC hc4); have HB4 := Aside0.mk (bthen HB.out hb); clear hr hb hC hc4)
        clear z
        go_upto_region 8 with (go_at_call 14; refine HX.out.mono ?_; rintro e w5 ⟨ds, rfl, hk, hb⟩; obtain ⟨C7, k7, C8, k8, C9, k9, C13, k13, C14, k14, rfl, j1, j2, j3, j4, j5, j6, j7, j8, j9, j10⟩ := k27_open hk; clear j1 j2 j3 j4 j5 j6 j7 j8 j9 j10; have HS5 := Aside0.mk (((St.refl w).belowR (bthen HB4.out hb)).alloc #[.bool y2.f0, .int .i64 y2.f1, .int .i64 y2.f2, .bool y2.f3, .bool y2.f4, .int .u32 y2.f5, .int .i64 y2.f6, .slice C7 y2.f7.length k7, .slice C8 y2.f8.length k8, .slice C9 y2.f9.length k9, .bool y2.f10, .bool y2.f11, .bool y2.f12, .slice C13 y2.f13.length k13, .slice C14 y2.f14.length k14] 27); clear hk hb)
        go_wp2_with (go_at_call 10; refine (HA.out _).mono ?_; rintro e w8 ⟨rfl, hb⟩; have hs8 := HS5.out.belowR hb; have m13 := (hs8.cell 13).trans (show _ = some (Value.slice C13 y2.f13.length k13) from rfl); rw [HY2.out] at m13; have HB8 := Aside0.mk hs8.below; clear hb hs8)
        all_goals go_ret
        all_goals exact ⟨rfl, HB8.out⟩
      · rw [hp] at HPA
        have x1 : decide ((K : Int) < (k : Int)) = false := decide_eq_false (by omega)
        have x2 : decide (K < k) = false := decide_eq_false hlt2
        have HY2 := Aside0.mk e
        obtain ⟨y2, hy2⟩ : ∃ y2, limD k = y2 := ⟨_, rfl⟩
        dsimp only at HPA
        rw [hy2] at HPA HY2 HPR
        clear hp hy2 hlt hlt2 e
        go_upto_region 7 with (go_at_call 11; refine HPR.out.mono ?_; rintro e w4 ⟨v, rfl, hr, hb⟩; obtain ⟨B4, c4, rfl, hc4, hC⟩ := Kd.R_reads hr; have HX := Aside0.mk (HPA.out B4 c4 w4 hC hc4); have HB4 := Aside0.mk (bthen HB.out hb); clear hr hb hC hc4)
        clear z
        go_upto_region 8 with (go_at_call 14; refine HX.out.mono ?_; rintro e w5 ⟨ds, rfl, hk, hb⟩; obtain ⟨C7, k7, C8, k8, C9, k9, C13, k13, C14, k14, rfl, j1, j2, j3, j4, j5, j6, j7, j8, j9, j10⟩ := k27_open hk; clear j1 j2 j3 j4 j5 j6 j7 j8 j9 j10; have HS5 := Aside0.mk (((St.refl w).belowR (bthen HB4.out hb)).alloc #[.bool y2.f0, .int .i64 y2.f1, .int .i64 y2.f2, .bool y2.f3, .bool y2.f4, .int .u32 y2.f5, .int .i64 y2.f6, .slice C7 y2.f7.length k7, .slice C8 y2.f8.length k8, .slice C9 y2.f9.length k9, .bool y2.f10, .bool y2.f11, .bool y2.f12, .slice C13 y2.f13.length k13, .slice C14 y2.f14.length k14] 27); clear hk hb)
        go_wp2_with (go_at_call 10; refine (HA.out _).mono ?_; rintro e w8 ⟨rfl, hb⟩; have hs8 := HS5.out.belowR hb; have m13 := (hs8.cell 13).trans (show _ = some (Value.slice C13 y2.f13.length k13) from rfl); rw [HY2.out] at m13; have HB8 := Aside0.mk hs8.below; clear hb hs8)
        all_goals go_ret
        all_goals exact ⟨rfl, HB8.out⟩
end Go.Proofs.Ythkocpcjcpohcaa.Pure
end
