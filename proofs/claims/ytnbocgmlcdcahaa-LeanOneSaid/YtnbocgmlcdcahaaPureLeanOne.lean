/- One mode for all blocks is the same, however large blocks are. -/
import Derived.Test.YtnbocgmlcdcahaaLeanLaw
import Derived.Test.YtnbocgmlcdcahaaLeanOneP
namespace Go.Proofs.Ytnbocgmlcdcahaa.Pure
open Go Go.RowKit Go.Proofs.Ytnbocgmlcdcahaa.P Go.Proofs.YtnbocgmlcdcahaaW.PrintWords Go.Proofs.YtnbocgmlcdcahaaW.PrintLast Go.Proofs.YtnbocgmlcdcahaaW.PrintMore Go.Proofs.Ytnbocgmlcdcahaa.U
set_option linter.unusedVariables false
set_option linter.unusedSimpArgs false
attribute [local go_sem] max2_int min2_int max_two min_two max_three min_three max_four min_four
theorem Forth_one (w h b mm : Int) (Am : Option Addr) (cm : Nat) (Al : Option Addr) (m cl : Nat) (p : List Int) (W : World)
    (hrp : Kd.C (Kd.int .u32) W Am p.length p) (hcm : p.length ≤ cm) (hrl : ReadsInt W .i64 Al m (List.replicate m mm)) (hcl : m ≤ cl) (hso : sound w h p b (List.replicate m mm)) (hp : U32s p) :
    Calls Try.prog 10 #[.agg #[.int .i64 w, .int .i64 h, .slice Am p.length cm], .int .i64 b, .slice Al m cl] W fun e W' =>
      ∃ B c', e = .returned (.tuple #[.agg #[.int .i64 w, .int .i64 h, .slice B p.length c'], .int .i64 0]) ∧ p.length ≤ c' ∧ St W W' (Asrt.row 35 1 (.slice B p.length c') p.length (nums .u32 (one13 w mm p)) * Asrt.emp) := by
  have := lean_Forth_ok w h b Am cm Al cl p (List.replicate m mm) W hrp hcm (reads_C (by rw [List.length_replicate]; exact hrl)) (by rw [List.length_replicate]; exact hcl) hso hp
  rwa [List.length_replicate, lean_one hso] at this
theorem quiet_drawn13 {P : Program} {f : FuncId} {args : Array Value} {w : World} {n : Nat} {v : Value} (h : Calls P f args (w.drewN n) fun e w' => e = .returned v ∧ Drawn0 (w.drewN n) w') : Calls P f args (w.drewN n) fun e w' => e = .returned v ∧ ∃ m, w' = w.drewN m := by
  refine h.mono fun e w' ⟨he, hd⟩ => ⟨he, ?_⟩
  obtain ⟨m, rfl⟩ := hd.out
  exact ⟨n + m, by first | rfl | simp⟩
set_option maxHeartbeats 8000000 in
set_option maxRecDepth 100000 in
theorem LeanOne (a b : Int) (A : Option Addr) (c : Nat) (p : List Int) (m x y : Int) (w : World)
    (h1 : (Lit.int .i64 a).wf = true) (h2 : (Lit.int .i64 b).wf = true) (h3 : p.length ≤ maxLen) (h4 : p.length * 4 ≤ 140737488351232) (h5 : ∀ y ∈ p, (Lit.int .u32 y).wf = true)
    (wm : (Lit.int .u8 m).wf = true) (wx : (Lit.int .u8 x).wf = true) (wy : (Lit.int .u8 y).wf = true) (g0 : Kd.C (Kd.int .u32) w A p.length p) (l0 : p.length ≤ c) :
    Calls Try.prog 3 #[.agg #[.int .i64 a, .int .i64 b, .slice A p.length c], .int .u8 m, .int .u8 x, .int .u8 y] w fun e w' => e = .returned (.bool true) ∧ Below w.heap.size w w' := by
  have hu : U32s p := u32s_of h5
  have hm := wf_u8 wm
  have hx := wf_u8 wx
  have hy := wf_u8 wy
  clear h1 h2 h3 h5 wm wx wy
  have ex : Int.tmod x 8 = x % 8 := Int.tmod_eq_emod_of_nonneg hx.1
  have ey : Int.tmod y 8 = y % 8 := Int.tmod_eq_emod_of_nonneg hy.1
  have em : Int.tmod m 16 = m % 16 := Int.tmod_eq_emod_of_nonneg hm.1
  obtain ⟨X, hX⟩ : ∃ X, 2 + x % 8 = X := ⟨_, rfl⟩
  obtain ⟨Y, hY⟩ : ∃ Y, 2 + y % 8 = Y := ⟨_, rfl⟩
  obtain ⟨M, hM⟩ : ∃ M, m % 16 = M := ⟨_, rfl⟩
  have bX : 2 ≤ X ∧ X ≤ 9 := by omega
  have bY : 2 ≤ Y ∧ Y ≤ 9 := by omega
  have bM : 0 ≤ M ∧ M ≤ 15 := by omega
  have G0 := Aside0.mk g0; clear g0
  have HU := Aside0.mk hu; clear hu
  have hs := (St.refl w).alloc #[.int .i64 a, .int .i64 b, .slice A p.length c] 24
  have HS := Aside0.mk hs; clear hs
  have eg := good_eq a b p
  by_cases hg : good a b p
  · rw [decide_eq_true hg] at eg
    have EG := Aside0.mk eg; clear eg
    by_cases c1 : 2000 < p.length
    · have t1 : decide ((2000 : Int) < p.length) = true := decide_eq_true (by omega)
      go_enter Try.func3, Try.ntmps3
      go_wp2_with fail
      refine (marquetryref11_Good.calls a b A c p true _ (Kd.C_below G0.out HS.out.below) l0 EG.out).mono ?_; rintro e w1 ⟨rfl, hb1⟩
      have HS1 := Aside0.mk (HS.out.belowR hb1); clear hb1
      have m2 := (HS1.out.cell 2).trans rfl
      go_wp2_with fail
      refine (answers_calls _).mono ?_; rintro e w2 ⟨rfl, hb⟩
      have HB := Aside0.mk (HS1.out.belowR hb).below; clear hb
      go_wp2_with fail
      go_ret
      exact ⟨rfl, HB.out⟩
    have t1 : decide ((2000 : Int) < p.length) = false := decide_eq_false (by omega)
    go_enter Try.func3, Try.ntmps3
    go_wp2_with fail
    refine (marquetryref11_Good.calls a b A c p true _ (Kd.C_below G0.out HS.out.below) l0 EG.out).mono ?_; rintro e w1 ⟨rfl, hb1⟩
    have hs1 := HS.out.belowR hb1
    clear hb1 HS
    have m2 := (hs1.cell 2).trans rfl
    have hs2 := (hs1.alloc #[.int .i64 0, .int .i64 0, .slice none 0 0, .int .i64 0, .int .i64 0, .slice none 0 0] 27).allocRow 3 .i64 [X, Y] (by simp)
    have e1 : ∀ o, (w1.alloc o).heap.size = w1.heap.size + 1 := fun o => by simp
    rw [e1] at hs2
    clear e1
    have HS2 := Aside0.mk hs2; clear hs2 hs1
    have bW : 1 ≤ a ∧ a ≤ 16384 := ⟨hg.1, hg.2.1⟩
    have bH : 1 ≤ b ∧ b ≤ 16384 := ⟨hg.2.2.1, hg.2.2.2.1⟩
    have HG := Aside0.mk hg; clear hg
    go_wp2_with fail
    generalize w1.heap.size + 1 = gl at *
    generalize w1.heap.size = gA at *
    generalize w.heap.size = gm at *
    clear m2
    go_loopw [8, 11] (fun r8 i wr => r8 = .bool false ∧ ((i = .int .i64 0 ∧ St w wr (Asrt.blk gA 27 #[.int .i64 0, .int .i64 0, .slice none 0 0, .int .i64 0, .int .i64 0, .slice none 0 0] * (Asrt.row 3 1 (.slice (some ⟨gl, 0, none⟩) 2 2) 2 (nums .i64 [X, Y]) * (Asrt.blk gm 24 #[.int .i64 a, .int .i64 b, .slice A p.length c] * Asrt.emp)))) ∨ (i = .int .i64 1 ∧ ∃ B c', p.length ≤ c' ∧ St w wr (Asrt.blk gA 27 #[.int .i64 a, .int .i64 b, .slice B p.length c', .int .i64 0, .int .i64 0, .slice none 0 0] * (Asrt.row 3 1 (.slice (some ⟨gl, 0, none⟩) 2 2) 2 (nums .i64 [X, Y]) * (Asrt.blk gm 24 #[.int .i64 a, .int .i64 b, .slice A p.length c] * (Asrt.row 35 1 (.slice B p.length c') p.length (nums .u32 (one13 a M p)) * Asrt.emp))))) ∨ (i = .int .i64 2 ∧ ∃ B c' D d', p.length ≤ c' ∧ p.length ≤ d' ∧ St w wr (Asrt.blk gA 27 #[.int .i64 a, .int .i64 b, .slice B p.length c', .int .i64 a, .int .i64 b, .slice D p.length d'] * (Asrt.row 3 1 (.slice (some ⟨gl, 0, none⟩) 2 2) 2 (nums .i64 [X, Y]) * (Asrt.blk gm 24 #[.int .i64 a, .int .i64 b, .slice A p.length c] * (Asrt.row 35 1 (.slice D p.length d') p.length (nums .u32 (one13 a M p)) * (Asrt.row 35 1 (.slice B p.length c') p.length (nums .u32 (one13 a M p)) * Asrt.emp)))))))) (fun _ i _ => 2 - (intOf i).toNat)
    case atStart => exact ⟨rfl, .inl ⟨rfl, HS2.out.swap⟩⟩
    case round =>
      obtain ⟨rfl, h⟩ := hrel
      clear HS2
      rcases h with ⟨rfl, hsk⟩ | ⟨rfl, B0, x0, hx0, hsk⟩ | ⟨rfl, B0, x0, B1, x1, hx0, hx1, hsk⟩
      · have HSK := Aside0.mk hsk; clear hsk
        obtain ⟨k1, e1⟩ := (ref_Blocks_ev a X).rounds
        obtain ⟨k2, e2⟩ := (ref_Blocks_ev b X).rounds
        obtain ⟨p0, p1, p2, p3, p4, p5⟩ := many_bd HG.out bX.1 bX.2
        have hso : ∀ n2 : Nat, (n2 : Int) = blocks a X * blocks b X → sound a b p X (List.replicate n2 M) := fun n2 h => one_sound HG.out bX.1 bX.2 h bM.1 bM.2
        generalize blocks a X = BW at *
        generalize blocks b X = BH at *
        obtain ⟨N2, hN2⟩ : ∃ N2 : Nat, (N2 : Int) = BW * BH := ⟨(BW * BH).toNat, by omega⟩
        have ebb : IntKind.i64.wrap (BW * BH) = (N2 : Int) := by rw [← hN2]; exact wi64 (by omega) (by omega)
        have bN2 : N2 ≤ 268435456 := by omega
        have HSO := Aside0.mk (hso N2 hN2)
        clear hso hN2 p0 p1 p2 p3 p4 p5
        have E1 := Aside0.mk e1; clear e1
        have E2 := Aside0.mk e2; clear e2
        have d0 := (HSK.out.rot3.cell 0).trans rfl
        have d1 := (HSK.out.rot3.cell 1).trans rfl
        have dl : wr.cell? ⟨gl, 0, none⟩ = some (.int .i64 X) := (HSK.out.swap.rowAt 0 (by decide) (by decide)).1
        go_upto_region 9 with (fail)
        go_quiet (first | (go_at_call 9; with_reducible exact quiet_drawn13 (marquetryref01_Blocks.calls k1 a X BW _ E1.out)) | (go_at_call 9; with_reducible exact quiet_drawn13 (marquetryref01_Blocks.calls k2 b X BH _ E2.out)))
        have HS3 := Aside0.mk ((HSK.out.drewN nq).rowNil 3 1)
        clear HSK d0 d1 dl E1 E2
        generalize wr.drewN nq = v2 at *
        go_wp2_with fail
        go_loopw [12, 14] (fun u i wr => ∃ (j : Nat) (A3 : Option Addr) (x3 : Nat), j ≤ N2 ∧ u = .slice A3 j x3 ∧ i = .int .i64 j ∧ St w wr (Asrt.row 3 1 (.slice A3 j x3) j (nums .i64 (List.replicate j M)) * (Asrt.blk gA 27 #[.int .i64 0, .int .i64 0, .slice none 0 0, .int .i64 0, .int .i64 0, .slice none 0 0] * (Asrt.row 3 1 (.slice (some ⟨gl, 0, none⟩) 2 2) 2 (nums .i64 [X, Y]) * (Asrt.blk gm 24 #[.int .i64 a, .int .i64 b, .slice A p.length c] * Asrt.emp))))) (fun _ i _ => N2 - (intOf i).toNat)
        case atStart => exact ⟨0, none, 0, by omega, rfl, rfl, HS3.out⟩
        case round =>
          obtain ⟨j, A3, x3, hj, rfl, rfl, hsj⟩ := hrel
          clear HS3
          have HSJ := Aside0.mk hsj; clear hsj
          by_cases hlt2 : j < N2
          · have tl2 : decide ((j : Int) < N2) = true := decide_eq_true (by omega)
            have hbd : (j + 1) * 8 ≤ 140737488355328 := by omega
            go_wp2_with (at_builtin; refine St.append_num rfl (.tmp 60) (.tmp 64) 28 3 .i64 8 rfl Try.underlying28 (by kernel_rfl) (by decide) _ j (List.replicate j M) M rfl rfl HSJ.out hbd ?_; intro A4 x4 v3 hs3; rw [← List.replicate_succ'] at hs3; have HS3 := Aside0.mk hs3; clear hs3)
            go_roundw
            case rel => exact ⟨j + 1, A4, x4, by omega, rfl, by go_num, HS3.out⟩
            case measure => simp [intOf]; omega
          · have tl2 : decide ((j : Int) < N2) = false := decide_eq_false (by omega)
            obtain rfl : j = N2 := by omega
            have hx3 : j ≤ x3 := own_le HSJ.out.row
            have d0 := (HSJ.out.rot4.cell 0).trans rfl
            have d1 := (HSJ.out.rot4.cell 1).trans rfl
            have d2 := (HSJ.out.rot4.cell 2).trans rfl
            have dl : wr.cell? ⟨gl, 0, none⟩ = some (.int .i64 X) := (HSJ.out.rot3.rowAt 0 (by decide) (by decide)).1
            go_upto_region 14 with (fail)
            have HSD := Aside0.mk HSJ.out.drew
            have HSE := Aside0.mk (HSJ.out.alloc #[.int .i64 0, .int .i64 0, .slice none 0 0] 24).drew
            have FC1 := Aside0.mk (Forth_one a b X M A c A3 j x3 p _ (Kd.C_below G0.out HSD.out.below) l0 (rowReads HSD.out) hx3 HSO.out HU.out)
            have FC2 := Aside0.mk (Forth_one a b X M A c A3 j x3 p _ (Kd.C_below G0.out HSE.out.below) l0 (rowReads HSE.out.swap) hx3 HSO.out HU.out)
            go_region_held3 (fun w' => w'.cell? ⟨gm, 0, none⟩ = some (.int .i64 a) ∧ w'.cell? ⟨gm, 1, none⟩ = some (.int .i64 b) ∧ w'.cell? ⟨gm, 2, none⟩ = some (.slice A p.length c) ∧ w'.cell? ⟨gl, 0, none⟩ = some (.int .i64 X)) (go_keep) (first | (go_at_call 10; (with_reducible refine FC1.out.mono ?_); rintro e w4 ⟨B, x, rfl, hx, hs4⟩; have HS4 := Aside0.mk ((HSD.out.frame hs4).assoc.swap.drop); clear hs4; have m40 := (HS4.out.drop.rot4.cell 0).trans rfl; have m41 := (HS4.out.drop.rot4.cell 1).trans rfl; have m42 := (HS4.out.drop.rot4.cell 2).trans rfl; have l4 : w4.cell? ⟨gl, 0, none⟩ = some (.int .i64 X) := (HS4.out.rot4.rowAt 0 (by decide) (by decide)).1) | (go_at_call 10; (with_reducible refine FC2.out.mono ?_); rintro e w4 ⟨B, x, rfl, hx, hs4⟩; have HS4 := Aside0.mk ((HSE.out.frame hs4).assoc.swap.drop); clear hs4; have m40 := (HS4.out.drop.drop.rot4.cell 0).trans rfl; have m41 := (HS4.out.drop.drop.rot4.cell 1).trans rfl; have m42 := (HS4.out.drop.drop.rot4.cell 2).trans rfl; have l4 : w4.cell? ⟨gl, 0, none⟩ = some (.int .i64 X) := (HS4.out.drop.rot4.rowAt 0 (by decide) (by decide)).1; have q0 := (HS4.out.swap.cell 0).trans rfl; have q1 := (HS4.out.swap.cell 1).trans rfl; have q2 := (HS4.out.swap.cell 2).trans rfl; have f0 := HS4.out.swap.frozen 0; have f1 := HS4.out.swap.frozen 1; have f2 := HS4.out.swap.frozen 2; have HS5 := Aside0.mk (((HS4.out.swap.set 0 (.int .i64 a)).set 1 (.int .i64 b)).set 2 (.slice B p.length x)); have m50 := (HS5.out.drop.drop.rot4.cell 0).trans rfl; have m51 := (HS5.out.drop.drop.rot4.cell 1).trans rfl; have m52 := (HS5.out.drop.drop.rot4.cell 2).trans rfl; have l5 : (((w4.setCell ⟨wr.heap.size, 0, none⟩ (.int .i64 a)).setCell ⟨wr.heap.size, 1, none⟩ (.int .i64 b)).setCell ⟨wr.heap.size, 2, none⟩ (.slice B p.length x)).cell? ⟨gl, 0, none⟩ = some (.int .i64 X) := (HS5.out.drop.rot4.rowAt 0 (by decide) (by decide)).1))
            · have hs6 := HS4.out.alloc #[.int .i64 a, .int .i64 b, .slice B p.length x] 24
              clear FC1 FC2 HS4 HSD HSE d0 d1 d2 dl m40 m41 m42 l4
              have z0 := (hs6.rot4.cell 0).trans rfl
              have z1 := (hs6.rot4.cell 1).trans rfl
              have z2 := (hs6.rot4.cell 2).trans rfl
              have u0 := hs6.rot4.frozen 0
              have u1 := hs6.rot4.frozen 1
              have u2 := hs6.rot4.frozen 2
              have y0 := (hs6.cell 0).trans rfl
              have y1 := (hs6.cell 1).trans rfl
              have y2 := (hs6.cell 2).trans rfl
              have hs7 := ((((hs6.rot4.set 0 (.int .i64 a)).set 1 (.int .i64 b)).set 2 (.slice B p.length x)).swap.drop.rot3.drop).imp (Asrt.mono_r (Asrt.le_trans (Asrt.swap _ _ _) (Asrt.mono_r (Asrt.swap _ _ _))))
              have HS7 := Aside0.mk hs7; clear hs7 hs6
              go_wp2_with fail
              exact ⟨⟨rfl, .inr (.inl ⟨rfl, B, x, hx, HS7.out⟩)⟩, by simp [intOf]⟩
            · have hs6 := HS5.out
              clear FC1 FC2 HS4 HS5 HSD HSE d0 d1 d2 dl m40 m41 m42 l4 m50 m51 m52 l5 q0 q1 q2 f0 f1 f2
              have z0 := (hs6.rot4.cell 0).trans rfl
              have z1 := (hs6.rot4.cell 1).trans rfl
              have z2 := (hs6.rot4.cell 2).trans rfl
              have u0 := hs6.rot4.frozen 0
              have u1 := hs6.rot4.frozen 1
              have u2 := hs6.rot4.frozen 2
              have y0 := (hs6.cell 0).trans rfl
              have y1 := (hs6.cell 1).trans rfl
              have y2 := (hs6.cell 2).trans rfl
              have hs7 := ((((hs6.rot4.set 0 (.int .i64 a)).set 1 (.int .i64 b)).set 2 (.slice B p.length x)).swap.drop.rot3.drop).imp (Asrt.mono_r (Asrt.le_trans (Asrt.swap _ _ _) (Asrt.mono_r (Asrt.swap _ _ _))))
              have HS7 := Aside0.mk hs7; clear hs7 hs6
              go_wp2_with fail
              exact ⟨⟨rfl, .inr (.inl ⟨rfl, B, x, hx, HS7.out⟩)⟩, by simp [intOf]⟩
      · have HSK := Aside0.mk hsk; clear hsk
        obtain ⟨k1, e1⟩ := (ref_Blocks_ev a Y).rounds
        obtain ⟨k2, e2⟩ := (ref_Blocks_ev b Y).rounds
        obtain ⟨p0, p1, p2, p3, p4, p5⟩ := many_bd HG.out bY.1 bY.2
        have hso : ∀ n2 : Nat, (n2 : Int) = blocks a Y * blocks b Y → sound a b p Y (List.replicate n2 M) := fun n2 h => one_sound HG.out bY.1 bY.2 h bM.1 bM.2
        generalize blocks a Y = BW at *
        generalize blocks b Y = BH at *
        obtain ⟨N2, hN2⟩ : ∃ N2 : Nat, (N2 : Int) = BW * BH := ⟨(BW * BH).toNat, by omega⟩
        have ebb : IntKind.i64.wrap (BW * BH) = (N2 : Int) := by rw [← hN2]; exact wi64 (by omega) (by omega)
        have bN2 : N2 ≤ 268435456 := by omega
        have HSO := Aside0.mk (hso N2 hN2)
        clear hso hN2 p0 p1 p2 p3 p4 p5
        have E1 := Aside0.mk e1; clear e1
        have E2 := Aside0.mk e2; clear e2
        have d0 := (HSK.out.rot3.cell 0).trans rfl
        have d1 := (HSK.out.rot3.cell 1).trans rfl
        have dl : wr.cell? ⟨gl, 1, none⟩ = some (.int .i64 Y) := (HSK.out.swap.rowAt 1 (by decide) (by decide)).1
        go_upto_region 9 with (fail)
        go_quiet (first | (go_at_call 9; with_reducible exact quiet_drawn13 (marquetryref01_Blocks.calls k1 a Y BW _ E1.out)) | (go_at_call 9; with_reducible exact quiet_drawn13 (marquetryref01_Blocks.calls k2 b Y BH _ E2.out)))
        have HS3 := Aside0.mk ((HSK.out.drewN nq).rowNil 3 1)
        clear HSK d0 d1 dl E1 E2
        generalize wr.drewN nq = v2 at *
        go_wp2_with fail
        go_loopw [12, 14] (fun u i wr => ∃ (j : Nat) (A3 : Option Addr) (x3 : Nat), j ≤ N2 ∧ u = .slice A3 j x3 ∧ i = .int .i64 j ∧ St w wr (Asrt.row 3 1 (.slice A3 j x3) j (nums .i64 (List.replicate j M)) * (Asrt.blk gA 27 #[.int .i64 a, .int .i64 b, .slice B0 p.length x0, .int .i64 0, .int .i64 0, .slice none 0 0] * (Asrt.row 3 1 (.slice (some ⟨gl, 0, none⟩) 2 2) 2 (nums .i64 [X, Y]) * (Asrt.blk gm 24 #[.int .i64 a, .int .i64 b, .slice A p.length c] * (Asrt.row 35 1 (.slice B0 p.length x0) p.length (nums .u32 (one13 a M p)) * Asrt.emp)))))) (fun _ i _ => N2 - (intOf i).toNat)
        case atStart => exact ⟨0, none, 0, by omega, rfl, rfl, HS3.out⟩
        case round =>
          obtain ⟨j, A3, x3, hj, rfl, rfl, hsj⟩ := hrel
          clear HS3
          have HSJ := Aside0.mk hsj; clear hsj
          by_cases hlt2 : j < N2
          · have tl2 : decide ((j : Int) < N2) = true := decide_eq_true (by omega)
            have hbd : (j + 1) * 8 ≤ 140737488355328 := by omega
            go_wp2_with (at_builtin; refine St.append_num rfl (.tmp 60) (.tmp 64) 28 3 .i64 8 rfl Try.underlying28 (by kernel_rfl) (by decide) _ j (List.replicate j M) M rfl rfl HSJ.out hbd ?_; intro A4 x4 v3 hs3; rw [← List.replicate_succ'] at hs3; have HS3 := Aside0.mk hs3; clear hs3)
            go_roundw
            case rel => exact ⟨j + 1, A4, x4, by omega, rfl, by go_num, HS3.out⟩
            case measure => simp [intOf]; omega
          · have tl2 : decide ((j : Int) < N2) = false := decide_eq_false (by omega)
            obtain rfl : j = N2 := by omega
            have hx3 : j ≤ x3 := own_le HSJ.out.row
            have d0 := (HSJ.out.rot4.cell 0).trans rfl
            have d1 := (HSJ.out.rot4.cell 1).trans rfl
            have d2 := (HSJ.out.rot4.cell 2).trans rfl
            have dl : wr.cell? ⟨gl, 1, none⟩ = some (.int .i64 Y) := (HSJ.out.rot3.rowAt 1 (by decide) (by decide)).1
            go_upto_region 14 with (fail)
            have HSD := Aside0.mk HSJ.out.drew
            have HSE := Aside0.mk (HSJ.out.alloc #[.int .i64 0, .int .i64 0, .slice none 0 0] 24).drew
            have FC1 := Aside0.mk (Forth_one a b Y M A c A3 j x3 p _ (Kd.C_below G0.out HSD.out.below) l0 (rowReads HSD.out) hx3 HSO.out HU.out)
            have FC2 := Aside0.mk (Forth_one a b Y M A c A3 j x3 p _ (Kd.C_below G0.out HSE.out.below) l0 (rowReads HSE.out.swap) hx3 HSO.out HU.out)
            go_region_held3 (fun w' => w'.cell? ⟨gm, 0, none⟩ = some (.int .i64 a) ∧ w'.cell? ⟨gm, 1, none⟩ = some (.int .i64 b) ∧ w'.cell? ⟨gm, 2, none⟩ = some (.slice A p.length c) ∧ w'.cell? ⟨gl, 1, none⟩ = some (.int .i64 Y)) (go_keep) (first | (go_at_call 10; (with_reducible refine FC1.out.mono ?_); rintro e w4 ⟨B, x, rfl, hx, hs4⟩; have HS4 := Aside0.mk ((HSD.out.frame hs4).assoc.swap.drop); clear hs4; have m40 := (HS4.out.drop.rot4.cell 0).trans rfl; have m41 := (HS4.out.drop.rot4.cell 1).trans rfl; have m42 := (HS4.out.drop.rot4.cell 2).trans rfl; have l4 : w4.cell? ⟨gl, 1, none⟩ = some (.int .i64 Y) := (HS4.out.rot4.rowAt 1 (by decide) (by decide)).1) | (go_at_call 10; (with_reducible refine FC2.out.mono ?_); rintro e w4 ⟨B, x, rfl, hx, hs4⟩; have HS4 := Aside0.mk ((HSE.out.frame hs4).assoc.swap.drop); clear hs4; have m40 := (HS4.out.drop.drop.rot4.cell 0).trans rfl; have m41 := (HS4.out.drop.drop.rot4.cell 1).trans rfl; have m42 := (HS4.out.drop.drop.rot4.cell 2).trans rfl; have l4 : w4.cell? ⟨gl, 1, none⟩ = some (.int .i64 Y) := (HS4.out.drop.rot4.rowAt 1 (by decide) (by decide)).1; have q0 := (HS4.out.swap.cell 0).trans rfl; have q1 := (HS4.out.swap.cell 1).trans rfl; have q2 := (HS4.out.swap.cell 2).trans rfl; have f0 := HS4.out.swap.frozen 0; have f1 := HS4.out.swap.frozen 1; have f2 := HS4.out.swap.frozen 2; have HS5 := Aside0.mk (((HS4.out.swap.set 0 (.int .i64 a)).set 1 (.int .i64 b)).set 2 (.slice B p.length x)); have m50 := (HS5.out.drop.drop.rot4.cell 0).trans rfl; have m51 := (HS5.out.drop.drop.rot4.cell 1).trans rfl; have m52 := (HS5.out.drop.drop.rot4.cell 2).trans rfl; have l5 : (((w4.setCell ⟨wr.heap.size, 0, none⟩ (.int .i64 a)).setCell ⟨wr.heap.size, 1, none⟩ (.int .i64 b)).setCell ⟨wr.heap.size, 2, none⟩ (.slice B p.length x)).cell? ⟨gl, 1, none⟩ = some (.int .i64 Y) := (HS5.out.drop.rot4.rowAt 1 (by decide) (by decide)).1))
            · have hs6 := HS4.out.alloc #[.int .i64 a, .int .i64 b, .slice B p.length x] 24
              clear FC1 FC2 HS4 HSD HSE d0 d1 d2 dl m40 m41 m42 l4
              have z0 := (hs6.rot4.cell 3).trans rfl
              have z1 := (hs6.rot4.cell 4).trans rfl
              have z2 := (hs6.rot4.cell 5).trans rfl
              have u0 := hs6.rot4.frozen 3
              have u1 := hs6.rot4.frozen 4
              have u2 := hs6.rot4.frozen 5
              have y0 := (hs6.cell 0).trans rfl
              have y1 := (hs6.cell 1).trans rfl
              have y2 := (hs6.cell 2).trans rfl
              have hs7 := ((((hs6.rot4.set 3 (.int .i64 a)).set 4 (.int .i64 b)).set 5 (.slice B p.length x)).swap.drop.rot3.drop).imp (Asrt.mono_r (Asrt.le_trans (Asrt.swap _ _ _) (Asrt.mono_r (Asrt.swap _ _ _))))
              have HS7 := Aside0.mk hs7; clear hs7 hs6
              go_wp2_with fail
              exact ⟨⟨rfl, .inr (.inr ⟨rfl, B0, x0, B, x, hx0, hx, HS7.out⟩)⟩, by simp [intOf]⟩
            · have hs6 := HS5.out
              clear FC1 FC2 HS4 HS5 HSD HSE d0 d1 d2 dl m40 m41 m42 l4 m50 m51 m52 l5 q0 q1 q2 f0 f1 f2
              have z0 := (hs6.rot4.cell 3).trans rfl
              have z1 := (hs6.rot4.cell 4).trans rfl
              have z2 := (hs6.rot4.cell 5).trans rfl
              have u0 := hs6.rot4.frozen 3
              have u1 := hs6.rot4.frozen 4
              have u2 := hs6.rot4.frozen 5
              have y0 := (hs6.cell 0).trans rfl
              have y1 := (hs6.cell 1).trans rfl
              have y2 := (hs6.cell 2).trans rfl
              have hs7 := ((((hs6.rot4.set 3 (.int .i64 a)).set 4 (.int .i64 b)).set 5 (.slice B p.length x)).swap.drop.rot3.drop).imp (Asrt.mono_r (Asrt.le_trans (Asrt.swap _ _ _) (Asrt.mono_r (Asrt.swap _ _ _))))
              have HS7 := Aside0.mk hs7; clear hs7 hs6
              go_wp2_with fail
              exact ⟨⟨rfl, .inr (.inr ⟨rfl, B0, x0, B, x, hx0, hx, HS7.out⟩)⟩, by simp [intOf]⟩
      · have HSK := Aside0.mk hsk; clear hsk
        go_wp2_with fail
        refine (answers_calls _).mono ?_; rintro e w6 ⟨rfl, hb6⟩
        have HS6 := Aside0.mk (HSK.out.belowR hb6); clear hb6 HSK
        have z0 := (HS6.out.cell 0).trans rfl
        have z1 := (HS6.out.cell 1).trans rfl
        have z2 := (HS6.out.cell 2).trans rfl
        have z3 := (HS6.out.cell 3).trans rfl
        have z4 := (HS6.out.cell 4).trans rfl
        have z5 := (HS6.out.cell 5).trans rfl
        have hpl := (good_len HG.out).2
        go_wp2_with fail
        refine (refSame_calls a b B0 B1 p.length x0 x1 (one13 a M p) _ (one13_len _ _ _) hpl (rowReads HS6.out.drop.rot4) (rowReads HS6.out.rot4) hx0 hx1).mono ?_; rintro e w7 ⟨rfl, hb7⟩
        have HB := Aside0.mk (HS6.out.belowR hb7).below; clear hb7
        go_wp2_with fail
        go_ret
        exact ⟨rfl, HB.out⟩
  · rw [decide_eq_false hg] at eg
    have EG := Aside0.mk eg; clear eg
    go_enter Try.func3, Try.ntmps3
    go_wp2_with fail
    refine (marquetryref11_Good.calls a b A c p false _ (Kd.C_below G0.out HS.out.below) l0 EG.out).mono ?_; rintro e w1 ⟨rfl, hb1⟩
    have HS1 := Aside0.mk (HS.out.belowR hb1); clear hb1
    go_wp2_with fail
    refine (answers_calls _).mono ?_; rintro e w2 ⟨rfl, hb⟩
    have HB := Aside0.mk (HS1.out.belowR hb).below; clear hb
    go_wp2_with fail
    go_ret
    exact ⟨rfl, HB.out⟩
end Go.Proofs.Ytnbocgmlcdcahaa.Pure
