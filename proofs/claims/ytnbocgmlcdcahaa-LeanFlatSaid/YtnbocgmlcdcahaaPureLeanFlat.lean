/- Of a picture of one colour nothing is left but its first pixel. -/
import Derived.Test.YtnbocgmlcdcahaaLeanLaw
import Derived.Test.YtnbocgmlcdcahaaLeanFlatP
namespace Go.Proofs.Ytnbocgmlcdcahaa.Pure
open Go Go.RowKit Go.Proofs.Ytnbocgmlcdcahaa.P Go.Proofs.YtnbocgmlcdcahaaW.PrintWords Go.Proofs.YtnbocgmlcdcahaaW.PrintLast Go.Proofs.YtnbocgmlcdcahaaW.PrintMore Go.Proofs.Ytnbocgmlcdcahaa.U
set_option linter.unusedVariables false
set_option linter.unusedSimpArgs false
attribute [local go_sem] max2_int min2_int max_two min_two max_three min_three max_four min_four
theorem Forth_nm (w h b : Int) (Am : Option Addr) (n cm : Nat) (Al : Option Addr) (m cl : Nat) (p l : List Int) (W : World) (hn : p.length = n) (hm : l.length = m)
    (hrp : ReadsInt W .u32 Am n p) (hcm : n ≤ cm) (hrl : ReadsInt W .i64 Al m l) (hcl : m ≤ cl) (hso : sound w h p b l) (hp : U32s p) :
    Calls Try.prog 10 #[.agg #[.int .i64 w, .int .i64 h, .slice Am n cm], .int .i64 b, .slice Al m cl] W fun e W' =>
      ∃ B c', e = .returned (.tuple #[.agg #[.int .i64 w, .int .i64 h, .slice B n c'], .int .i64 0]) ∧ n ≤ c' ∧ St W W' (Asrt.row 35 1 (.slice B n c') n (nums .u32 (lean13 false w b l p n)) * Asrt.emp) := by
  subst hn hm
  exact lean_Forth_ok w h b Am cm Al cl p l W (reads_C hrp) hcm (reads_C hrl) hcl hso hp
theorem quiet_drawn13 {P : Program} {f : FuncId} {args : Array Value} {w : World} {n : Nat} {v : Value} (h : Calls P f args (w.drewN n) fun e w' => e = .returned v ∧ Drawn0 (w.drewN n) w') : Calls P f args (w.drewN n) fun e w' => e = .returned v ∧ ∃ m, w' = w.drewN m := by
  refine h.mono fun e w' ⟨he, hd⟩ => ⟨he, ?_⟩
  obtain ⟨m, rfl⟩ := hd.out
  exact ⟨n + m, by first | rfl | simp⟩
set_option maxHeartbeats 8000000 in
set_option maxRecDepth 100000 in
theorem LeanFlat (a b m p : Int) (w : World) (wa : (Lit.int .u8 a).wf = true) (wb : (Lit.int .u8 b).wf = true) (wm : (Lit.int .u8 m).wf = true) (wp : (Lit.int .u32 p).wf = true) :
    Calls Try.prog 4 #[.int .u8 a, .int .u8 b, .int .u8 m, .int .u32 p] w fun e w' => e = .returned (.bool true) ∧ Below w.heap.size w w' := by
  have ha := wf_u8 wa
  have hb := wf_u8 wb
  have hm := wf_u8 wm
  have hp : U32 p := wf_u32 wp
  clear wa wb wm wp
  have ea : Int.tmod a 20 = a % 20 := Int.tmod_eq_emod_of_nonneg ha.1
  have eb : Int.tmod b 20 = b % 20 := Int.tmod_eq_emod_of_nonneg hb.1
  have em : Int.tmod m 13 = m % 13 := Int.tmod_eq_emod_of_nonneg hm.1
  obtain ⟨W, hW⟩ : ∃ W, a % 20 + 1 = W := ⟨_, rfl⟩
  obtain ⟨H, hH⟩ : ∃ H, b % 20 + 1 = H := ⟨_, rfl⟩
  obtain ⟨M, hM⟩ : ∃ M, 1 + m % 13 = M := ⟨_, rfl⟩
  have bW : 1 ≤ W ∧ W ≤ 20 := by omega
  have bH : 1 ≤ H ∧ H ≤ 20 := by omega
  have bM : 1 ≤ M ∧ M ≤ 13 := by omega
  have aW : 1 * 1 ≤ W * H ∧ W * H ≤ 20 * 20 := ⟨Int.mul_le_mul bW.1 bH.1 (by omega) (by omega), Int.mul_le_mul bW.2 bH.2 (by omega) (by omega)⟩
  obtain ⟨N, hN⟩ : ∃ N : Nat, (N : Int) = W * H := ⟨(W * H).toNat, by omega⟩
  have bN : 1 ≤ N ∧ N ≤ 400 := by omega
  have ewh : IntKind.i64.wrap (W * H) = (N : Int) := by rw [← hN]; exact wi64 (by omega) (by omega)
  obtain ⟨p0, p1, _⟩ := blocks_in (n := W) (b := 3) bW.1 (by omega) (by omega) (by omega)
  obtain ⟨q0, q1, _⟩ := blocks_in (n := H) (b := 3) bH.1 (by omega) (by omega) (by omega)
  obtain ⟨BW, hBW⟩ : ∃ x, blocks W 3 = x := ⟨_, rfl⟩
  obtain ⟨BH, hBH⟩ : ∃ x, blocks H 3 = x := ⟨_, rfl⟩
  have aB : 1 * 1 ≤ BW * BH ∧ BW * BH ≤ 16384 * 16384 := ⟨Int.mul_le_mul (by omega) (by omega) (by omega) (by omega), Int.mul_le_mul (by omega) (by omega) (by omega) (by omega)⟩
  obtain ⟨N2, hN2⟩ : ∃ N2 : Nat, (N2 : Int) = BW * BH := ⟨(BW * BH).toNat, by omega⟩
  have bN2 : 1 ≤ N2 ∧ N2 ≤ 268435456 := by omega
  have ebb : IntKind.i64.wrap (BW * BH) = (N2 : Int) := by rw [← hN2]; exact wi64 (by omega) (by omega)
  obtain ⟨k1, e1⟩ := (ref_Blocks_ev W 3).rounds
  obtain ⟨k2, e2⟩ := (ref_Blocks_ev H 3).rounds
  have hso : sound W H (List.replicate N p) 3 (List.replicate N2 M) := flat_sound (by omega) (by omega) hN (by omega) (by omega) (by rw [hBW, hBH]; exact hN2) (by omega) (by omega)
  rw [hBW] at e1
  rw [hBH] at e2
  have E1 := Aside0.mk e1; clear e1
  have E2 := Aside0.mk e2; clear e2
  have HSO := Aside0.mk hso; clear hso aW aB hN hN2 hBW hBH p0 p1 q0 q1
  have HP := Aside0.mk hp; clear hp
  have hs := ((St.refl w).alloc #[.int .i64 W, .int .i64 H, .slice none 0 0] 24).rowNil 35 1
  have HS := Aside0.mk hs; clear hs
  go_enter Try.func4, Try.ntmps4
  go_wp2_with fail
  generalize w.alloc (.cells #[.int .i64 W, .int .i64 H, .slice none 0 0] 24) = v0 at *
  generalize w.heap.size = gm at *
  go_loopw [10] (fun i wr => ∃ (k : Nat) (v : Value), k ≤ N ∧ i = .int .i64 k ∧ St w wr (Asrt.row 35 1 v k (nums .u32 (List.replicate k p)) * (Asrt.blk gm 24 #[.int .i64 W, .int .i64 H, v] * Asrt.emp))) (fun i _ => N - (intOf i).toNat)
  case atStart => exact ⟨0, _, by omega, rfl, HS.out⟩
  case round =>
    obtain ⟨k, v, hk, rfl, hsk⟩ := hrel
    clear HS
    obtain ⟨A1, x1, rfl⟩ := own_slice hsk.row
    have d0 := (hsk.swap.cell 0).trans rfl
    have d1 := (hsk.swap.cell 1).trans rfl
    have d2 := (hsk.swap.cell 2).trans rfl
    have HSK := Aside0.mk hsk; clear hsk
    by_cases hlt : k < N
    · have tl : decide ((k : Int) < N) = true := decide_eq_true (by omega)
      have hbd : (k + 1) * 4 ≤ 140737488355328 := by omega
      have e0 := HSK.out.swap.frozen 2
      go_wp2_with (at_builtin; refine St.append_num rfl (.tmp 36) (.tmp 38) 22 35 .u32 4 rfl Try.underlying22 (by kernel_rfl) (by decide) _ k (List.replicate k p) p rfl rfl HSK.out hbd ?_; intro A2 x2 v1 hs1; rw [← List.replicate_succ'] at hs1; have c0 := (hs1.swap.cell 0).trans rfl; have c1 := (hs1.swap.cell 1).trans rfl; have c2 := (hs1.swap.cell 2).trans rfl; have e1 := hs1.swap.frozen 2; have HS1 := Aside0.mk hs1; clear hs1)
      go_roundw
      case rel => exact ⟨k + 1, _, by omega, by go_num, (HS1.out.swap.set 2 (.slice A2 (k + 1) x2)).swap⟩
      case measure => simp [intOf]; omega
    · have tl : decide ((k : Int) < N) = false := decide_eq_false (by omega)
      obtain rfl : k = N := by omega
      go_upto_region 7 with (fail)
      have hx1 : k ≤ x1 := own_le HSK.out.row
      go_quiet (first | (go_at_call 9; with_reducible exact quiet_drawn13 (marquetryref01_Blocks.calls k1 W 3 BW _ E1.out)) | (go_at_call 9; with_reducible exact quiet_drawn13 (marquetryref01_Blocks.calls k2 H 3 BH _ E2.out)))
      have HS2 := Aside0.mk ((HSK.out.drewN nq).rowNil 3 1)
      clear HSK d0 d1 d2
      generalize wr.drewN nq = v2 at *
      go_wp2_with fail
      go_loopw [11, 13] (fun u i wr => ∃ (j : Nat) (A3 : Option Addr) (x3 : Nat), j ≤ N2 ∧ u = .slice A3 j x3 ∧ i = .int .i64 j ∧ St w wr (Asrt.row 3 1 (.slice A3 j x3) j (nums .i64 (List.replicate j M)) * (Asrt.row 35 1 (.slice A1 k x1) k (nums .u32 (List.replicate k p)) * (Asrt.blk gm 24 #[.int .i64 W, .int .i64 H, .slice A1 k x1] * Asrt.emp)))) (fun _ i _ => N2 - (intOf i).toNat)
      case atStart => exact ⟨0, none, 0, by omega, rfl, rfl, HS2.out⟩
      case round =>
        obtain ⟨j, A3, x3, hj, rfl, rfl, hsj⟩ := hrel
        clear HS2
        have HSJ := Aside0.mk hsj; clear hsj
        by_cases hlt2 : j < N2
        · have tl2 : decide ((j : Int) < N2) = true := decide_eq_true (by omega)
          have hbd : (j + 1) * 8 ≤ 140737488355328 := by omega
          go_wp2_with (at_builtin; refine St.append_num rfl (.tmp 53) (.tmp 58) 28 3 .i64 8 rfl Try.underlying28 (by kernel_rfl) (by decide) _ j (List.replicate j M) M rfl rfl HSJ.out hbd ?_; intro A4 x4 v3 hs3; rw [← List.replicate_succ'] at hs3; have HS3 := Aside0.mk hs3; clear hs3)
          go_roundw
          case rel => exact ⟨j + 1, A4, x4, by omega, rfl, by go_num, HS3.out⟩
          case measure => simp [intOf]; omega
        · have tl2 : decide ((j : Int) < N2) = false := decide_eq_false (by omega)
          obtain rfl : j = N2 := by omega
          have hx3 : j ≤ x3 := own_le HSJ.out.row
          have d0 := (HSJ.out.rot3.cell 0).trans rfl
          have d1 := (HSJ.out.rot3.cell 1).trans rfl
          have d2 := (HSJ.out.rot3.cell 2).trans rfl
          go_wp2_with fail
          refine (Forth_nm W H 3 A1 k x1 A3 j x3 (List.replicate k p) (List.replicate j M) _ List.length_replicate List.length_replicate (rowReads HSJ.out.swap) hx1 (rowReads HSJ.out) hx3 HSO.out (u32s_rep HP.out)).mono ?_; rintro e v4 ⟨X, xx, rfl, hxx, hs4⟩
          have hs5 := (HSJ.out.frame hs4).assoc.swap.drop.alloc #[.int .i64 W, .int .i64 H, .slice X k xx] 24
          obtain ⟨gX, rfl⟩ := hs5.swap.rowForm (by omega)
          have HFL := Aside0.mk (fun q hq => flat_rd HSO.out HP.out bM.1 bM.2 q hq)
          generalize lean13 false W 3 (List.replicate j M) (List.replicate k p) k = L at *
          clear hs4 d0 d1 d2 HSJ
          go_wp2_with fail
          generalize v4.alloc (.cells #[.int .i64 W, .int .i64 H, .slice (some ⟨gX, 0, none⟩) k xx] 24) = v5 at *
          generalize v4.heap.size = gx at *
          have x2 := (hs5.cell 2).trans rfl
          have HS5 := Aside0.mk hs5; clear hs5
          go_loopw [8, 16] (fun r8 i wr => r8 = .bool false ∧ wr = v5 ∧ ∃ q : Nat, 1 ≤ q ∧ q ≤ k ∧ i = .int .i64 q) (fun _ i _ => k - (intOf i).toNat)
          case atStart => exact ⟨rfl, rfl, 1, by omega, by omega, rfl⟩
          case round =>
            obtain ⟨rfl, rfl, q, hq1, hq2, rfl⟩ := hrel
            by_cases hlt3 : q < k
            · have tl3 : decide ((q : Int) < k) = true := decide_eq_true (by omega)
              have hc := (HS5.out.swap.rowAt (q : Int) (by omega) (by omega)).1
              rw [Int.toNat_natCast, HFL.out q hlt3, if_neg (by omega)] at hc
              have b0 : (0 : Int) ≤ q := by omega
              have b1 : (q : Int) < k := by omega
              go_wp2_with fail
              go_roundw
              case rel => refine ⟨?_, ?_, q + 1, by omega, by omega, by go_num⟩ <;> first | rfl | trivial
              case measure => simp [intOf]; omega
            · have tl3 : decide ((q : Int) < k) = false := decide_eq_false (by omega)
              go_upto_region 18 with (fail)
              have hz : ∀ w' , St w w' (Asrt.blk gx 24 #[.int .i64 W, .int .i64 H, .slice (some ⟨gX, 0, none⟩) k xx] * (Asrt.row 35 1 (.slice (some ⟨gX, 0, none⟩) k xx) k (nums .u32 L) * (Asrt.row 3 1 (.slice A3 j x3) j (nums .i64 (List.replicate j M)) * (Asrt.row 35 1 (.slice A1 k x1) k (nums .u32 (List.replicate k p)) * (Asrt.blk gm 24 #[.int .i64 W, .int .i64 H, .slice A1 k x1] * Asrt.emp))))) → w'.cell? ⟨gX, 0, none⟩ = some (.int .u32 (each4 fSub p 4278190080 0)) := by
                intro w' h
                have := (h.swap.rowAt 0 (by omega) (by omega)).1
                have e := HFL.out 0 (by omega)
                rw [if_pos rfl] at e
                rw [show (0 : Int) = ((0 : Nat) : Int) from rfl, e] at this
                exact this
              have HZ := Aside0.mk hz; clear hz
              have hSub : marquetryref11_Sub.f p 4278190080 = some (each4 fSub p 4278190080 0) := if_pos ⟨HP.out, by decide⟩
              have HSub := Aside0.mk hSub; clear hSub
              have z5 := HZ.out _ HS5.out
              have m5 := (HS5.out.drop.drop.drop.swap.cell 2).trans rfl
              generalize each4 fSub p 4278190080 0 = z at *
              have b1 : 0 < k := by omega
              have b2 : (0 : Int) < k := by omega
              have b3 : decide ((0 : Int) < k) = true := decide_eq_true (by omega)
              go_region_held3 (fun w' => w'.cell? ⟨gx, 2, none⟩ = some (.slice (some ⟨gX, 0, none⟩) k xx) ∧ w'.cell? ⟨gm, 2, none⟩ = some (.slice A1 k x1) ∧ w'.cell? ⟨gX, 0, none⟩ = some (.int .u32 z)) (go_keep) (first | (go_at_call 8; with_reducible refine (answers_calls _).mono ?_; rintro e w6 ⟨rfl, hb6⟩; have HS6 := Aside0.mk (HS5.out.drew.belowR hb6); clear hb6; have x6 := (HS6.out.cell 2).trans rfl; have m6 := (HS6.out.drop.drop.drop.swap.cell 2).trans rfl; have z6 := HZ.out _ HS6.out) | (go_at_call 12; with_reducible refine (marquetryref11_Sub.calls p 4278190080 z _ HSub.out).mono ?_; rintro e w7 ⟨rfl, hb7⟩; have HS7 := Aside0.mk (HS6.out.belowR hb7); clear hb7; have x7 := (HS7.out.cell 2).trans rfl; have m7 := (HS7.out.drop.drop.drop.swap.cell 2).trans rfl; have z7 := HZ.out _ HS7.out))
              go_wp2_with fail
              go_ret
              exact ⟨rfl, HS7.out.below⟩
end Go.Proofs.Ytnbocgmlcdcahaa.Pure
