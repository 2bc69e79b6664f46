/- The part of our texts, and of the print's, that these laws' proofs use. -/
import Derived.Test.YthkocpcjcpohcaaZD13
set_option linter.unusedVariables false
set_option linter.unusedSimpArgs false
section
namespace Go.Proofs.Ythkocpcjcpohcaa.P
open Go Go.RowKit Go.Proofs.YthkocpcjcpohcaaW.PrintWords Go.Proofs.YthkocpcjcpohcaaW.PrintLast Go.Proofs.YthkocpcjcpohcaaW.PrintMore Go.Proofs.Ythkocpcjcpohcaa.U Go.Proofs.Ythkocpcjcpohcaa.Pure
attribute [local go_sem] max2_int min2_int max_two min_two max_three min_three max_four min_four
theorem scan_calls {b : List Int} (hB : Bytes b) (hlen : b.length ≤ 1000000000) (A : Option Addr) (c : Nat) (W : World) (h : (Kd.int .u8).C W A b.length b) (hc : b.length ≤ c) :
    Calls Try.prog 33 #[.slice A b.length c] W fun e w' => ∃ v : Value, e = .returned (.tuple #[v, .int .i64 (scan b).2]) ∧ Kd.R k42 42 w' W.heap.size (fun _ => True) v (scan b).1 ∧ Below W.heap.size W w' := by
  obtain ⟨k, hk⟩ := (chunk_Scan_ev hB hlen).rounds
  refine (chunk_Scan.calls k A c b _ _ W h hc hk).mono ?_
  rintro e w1 ⟨v, rfl, hs, hb⟩
  exact ⟨v, rfl, Kd.S_R hs, hb⟩
theorem zeroD_K (W : World) : k27.K W z27 [.bool false, .int .i64 0, .int .i64 0, .bool false, .bool false, .int .u32 0, .int .i64 0, .slice none 0 0, .slice none 0 0, .slice none 0 0, .bool false, .bool false, .bool false, .slice none 0 0, .slice none 0 0] := k27_mk W z27 (A7 := none) (c7 := 0) (Nat.le_refl 0) (Kd.C_nil _ _) (A8 := none) (c8 := 0) (Nat.le_refl 0) (Kd.C_nil _ _) (A9 := none) (c9 := 0) (Nat.le_refl 0) (Kd.C_nil _ _) (A13 := none) (c13 := 0) (Nat.le_refl 0) (Kd.C_nil _ _) (A14 := none) (c14 := 0) (Nat.le_refl 0) (Kd.C_nil _ _)
set_option maxHeartbeats 8000000 in
set_option maxRecDepth 100000 in
theorem Parse_calls (Ab : Option Addr) (cb : Nat) (b : List Int) (most : Int) (w : World) (hr : (Kd.int .u8).C w Ab b.length b) (hcb : b.length ≤ cb) (hB : Bytes b) (hlen : b.length ≤ 1000000) :
    Calls Try.prog 14 #[.slice Ab b.length cb, .int .i64 most] w fun x w' => ∃ (ds : List Value), x = .returned (.tuple #[.agg ds.toArray, .int .i64 (parseV b most).2]) ∧ k27.K w' (parseV b most).1 ds ∧ Below w.heap.size w w' := by
  have hS0 := ((St.refl w).alloc #[.bool false, .int .i64 0, .int .i64 0, .bool false, .bool false, .int .u32 0, .int .i64 0, .slice none 0 0, .slice none 0 0, .slice none 0 0, .bool false, .bool false, .bool false, .slice none 0 0, .slice none 0 0] 27)
  obtain ⟨gr, hgr⟩ : ∃ gr, gr = w.heap.size := ⟨_, rfl⟩
  obtain ⟨W1, hW1⟩ : ∃ W1, W1 = w.alloc (.cells #[.bool false, .int .i64 0, .int .i64 0, .bool false, .bool false, .int .u32 0, .int .i64 0, .slice none 0 0, .slice none 0 0, .slice none 0 0, .bool false, .bool false, .bool false, .slice none 0 0, .slice none 0 0] 27) := ⟨_, rfl⟩
  have hsc := scan_calls hB (by omega) Ab cb W1 (Kd.C_below hr (by rw [hW1]; exact below_alloc (Below.refl _ _) _)) hcb
  have hbd := chB_scan (n := 1000000) ⟨hB, hlen⟩
  have hP : parseV b most = if (scan b).2 = 0 then endV (readV (scan b).1 most) else (z27, (scan b).2) := rfl
  obtain ⟨⟨l, e0⟩, hl⟩ : ∃ p, scan b = p := ⟨_, rfl⟩
  rw [hl] at hsc hbd hP
  dsimp only at hsc hbd hP
  rw [← hW1, ← hgr] at hS0
  have HSC := asiD hsc
  have HS0 := asiD hS0
  have HE := asiD (And.intro hgr hW1)
  clear hsc hS0 hgr hW1 hl hr
  by_cases he : e0 = 0
  case neg =>
    rw [if_neg he] at hP
    have HP := asiD hP
    have y1 : (e0 != 0) = true := by simp [he]
    clear hP he hbd
    go_enter Try.func14, Try.ntmps14
    go_upto_region 1 with (fail)
    rw [← HE.out.1, ← HE.out.2]
    go_upto_region 3 with (go_at_call 33; refine HSC.out.mono ?_; rintro e w2 ⟨v, rfl, hr, hb⟩; have HS1 := asiD (HS0.out.belowR hb); clear hr hb)
    have z2 := fun i => HS1.out.cell i
    have z3 := fun i => HS1.out.frozen i
    have HS2 := asiD (HS1.out.put15 (.bool false) (.int .i64 0) (.int .i64 0) (.bool false) (.bool false) (.int .u32 0) (.int .i64 0) (.slice none 0 0) (.slice none 0 0) (.slice none 0 0) (.bool false) (.bool false) (.bool false) (.slice none 0 0) (.slice none 0 0))
    go_wp2_with fail
    refine bodyPost_ret (results_ct rfl _ _ gr 27 #[.bool false, .int .i64 0, .int .i64 0, .bool false, .bool false, .int .u32 0, .int .i64 0, .slice none 0 0, .slice none 0 0, .slice none 0 0, .bool false, .bool false, .bool false, .slice none 0 0, .slice none 0 0] (0, 0) _ rfl HS2.out.blk Try.underlying27 rfl (by kernel_rfl)) rfl ?_
    rw [HP.out]
    exact ⟨[.bool false, .int .i64 0, .int .i64 0, .bool false, .bool false, .int .u32 0, .int .i64 0, .slice none 0 0, .slice none 0 0, .slice none 0 0, .bool false, .bool false, .bool false, .slice none 0 0, .slice none 0 0], rfl, zeroD_K _, HS2.out.below⟩
  case pos =>
    subst he
    rw [if_pos rfl] at hP
    have hrd := read_bd (most := most) hbd (by decide)
    have hol := hbd.okL (by decide)
    have hll := hbd.len
    obtain ⟨⟨y, e1⟩, hy⟩ : ∃ p, readV l most = p := ⟨_, rfl⟩
    rw [hy] at hrd hP
    dsimp only at hrd hP
    obtain ⟨sb, hsb⟩ : ∃ sb : Bool, sb = true ↔ soundP y := ⟨@decide (soundP y) (Classical.propDecidable _), by simp⟩
    have hP0 : e1 = 0 → sb = true → parseV b most = (y, 0) := fun h1 h2 => by rw [hP]; unfold endV; rw [if_pos h1, if_pos (hsb.1 h2)]
    have hP1 : e1 = 0 → sb = false → parseV b most = (z27, 3) := fun h1 h2 => by rw [hP]; unfold endV; rw [if_pos h1, if_neg fun h => by rw [hsb.2 h] at h2; simp at h2]
    have hP2 : e1 ≠ 0 → parseV b most = (z27, e1) := fun h1 => by rw [hP]; unfold endV; rw [if_neg h1]
    have HSO := asiD fun (ds : List Value) (W : World) (hk : k27.K W y ds) => Sound_calls y ds W hk (hrd.ok (Nat.le_refl _)) (hrd.weight (Nat.le_refl _)) (by have := (hrd.all (Nat.le_refl _)).1; omega) sb hsb
    have HP0 := asiD hP0
    have HP1 := asiD hP1
    have HP2 := asiD hP2
    have HY := asiD hy
    have HOL := asiD hol
    have HLL := asiD hll
    clear hP hP0 hP1 hP2 hrd hol hll hbd hsb hy
    go_enter Try.func14, Try.ntmps14
    go_upto_region 1 with (fail)
    rw [← HE.out.1, ← HE.out.2]
    go_upto_region 5 with (go_at_call 33; refine HSC.out.mono ?_; rintro e w2 ⟨v, rfl, hr, hb⟩; have HMX := asiD (show l.length ≤ 9223372036854775807 from (by obtain ⟨_, _, _, _, h⟩ := Kd.R_reads hr; exact h.2.1)); obtain ⟨B3, c3, inn, rfl, hc3, hs⟩ := HS0.out.pinRX hb hr; have HS2 := asiD hs; have HC3 := asiD hc3; clear hr hb hs hc3)
    have hs := (HS2.out.alloc #[.slice B3 l.length c3, .int .i64 most, .int .i64 0] 59)
    obtain ⟨gp, hgp⟩ : ∃ gp, gp = w2.heap.size := ⟨_, rfl⟩
    obtain ⟨W3, hW3⟩ : ∃ W3, W3 = w2.alloc (.cells #[.slice B3 l.length c3, .int .i64 most, .int .i64 0] 59) := ⟨_, rfl⟩
    rw [← hgp, ← hW3] at hs ⊢
    have hs4 := (hs.alloc #[.bool false, .int .i64 0, .int .i64 0, .bool false, .bool false, .int .u32 0, .int .i64 0, .slice none 0 0, .slice none 0 0, .slice none 0 0, .bool false, .bool false, .bool false, .slice none 0 0, .slice none 0 0] 27).unrot3
    have hgd : W3.heap.size = gp + 1 := by rw [hW3, hgp]; simp
    obtain ⟨gd, hgd⟩ : ∃ gd, gd = W3.heap.size := ⟨_, rfl⟩
    obtain ⟨W4, hW4⟩ : ∃ W4, W4 = W3.alloc (.cells #[.bool false, .int .i64 0, .int .i64 0, .bool false, .bool false, .int .u32 0, .int .i64 0, .slice none 0 0, .slice none 0 0, .slice none 0 0, .bool false, .bool false, .bool false, .slice none 0 0, .slice none 0 0] 27) := ⟨_, rfl⟩
    rw [← hgd, ← hW4] at hs4
    have hgd2 : gd = gp + 1 := hgd.trans (by assumption)
    have HEE := asiD (And.intro hgd2 hW4)
    have HS4 := asiD hs4
    have HQ4 : Aside0 (poolQ _ B3 c3 l inn) := ⟨HC3.out, HMX.out, fun W (hW : ReadsCells W _ B3 l.length inn ∧ KL k42 W l inn) => hW⟩
    have HI := asiD (is_calls nVP8X HQ4.out HS4.out)
    clear hs hs4 hgp hW3 hgd hgd2 hW4 HSC HS0 HE HS2
    go_upto_region 6 with (fail)
    rw [← HEE.out.1, ← HEE.out.2]
    clear HEE
    go_upto_if 24 with (go_at_call 34; refine HI.out.mono ?_; rintro e w5 ⟨rfl, hs⟩; have HS5 := asiD hs; clear hs)
    clear HI HS4
    go_cut [] from 24 to 44 (fun wc => ∃ (ds : List Value) (Q' : World → Prop) (l' : List Ch) (A' : Option Addr) (c' : Nat), (∀ W, Q' W → k27.K W y ds) ∧ St w wc (parA w gp l' most e1 A' c' Q' (Asrt.blk gd 27 ds.toArray * (Asrt.blk gr 27 #[.bool false, .int .i64 0, .int .i64 0, .bool false, .bool false, .int .u32 0, .int .i64 0, .slice none 0 0, .slice none 0 0, .slice none 0 0, .bool false, .bool false, .bool false, .slice none 0 0, .slice none 0 0] * Asrt.emp))))
    case first =>
      have hy := HY.out
      unfold readV at hy
      cases hB : isB l 0 nVP8X with
      | true =>
        rw [hB, if_pos rfl] at hy
        have hd := doc_calls HQ4.out HOL.out (by have := HLL.out; omega) HS5.out
        rw [hy] at hd
        have HD := asiD hd
        clear hd hy hB HS5
        go_wp2_with (go_at_call 35; refine HD.out.mono ?_; rintro e w6 ⟨ds, Q', A', c', z', rfl, hQ, hK, hq, hs⟩; obtain ⟨C7, k7, C8, k8, C9, k9, C13, k13, C14, k14, rfl, l1, g1, l2, g2, l3, g3, l4, g4, l5, g5⟩ := k27_open (hK _ hs.swap.pinGet); clear g1 g2 g3 g4 g5; have h6 := (show St w w6 (Asrt.blk gp 59 _ * (pin w Q' * (Asrt.blk gd 27 _ * _))) from hs).rot3; have z2 := fun i => h6.cell i; have z3 := fun i => h6.frozen i; have HK := asiD hK; have HS6 := asiD (h6.put15 (.bool (y).f0) (.int .i64 (y).f1) (.int .i64 (y).f2) (.bool (y).f3) (.bool (y).f4) (.int .u32 (y).f5) (.int .i64 (y).f6) (.slice C7 (y).f7.length k7) (.slice C8 (y).f8.length k8) (.slice C9 (y).f9.length k9) (.bool (y).f10) (.bool (y).f11) (.bool (y).f12) (.slice C13 (y).f13.length k13) (.slice C14 (y).f14.length k14)).rot3.rot3; clear hs hQ hK hq h6)
        go_meet
        case rel => exact ⟨_, Q', y.f14, A', c', HK.out, HS6.out⟩
      | false =>
        rw [hB, if_neg (by simp)] at hy
        obtain ⟨⟨fs, l5, e5⟩, hS⟩ : ∃ S, stillV l 0 most 0 0 = S := ⟨_, rfl⟩
        rw [hS] at hy
        injection hy with hy1 hy2
        have HY1 := asiD hy1
        have h5 := (show St w w5 (Asrt.blk gp 59 _ * (pin w _ * (Asrt.blk gd 27 _ * _))) from HS5.out).rot3
        have z2 := fun i => h5.cell i
        have z3 := fun i => h5.frozen i
        have hs6 := (h5.put15 (.bool true) (.int .i64 0) (.int .i64 0) (.bool false) (.bool false) (.int .u32 0) (.int .i64 0) (.slice none 0 0) (.slice none 0 0) (.slice none 0 0) (.bool false) (.bool false) (.bool false) (.slice none 0 0) (.slice none 0 0)).rot3.rot3
        obtain ⟨W6, hW6⟩ : ∃ W6, W6 = (((((((((((((((w5.setCell ⟨gd, 0, none⟩ (.bool true)).setCell ⟨gd, 1, none⟩ (.int .i64 0)).setCell ⟨gd, 2, none⟩ (.int .i64 0)).setCell ⟨gd, 3, none⟩ (.bool false)).setCell ⟨gd, 4, none⟩ (.bool false)).setCell ⟨gd, 5, none⟩ (.int .u32 0)).setCell ⟨gd, 6, none⟩ (.int .i64 0)).setCell ⟨gd, 7, none⟩ (.slice none 0 0)).setCell ⟨gd, 8, none⟩ (.slice none 0 0)).setCell ⟨gd, 9, none⟩ (.slice none 0 0)).setCell ⟨gd, 10, none⟩ (.bool false)).setCell ⟨gd, 11, none⟩ (.bool false)).setCell ⟨gd, 12, none⟩ (.bool false)).setCell ⟨gd, 13, none⟩ (.slice none 0 0)).setCell ⟨gd, 14, none⟩ (.slice none 0 0)) := ⟨_, rfl⟩
        rw [← hW6] at hs6
        have HW6 := asiD hW6
        have hst := still_calls 0 0 _ _ _ _ _ _ _ _ _ _ _ _ HQ4.out hs6
        rw [hS] at hst
        have HST := asiD hst
        have hc : ((e5 == 0) = false ∧ e1 = e5) ∨ ((e5 == 0) = true ∧ decide (0 < (l5.length : Int)) = false ∧ decide (0 < l5.length) = false ∧ e1 = e5) ∨ ((e5 == 0) = true ∧ decide (0 < (l5.length : Int)) = true ∧ decide (0 < l5.length) = true ∧ e1 = failE e5 3) := by
          unfold plainE at hy2
          by_cases h0 : e5 = 0
          · subst h0
            by_cases h1 : 0 < l5.length
            · exact .inr (.inr ⟨rfl, decide_eq_true (by omega), decide_eq_true h1, by rw [← hy2, if_pos ⟨rfl, h1⟩]; rfl⟩)
            · exact .inr (.inl ⟨rfl, decide_eq_false (by omega), decide_eq_false h1, by rw [← hy2, if_neg fun h => h1 h.2]⟩)
          · exact .inl ⟨by simp [h0], by rw [← hy2, if_neg fun h => h0 h.1]⟩
        clear h5 hs6 hW6 hst hS hy1 hy2 HS5
        go_upto_region 9 with (fail)
        rw [← HW6.out]
        clear z2 z3 HW6
        go_upto_region 10 with (go_at_call 36; refine HST.out.mono ?_; rintro e w7 ⟨B5, cB5, xs, A5, c5, z5, rfl, hq5, hk5, hs⟩; have m0 := (hs.cell 0).trans (show _ = some (Value.slice A5 l5.length c5) from rfl); have m2 := (hs.cell 2).trans (show _ = some (Value.int .i64 e5) from rfl); have HS7 := asiD hs; have HK5 := asiD hk5; clear hs hq5 hk5)
        have hfin : ∀ (wf : World) (e9 : Int), St w wf (parA w gp l5 most e9 A5 c5 (fun W => ReadsCells W 2 B3 l.length inn ∧ KL k42 W l inn) (Asrt.blk gd 27 #[.bool true, .int .i64 0, .int .i64 0, .bool false, .bool false, .int .u32 0, .int .i64 0, .slice none 0 0, .slice none 0 0, .slice none 0 0, .bool false, .bool false, .bool false, .slice B5 fs.length cB5, .slice none 0 0] * (Asrt.row 44 11 (.slice B5 fs.length cB5) fs.length xs * (Asrt.blk gr 27 #[.bool false, .int .i64 0, .int .i64 0, .bool false, .bool false, .int .u32 0, .int .i64 0, .slice none 0 0, .slice none 0 0, .slice none 0 0, .bool false, .bool false, .bool false, .slice none 0 0, .slice none 0 0] * Asrt.emp)))) →
            ∃ (ds : List Value) (Q' : World → Prop) (l' : List Ch) (A' : Option Addr) (c' : Nat), (∀ W, Q' W → k27.K W y ds) ∧ St w wf (parA w gp l' most e9 A' c' Q' (Asrt.blk gd 27 ds.toArray * (Asrt.blk gr 27 #[.bool false, .int .i64 0, .int .i64 0, .bool false, .bool false, .int .u32 0, .int .i64 0, .slice none 0 0, .slice none 0 0, .slice none 0 0, .bool false, .bool false, .bool false, .slice none 0 0, .slice none 0 0] * Asrt.emp))) := fun wf e9 hs => by
          have h10 := (show St w wf (Asrt.blk gp 59 _ * (pin w _ * (Asrt.blk gd 27 _ * (Asrt.row 44 11 _ _ _ * _)))) from hs).rot4
          have hle := own_le h10.row
          have hmx : fs.length ≤ 9223372036854775807 := by
            rcases h10.row.2 with ⟨_, h⟩ | ⟨_, cap, _, _, _, _, h1, h2, _⟩
            · omega
            · simp only [maxLen] at h2; omega
          have h11 := (h10.pinRowC (KL_one (HK5.out _ h10.rot3.pinGet))).swap2.pinAnd.swap
          rw [← HY1.out]
          exact ⟨[.bool true, .int .i64 0, .int .i64 0, .bool false, .bool false, .int .u32 0, .int .i64 0, .slice none 0 0, .slice none 0 0, .slice none 0 0, .bool false, .bool false, .bool false, .slice B5 fs.length cB5, .slice none 0 0], _, l5, A5, c5, fun W h => k27_mk W (plainY (fs, l5, e5)) (A7 := none) (c7 := 0) (Nat.le_refl 0) (Kd.C_nil _ _) (A8 := none) (c8 := 0) (Nat.le_refl 0) (Kd.C_nil _ _) (A9 := none) (c9 := 0) (Nat.le_refl 0) (Kd.C_nil _ _) hle (C_of_KL (HK5.out W h.2) rfl hmx h.1) (A14 := none) (c14 := 0) (Nat.le_refl 0) (Kd.C_nil _ _), h11⟩
        have HFIN := asiD hfin
        have HFC := asiD (fail_calls 3 HS7.out)
        clear hfin HST HY1
        rcases hc with ⟨y1, hee⟩ | ⟨y1, y2, y3, hee⟩ | ⟨y1, y2, y3, hee⟩
        · have HEE := asiD hee
          clear hee
          go_wp2_with fail
          go_meet
          case rel => rw [HEE.out]; exact HFIN.out _ _ HS7.out
        · have HEE := asiD hee
          clear hee
          go_wp2_with fail
          go_meet
          case rel => rw [HEE.out]; exact HFIN.out _ _ HS7.out
        · have HEE := asiD hee
          clear hee
          go_wp2_with (go_at_call 37; refine HFC.out.mono ?_; rintro e w8 ⟨rfl, hs⟩; have HS8 := asiD hs; clear hs)
          go_meet
          case rel => rw [HEE.out]; exact HFIN.out _ _ HS8.out
    case rest =>
      clear HS5 HQ4 HY HOL HLL HC3 HMX
      obtain ⟨ds, Q', l', A', c', hK, hs⟩ := hcut
      obtain ⟨C7, k7, C8, k8, C9, k9, C13, k13, C14, k14, rfl, l1, g1, l2, g2, l3, g3, l4, g4, l5, g5⟩ := k27_open (hK _ hs.swap.pinGet)
      clear g1 g2 g3 g4 g5 l1 l2 l3 l4 l5
      have m2 := (hs.cell 2).trans (show _ = some (Value.int .i64 e1) from rfl)
      have z := fun i => ((show St w wc (Asrt.blk gp 59 _ * (pin w Q' * (Asrt.blk gd 27 #[.bool y.f0, .int .i64 y.f1, .int .i64 y.f2, .bool y.f3, .bool y.f4, .int .u32 y.f5, .int .i64 y.f6, .slice C7 y.f7.length k7, .slice C8 y.f8.length k8, .slice C9 y.f9.length k9, .bool y.f10, .bool y.f11, .bool y.f12, .slice C13 y.f13.length k13, .slice C14 y.f14.length k14] * _))) from hs).rot3.cell i)
      have HK := asiD hK
      have HSC := asiD hs
      clear hK
      by_cases he1 : e1 = 0
      · have y1 : (e1 == 0) = true := by simp [he1]
        have HSND := asiD (HSO.out _ wc (HK.out _ hs.swap.pinGet))
        cases hsb : sb with
        | true =>
          have HP := asiD (HP0.out he1 hsb)
          rw [hsb] at HSND
          have y2 : (e1 != 0) = false := by simp [he1]
          clear he1 hs HP0 HP1 HP2 HSO
          go_upto_region 16 with (go_at_call 12; refine HSND.out.mono ?_; rintro e w8 ⟨rfl, hd⟩; have hs8 := HSC.out.belowR hd; have n2 := (hs8.cell 2).trans (show _ = some (Value.int .i64 e1) from rfl); have HS8 := asiD hs8; clear hs8 hd)
          have h9 := (show St w w8 (Asrt.blk gp 59 _ * (pin w Q' * (Asrt.blk gd 27 #[.bool y.f0, .int .i64 y.f1, .int .i64 y.f2, .bool y.f3, .bool y.f4, .int .u32 y.f5, .int .i64 y.f6, .slice C7 y.f7.length k7, .slice C8 y.f8.length k8, .slice C9 y.f9.length k9, .bool y.f10, .bool y.f11, .bool y.f12, .slice C13 y.f13.length k13, .slice C14 y.f14.length k14] * (Asrt.blk gr 27 _ * Asrt.emp)))) from HS8.out).rot3
          clear z n2
          have z := fun i => h9.cell i
          have h10 := h9.rot4
          have z2 := fun i => h10.cell i
          have z3 := fun i => h10.frozen i
          have HS9 := asiD (h10.put15 (.bool y.f0) (.int .i64 y.f1) (.int .i64 y.f2) (.bool y.f3) (.bool y.f4) (.int .u32 y.f5) (.int .i64 y.f6) (.slice C7 y.f7.length k7) (.slice C8 y.f8.length k8) (.slice C9 y.f9.length k9) (.bool y.f10) (.bool y.f11) (.bool y.f12) (.slice C13 y.f13.length k13) (.slice C14 y.f14.length k14))
          clear h9 h10
          go_wp2_with fail
          refine bodyPost_ret (results_ct rfl _ _ gr 27 #[.bool y.f0, .int .i64 y.f1, .int .i64 y.f2, .bool y.f3, .bool y.f4, .int .u32 y.f5, .int .i64 y.f6, .slice C7 y.f7.length k7, .slice C8 y.f8.length k8, .slice C9 y.f9.length k9, .bool y.f10, .bool y.f11, .bool y.f12, .slice C13 y.f13.length k13, .slice C14 y.f14.length k14] (0, 0) _ rfl HS9.out.blk Try.underlying27 rfl (by kernel_rfl)) rfl ?_
          rw [HP.out]
          exact ⟨[.bool y.f0, .int .i64 y.f1, .int .i64 y.f2, .bool y.f3, .bool y.f4, .int .u32 y.f5, .int .i64 y.f6, .slice C7 y.f7.length k7, .slice C8 y.f8.length k8, .slice C9 y.f9.length k9, .bool y.f10, .bool y.f11, .bool y.f12, .slice C13 y.f13.length k13, .slice C14 y.f14.length k14], rfl, HK.out _ HS9.out.rot4.pinGet, HS9.out.below⟩
        | false =>
          have HP := asiD (HP1.out he1 hsb)
          rw [hsb] at HSND
          clear he1 hs HP0 HP1 HP2 HSO
          go_upto_region 13 with (go_at_call 12; refine HSND.out.mono ?_; rintro e w8 ⟨rfl, hd⟩; have hs8 := HSC.out.belowR hd; have n2 := (hs8.cell 2).trans (show _ = some (Value.int .i64 e1) from rfl); have HS8 := asiD hs8; clear hs8 hd)
          have f2 := HS8.out.frozen 2
          have HS9 := asiD (HS8.out.set 2 (.int .i64 3))
          obtain ⟨W9, hW9⟩ : ∃ W9, W9 = w8.setCell ⟨gp, 2, none⟩ (.int .i64 3) := ⟨_, rfl⟩
          rw [← hW9] at HS9
          have HW9 := asiD hW9
          clear hW9
          have n3 := (HS9.out.cell 2).trans (show _ = some (Value.int .i64 3) from rfl)
          rw [HW9.out] at n3
          go_upto_region 14 with (fail)
          rw [← HW9.out] at n3 ⊢
          clear HW9 f2 n2 HS8 m2 z
          have h10 := (show St w W9 (Asrt.blk gp 59 _ * (pin w Q' * (Asrt.blk gd 27 #[.bool y.f0, .int .i64 y.f1, .int .i64 y.f2, .bool y.f3, .bool y.f4, .int .u32 y.f5, .int .i64 y.f6, .slice C7 y.f7.length k7, .slice C8 y.f8.length k8, .slice C9 y.f9.length k9, .bool y.f10, .bool y.f11, .bool y.f12, .slice C13 y.f13.length k13, .slice C14 y.f14.length k14] * (Asrt.blk gr 27 _ * Asrt.emp)))) from HS9.out).rot4
          have n3 := (h10.swap.cell 2).trans (show _ = some (Value.int .i64 3) from rfl)
          have z2 := fun i => h10.cell i
          have z3 := fun i => h10.frozen i
          have h11 := h10.put15 (.bool false) (.int .i64 0) (.int .i64 0) (.bool false) (.bool false) (.int .u32 0) (.int .i64 0) (.slice none 0 0) (.slice none 0 0) (.slice none 0 0) (.bool false) (.bool false) (.bool false) (.slice none 0 0) (.slice none 0 0)
          have n4 := (h11.swap.cell 2).trans (show _ = some (Value.int .i64 3) from rfl)
          have HS11 := asiD h11.drew
          clear h10 h11
          go_upto_region 15 with (fail)
          go_region
          go_wp2_with fail
          refine bodyPost_ret (results_ct rfl _ _ gr 27 #[.bool false, .int .i64 0, .int .i64 0, .bool false, .bool false, .int .u32 0, .int .i64 0, .slice none 0 0, .slice none 0 0, .slice none 0 0, .bool false, .bool false, .bool false, .slice none 0 0, .slice none 0 0] (0, 0) _ rfl HS11.out.blk Try.underlying27 rfl (by kernel_rfl)) rfl ?_
          rw [HP.out]
          exact ⟨[.bool false, .int .i64 0, .int .i64 0, .bool false, .bool false, .int .u32 0, .int .i64 0, .slice none 0 0, .slice none 0 0, .slice none 0 0, .bool false, .bool false, .bool false, .slice none 0 0, .slice none 0 0], rfl, zeroD_K _, HS11.out.below⟩
      · have y1 : (e1 == 0) = false := by simp [he1]
        have HP := asiD (HP2.out he1)
        have y2 : (e1 != 0) = true := by simp [he1]
        clear he1 hs HP0 HP1 HP2 HSO
        clear z
        have h10 := (show St w wc (Asrt.blk gp 59 _ * (pin w Q' * (Asrt.blk gd 27 #[.bool y.f0, .int .i64 y.f1, .int .i64 y.f2, .bool y.f3, .bool y.f4, .int .u32 y.f5, .int .i64 y.f6, .slice C7 y.f7.length k7, .slice C8 y.f8.length k8, .slice C9 y.f9.length k9, .bool y.f10, .bool y.f11, .bool y.f12, .slice C13 y.f13.length k13, .slice C14 y.f14.length k14] * (Asrt.blk gr 27 _ * Asrt.emp)))) from HSC.out).rot4
        have n3 := (h10.swap.cell 2).trans (show _ = some (Value.int .i64 e1) from rfl)
        have z2 := fun i => h10.cell i
        have z3 := fun i => h10.frozen i
        have h11 := h10.put15 (.bool false) (.int .i64 0) (.int .i64 0) (.bool false) (.bool false) (.int .u32 0) (.int .i64 0) (.slice none 0 0) (.slice none 0 0) (.slice none 0 0) (.bool false) (.bool false) (.bool false) (.slice none 0 0) (.slice none 0 0)
        have n4 := (h11.swap.cell 2).trans (show _ = some (Value.int .i64 e1) from rfl)
        have HS11 := asiD h11.drew
        clear h10 h11
        go_upto_region 15 with (fail)
        go_region
        go_wp2_with fail
        refine bodyPost_ret (results_ct rfl _ _ gr 27 #[.bool false, .int .i64 0, .int .i64 0, .bool false, .bool false, .int .u32 0, .int .i64 0, .slice none 0 0, .slice none 0 0, .slice none 0 0, .bool false, .bool false, .bool false, .slice none 0 0, .slice none 0 0] (0, 0) _ rfl HS11.out.blk Try.underlying27 rfl (by kernel_rfl)) rfl ?_
        rw [HP.out]
        exact ⟨[.bool false, .int .i64 0, .int .i64 0, .bool false, .bool false, .int .u32 0, .int .i64 0, .slice none 0 0, .slice none 0 0, .slice none 0 0, .bool false, .bool false, .bool false, .slice none 0 0, .slice none 0 0], rfl, zeroD_K _, HS11.out.below⟩
end Go.Proofs.Ythkocpcjcpohcaa.P
end
section
namespace Go.Proofs.Ythkocpcjcpohcaa.P
open Go Go.RowKit Go.Proofs.YthkocpcjcpohcaaW.PrintWords Go.Proofs.YthkocpcjcpohcaaW.PrintLast Go.Proofs.YthkocpcjcpohcaaW.PrintMore Go.Proofs.Ythkocpcjcpohcaa.U Go.Proofs.Ythkocpcjcpohcaa.Pure
theorem next_hit {nm : ByteArray} {b : List Int} {t : List Ch} : nextV (⟨nm, b⟩ :: t) 0 nm true = (b, true, t, 0) := by simp [nextV, headB]
theorem next_not {l : List Ch} {e : Int} {nm : ByteArray} : nextV l e nm false = ([], false, l, e) := if_neg (by simp)
theorem next_err {l : List Ch} {e : Int} {nm : ByteArray} {b : Bool} (h : e ≠ 0) : nextV l e nm b = ([], false, l, e) := if_neg fun x => h x.2
def opt (has : Bool) (nm : ByteArray) (b : List Int) : List Ch := if has = true then [⟨nm, b⟩] else []
theorem add_opt {has : Bool} {nm : ByteArray} {b : List Int} {l : List Ch} : addL has nm b l = l ++ opt has nm b := by
  unfold addL opt
  cases has <;> simp
theorem next_opt {has : Bool} {nm : ByteArray} {b : List Int} {t : List Ch} (h : toldP has b) : nextV (opt has nm b ++ t) 0 nm has = (b, has, t, 0) := by
  unfold opt
  cases has with
  | false =>
    have hb : b = [] := by rcases h with h | h <;> simp_all
    rw [next_not, hb]; rfl
  | true => exact next_hit
theorem num_at {pre post : List Int} {n : Nat} {x : Int} {a k : Int} (ha : a = pre.length) (hk : k = n) (h1 : 1 ≤ n) (h8 : n ≤ 8) (h0 : 0 ≤ x) (hx : x < 256 ^ n) : numV (pre ++ (Pure.bytes n x ++ post)) a k = x := by
  subst ha hk
  have hl := bytes_len n x
  unfold numV
  rw [get_good ⟨by omega, by omega, by omega, by simp only [List.length_append]; omega, by simp only [List.length_append, hl]; omega⟩]
  rw [show ((pre.length : Int)).toNat = pre.length by omega, show ((n : Int)).toNat = n by omega, drop_left rfl, take_left hl, num_bytes n x h0 hx]
theorem put1 {x : Int} {n : Int} {r : List Nm} : putV (⟨x, n⟩ :: r) = Pure.bytes n.toNat x ++ putV r := by
  unfold putV
  rw [List.flatMap_cons]
theorem put_nil : putV [] = [] := rfl
theorem top_len (y : Dc) : (putV (topV y)).length = 10 := by simp [topV, putV, bytes_len]
theorem top_num (y : Dc) (h1 : 1 ≤ y.f1 ∧ y.f1 ≤ 16777216) (h2 : 1 ≤ y.f2 ∧ y.f2 ≤ 16777216) : numV (putV (topV y)) 0 4 = flagsI y ∧ numV (putV (topV y)) 4 3 = y.f1 - 1 ∧ numV (putV (topV y)) 7 3 = y.f2 - 1 := by
  have hf := flags_bd y
  have e : putV (topV y) = Pure.bytes 4 (flagsI y) ++ (Pure.bytes 3 (y.f1 - 1) ++ (Pure.bytes 3 (y.f2 - 1) ++ [])) := by
    unfold topV
    rw [put1, put1, put1, put_nil]
    rfl
  rw [e]
  refine ⟨num_at (pre := []) (n := 4) rfl rfl (by decide) (by decide) hf.1 (by (have : (256 : Int) ^ 4 = 4294967296 := by decide); omega), ?_, ?_⟩
  · exact num_at (n := 3) (by rw [bytes_len]; rfl) rfl (by decide) (by decide) (by omega) (by (have : (256 : Int) ^ 3 = 16777216 := by decide); omega)
  · rw [← List.append_assoc]
    exact num_at (n := 3) (by rw [List.length_append, bytes_len, bytes_len]; rfl) rfl (by decide) (by decide) (by omega) (by (have : (256 : Int) ^ 3 = 16777216 := by decide); omega)
theorem flag_all (y : Dc) : Go.bits .andNot .i64 (flagsI y) 62 = 0 ∧ flagB (flagsI y) 16 = y.f3 ∧ flagB (flagsI y) 2 = y.f4 ∧ flagB (flagsI y) 32 = y.f10 ∧ flagB (flagsI y) 8 = y.f11 ∧ flagB (flagsI y) 4 = y.f12 := by
  unfold flagsI bitI flagB
  cases y.f10 <;> cases y.f3 <;> cases y.f11 <;> cases y.f12 <;> cases y.f4 <;> decide
theorem head_top (y : Dc) (h1 : 1 ≤ y.f1 ∧ y.f1 ≤ 16777216) (h2 : 1 ≤ y.f2 ∧ y.f2 ≤ 16777216) : headOK (putV (topV y)) true ∧ headN (putV (topV y)) true = flagsI y ∧ headW (putV (topV y)) true 4 = y.f1 ∧ headW (putV (topV y)) true 7 = y.f2 ∧ headE (putV (topV y)) true 0 = 0 := by
  obtain ⟨n1, n2, n3⟩ := top_num y h1 h2
  have hk : headOK (putV (topV y)) true := ⟨rfl, top_len y, by rw [n1]; exact (flag_all y).1⟩
  refine ⟨hk, ?_, ?_, ?_, if_pos hk⟩
  · unfold headN; rw [if_pos hk, n1]
  · unfold headW; rw [if_pos hk, n2]; omega
  · unfold headW; rw [if_pos hk, n3]; omega
theorem pay_not (k : Int) : decide (payS k = nALPH) = false := by
  unfold payS
  split <;> decide
theorem pay_loss (k : Int) : decide (payS k = nLOSS) = decide (k = 2) := by
  unfold payS
  split <;> simp_all
theorem is_hit {nm nm2 : ByteArray} {b : List Int} {t : List Ch} : isB (⟨nm, b⟩ :: t) 0 nm2 = decide (nm = nm2) := by simp [isB, headB]
theorem pic_read {f : Fr} (hk : kindB f = true) (t : List Ch) : alphaP (alphaV f ++ (⟨payS f.f7, f.f9⟩ :: t)) 0 = (f.f8, ⟨payS f.f7, f.f9⟩ :: t, 0) ∧ kindP (⟨payS f.f7, f.f9⟩ :: t) 0 = f.f7 ∧
    dataP (alphaV f ++ (⟨payS f.f7, f.f9⟩ :: t)) 0 = (f.f9, true, t, 0) := by
  have hk' := of_decide_eq_true hk
  have a1 : alphaP (alphaV f ++ (⟨payS f.f7, f.f9⟩ :: t)) 0 = (f.f8, ⟨payS f.f7, f.f9⟩ :: t, 0) := by
    unfold alphaP alphaV
    by_cases h8 : 0 < f.f8.length
    · have h7 : f.f7 = 2 := by omega
      rw [if_pos h8, List.cons_append, List.nil_append, is_hit, if_pos (by decide), next_hit]
      dsimp only
      rw [is_hit, pay_loss, if_neg (by simp [h7]; intro h; simp [h] at h8)]
    · have h80 : f.f8 = [] := List.length_eq_zero_iff.1 (by omega)
      rw [if_neg h8, List.nil_append, is_hit, pay_not, if_neg (by simp), h80]
  have a2 : kindP (⟨payS f.f7, f.f9⟩ :: t) 0 = f.f7 := by
    unfold kindP
    rw [is_hit, pay_loss]
    rcases hk' with h | h
    · rw [if_pos (by simp [h]), h]
    · rw [if_neg (by simp [h.1]), h.1]
  refine ⟨a1, a2, ?_⟩
  unfold dataP
  rw [a1]
  dsimp only
  rw [a2, next_hit]
theorem pic_eq (f : Fr) : picV f = alphaV f ++ (⟨payS f.f7, f.f9⟩ :: f.f10) := by unfold picV; simp
theorem head_len (f : Fr) : (putV (headV f)).length = 16 := by simp [headV, putV, bytes_len]
theorem half_even {x : Int} (h0 : 0 ≤ x) (h : x % 2 = 0) : 2 * x.tdiv 2 = x := by
  rw [Int.tdiv_eq_ediv_of_nonneg h0]; omega
theorem way_bits (f : Fr) : bit8 (wayI f) 2 = f.f5 ∧ bit8 (wayI f) 1 = f.f6 := by
  unfold wayI bitI bit8
  cases f.f5 <;> cases f.f6 <;> decide
theorem part_read {f : Fr} (hm : mayP f) (hk : kindB f = true) (e0 : f.f0 % 2 = 0) (e1 : f.f1 % 2 = 0) (hb : ∀ x ∈ picV f, Bytes x.f1 ∧ x.f1.length < 4294967296) :
    partF (movedV f).f1 = f ∧ partE (movedV f).f1 0 = 0 := by
  have hx := hm.x0
  have hy := hm.x1
  have hw := hm.x2
  have hh := hm.x3
  have hd := hm.x4
  have hbd := way_bd f
  have p3 : (256 : Int) ^ 3 = 16777216 := by decide
  have d0 : 0 ≤ f.f0.tdiv 2 ∧ f.f0.tdiv 2 < 16777216 := by rw [Int.tdiv_eq_ediv_of_nonneg hx.1]; omega
  have d1 : 0 ≤ f.f1.tdiv 2 ∧ f.f1.tdiv 2 < 16777216 := by rw [Int.tdiv_eq_ediv_of_nonneg hy.1]; omega
  have eb : (movedV f).f1 = putV (headV f) ++ lay (picV f) := rfl
  have e : (movedV f).f1 = Pure.bytes 3 (f.f0.tdiv 2) ++ (Pure.bytes 3 (f.f1.tdiv 2) ++ (Pure.bytes 3 (f.f2 - 1) ++ (Pure.bytes 3 (f.f3 - 1) ++ (Pure.bytes 3 f.f4 ++ (Pure.bytes 1 (wayI f) ++ lay (picV f)))))) := by
    rw [eb]
    unfold headV
    rw [put1, put1, put1, put1, put1, put1, put_nil]
    simp only [List.append_assoc, List.append_nil]
    rfl
  have n0 : numV (movedV f).f1 0 3 = f.f0.tdiv 2 := by
    rw [e]; exact num_at (pre := []) (n := 3) rfl rfl (by decide) (by decide) (by omega) (by omega)
  have n1 : numV (movedV f).f1 3 3 = f.f1.tdiv 2 := by
    rw [e]; exact num_at (n := 3) (by rw [bytes_len]; rfl) rfl (by decide) (by decide) (by omega) (by omega)
  have n2 : numV (movedV f).f1 6 3 = f.f2 - 1 := by
    rw [e, ← List.append_assoc]; exact num_at (n := 3) (by simp [bytes_len]) rfl (by decide) (by decide) (by omega) (by omega)
  have n3 : numV (movedV f).f1 9 3 = f.f3 - 1 := by
    rw [e, ← List.append_assoc, ← List.append_assoc]; exact num_at (n := 3) (by simp [bytes_len]) rfl (by decide) (by decide) (by omega) (by omega)
  have n4 : numV (movedV f).f1 12 3 = f.f4 := by
    rw [e, ← List.append_assoc, ← List.append_assoc, ← List.append_assoc]; exact num_at (n := 3) (by simp [bytes_len]) rfl (by decide) (by decide) (by omega) (by omega)
  have n5 : rd (movedV f).f1 15 = wayI f := by
    have e2 : (movedV f).f1 = (Pure.bytes 3 (f.f0.tdiv 2) ++ Pure.bytes 3 (f.f1.tdiv 2) ++ Pure.bytes 3 (f.f2 - 1) ++ Pure.bytes 3 (f.f3 - 1) ++ Pure.bytes 3 f.f4) ++ (wayI f :: lay (picV f)) := by
      rw [e]
      have : Pure.bytes 1 (wayI f) = [wayI f] := by
        show [wayI f % 256] = [wayI f]
        rw [Int.emod_eq_of_lt (by omega) (by omega)]
      rw [this]
      simp
    rw [e2]
    unfold rd
    rw [show (15 : Int).toNat = 15 from rfl, List.getD_eq_getElem?_getD, List.getElem?_append_right (by simp [bytes_len])]
    simp [bytes_len]
  have dr : (movedV f).f1.drop 16 = lay (picV f) := by rw [eb, drop_left (head_len f)]
  have hi := inner_lay (picV f) (lay (picV f)).length [] (pic_ok hm.mo) hb (Nat.le_refl _)
  rw [List.nil_append] at hi
  have hP : partOK (movedV f).f1 := ⟨by rw [eb, List.length_append, head_len]; omega, by rw [n5]; omega, by rw [dr, hi]⟩
  have hr := pic_read hk f.f10
  rw [← pic_eq] at hr
  obtain ⟨r1, r2, r3⟩ := hr
  constructor
  · unfold partF
    rw [if_pos hP, dr, hi]
    dsimp only
    rw [r1, r3]
    unfold frameQ
    dsimp only
    rw [n0, n1, n2, n3, n4, n5, r2, (way_bits f).1, (way_bits f).2, half_even hx.1 e0, half_even hy.1 e1]
    simp
  · unfold partE
    rw [if_pos hP, dr, hi]
    dsimp only
    rw [r3]
    dsimp only
    unfold restE
    rw [if_neg (by rw [hm.mo]; simp)]
    rfl
theorem parts_read {fs : List Fr} {t : List Ch} (ht : isB t 0 nANMF = false) (most : Int) (h : ∀ f ∈ fs, partF (movedV f).f1 = f ∧ partE (movedV f).f1 0 = 0) : ∀ (n : Nat) (acc : List Fr), fs.length ≤ n →
    ((acc.length + fs.length : Int) ≤ most → partsL n (fs.map movedV ++ t) 0 most acc = (acc ++ fs, t, 0)) ∧ (¬ (acc.length + fs.length : Int) ≤ most → fs ≠ [] → (partsL n (fs.map movedV ++ t) 0 most acc).2.2 = 4) := by
  induction fs with
  | nil =>
    intro n acc _
    refine ⟨fun _ => ?_, fun _ h => absurd rfl h⟩
    cases n with
    | zero => simp [partsL]
    | succ n => rw [List.map_nil, List.nil_append, partsL, ht, if_neg (by simp)]; simp
  | cons f fs ih =>
    intro n acc hn
    cases n with
    | zero => simp at hn
    | succ n =>
      have hf := h f List.mem_cons_self
      have hr : isB ((f :: fs).map movedV ++ t) 0 nANMF = true := by
        rw [List.map_cons, List.cons_append]
        exact is_hit.trans (decide_eq_true rfl)
      have hnx : nextV ((f :: fs).map movedV ++ t) 0 nANMF true = ((movedV f).f1, true, fs.map movedV ++ t, 0) := next_hit
      rw [partsL, if_pos hr, hnx]
      dsimp only
      rw [hf.1, hf.2]
      have hi := ih (fun x hx => h x (List.mem_cons_of_mem _ hx)) n (acc ++ [f]) (by simp at hn; omega)
      simp only [List.length_append, List.length_cons, List.length_nil] at hi ⊢
      refine ⟨fun hm => ?_, fun hm _ => ?_⟩
      · rw [if_neg (by omega), hi.1 (by omega)]
        simp
      · by_cases hc : most ≤ acc.length
        · rw [if_pos hc]; rfl
        · rw [if_neg hc]
          refine hi.2 (by omega) fun h0 => ?_
          subst h0
          simp at hm
          omega
def tailL (y : Dc) : List Ch := opt y.f11 nEXIF y.f8 ++ (opt y.f12 nXMP y.f9 ++ y.f14)
theorem chunks_eq {y : Dc} (h0 : y.f0 = false) : chunksV y = ⟨nVP8X, putV (topV y)⟩ :: (opt y.f10 nICCP y.f7 ++ (opt y.f4 nANIM (putV (aniV y)) ++ (y.f13.flatMap (partV y.f4) ++ tailL y))) := by
  unfold chunksV
  rw [if_neg (by rw [h0]; simp)]
  unfold c6V c5V c4V c3V c2V c1V tailL
  simp only [add_opt, List.take_length, List.append_assoc, List.cons_append, List.nil_append]
theorem own_not {s : ByteArray} (h : ownB s = true) {m : ByteArray} (hm : m ∈ names) : s ≠ m := by
  rintro rfl
  unfold ownB at h
  rw [Bool.and_eq_true, Bool.not_eq_true', List.any_eq_false] at h
  exact h.2 s hm (by simp)
theorem more_head {l : List Ch} (h : moreB l = true) {m : ByteArray} (hm : m ∈ names) : headB l m = false := by
  cases l with
  | nil => rfl
  | cons x t => exact decide_eq_false (own_not (List.all_eq_true.1 h x List.mem_cons_self) hm)
theorem opt_head {has : Bool} {nm m : ByteArray} {b : List Int} {t : List Ch} (hn : nm ≠ m) (ht : headB t m = false) : headB (opt has nm b ++ t) m = false := by
  unfold opt
  cases has with
  | false => exact ht
  | true => exact decide_eq_false hn
theorem tail_part {y : Dc} (h : moreB y.f14 = true) : isB (tailL y) 0 nANMF = false := by
  unfold isB tailL
  rw [opt_head (by decide) (opt_head (by decide) (more_head h (by simp [names])))]
  rfl
theorem ani_len (y : Dc) : (putV (aniV y)).length = 6 := by simp [aniV, putV, bytes_len]
theorem ani_num (y : Dc) (h5 : 0 ≤ y.f5 ∧ y.f5 < 4294967296) (h6 : 0 ≤ y.f6 ∧ y.f6 < 65536) : numV (putV (aniV y)) 0 4 = y.f5 ∧ numV (putV (aniV y)) 4 2 = y.f6 := by
  have e : putV (aniV y) = Pure.bytes 4 y.f5 ++ (Pure.bytes 2 y.f6 ++ []) := by
    unfold aniV
    rw [put1, put1, put_nil]
    rfl
  rw [e]
  refine ⟨num_at (pre := []) (n := 4) rfl rfl (by decide) (by decide) h5.1 (by (have : (256 : Int) ^ 4 = 4294967296 := by decide); omega), ?_⟩
  exact num_at (n := 2) (by rw [bytes_len]; rfl) rfl (by decide) (by decide) h6.1 (by (have : (256 : Int) ^ 2 = 65536 := by decide); omega)
theorem flat_moved (l : List Fr) : l.flatMap (partV true) = l.map movedV := by
  induction l with
  | nil => rfl
  | cons f l ih => rw [List.flatMap_cons, ih]; rfl
theorem tail_read {y : Dc} (h1 : toldP y.f11 y.f8) (h2 : toldP y.f12 y.f9) (h3 : moreB y.f14 = true) : tailV (flagsI y) (tailL y) 0 = (y.f8, y.f9, y.f14, 0) := by
  unfold tailV tailL
  rw [(flag_all y).2.2.2.2.1, (flag_all y).2.2.2.2.2, next_opt h1]
  dsimp only
  rw [next_opt h2]
  dsimp only
  unfold restE
  rw [if_neg (by rw [h3]; simp)]
theorem tail_err {n : Int} {l : List Ch} {e : Int} (h : e ≠ 0) : (tailV n l e).2.2.2 = e := by
  unfold tailV
  rw [next_err h]
  dsimp only
  rw [next_err h]
  unfold restE
  rw [if_neg fun x => h x.1]
theorem parts_none {l : List Ch} (h : isB l 0 nANMF = false) (most : Int) (n : Nat) : partsL n l 0 most [] = ([], l, 0) := by
  cases n with
  | zero => rfl
  | succ n => rw [partsL, if_neg (by rw [h]; simp)]
theorem frames_read {y : Dc} (hs : soundP y) (h0 : y.f0 = false) (h5 : 0 ≤ y.f5 ∧ y.f5 < 4294967296) (hfr : y.f4 = true → ∀ f ∈ y.f13, partF (movedV f).f1 = f ∧ partE (movedV f).f1 0 = 0) (most : Int) :
    ((y.f13.length : Int) ≤ most ∨ y.f13 = [] → framesV y.f4 (opt y.f4 nANIM (putV (aniV y)) ++ (y.f13.flatMap (partV y.f4) ++ tailL y)) 0 most y.f1 y.f2 = (y.f5, y.f6, y.f13, tailL y, 0)) ∧
    (¬ (y.f13.length : Int) ≤ most → y.f13 ≠ [] → (framesV y.f4 (opt y.f4 nANIM (putV (aniV y)) ++ (y.f13.flatMap (partV y.f4) ++ tailL y)) 0 most y.f1 y.f2).2.2.2.2 = 4) := by
  obtain ⟨_, hs⟩ := hs
  rw [if_neg (by rw [h0]; simp)] at hs
  obtain ⟨hw, _, h61, h62, hnm, hmo, _, _, _, hf⟩ := hs
  cases h4 : y.f4 with
  | true =>
    have hpr := parts_read (fs := y.f13) (t := tailL y) (tail_part hmo) most (hfr h4)
    have hk : aniOK (putV (aniV y)) true := ⟨rfl, ani_len y⟩
    have hv : framesV true (opt true nANIM (putV (aniV y)) ++ (y.f13.flatMap (partV true) ++ tailL y)) 0 most y.f1 y.f2 = (y.f5, y.f6, partsL (y.f13.map movedV ++ tailL y).length (y.f13.map movedV ++ tailL y) 0 most []) := by
      unfold framesV
      rw [if_pos rfl]
      have e : opt true nANIM (putV (aniV y)) ++ (y.f13.flatMap (partV true) ++ tailL y) = ⟨nANIM, putV (aniV y)⟩ :: (y.f13.map movedV ++ tailL y) := by rw [flat_moved]; rfl
      rw [e, next_hit]
      dsimp only
      unfold movesV
      rw [if_pos hk, (ani_num y h5 ⟨h61, h62⟩).1, (ani_num y h5 ⟨h61, h62⟩).2]
    rw [hv]
    have hl : y.f13.length ≤ (y.f13.map movedV ++ tailL y).length := by rw [List.length_append, List.length_map]; omega
    have hq := hpr (y.f13.map movedV ++ tailL y).length [] hl
    simp only [List.length_nil, List.nil_append] at hq
    constructor
    · rintro (h | h)
      · rw [hq.1 (by omega)]
      · rw [h, List.map_nil, List.nil_append, parts_none (tail_part hmo)]
    · intro h1 h2
      exact hq.2 (by omega) h2
  | false =>
    obtain ⟨hl1, hb, hlp⟩ := hnm h4
    obtain ⟨f, hff⟩ : ∃ f, y.f13 = [f] := List.length_eq_one_iff.1 (by omega)
    have hP := hf f (by rw [hff]; exact List.mem_cons_self)
    unfold frameP at hP
    rw [if_neg (by rw [h4]; simp)] at hP
    obtain ⟨_, hk, _, _, g0, g1, g2, g3, g4, g5, g6, g10⟩ := hP
    have g10' : f.f10 = [] := List.length_eq_zero_iff.1 g10
    have e : opt false nANIM (putV (aniV y)) ++ (y.f13.flatMap (partV false) ++ tailL y) = alphaV f ++ (⟨payS f.f7, f.f9⟩ :: tailL y) := by
      rw [hff]
      show [] ++ ((picV f ++ []) ++ tailL y) = _
      rw [pic_eq, g10']
      simp
    obtain ⟨r1, r2, r3⟩ := pic_read hk (tailL y)
    rw [e]
    unfold framesV
    rw [if_neg (by simp)]
    unfold stillV
    rw [hff]
    constructor
    · intro h
      have hm : 1 ≤ most := by
        rcases h with h | h
        · simpa using h
        · simp at h
      rw [if_neg (by omega), r3]
      have : stillF (alphaV f ++ (⟨payS f.f7, f.f9⟩ :: tailL y)) 0 y.f1 y.f2 = f := by
        unfold stillF
        rw [r1, r3]
        dsimp only
        rw [r2, ← g2, ← g3]
        cases f
        simp_all
      rw [this, hb, hlp]
    · intro h _
      rw [if_pos ⟨rfl, by simp at h; omega⟩]
theorem doc_read {y : Dc} (hs : soundP y) (h0 : y.f0 = false) (h5 : 0 ≤ y.f5 ∧ y.f5 < 4294967296) (hfr : y.f4 = true → ∀ f ∈ y.f13, partF (movedV f).f1 = f ∧ partE (movedV f).f1 0 = 0) (most : Int) :
    ((y.f13.length : Int) ≤ most ∨ y.f13 = [] → docV (chunksV y) 0 most = (y, 0)) ∧ (¬ (y.f13.length : Int) ≤ most → y.f13 ≠ [] → (docV (chunksV y) 0 most).2 = 4) := by
  have hfrm := frames_read hs h0 h5 hfr most
  obtain ⟨_, hs⟩ := hs
  rw [if_neg (by rw [h0]; simp)] at hs
  obtain ⟨hw, _, h61, h62, hnm, hmo, t1, t2, t3, hf⟩ := hs
  obtain ⟨q1, q2, q3, q4, q5⟩ := head_top y hw.1 ⟨hw.2.1, hw.2.2⟩
  obtain ⟨_, p1, p2, p3, p4, p5⟩ := flag_all y
  unfold docV
  rw [chunks_eq h0, next_hit]
  dsimp only
  rw [q2, q3, q4, q5]
  unfold bodyV
  rw [p3, next_opt t1, p2]
  dsimp only
  constructor
  · intro h
    rw [hfrm.1 h]
    dsimp only
    rw [tail_read t2 t3 hmo]
    unfold docOf
    dsimp only
    rw [p1, p2, p3, p4, p5, ← h0]
  · intro h1 h2
    have he := hfrm.2 h1 h2
    rw [he, tail_err (by decide)]
theorem plain_eq {y : Dc} {f : Fr} (hk : kindB f = true) (hf : y.f13 = [f]) (hy : y = plainD f.f7 f.f9) : chunksV y = [⟨payS f.f7, f.f9⟩] := by
  subst hy
  unfold chunksV
  rw [if_pos (show (plainD f.f7 f.f9).f0 = true from rfl)]
  have e : f = ⟨0, 0, 0, 0, 0, false, false, f.f7, [], f.f9, []⟩ := by
    have : [f] = [⟨0, 0, 0, 0, 0, false, false, f.f7, [], f.f9, []⟩] := hf.symm
    simpa using this
  show picV (⟨0, 0, 0, 0, 0, false, false, f.f7, [], f.f9, []⟩ : Fr) = _
  unfold picV alphaV
  rfl
theorem plain_still {k : Int} {b : List Int} (hk : k = 1 ∨ k = 2) (t : List Ch) (most : Int) : stillV (⟨payS k, b⟩ :: t) 0 most 0 0 = if most < 1 then ([], ⟨payS k, b⟩ :: t, 4) else ([⟨0, 0, 0, 0, 0, false, false, k, [], b, []⟩], t, 0) := by
  have hkb : kindB ⟨0, 0, 0, 0, 0, false, false, k, [], b, []⟩ = true := decide_eq_true (by
    rcases hk with rfl | rfl
    · exact .inr ⟨rfl, rfl⟩
    · exact .inl rfl)
  obtain ⟨r1, r2, r3⟩ := pic_read hkb t
  have e : alphaV ⟨0, 0, 0, 0, 0, false, false, k, [], b, []⟩ = [] := rfl
  rw [e, List.nil_append] at r1 r3
  dsimp only at r1 r2 r3
  unfold stillV
  by_cases h : most < 1
  · rw [if_pos ⟨rfl, h⟩, if_pos h]
  · rw [if_neg fun x => h x.2, if_neg h, r3]
    unfold stillF
    rw [r1, r3]
    dsimp only
    rw [r2]
theorem pay_head (k : Int) (b : List Int) (t : List Ch) : isB (⟨payS k, b⟩ :: t) 0 nVP8X = false := by
  rw [is_hit]
  unfold payS
  split <;> decide
theorem read_back {y : Dc} (hs : soundP y) (h5 : 0 ≤ y.f5 ∧ y.f5 < 4294967296) (hfr : y.f0 = false → y.f4 = true → ∀ f ∈ y.f13, partF (movedV f).f1 = f ∧ partE (movedV f).f1 0 = 0) (most : Int) :
    ((y.f13.length : Int) ≤ most ∨ y.f13 = [] → readV (chunksV y) most = (y, 0)) ∧ (¬ (y.f13.length : Int) ≤ most → y.f13 ≠ [] → (readV (chunksV y) most).2 = 4) := by
  cases h0 : y.f0 with
  | false =>
    have hb : isB (chunksV y) 0 nVP8X = true := by rw [chunks_eq h0, is_hit]; rfl
    unfold readV
    rw [hb, if_pos rfl]
    exact doc_read hs h0 h5 (hfr h0) most
  | true =>
    obtain ⟨_, hs⟩ := hs
    rw [if_pos h0] at hs
    obtain ⟨f, hf, hk, hy⟩ := hs
    have hk' : f.f7 = 1 ∨ f.f7 = 2 := by
      have := of_decide_eq_true hk
      omega
    rw [plain_eq hk hf hy]
    unfold readV
    rw [pay_head, if_neg (by simp), plain_still hk', hf]
    constructor
    · intro h
      have hm : 1 ≤ most := by
        rcases h with h | h
        · simpa using h
        · simp at h
      rw [if_neg (by omega)]
      unfold plainY plainE
      dsimp only
      rw [if_neg (by simp)]
      exact Prod.ext hy.symm rfl
    · intro h _
      rw [if_pos (by simp at h; omega)]
      rfl
def frN (f : Fr) : Nat := f.f8.length + f.f9.length + 20 * f.f10.length + Pure.weight f.f10
def sumN {α : Type} (g : α → Nat) : List α → Nat
  | [] => 0
  | x :: l => g x + sumN g l
theorem sumN_mem {α : Type} {g : α → Nat} : ∀ {l : List α} {x : α}, x ∈ l → g x ≤ sumN g l
  | y :: l, x, h => by
    rcases List.mem_cons.1 h with rfl | h
    · exact Nat.le_add_right _ _
    · exact Nat.le_trans (sumN_mem h) (Nat.le_add_left _ _)
theorem weight_mem : ∀ {l : List Ch} {x : Ch}, x ∈ l → x.f0.size + x.f1.length ≤ Pure.weight l
  | y :: l, x, h => by
    rcases List.mem_cons.1 h with rfl | h
    · exact Nat.le_add_right _ _
    · exact Nat.le_trans (weight_mem h) (Nat.le_add_left _ _)
def smallN (y : Dc) : Nat := y.f7.length + y.f8.length + y.f9.length + 20 * y.f13.length + 20 * y.f14.length + Pure.weight y.f14 + sumN frN y.f13
theorem fr_mem {l : List Fr} {f : Fr} (h : f ∈ l) : f.f8.length + f.f9.length + 20 * f.f10.length + Pure.weight f.f10 ≤ sumN frN l := sumN_mem (g := frN) h
theorem pic_w (f : Fr) : (picV f).length ≤ 2 + f.f10.length ∧ Pure.weight (picV f) ≤ 8 + f.f8.length + f.f9.length + Pure.weight f.f10 := by
  have hp : (payS f.f7).size = 4 := by unfold payS; split <;> rfl
  have ha : nALPH.size = 4 := rfl
  rw [pic_eq]
  unfold alphaV
  split
  · simp only [List.cons_append, List.nil_append, List.length_cons, Pure.weight, hp, ha]; omega
  · simp only [List.nil_append, List.length_cons, Pure.weight, hp]; omega
theorem part_w (m : Bool) (f : Fr) : (partV m f).length + Pure.weight (partV m f) ≤ 39 + frN f := by
  have hp := pic_w f
  unfold partV frN
  split
  · have hl := lay_len (picV f)
    have ha : nANMF.size = 4 := rfl
    have e : (movedV f).f1.length = 16 + (lay (picV f)).length := by
      show (putV (headV f) ++ lay (picV f)).length = _
      rw [List.length_append, head_len]
    simp only [List.length_cons, List.length_nil, Pure.weight, e]
    show 0 + 1 + (nANMF.size + _ + 0) ≤ _
    omega
  · omega
theorem parts_w (m : Bool) : ∀ l : List Fr, (l.flatMap (partV m)).length + Pure.weight (l.flatMap (partV m)) ≤ 39 * l.length + sumN frN l
  | [] => by simp [Pure.weight]
  | f :: l => by
    have h1 := part_w m f
    have h2 := parts_w m l
    rw [List.flatMap_cons, List.length_append, weight_append, List.length_cons]
    show _ ≤ _ + (frN f + sumN frN l)
    omega
theorem opt_w {has : Bool} {nm : ByteArray} {b : List Int} (h : nm.size = 4) : (opt has nm b).length + Pure.weight (opt has nm b) ≤ 5 + b.length := by
  unfold opt
  cases has
  · simp [Pure.weight]
  · simp [Pure.weight, h]; omega
section
variable {y : Dc}
theorem chunks_w (hs : soundP y) (hn : smallN y < 20000) : (chunksV y).length + Pure.weight (chunksV y) < 60000 := by
  unfold smallN at hn
  cases h0 : y.f0 with
  | false =>
    have h1 := parts_w y.f4 y.f13
    have h2 := opt_w (has := y.f10) (nm := nICCP) (b := y.f7) rfl
    have h3 := opt_w (has := y.f4) (nm := nANIM) (b := putV (aniV y)) rfl
    have h4 := opt_w (has := y.f11) (nm := nEXIF) (b := y.f8) rfl
    have h5 := opt_w (has := y.f12) (nm := nXMP) (b := y.f9) rfl
    have h6 := top_len y
    have h7 := ani_len y
    have h8 : nVP8X.size = 4 := rfl
    rw [chunks_eq h0]
    unfold tailL
    simp only [List.length_cons, List.length_append, Pure.weight, weight_append, h8]
    omega
  | true =>
    obtain ⟨_, hs⟩ := hs
    rw [if_pos h0] at hs
    obtain ⟨f, hf, hk, hy⟩ := hs
    have hp : (payS f.f7).size = 4 := by unfold payS; split <;> rfl
    have h1 := fr_mem (show f ∈ y.f13 by rw [hf]; exact List.mem_cons_self)
    rw [plain_eq hk hf hy]
    simp only [List.length_cons, List.length_nil, Pure.weight, hp]
    omega
theorem opt_mem {has : Bool} {nm : ByteArray} {b : List Int} {x : Ch} (h : x ∈ opt has nm b) : x = ⟨nm, b⟩ := by
  unfold opt at h
  cases has
  · simp at h
  · simpa using h
theorem putV_bytes : ∀ l : List Nm, Bytes (putV l)
  | [] => fun x hx => by simp [putV] at hx
  | n :: l => by
    rw [show putV (n :: l) = Pure.bytes n.f1.toNat n.f0 ++ putV l from List.flatMap_cons]
    exact (bytes_bytes _ _).app (putV_bytes l)
theorem pic_mem {f : Fr} (ho : okFr f) (hm : moreB f.f10 = true) : ∀ x ∈ picV f, okName x.f0 = true ∧ Bytes x.f1 := fun x hx => by
  refine ⟨pic_ok hm x hx, ?_⟩
  rw [pic_eq] at hx
  unfold alphaV at hx
  rcases List.mem_append.1 hx with h | h
  · split at h
    · rw [List.mem_singleton.1 h]; exact ho.al.1
    · simp at h
  · rcases List.mem_cons.1 h with rfl | h
    · exact ho.da.1
    · exact (ho.mo.2 x h).2.1
theorem more_of (hs : soundP y) (h0 : y.f0 = false) {f : Fr} (hf : f ∈ y.f13) : moreB f.f10 = true := by
  obtain ⟨_, hs⟩ := hs
  rw [if_neg (by rw [h0]; simp)] at hs
  have hP := hs.2.2.2.2.2.2.2.2.2 f hf
  unfold frameP at hP
  obtain ⟨_, _, _, _, hP⟩ := hP
  split at hP
  · exact hP
  · rw [List.length_eq_zero_iff.1 hP.2.2.2.2.2.2.2]; rfl
theorem mayP_of (hs : soundP y) (h0 : y.f0 = false) (hn : smallN y < 20000) {f : Fr} (hf : f ∈ y.f13) : mayP f := by
  have hm := more_of hs h0 hf
  have h1 := fr_mem hf
  have h2 := pic_w f
  unfold smallN at hn
  obtain ⟨_, hs⟩ := hs
  rw [if_neg (by rw [h0]; simp)] at hs
  have hw := hs.1
  unfold wideP at hw
  have hP := hs.2.2.2.2.2.2.2.2.2 f hf
  unfold frameP sidesP at hP
  obtain ⟨⟨⟨a0, a1, a2, a3, a4, a5⟩, _⟩, _, b0, b1, _⟩ := hP
  exact ⟨⟨a0, by omega⟩, ⟨a1, by omega⟩, ⟨a2, by omega⟩, ⟨a3, by omega⟩, ⟨b0, b1⟩, hm, by omega⟩
theorem chunks_mem (hs : soundP y) (ho : okDc y) : ∀ x ∈ chunksV y, okName x.f0 = true ∧ Bytes x.f1 := by
  intro x hx
  cases h0 : y.f0 with
  | false =>
    have hmo : moreB y.f14 = true := by
      obtain ⟨_, hs⟩ := hs
      rw [if_neg (by rw [h0]; simp)] at hs
      exact hs.2.2.2.2.2.1
    rw [chunks_eq h0] at hx
    unfold tailL at hx
    simp only [List.mem_cons, List.mem_append, List.mem_flatMap] at hx
    rcases hx with rfl | hx | hx | ⟨f, hf, hx⟩ | hx | hx | hx
    · exact ⟨(by decide : okName nVP8X = true), putV_bytes _⟩
    · rw [opt_mem hx]; exact ⟨(by decide : okName nICCP = true), ho.pr.1⟩
    · rw [opt_mem hx]; exact ⟨(by decide : okName nANIM = true), putV_bytes _⟩
    · have hp := pic_mem (ho.fr.2 f hf) (more_of hs h0 hf)
      unfold partV at hx
      split at hx
      · rw [List.mem_singleton.1 hx]
        exact ⟨by show okName nANMF = true; decide, (putV_bytes _).app (lay_bytes fun x hx => (hp x hx).2)⟩
      · exact hp x hx
    · rw [opt_mem hx]; exact ⟨(by decide : okName nEXIF = true), ho.ex.1⟩
    · rw [opt_mem hx]; exact ⟨(by decide : okName nXMP = true), ho.xm.1⟩
    · exact ⟨own_name (List.all_eq_true.1 hmo x hx), (ho.mo.2 x hx).2.1⟩
  | true =>
    obtain ⟨_, hs⟩ := hs
    rw [if_pos h0] at hs
    obtain ⟨f, hf, hk, hy⟩ := hs
    rw [plain_eq hk hf hy] at hx
    rw [List.mem_singleton.1 hx]
    refine ⟨?_, (ho.fr.2 f (by rw [hf]; exact List.mem_cons_self)).da.1⟩
    show okName (payS f.f7) = true
    unfold payS
    split <;> decide
theorem file_sz (hs : soundP y) (hn : smallN y < 20000) : (lay (chunksV y)).length < 400000 ∧ (file (chunksV y)).length < 400012 := by
  have h1 := chunks_w hs hn
  have h2 := lay_len (chunksV y)
  have h3 := file_len (chunksV y)
  omega
theorem parse_back (hs : soundP y) (ho : okDc y) (hn : smallN y < 20000) (most : Int) :
    ((y.f13.length : Int) ≤ most ∨ y.f13 = [] → parseV (file (chunksV y)) most = (y, 0)) ∧ (¬ (y.f13.length : Int) ≤ most → y.f13 ≠ [] → parseV (file (chunksV y)) most = (z27, 4)) := by
  have hm := chunks_mem hs ho
  have hz := file_sz hs hn
  have hwt := chunks_w hs hn
  have hsc := scan_file (l := chunksV y) (fun x hx => (hm x hx).1) (fun x hx => ⟨(hm x hx).2, by have := weight_mem hx; omega⟩) (by omega) []
  rw [List.append_nil] at hsc
  have hb := read_back hs ⟨ho.i5.1, by have := ho.i5.2; omega⟩ (fun h0 _ f hf => by
    have hP : frameP f y := by
      obtain ⟨_, hs⟩ := hs
      rw [if_neg (by rw [h0]; simp)] at hs
      exact hs.2.2.2.2.2.2.2.2.2 f hf
    unfold frameP sidesP at hP
    have hp := pic_mem (ho.fr.2 f hf) (more_of hs h0 hf)
    have h1 := fr_mem hf
    have h2 := pic_w f
    unfold smallN at hn
    exact part_read (mayP_of hs h0 hn hf) hP.2.1 hP.1.2.1 hP.1.2.2 fun x hx => ⟨(hp x hx).2, by have := weight_mem hx; omega⟩) most
  have e : parseV (file (chunksV y)) most = endV (readV (chunksV y) most) := by
    unfold parseV
    rw [hsc, if_pos rfl]
  rw [e]
  constructor
  · intro h
    rw [hb.1 h]
    unfold endV
    rw [if_pos rfl, if_pos hs]
  · intro h1 h2
    unfold endV
    rw [hb.2 h1 h2, if_neg (by decide)]
theorem mayD_of (hs : soundP y) (h0 : y.f0 = false) (ho : okDc y) (hn : smallN y < 20000) : mayD y := by
  have hwt := chunks_w hs hn
  have hmp := fun f (hf : f ∈ y.f13) => mayP_of hs h0 hn hf
  have hcl : chunksV y = c6V y ++ y.f14 := by unfold chunksV; rw [if_neg (by rw [h0]; simp)]
  rw [hcl] at hwt
  have hpn : ∀ f ∈ y.f13, f.f10.length ≤ 1000000 := fun f hf => by
    have h1 := fr_mem hf
    unfold smallN at hn
    omega
  obtain ⟨_, hs⟩ := hs
  rw [if_neg (by rw [h0]; simp)] at hs
  obtain ⟨hw, _, h61, h62, _⟩ := hs
  exact ⟨h0, ho, hw.1, ⟨hw.2.1, hw.2.2⟩, ⟨ho.i5.1, by have := ho.i5.2; omega⟩, ⟨h61, h62⟩, fun _ => hmp, hpn, by omega⟩
theorem all_small (hn : smallN y < 20000) : (allCh y).length ≤ 1001000 ∧ weightI y ≤ 4611686018427387904 := by
  unfold smallN at hn
  have hf := flat_len (l := y.f13) (g := fun f : Fr => f.f10) (m := 1000) fun f hf => by
    have h1 := fr_mem hf
    show f.f10.length ≤ 1000
    omega
  have h2 : y.f13.length * 1000 ≤ 1000 * 1000 := Nat.mul_le_mul_right _ (by omega)
  have e : allCh y = y.f14 ++ y.f13.flatMap (fun f : Fr => f.f10) := rfl
  have hl : (allCh y).length ≤ 1001000 := by rw [e, List.length_append]; omega
  refine ⟨hl, ?_⟩
  have hc : ∀ c ∈ allCh y, wCh c ≤ 60000 := fun c hc => by
    unfold wCh
    rw [e] at hc
    rcases List.mem_append.1 hc with hc | hc
    · have := weight_mem hc; omega
    · obtain ⟨f, hf, hc⟩ := List.mem_flatMap.1 hc
      have h1 := fr_mem hf
      have h3 := weight_mem (show c ∈ f.f10 from hc)
      omega
  have h3 : sumW wFr y.f13 ≤ y.f13.length * 60000 := sumW_le fun f hf => by
    have h1 := fr_mem hf
    unfold wFr
    omega
  have h4 := sumW_le hc
  unfold weightI
  omega
end
set_option maxHeartbeats 8000000 in
set_option maxRecDepth 100000 in
theorem PrintS_calls (y : Dc) (ds : List Value) (w : World) (hy : k27.K w y ds) (ho : okDc y) (hn : smallN y < 20000) (b : Bool) (hb : b = true ↔ soundP y) :
    Calls Try.prog 11 #[.agg ds.toArray] w fun e w' => ∃ v : Value, e = .returned (.tuple #[v, .int .i64 (printE b)]) ∧ Kd.R (Kd.int .u8) 5 w' w.heap.size (fun _ => True) v (printV b (chunksV y)) ∧ Below w.heap.size w w' := by
  have ha := all_small hn
  refine Print_calls y ds (chunksV y) w hy ho ha.2 (by omega) b hb (fun ht W hW => ?_) (fun ht => ?_)
  · have hs := hb.1 ht
    have hyW := k27.K_below hW hy
    cases h0 : y.f0 with
    | false =>
      have hcl : chunksV y = c6V y ++ y.f14 := by unfold chunksV; rw [if_neg (by rw [h0]; simp)]
      rw [hcl]
      exact chunksW_calls y ds W hyW (mayD_of hs h0 ho hn)
    | true =>
      have hcl : chunksV y = picV (rd_T44 y.f13 0) := by unfold chunksV; rw [if_pos h0]; rfl
      rw [hcl]
      have hs2 := hs.2
      rw [if_pos h0] at hs2
      obtain ⟨f, hf, hk, _⟩ := hs2
      have e : rd_T44 y.f13 0 = f := by rw [hf]; rfl
      have hfm : f ∈ y.f13 := by rw [hf]; exact List.mem_cons_self
      have h1 := fr_mem hfm
      unfold smallN at hn
      rw [e]
      exact chunksP_calls y ds W f e.symm hyW h0 (by rw [hf]; exact Nat.zero_lt_one) (ho.fr.2 f hfm) (by omega)
  · have hs := hb.1 ht
    have h1 := chunks_w hs hn
    exact ⟨by omega, fun x hx => (chunks_mem hs ho x hx).1⟩
end Go.Proofs.Ythkocpcjcpohcaa.P
end
section
namespace Go.Proofs.Ythkocpcjcpohcaa.P
open Go Go.RowKit Go.Proofs.YthkocpcjcpohcaaW.PrintWords Go.Proofs.YthkocpcjcpohcaaW.PrintLast Go.Proofs.YthkocpcjcpohcaaW.PrintMore Go.Proofs.Ythkocpcjcpohcaa.U Go.Proofs.Ythkocpcjcpohcaa.Pure
attribute [local go_sem] max2_int min2_int max_two min_two max_three min_three max_four min_four
theorem file_bytes {l : List Ch} (h : ∀ x ∈ l, Bytes x.f1) : Bytes (file l) := by
  unfold file
  have h1 : Bytes [82, 73, 70, 70] := fun x hx => by simp only [List.mem_cons, List.not_mem_nil, or_false] at hx; omega
  have h2 : Bytes [87, 69, 66, 80] := fun x hx => by simp only [List.mem_cons, List.not_mem_nil, or_false] at hx; omega
  exact ((h1.app (bytes_bytes 4 _)).app h2).app (lay_bytes h)
theorem plain_sound {k : Int} {d : List Int} (hk : k = 1 ∨ k = 2) (hd : d.length ≤ 1000000) : soundP (plainD k d) := by
  refine ⟨⟨?_, (by decide : ((1 : Nat) : Int) ≤ 4096)⟩, ?_⟩
  · show ((0 : Nat) : Int) + ((0 : Nat) : Int) + ((0 : Nat) : Int) + ((((0 : Nat) : Int) + (d.length : Int) + 32) + 0) + 0 ≤ _
    omega
  · rw [if_pos (show (plainD k d).f0 = true from rfl)]
    refine ⟨⟨0, 0, 0, 0, 0, false, false, k, [], d, []⟩, rfl, decide_eq_true ?_, rfl⟩
    rcases hk with rfl | rfl
    · exact .inr ⟨rfl, rfl⟩
    · exact .inl rfl
set_option maxHeartbeats 8000000 in
set_option maxRecDepth 100000 in
theorem answers_calls (w : World) : Calls Try.prog 10 #[] w fun e w' => e = .returned (.bool true) ∧ Below w.heap.size w w' := by
  have hs : soundP (plainD 1 [7]) := plain_sound (.inl rfl) (by decide)
  have ho : okDc (plainD 1 [7]) := plain_ok ⟨by decide, by decide⟩ ⟨fun x hx => by rw [List.mem_singleton.1 hx]; exact ⟨by decide, by decide⟩, by decide⟩
  have hn : smallN (plainD 1 [7]) < 20000 := by decide
  have hp := (parse_back hs ho hn 1).1 (.inl (by decide))
  have hz := file_sz hs hn
  have hB := file_bytes fun x hx => (chunks_mem hs ho x hx).2
  have hal := all_small hn
  have hlen : (((plainD 1 [7]).f13.length : Int) == 1) = true := rfl
  obtain ⟨y, hy⟩ : ∃ y, plainD 1 [7] = y := ⟨_, rfl⟩
  have hK : ∀ W, Below ((w.alloc (.cells #[.int .u8 7] 5)).alloc (.cells #[.int .i64 0, .int .i64 0, .int .i64 0, .int .i64 0, .int .i64 0, .bool false, .bool false, .int .i64 1, .slice none 0 0, .slice (some ⟨w.heap.size, 0, none⟩) 1 1, .slice none 0 0] 44)).heap.size ((w.alloc (.cells #[.int .u8 7] 5)).alloc (.cells #[.int .i64 0, .int .i64 0, .int .i64 0, .int .i64 0, .int .i64 0, .bool false, .bool false, .int .i64 1, .slice none 0 0, .slice (some ⟨w.heap.size, 0, none⟩) 1 1, .slice none 0 0] 44)) W →
      k27.K W (plainD 1 [7]) [.bool true, .int .i64 0, .int .i64 0, .bool false, .bool false, .int .u32 0, .int .i64 0, .slice none 0 0, .slice none 0 0, .slice none 0 0, .bool false, .bool false, .bool false, .slice (some ⟨w.heap.size + 1, 0, none⟩) 1 1, .slice none 0 0] := fun W hW => by
    have hd : (Kd.int .u8).C (w.alloc (.cells #[.int .u8 7] 5)) (some ⟨w.heap.size, 0, none⟩) 1 [7] := Kd.C_of_reads (readsInt_of.1 (rowReads ((St.refl w).allocRow 5 .u8 [7] (by decide))))
    have hh := heap_alloc_new (w.alloc (.cells #[.int .u8 7] 5)) (.cells #[.int .i64 0, .int .i64 0, .int .i64 0, .int .i64 0, .int .i64 0, .bool false, .bool false, .int .i64 1, .slice none 0 0, .slice (some ⟨w.heap.size, 0, none⟩) 1 1, .slice none 0 0] 44)
    rw [show (w.alloc (.cells #[.int .u8 7] 5)).heap.size = w.heap.size + 1 by simp] at hh
    refine k27.K_below hW (k27_mk _ (plainD 1 [7]) (A7 := none) (c7 := 0) (Nat.le_refl 0) (Kd.C_nil _ _) (A8 := none) (c8 := 0) (Nat.le_refl 0) (Kd.C_nil _ _) (A9 := none) (c9 := 0) (Nat.le_refl 0) (Kd.C_nil _ _) (Nat.le_refl 1) (C_one (cs := [.int .i64 0, .int .i64 0, .int .i64 0, .int .i64 0, .int .i64 0, .bool false, .bool false, .int .i64 1, .slice none 0 0, .slice (some ⟨w.heap.size, 0, none⟩) 1 1, .slice none 0 0]) hh ?_) (A14 := none) (c14 := 0) (Nat.le_refl 0) (Kd.C_nil _ _))
    exact k44_mk _ ⟨0, 0, 0, 0, 0, false, false, 1, [], [7], []⟩ (A8 := none) (c8 := 0) (Nat.le_refl 0) (Kd.C_nil _ _) (Nat.le_refl 1) (Kd.C_below hd (below_alloc (Below.refl _ _) _)) (A10 := none) (c10 := 0) (Nat.le_refl 0) (Kd.C_nil _ _)
  rw [hy] at hs ho hn hp hz hB hal hlen hK
  have HPR := asiD fun (ds : List Value) (W : World) (hk : k27.K W y ds) => (PrintS_calls y ds W hk ho hn true (by simp [hs]) : Calls Try.prog 11 #[.agg ds.toArray] W fun e w' => ∃ v : Value, e = .returned (.tuple #[v, .int .i64 0]) ∧ Kd.R (Kd.int .u8) 5 w' W.heap.size (fun _ => True) v (file (chunksV y)) ∧ Below W.heap.size W w')
  have HPA := asiD fun (A : Option Addr) (c : Nat) (W : World) (h : (Kd.int .u8).C W A (file (chunksV y)).length (file (chunksV y))) (hc : (file (chunksV y)).length ≤ c) => (by have h := Parse_calls A c (file (chunksV y)) 1 W h hc hB (by omega); rw [hp] at h; exact h : Calls Try.prog 14 #[.slice A (file (chunksV y)).length c, .int .i64 1] W fun x w' => ∃ (ds : List Value), x = .returned (.tuple #[.agg ds.toArray, .int .i64 0]) ∧ k27.K w' y ds ∧ Below W.heap.size W w')
  have HSO := asiD fun (ds : List Value) (W : World) (hk : k27.K W y ds) => Sound_calls y ds W hk ho hal.2 (by omega) true (by simp [hs])
  have HSA := asiD fun (cs ds : List Value) (W : World) (h1 : k27.K W y cs) (hk : k27.K W y ds) => (by have h := Same_calls y y cs ds W h1 hk ho ho; rwa [decide_eq_true rfl] at h : Calls Try.prog 19 #[.agg cs.toArray, .agg ds.toArray] W fun e w' => e = .returned (.bool true) ∧ Below W.heap.size W w')
  have HK := asiD hK
  have HP := asiD hp
  clear hs ho hn hp hz hB hal hK hy
  go_enter Try.func10, Try.ntmps10
  go_upto_region 2 with (fail)
  obtain ⟨W2, hW2⟩ : ∃ W2, W2 = (w.alloc (.cells #[.int .u8 7] 5)).alloc (.cells #[.int .i64 0, .int .i64 0, .int .i64 0, .int .i64 0, .int .i64 0, .bool false, .bool false, .int .i64 1, .slice none 0 0, .slice (some ⟨w.heap.size, 0, none⟩) 1 1, .slice none 0 0] 44) := ⟨_, rfl⟩
  have hg2 : W2.heap.size = w.heap.size + 1 + 1 := by rw [hW2]; simp
  have hb2 : Below w.heap.size w W2 := by rw [hW2]; exact below_alloc (below_alloc (Below.refl _ _) _) _
  rw [← hW2] at HK ⊢
  rw [← hg2]
  clear hW2
  have HS3 := asiD ((St.refl W2).alloc #[.bool true, .int .i64 0, .int .i64 0, .bool false, .bool false, .int .u32 0, .int .i64 0, .slice none 0 0, .slice none 0 0, .slice none 0 0, .bool false, .bool false, .bool false, .slice (some ⟨w.heap.size + 1, 0, none⟩) 1 1, .slice none 0 0] 27)
  obtain ⟨W3, hW3⟩ : ∃ W3, W3 = W2.alloc (.cells #[.bool true, .int .i64 0, .int .i64 0, .bool false, .bool false, .int .u32 0, .int .i64 0, .slice none 0 0, .slice none 0 0, .slice none 0 0, .bool false, .bool false, .bool false, .slice (some ⟨w.heap.size + 1, 0, none⟩) 1 1, .slice none 0 0] 27) := ⟨_, rfl⟩
  obtain ⟨gd, hgd⟩ : ∃ gd, gd = W2.heap.size := ⟨_, rfl⟩
  rw [← hW3, ← hgd] at HS3 ⊢
  have HB2 := asiD hb2
  clear hW3 hg2 hb2 hgd
  have z := fun i => HS3.out.cell i
  go_upto_region 3 with (go_at_call 11; refine (HPR.out _ _ (HK.out _ HS3.out.below)).mono ?_; rintro e w4 ⟨v, rfl, hr, hb⟩; obtain ⟨B, c, rfl, hc, hC⟩ := Kd.R_reads hr; have HX := asiD (HPA.out B c w4 hC hc); have HS4 := asiD (HS3.out.belowR hb); clear hr hb hc hC)
  clear z
  go_upto_region 4 with (go_at_call 14; refine HX.out.mono ?_; rintro e w5 ⟨ds, rfl, hk, hb⟩; obtain ⟨C7, k7, C8, k8, C9, k9, C13, k13, C14, k14, rfl, l1, g1, l2, g2, l3, g3, l4, g4, l5, g5⟩ := k27_open hk; clear g1 g2 g3 g4 g5 l1 l2 l3 l4 l5; have HS5 := asiD ((HS4.out.belowR hb).alloc #[.bool y.f0, .int .i64 y.f1, .int .i64 y.f2, .bool y.f3, .bool y.f4, .int .u32 y.f5, .int .i64 y.f6, .slice C7 y.f7.length k7, .slice C8 y.f8.length k8, .slice C9 y.f9.length k9, .bool y.f10, .bool y.f11, .bool y.f12, .slice C13 y.f13.length k13, .slice C14 y.f14.length k14] 27); have HK5 := asiD (k27.K_below (below_alloc (Below.refl _ _) (.cells #[.bool y.f0, .int .i64 y.f1, .int .i64 y.f2, .bool y.f3, .bool y.f4, .int .u32 y.f5, .int .i64 y.f6, .slice C7 y.f7.length k7, .slice C8 y.f8.length k8, .slice C9 y.f9.length k9, .bool y.f10, .bool y.f11, .bool y.f12, .slice C13 y.f13.length k13, .slice C14 y.f14.length k14] 27)) hk); clear hk hb)
  clear HX HS3 HS4
  obtain ⟨W5, hW5⟩ : ∃ W5, W5 = w5.alloc (.cells #[.bool y.f0, .int .i64 y.f1, .int .i64 y.f2, .bool y.f3, .bool y.f4, .int .u32 y.f5, .int .i64 y.f6, .slice C7 y.f7.length k7, .slice C8 y.f8.length k8, .slice C9 y.f9.length k9, .bool y.f10, .bool y.f11, .bool y.f12, .slice C13 y.f13.length k13, .slice C14 y.f14.length k14] 27) := ⟨_, rfl⟩
  obtain ⟨g5, hg5⟩ : ∃ g5, g5 = w5.heap.size := ⟨_, rfl⟩
  rw [← hW5, ← hg5] at HS5 ⊢
  rw [← hW5] at HK5
  clear hW5 hg5
  have z := fun i => HS5.out.cell i
  have z1 := fun i => HS5.out.swap.cell i
  go_wp2_with (first
    | (go_at_call 12; refine (HSO.out _ _ (HK.out _ HS5.out.below)).mono ?_; rintro e w6 ⟨rfl, hb⟩; have HS6 := asiD (HS5.out.belowR hb); have z2 := fun i => HS6.out.cell i; have z3 := fun i => HS6.out.swap.cell i; have HK6 := asiD (k27.K_below hb HK5.out); clear hb z z1)
    | (go_at_call 19; refine (HSA.out _ _ _ HK6.out (HK.out _ HS6.out.below)).mono ?_; rintro e w7 ⟨rfl, hb⟩; have HS7 := asiD (HS6.out.belowR hb); have z4 := fun i => HS7.out.cell i; clear hb z2 z3))
  go_ret
  exact ⟨rfl, bthen HB2.out HS7.out.below⟩
theorem weight_take : ∀ (l : List Ch) (k : Nat), Pure.weight (l.take k) ≤ Pure.weight l
  | [], k => by simp
  | x :: l, 0 => by simp [Pure.weight]
  | x :: l, k + 1 => by
    have := weight_take l k
    simp only [List.take_succ_cons, Pure.weight]
    omega
theorem sumN_take {α : Type} (g : α → Nat) : ∀ (l : List α) (k : Nat), sumN g (l.take k) ≤ sumN g l
  | [], k => by simp
  | x :: l, 0 => by simp [sumN]
  | x :: l, k + 1 => by
    have := sumN_take g l k
    simp only [List.take_succ_cons, sumN]
    omega
theorem sumN_app {α : Type} (g : α → Nat) : ∀ (l m : List α), sumN g (l ++ m) = sumN g l + sumN g m
  | [], m => by simp [sumN]
  | x :: l, m => by
    have := sumN_app g l m
    simp only [List.cons_append, sumN]
    omega
theorem weight_snoc {l : List Ch} {k : Nat} (h : k < l.length) : Pure.weight (l.take (k + 1)) = Pure.weight (l.take k) + ((l.getD k z42).f0.size + (l.getD k z42).f1.length) := by
  rw [getD_cut z42 h, weight_append]
  simp [Pure.weight]
theorem sumN_snoc {l : List Fr} {k : Nat} (h : k < l.length) : sumN frN (l.take (k + 1)) = sumN frN (l.take k) + frN (l.getD k z44) := by
  rw [getD_cut z44 h, sumN_app]
  simp [sumN]
set_option maxHeartbeats 8000000 in
set_option maxRecDepth 100000 in
theorem small_calls (y : Dc) (ds : List Value) (w : World) (hy : k27.K w y ds) (ho : okDc y) :
    Calls Try.prog 9 #[.agg ds.toArray] w fun e w' => e = .returned (.bool (decide (smallN y < 20000))) ∧ Below w.heap.size w w' := by
  obtain ⟨B1, d1, B2, d2, B3, d3, B4, d4, B5, d5, rfl, m1, h1, m2, h2, m3, h3, m4, h4, m5, h5⟩ := k27_open hy
  have hp7 := ho.pr.2
  have hp8 := ho.ex.2
  have hp9 := ho.xm.2
  have hfl := ho.fr.1
  have hcl := ho.mo.1
  have p1 : (y.f7.length : Int) + y.f8.length ≤ 9223372036854775807 := by omega
  have w1 : IntKind.i64.wrap ((y.f7.length : Int) + y.f8.length) = (y.f7.length : Int) + y.f8.length := wi64 (by omega) (by omega)
  have w2 : IntKind.i64.wrap ((y.f7.length : Int) + y.f8.length + y.f9.length) = (y.f7.length : Int) + y.f8.length + y.f9.length := wi64 (by omega) (by omega)
  have w3 : IntKind.i64.wrap (20 * (y.f13.length : Int)) = 20 * (y.f13.length : Int) := wi64 (by omega) (by omega)
  have w4 : IntKind.i64.wrap ((y.f7.length : Int) + y.f8.length + y.f9.length + 20 * y.f13.length) = (y.f7.length : Int) + y.f8.length + y.f9.length + 20 * y.f13.length := wi64 (by omega) (by omega)
  have w5 : IntKind.i64.wrap (20 * (y.f14.length : Int)) = 20 * (y.f14.length : Int) := wi64 (by omega) (by omega)
  have w6 : IntKind.i64.wrap ((y.f7.length : Int) + y.f8.length + y.f9.length + 20 * y.f13.length + 20 * y.f14.length) = (y.f7.length : Int) + y.f8.length + y.f9.length + 20 * y.f13.length + 20 * y.f14.length := wi64 (by omega) (by omega)
  obtain ⟨b0, hb0⟩ : ∃ b0 : Nat, b0 = y.f7.length + y.f8.length + y.f9.length + 20 * y.f13.length + 20 * y.f14.length := ⟨_, rfl⟩
  have hbi : (y.f7.length : Int) + y.f8.length + y.f9.length + 20 * y.f13.length + 20 * y.f14.length = (b0 : Int) := by omega
  have hsm : smallN y = b0 + Pure.weight y.f14 + sumN frN y.f13 := by rw [hb0]; rfl
  have hb0l : b0 ≤ 1000000000000000000 := by omega
  have HS0 := asiD ((St.refl w).alloc #[.bool y.f0, .int .i64 y.f1, .int .i64 y.f2, .bool y.f3, .bool y.f4, .int .u32 y.f5, .int .i64 y.f6, .slice B1 y.f7.length d1, .slice B2 y.f8.length d2, .slice B3 y.f9.length d3, .bool y.f10, .bool y.f11, .bool y.f12, .slice B4 y.f13.length d4, .slice B5 y.f14.length d5] 27)
  have H4 := asiD h4
  have H5 := asiD h5
  have HO := asiD ho
  have HSM := asiD hsm
  have HBL := asiD hb0l
  clear hy h1 h2 h3 h4 h5 ho hsm hb0l hp7 hp8 hp9 p1 hb0
  go_enter Try.func9, Try.ntmps9
  go_upto_region 1 with (fail)
  generalize w.alloc (.cells _ 27) = W1 at HS0 ⊢
  generalize w.heap.size = g at HS0 ⊢
  have z := fun i => HS0.out.cell i
  have w7 : wrap64 (b0 : Int) = (b0 : Int) := w64 (by have := HBL.out; omega) (by have := HBL.out; omega)
  go_upto_region 2 with (fail)
  rw [w7]
  clear z w1 w2 w3 w4 w5 w6 w7 hbi
  go_wp2_with fail
  go_loopw [3, 4] (fun s i wr => ∃ k n : Nat, k ≤ y.f14.length ∧ s = .int .i64 n ∧ i = .int .i64 k ∧ n = b0 + Pure.weight (y.f14.take k) ∧ n ≤ 1000000000000000000 ∧ St w wr (Asrt.blk g 27 #[.bool y.f0, .int .i64 y.f1, .int .i64 y.f2, .bool y.f3, .bool y.f4, .int .u32 y.f5, .int .i64 y.f6, .slice B1 y.f7.length d1, .slice B2 y.f8.length d2, .slice B3 y.f9.length d3, .bool y.f10, .bool y.f11, .bool y.f12, .slice B4 y.f13.length d4, .slice B5 y.f14.length d5] * Asrt.emp)) (fun _ i _ => y.f14.length - (intOf i).toNat)
  case atStart => exact ⟨0, b0, Nat.zero_le _, rfl, rfl, by simp [Pure.weight], HBL.out, HS0.out⟩
  case round =>
    obtain ⟨k, n, hk, rfl, rfl, hn, hnl, hs⟩ := hrel
    clear HS0
    have z14 := (hs.cell 14).trans (show _ = some (Value.slice B5 y.f14.length d5) from rfl)
    by_cases hc : k < y.f14.length ∧ n < 20000
    · obtain ⟨hlt, hn2⟩ := hc
      have y1 : decide ((k : Int) < y.f14.length) = true := decide_eq_true (by omega)
      have y2 : decide (k < y.f14.length) = true := decide_eq_true hlt
      have y3 : (k < y.f14.length) = True := eq_true hlt
      have y4 : ((k : Int) < y.f14.length) = True := eq_true (by omega)
      have y5 : decide ((n : Int) < 20000) = true := decide_eq_true (by omega)
      have y6 : decide (n < 20000) = true := decide_eq_true hn2
      have k16 : k ≤ 9223372036854775806 := by have := H5.out.2.1; omega
      have hin := getD_in z42 hlt
      have hwt := weight_snoc hlt
      obtain ⟨ad1, Bc, cc, rfl, e0, e1, mc, gc⟩ := at_T42 (Kd.C_below H5.out hs.below) (k : Int) (by omega) (by omega)
      simp only [Int.toNat_natCast] at e0 e1
      rw [show y.f14.getD k z42 = rd_T42 y.f14 k from rfl] at hin hwt
      generalize rd_T42 y.f14 k = x at *
      have hx := HO.out.mo.2 x hin
      have hx1 := hx.1
      have hx2 := hx.2.2
      have w1 : IntKind.i64.wrap ((n : Int) + (x.f1.length : Int)) = (n : Int) + (x.f1.length : Int) := wi64 (by omega) (by omega)
      have w2 : IntKind.i64.wrap ((n : Int) + (x.f1.length : Int) + (x.f0.size : Int)) = ((n + (x.f0.size + x.f1.length) : Nat) : Int) := by rw [wi64 (by omega) (by omega)]; omega
      have HN := asiD (show n + (x.f0.size + x.f1.length) = b0 + Pure.weight (y.f14.take (k + 1)) by rw [hwt, hn]; omega)
      have HNL := asiD (show n + (x.f0.size + x.f1.length) ≤ 1000000000000000000 by omega)
      have HLT := asiD hlt
      have HS := asiD hs
      clear hs hin hwt gc hx hx1 hx2 hn hnl hk hlt hn2
      go_upto_region 5 with (fail)
      go_quiet (fail)
      go_wp2_with fail
      go_roundw
      case rel => exact ⟨k + 1, n + (x.f0.size + x.f1.length), HLT.out, rfl, by go_num, HN.out, HNL.out, HS.out.drewN _⟩
      case measure => have := HLT.out; simp [intOf]; omega
    · have hst : n = b0 + Pure.weight y.f14 ∨ (20000 ≤ n ∧ 20000 ≤ smallN y) := by
        by_cases h2 : 20000 ≤ n
        · have := weight_take y.f14 k
          exact .inr ⟨h2, by rw [HSM.out]; omega⟩
        · have : k = y.f14.length := by omega
          rw [this, List.take_length] at hn
          exact .inl hn
      have hex : (decide ((k : Int) < y.f14.length) = false ∧ decide (k < y.f14.length) = false) ∨ (decide ((k : Int) < y.f14.length) = true ∧ decide (k < y.f14.length) = true ∧ decide ((n : Int) < 20000) = false ∧ decide (n < 20000) = false) := by
        by_cases h : k < y.f14.length
        · exact .inr ⟨decide_eq_true (by omega), decide_eq_true h, decide_eq_false (by omega), decide_eq_false (by omega)⟩
        · exact .inl ⟨decide_eq_false (by omega), decide_eq_false h⟩
      have HST := asiD hst
      have HNL := asiD hnl
      have HS := asiD hs
      clear hst hnl hs hn hk hc
      rcases hex with ⟨y1, y2⟩ | ⟨y1, y2, y3, y4⟩
      all_goals go_wp2_with fail
      all_goals clear z14
      all_goals (
        go_loopw [3, 5] (fun s i wr => ∃ k n : Nat, k ≤ y.f13.length ∧ s = .int .i64 n ∧ i = .int .i64 k ∧ (n = b0 + Pure.weight y.f14 + sumN frN (y.f13.take k) ∨ (20000 ≤ n ∧ 20000 ≤ smallN y)) ∧ n ≤ 1000000000000000000 ∧ ∃ r, St w wr (Asrt.blk g 27 #[.bool y.f0, .int .i64 y.f1, .int .i64 y.f2, .bool y.f3, .bool y.f4, .int .u32 y.f5, .int .i64 y.f6, .slice B1 y.f7.length d1, .slice B2 y.f8.length d2, .slice B3 y.f9.length d3, .bool y.f10, .bool y.f11, .bool y.f12, .slice B4 y.f13.length d4, .slice B5 y.f14.length d5] * r)) (fun _ i _ => y.f13.length - (intOf i).toNat)
        case atStart => exact ⟨0, n, Nat.zero_le _, rfl, rfl, HST.out.imp (fun h => by rw [h]; simp [sumN]) fun h => h, HNL.out, _, HS.out⟩
        case round =>
          obtain ⟨k, n, hk, rfl, rfl, hn, hnl, r, hs⟩ := hrel
          clear HS HST HNL
          have z13 := (hs.cell 13).trans (show _ = some (Value.slice B4 y.f13.length d4) from rfl)
          by_cases hc : k < y.f13.length ∧ n < 20000
          · obtain ⟨hlt, hn2⟩ := hc
            have hnn : n = b0 + Pure.weight y.f14 + sumN frN (y.f13.take k) := hn.resolve_right fun h => by omega
            have x1 : decide ((k : Int) < y.f13.length) = true := decide_eq_true (by omega)
            have x2 : decide (k < y.f13.length) = true := decide_eq_true hlt
            have x3 : (k < y.f13.length) = True := eq_true hlt
            have x4 : ((k : Int) < y.f13.length) = True := eq_true (by omega)
            have x5 : decide ((n : Int) < 20000) = true := decide_eq_true (by omega)
            have x6 : decide (n < 20000) = true := decide_eq_true hn2
            have k16 : k ≤ 9223372036854775806 := by have := H4.out.2.1; omega
            have hin := getD_in z44 hlt
            have hsn := sumN_snoc hlt
            have hmem := fr_mem hin
            obtain ⟨ad1, A8, c8, A9, c9, A10, c10, rfl, e0, e1, e2, e3, e4, e5, e6, e7, e8, e9, e10, n8, g8, n9, g9, n10, g10⟩ := at_T44 H4.out (k : Int) (by omega) (by omega)
            simp only [Int.toNat_natCast] at e0 e1 e2 e3 e4 e5 e6 e7 e8 e9 e10
            replace e0 := (cellL hs.below e0)
            replace e1 := (cellL hs.below e1)
            replace e2 := (cellL hs.below e2)
            replace e3 := (cellL hs.below e3)
            replace e4 := (cellL hs.below e4)
            replace e5 := (cellL hs.below e5)
            replace e6 := (cellL hs.below e6)
            replace e7 := (cellL hs.below e7)
            replace e8 := (cellL hs.below e8)
            replace e9 := (cellL hs.below e9)
            replace e10 := (cellL hs.below e10)
            rw [show y.f13.getD k z44 = rd_T44 y.f13 k from rfl] at hin hsn hmem
            generalize rd_T44 y.f13 k = x at *
            have hx := HO.out.fr.2 x hin
            have hx8 := hx.al.2
            have hx9 := hx.da.2
            have hx10 := hx.mo.1
            have w1 : IntKind.i64.wrap ((n : Int) + (x.f8.length : Int)) = (n : Int) + (x.f8.length : Int) := wi64 (by omega) (by omega)
            have w2 : IntKind.i64.wrap ((n : Int) + (x.f8.length : Int) + (x.f9.length : Int)) = (n : Int) + (x.f8.length : Int) + (x.f9.length : Int) := wi64 (by omega) (by omega)
            have w3 : IntKind.i64.wrap (20 * (x.f10.length : Int)) = 20 * (x.f10.length : Int) := wi64 (by omega) (by omega)
            have w4 : IntKind.i64.wrap ((n : Int) + (x.f8.length : Int) + (x.f9.length : Int) + 20 * (x.f10.length : Int)) = ((n + (x.f8.length + x.f9.length + 20 * x.f10.length) : Nat) : Int) := by rw [wi64 (by omega) (by omega)]; omega
            have HN := asiD hnn
            have HSN := asiD hsn
            have HLT := asiD hlt
            have HMX := asiD hx.mo
            have HG10 := asiD g10
            have HTT : Aside0 (sumN frN (y.f13.take k) + frN x ≤ sumN frN y.f13) := ⟨by rw [← hsn]; exact sumN_take _ _ _⟩
            have HNM : Aside0 (n + (x.f8.length + x.f9.length + 20 * x.f10.length) ≤ 1000000000000000 ∧ n < 20000) := ⟨by omega⟩
            have HAL := asiD (hs.alloc #[.int .i64 x.f0, .int .i64 x.f1, .int .i64 x.f2, .int .i64 x.f3, .int .i64 x.f4, .bool x.f5, .bool x.f6, .int .i64 x.f7, .slice A8 x.f8.length c8, .slice A9 x.f9.length c9, .slice A10 x.f10.length c10] 44)
            clear hs hin hsn hmem g8 g9 g10 n8 n9 n10 hx hx8 hx9 hx10 hn hnn hnl hk hlt hn2
            go_upto_region 10 with (fail)
            generalize wr.alloc (.cells _ 44) = W2 at HAL ⊢
            generalize wr.heap.size = gf at HAL ⊢
            have z8 := (HAL.out.cell 8).trans (show _ = some (Value.slice A8 x.f8.length c8) from rfl)
            have z9 := (HAL.out.cell 9).trans (show _ = some (Value.slice A9 x.f9.length c9) from rfl)
            have z10 := (HAL.out.cell 10).trans (show _ = some (Value.slice A10 x.f10.length c10) from rfl)
            go_wp2_with fail
            clear z8 z9 z10 z13 e0 e1 e2 e3 e4 e5 e6 e7 e8 e9 e10
            go_loopw [3, 7] (fun s i w2 => ∃ j n2 : Nat, j ≤ x.f10.length ∧ s = .int .i64 n2 ∧ i = .int .i64 j ∧ n2 = n + (x.f8.length + x.f9.length + 20 * x.f10.length) + Pure.weight (x.f10.take j) ∧ n2 ≤ 1000000000000000000 ∧ ∃ r2, St w w2 (Asrt.blk gf 44 #[.int .i64 x.f0, .int .i64 x.f1, .int .i64 x.f2, .int .i64 x.f3, .int .i64 x.f4, .bool x.f5, .bool x.f6, .int .i64 x.f7, .slice A8 x.f8.length c8, .slice A9 x.f9.length c9, .slice A10 x.f10.length c10] * (Asrt.blk g 27 #[.bool y.f0, .int .i64 y.f1, .int .i64 y.f2, .bool y.f3, .bool y.f4, .int .u32 y.f5, .int .i64 y.f6, .slice B1 y.f7.length d1, .slice B2 y.f8.length d2, .slice B3 y.f9.length d3, .bool y.f10, .bool y.f11, .bool y.f12, .slice (some ad1) y.f13.length d4, .slice B5 y.f14.length d5] * r2))) (fun _ i _ => x.f10.length - (intOf i).toNat)
            case atStart => exact ⟨0, n + (x.f8.length + x.f9.length + 20 * x.f10.length), Nat.zero_le _, rfl, rfl, by simp [Pure.weight], by have := HNM.out.1; omega, _, HAL.out⟩
            case round =>
              obtain ⟨j, n2, hj, rfl, rfl, hn2, hnl2, r2, hs2⟩ := hrel
              clear HAL
              have z10 := (hs2.cell 10).trans (show _ = some (Value.slice A10 x.f10.length c10) from rfl)
              by_cases hc : j < x.f10.length ∧ n2 < 20000
              · obtain ⟨hlt2, hn20⟩ := hc
                have v1 : decide ((j : Int) < x.f10.length) = true := decide_eq_true (by omega)
                have v2 : decide (j < x.f10.length) = true := decide_eq_true hlt2
                have v3 : (j < x.f10.length) = True := eq_true hlt2
                have v4 : ((j : Int) < x.f10.length) = True := eq_true (by omega)
                have v5 : decide ((n2 : Int) < 20000) = true := decide_eq_true (by omega)
                have v6 : decide (n2 < 20000) = true := decide_eq_true hn20
                have j16 : j ≤ 9223372036854775806 := by have := HG10.out.2.1; omega
                have hin := getD_in z42 hlt2
                have hwt := weight_snoc hlt2
                obtain ⟨ad2, Bc, cc, rfl, u0, u1, mc, gc⟩ := at_T42 (Kd.C_below HG10.out hs2.below) (j : Int) (by omega) (by omega)
                simp only [Int.toNat_natCast] at u0 u1
                rw [show x.f10.getD j z42 = rd_T42 x.f10 j from rfl] at hin hwt
                generalize rd_T42 x.f10 j = q at *
                have hx := HMX.out.2 q hin
                have hx1 := hx.1
                have hx2 := hx.2.2
                have q1 : IntKind.i64.wrap ((n2 : Int) + (q.f1.length : Int)) = (n2 : Int) + (q.f1.length : Int) := wi64 (by omega) (by omega)
                have q2 : IntKind.i64.wrap ((n2 : Int) + (q.f1.length : Int) + (q.f0.size : Int)) = ((n2 + (q.f0.size + q.f1.length) : Nat) : Int) := by rw [wi64 (by omega) (by omega)]; omega
                have HN2 := asiD (show n2 + (q.f0.size + q.f1.length) = n + (x.f8.length + x.f9.length + 20 * x.f10.length) + Pure.weight (x.f10.take (j + 1)) by rw [hwt, hn2]; omega)
                have HNL2 := asiD (show n2 + (q.f0.size + q.f1.length) ≤ 1000000000000000000 by omega)
                have HLT2 := asiD hlt2
                have HS2 := asiD hs2
                clear hs2 hin hwt gc hx hx1 hx2 hn2 hnl2 hj hlt2 hn20
                go_upto_region 14 with (fail)
                go_quiet (fail)
                go_wp2_with fail
                go_roundw
                case rel => exact ⟨j + 1, n2 + (q.f0.size + q.f1.length), HLT2.out, rfl, by go_num, HN2.out, HNL2.out, r2, HS2.out.drewN _⟩
                case measure => have := HLT2.out; simp [intOf]; omega
              · have hst : n2 = b0 + Pure.weight y.f14 + sumN frN (y.f13.take (k + 1)) ∨ (20000 ≤ n2 ∧ 20000 ≤ smallN y) := by
                  have h1 := HN.out
                  have h2 := HSN.out
                  have h3 := HTT.out
                  have h4 := HSM.out
                  unfold frN at h2 h3
                  by_cases h20 : 20000 ≤ n2
                  · have := weight_take x.f10 j
                    refine .inr ⟨h20, ?_⟩
                    rw [h4]
                    have h3' : sumN frN (y.f13.take k) + frN x ≤ sumN frN y.f13 := HTT.out
                    have h5 : frN x = x.f8.length + x.f9.length + 20 * x.f10.length + Pure.weight x.f10 := rfl
                    omega
                  · have : j = x.f10.length := by omega
                    rw [this, List.take_length] at hn2
                    have h2' : sumN frN (y.f13.take (k + 1)) = sumN frN (y.f13.take k) + frN x := HSN.out
                    have h5 : frN x = x.f8.length + x.f9.length + 20 * x.f10.length + Pure.weight x.f10 := rfl
                    exact .inl (by rw [h2', h5]; omega)
                have hex : (decide ((j : Int) < x.f10.length) = false ∧ decide (j < x.f10.length) = false) ∨ (decide ((j : Int) < x.f10.length) = true ∧ decide (j < x.f10.length) = true ∧ decide ((n2 : Int) < 20000) = false ∧ decide (n2 < 20000) = false) := by
                  by_cases h : j < x.f10.length
                  · exact .inr ⟨decide_eq_true (by omega), decide_eq_true h, decide_eq_false (by omega), decide_eq_false (by omega)⟩
                  · exact .inl ⟨decide_eq_false (by omega), decide_eq_false h⟩
                have HST := asiD hst
                have HNL := asiD hnl2
                have HS := asiD hs2.swap
                clear hst hnl2 hs2 hn2 hj hc
                rcases hex with ⟨v1, v2⟩ | ⟨v1, v2, v3, v4⟩
                all_goals go_wp2_with fail
                all_goals go_roundw
                all_goals first
                  | (have := HLT.out; simp [intOf]; omega)
                  | exact ⟨k + 1, n2, HLT.out, rfl, by go_num, HST.out, HNL.out, _, HS.out⟩
          · have hfin : decide ((n : Int) < 20000) = decide (smallN y < 20000) := by
              rcases hn with hn | ⟨h1, h2⟩
              · by_cases h20 : 20000 ≤ n
                · have h1 := sumN_take frN y.f13 k
                  have h2 := HSM.out
                  rw [decide_eq_false (by omega), decide_eq_false (by omega)]
                · have h3 : k = y.f13.length := by omega
                  rw [h3, List.take_length] at hn
                  have h2 := HSM.out
                  rw [h2, ← hn]
                  by_cases h4 : n < 20000
                  · rw [decide_eq_true h4, decide_eq_true (by omega)]
                  · omega
              · rw [decide_eq_false (by omega), decide_eq_false (by omega)]
            have hex : (decide ((k : Int) < y.f13.length) = false ∧ decide (k < y.f13.length) = false) ∨ (decide ((k : Int) < y.f13.length) = true ∧ decide (k < y.f13.length) = true ∧ decide ((n : Int) < 20000) = false ∧ decide (n < 20000) = false) := by
              by_cases h : k < y.f13.length
              · exact .inr ⟨decide_eq_true (by omega), decide_eq_true h, decide_eq_false (by omega), decide_eq_false (by omega)⟩
              · exact .inl ⟨decide_eq_false (by omega), decide_eq_false h⟩
            have HFIN := asiD hfin
            have HB := asiD hs.below
            clear hs hn hnl hk hc hfin
            rcases hex with ⟨v1, v2⟩ | ⟨v1, v2, v3, v4⟩
            all_goals go_wp2_with fail
            all_goals go_ret
            all_goals first
              | exact ⟨by rw [← HFIN.out]; rfl, HB.out⟩
              | exact ⟨by rw [← HFIN.out, v3]; rfl, HB.out⟩)
end Go.Proofs.Ythkocpcjcpohcaa.P
end
