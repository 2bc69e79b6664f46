/- A part that may be comes onto the canvas. -/
import Derived.Test.YtegifkffhnhccaaMcv3
namespace Go.Proofs.Ytegifkffhnhccaa.P
open Go Go.RowKit Go.Proofs.YtegifkffhnhccaaW.PrintWords Go.Proofs.YtegifkffhnhccaaW.PrintLast Go.Proofs.YtegifkffhnhccaaW.PrintMore
set_option linter.unusedVariables false
set_option linter.unusedSimpArgs false
attribute [local go_sem] max2_int min2_int max_two min_two max_three min_three max_four min_four

set_option maxHeartbeats 4000000 in
set_option maxRecDepth 100000 in
theorem canvas_Next_in (g h : Nat) (W H lx ly lw lh : Int) (pix : List Int) (X Y pw ph : Int) (k d : Bool) (PA : Option Addr) (pc : Nat) (P : List Int) (r : Asrt) (w0 w : World)
    (hW : sideOk W) (hH : sideOk H) (hl : (pix.length : Int) = W * H) (hlast : placeOk W H lx ly lw lh) (hu : ∀ x ∈ pix, U32 x) (huP : ∀ x ∈ P, U32 x) (hr : Kd.C (Kd.int .u32) w0 PA P.length P) (hc : P.length ≤ pc) (hn : withinC W H X Y pw ph P)
    (hs : St w0 w (canvO g h W H lx ly lw lh pix * r)) :
    Calls Try.prog 20 #[.pointer (some ⟨g, 0, none⟩), .agg #[.int .i64 X, .int .i64 Y, .bool k, .bool d, .int .i64 pw, .int .i64 ph, .slice PA P.length pc]] w fun e w' => e = .returned (.int .i64 0) ∧
      St w0 w' (canvO g h W H (if d then X else 0) (if d then Y else 0) (if d then pw else 0) (if d then ph else 0) (drawRows W (clearRows W pix lx ly lw lh.toNat) X Y pw k P ph.toNat) * r) := by
  have s1 := hs.alloc #[.int .i64 X, .int .i64 Y, .bool k, .bool d, .int .i64 pw, .int .i64 ph, .slice PA P.length pc] 47
  have HR0 := Aside0.mk hr
  have HR := Aside0.mk (Kd.C_below hr s1.below)
  have HC := Aside0.mk hc
  have HS := Aside0.mk s1.swap
  have HW := Aside0.mk hW
  have HH := Aside0.mk hH
  have HN := Aside0.mk hn
  have HL := Aside0.mk hl
  have HP := Aside0.mk hlast
  have HU := Aside0.mk hu
  have HUP := Aside0.mk huP
  clear hs s1 hr hc hn hW hH hl hlast hu huP
  go_enter Try.func20, Try.ntmps20
  go_wp2_with fail
  refine (canvas_within g h W H lx ly lw lh pix X Y pw ph k d PA pc P _ w0 _ HW.out HH.out HR.out HC.out HS.out).mono ?_; rintro e w2 ⟨rfl, hb⟩
  rw [decide_eq_true HN.out]
  have hs2 := HS.out.belowR hb
  have c8 := (hs2.assoc.cell 8).trans rfl
  have HS2 := Aside0.mk hs2.swap; clear hs2 HS
  clear hb HR
  go_wp2_with fail
  go_loopw [25] (fun i wr => ∃ q : Nat, q ≤ lh.toNat ∧ i = .int .i64 q ∧ St w0 wr (Asrt.blk w.heap.size 47 #[.int .i64 X, .int .i64 Y, .bool k, .bool d, .int .i64 pw, .int .i64 ph, .slice PA P.length pc] * (canvO g h W H lx ly lw lh (clearRows W pix lx ly lw q) * r))) (fun i _ => lh.toNat - (intOf i).toNat)
  case atStart => exact ⟨0, Nat.zero_le _, rfl, HS2.out⟩
  case round =>
    obtain ⟨q, hq, rfl, hs⟩ := hrel
    clear HS2 c8
    by_cases hlt : q < lh.toNat
    · have hpl : 0 ≤ lx ∧ 0 ≤ ly ∧ 1 ≤ lw ∧ lx + lw ≤ W ∧ 0 ≤ lh ∧ ly + lh ≤ H := by
        rcases HP.out with h0 | h0
        · omega
        · exact h0
      have t0 : decide ((q : Int) < lh) = true := decide_eq_true (by omega)
      have hlen := clearRows_len (X := lx) (Y := ly) (pw := lw) (ph := lh) HW.out HL.out hpl.1 hpl.2.1 hpl.2.2.1 hpl.2.2.2.1 hpl.2.2.2.2.2 q (by omega)
      have hfit := fit_row (W := W) (H := H) (X := lx) (Y := ly) (pw := lw) (y := q) HW.out hpl.1 (by omega) (by omega) (by omega) hpl.2.2.2.1
      have hnext : clearRows W pix lx ly lw (q + 1) = lay (clearRows W pix lx ly lw q) (rowAt W lx ly q) (List.replicate lw.toNat 0) := rfl
      have hla := HL.out
      have hW1 := HW.out
      have hH1 := HH.out
      have hrow : ((rowAt W lx ly q : Nat) : Int) = (ly + q) * W + lx := by unfold rowAt; omega
      have harea := mul_area hW1 hH1
      generalize hpk : clearRows W pix lx ly lw q = pk at *
      have s1 := hs.swap.assoc
      have c3 := (s1.cell 3).trans rfl
      have c4 := (s1.cell 4).trans rfl
      have c5 := (s1.cell 5).trans rfl
      have c6 := (s1.cell 6).trans rfl
      have c7 := (s1.cell 7).trans rfl
      have c8 := (s1.cell 8).trans rfl
      have c9 := (s1.cell 9).trans rfl
      have F : (0 ≤ W ∧ W ≤ 16384) ∧ (0 ≤ lx ∧ lx ≤ 16384) ∧ (0 ≤ ly ∧ ly ≤ 16384) ∧ (0 ≤ (q : Int) ∧ (q : Int) ≤ 16384) ∧ lw = (lw.toNat : Int) ∧ 1 ≤ lw.toNat ∧ rowAt W lx ly q + lw.toNat ≤ pk.length ∧ pk.length ≤ 268435456 := by
        obtain ⟨x1, x2⟩ := hW1
        obtain ⟨x3, x4⟩ := hH1
        refine ⟨by omega, by omega, by omega, by omega, by omega, by omega, by omega, by omega⟩
      have FF := Aside0.mk F; clear F
      have HROW := Aside0.mk hrow; clear hrow
      have HNX := Aside0.mk hnext; clear hnext
      have HLN := Aside0.mk hlen; clear hlen
      have HQ := Aside0.mk hlt; clear hlt
      have HS3 := Aside0.mk hs; clear hs s1 hfit hla hW1 hH1 harea hpl hq
      have HPK := Aside0.mk hpk; clear hpk
      have q16 : q ≤ 16384 := by have := FF.out.2.2.2.1; omega
      go_wp2_with fail
      refine (canvas_row_ok g h W H lx ly lw lh pk lx ly lw lh false false none 0 0 q (rowAt W lx ly q) lw.toNat _ w0 _ FF.out.1 FF.out.2.1 FF.out.2.2.1 FF.out.2.2.2.1 FF.out.2.2.2.2.1 FF.out.2.2.2.2.2.1 HROW.out.symm FF.out.2.2.2.2.2.2.1 FF.out.2.2.2.2.2.2.2 HS3.out.swap).mono ?_; rintro e w3 ⟨rfl, hb⟩
      have HS4 := Aside0.mk (canvO_open (HS3.out.belowR hb).swap); clear hb c3 c4 c5 c6 c7 c8 c9
      go_wp2_with ((with_reducible refine gate_builtin (b := .clear) (xs := #[.tmp 34]) rfl ?_); refine St.clearB (w0 := w0) rfl (.tmp 34) 29 22 .u32 rfl Try.underlying29 (by kernel_rfl) (rowAt W lx ly q) lw.toNat lw.toNat rfl HS4.out FF.out.2.2.2.2.2.2.1 ?_; intro w4 hs; have HS5 := Aside0.mk hs; clear hs)
      go_roundw
      case rel => exact ⟨q + 1, HQ.out, by go_num, by rw [HNX.out]; exact (canvO_shut HS5.out (lay_len _ _ _ (by rw [List.length_replicate]; exact FF.out.2.2.2.2.2.2.1))).swap⟩
      case measure => have := HQ.out; simp [intOf]; omega
    · have t0 : decide ((q : Int) < lh) = false := decide_eq_false (by omega)
      have hql : q = lh.toNat := Nat.le_antisymm hq (Nat.le_of_not_lt hlt)
      have hcl : (clearRows W pix lx ly lw q).length = pix.length := by
        rw [hql]
        rcases HP.out with h0 | h0
        · rw [h0]; rfl
        · exact clearRows_len (X := lx) (Y := ly) (pw := lw) (ph := lh) HW.out HL.out h0.1 h0.2.1 h0.2.2.1 h0.2.2.2.1 h0.2.2.2.2.2 _ (by omega)
      have HQL := Aside0.mk hql; clear hql
      have HCL := Aside0.mk hcl; clear hcl hlt hq
      have b5 := (hs.cell 5).trans rfl
      generalize hC1 : clearRows W pix lx ly lw q = C1 at *
      have HS3 := Aside0.mk hs; clear hs
      have huc := Aside0.mk hC1; clear hC1
      have hPA : ∃ ad, PA = some ad ∧ ∀ i : Nat, i < P.length → w0.cell? (ad.add i) = some (.int .u32 (rd P i)) := by
        obtain ⟨⟨⟨a1, _⟩, ⟨a2, _⟩, a3⟩, _⟩ := HN.out
        have := mul_area ⟨a1, by omega⟩ ⟨a2, by omega⟩
        exact C_int_at HR0.out (by omega)
      obtain ⟨ad, rfl, hPc⟩ := hPA
      have HPC := Aside0.mk hPc; clear hPc
      go_wp2_with fail
      go_loopw [39] (fun i wr => ∃ q : Nat, q ≤ ph.toNat ∧ i = .int .i64 q ∧ St w0 wr (Asrt.blk w.heap.size 47 #[.int .i64 X, .int .i64 Y, .bool k, .bool d, .int .i64 pw, .int .i64 ph, .slice (some ad) P.length pc] * (canvO g h W H lx ly lw lh (drawRows W C1 X Y pw k P q) * r))) (fun i _ => ph.toNat - (intOf i).toNat)
      case atStart => exact ⟨0, Nat.zero_le _, rfl, HS3.out⟩
      case round =>
        obtain ⟨q, hq, rfl, hs⟩ := hrel
        clear HS3 b5
        have hC1l : (C1.length : Int) = W * H := by rw [HCL.out]; exact HL.out
        by_cases hlt : q < ph.toNat
        · obtain ⟨m, n, o, rfl, rfl, ho, hqn, hF, hrow, hmf, hPl, hprl, w1, w2, o0, o1, o2, o3, o4, q16, m0⟩ := next_row HW.out HH.out HN.out hC1l k q pc HC.out hlt
          have hnext : drawRows W C1 X Y m k P (q + 1) = drawRow W (drawRows W C1 X Y m k P q) X Y m k P q := rfl
          have t0 : decide ((q : Int) < (n : Int)) = true := decide_eq_true (Int.ofNat_lt.2 hqn)
          have t1 : decide (q < n) = true := decide_eq_true hqn
          have t2 : (q < n) = True := eq_true hqn
          simp only [Int.toNat_natCast] at hq hs
          generalize hpk : drawRows W C1 X Y m k P q = pk at hs hF hnext
          have v1 := i64_w ((q : Int) * m)
          rw [w1] at v1
          have v2 := i64_w (((q : Int) + 1) * m)
          rw [w2] at v2
          have o5 : (pc = o) = False := by simp [o4]
          have b0 := (hs.cell 0).trans rfl
          have b1 := (hs.cell 1).trans rfl
          have b2 := (hs.cell 2).trans rfl
          have b3 := (hs.cell 3).trans rfl
          have b4 := (hs.cell 4).trans rfl
          have b5 := (hs.cell 5).trans rfl
          have b6 := (hs.cell 6).trans rfl
          have FF := Aside0.mk hF; clear hF
          have HROW := Aside0.mk hrow; clear hrow
          have HNX := Aside0.mk hnext; clear hnext
          have HQ := Aside0.mk hqn; clear hqn hlt
          have HPR := Aside0.mk hprl; clear hprl
          have HO := Aside0.mk ho
          have HMF := Aside0.mk hmf; clear hmf
          have HS3 := Aside0.mk hs; clear hs hC1l hq hPl ho o4
          have HPK := Aside0.mk hpk; clear hpk
          go_wp2_with fail
          refine (canvas_row_ok g h W H lx ly lw lh pk X Y m n k d (some ad) P.length pc q (rowAt W X Y q) m _ w0 _ FF.out.1 FF.out.2.1 FF.out.2.2.1 FF.out.2.2.2.1 rfl FF.out.2.2.2.2.1 HROW.out.symm FF.out.2.2.2.2.2.1 FF.out.2.2.2.2.2.2 HS3.out.swap).mono ?_; rintro e w3 ⟨rfl, hb⟩
          have hs4 := HS3.out.belowR hb
          have b0 := (hs4.cell 0).trans rfl
          have b2 := (hs4.cell 2).trans rfl
          have b4 := (hs4.cell 4).trans rfl
          have b6 := (hs4.cell 6).trans rfl
          have HS4 := Aside0.mk (canvO_open hs4.swap); clear hb hs4
          have hwo : Below w0.heap.size w0 w3 := HS4.out.below
          have HRD := Aside0.mk (fun (j : Nat) (hj : j < P.length) => (hwo.cell (World.block_lt_of_cell? _ _ (HPC.out j hj))).trans (HPC.out j hj)); clear hwo
          cases k
          · have hpku : ∀ x ∈ pk, U32 x := by
              rw [← HPK.out]
              refine drawRows_U32 ?_ HUP.out _ _ _ _ _
              rw [← huc.out]
              exact clearRows_U32 HU.out _ _ _ _
            have HPU := Aside0.mk hpku; clear hpku
            go_wp2_with fail
            go_loopw [68] (fun i wr => ∃ x : Nat, x ≤ m ∧ i = .int .i64 x ∧ St w0 wr (Asrt.blk h 22 (nums .u32 (lay pk (rowAt W X Y q) (mixRow pk (rowAt W X Y q) P o x))).toArray * (Asrt.blk g 63 #[.int .i64 W, .int .i64 H, .slice (some ⟨h, 0, none⟩) pk.length pk.length, .int .i64 lx, .int .i64 ly, .bool false, .bool false, .int .i64 lw, .int .i64 lh, .slice none 0 0] * (Asrt.blk w.heap.size 47 #[.int .i64 X, .int .i64 Y, .bool false, .bool d, .int .i64 m, .int .i64 n, .slice (some ad) P.length pc] * r)))) (fun i _ => m - (intOf i).toNat)
            case atStart => exact ⟨0, Nat.zero_le _, rfl, by rw [mix_zero]; exact HS4.out⟩
            case round =>
              obtain ⟨x, hx, rfl, hs⟩ := hrel
              clear HS4 HRD b0 b2 b4 b6
              by_cases hxm : x < m
              · have x1 : decide ((x : Int) < (m : Int)) = true := decide_eq_true (Int.ofNat_lt.2 hxm)
                have x2 : decide (x < m) = true := decide_eq_true hxm
                have x3 : (x < m) = True := eq_true hxm
                have hxl : rowAt W X Y q + x < pk.length := Nat.lt_of_lt_of_le (Nat.add_lt_add_left hxm _) FF.out.2.2.2.2.2.1
                have hxP : o + x < P.length := Nat.lt_of_lt_of_le (Nat.add_lt_add_left hxm _) HMF.out
                have hm16 : m ≤ pk.length := Nat.le_trans (Nat.le_add_left _ _) FF.out.2.2.2.2.2.1
                have hm30 := Nat.le_trans hm16 FF.out.2.2.2.2.2.2
                have x16 : x ≤ 268435456 := Nat.le_trans (Nat.le_of_lt hxm) hm30
                have c1 := mix_cell hs hxl
                have hwo : Below w0.heap.size w0 _ := hs.below
                have c2 := (hwo.cell (World.block_lt_of_cell? _ _ (HPC.out (o + x) hxP))).trans (HPC.out (o + x) hxP)
                have c3 := c2
                rw [← Addr.add_add] at c3
                have hstep := mix_step pk (rowAt W X Y q) P o x hxl
                have u1 := rd_U32 HPU.out _ hxl
                have u2 := rd_U32 HUP.out _ hxP
                have HU1 := Aside0.mk u1; clear u1
                have HU2 := Aside0.mk u2; clear u2
                have HST := Aside0.mk hstep; clear hstep
                have HXM := Aside0.mk hxm; clear hxm
                have HS5 := Aside0.mk hs; clear hs hwo hx hxP hm16 hm30
                have HXL := Aside0.mk hxl; clear hxl
                go_wp2_with fail
                refine (px_over _ _ _ HU1.out HU2.out).mono ?_; rintro e w5 ⟨rfl, hb⟩
                have hs6 := HS5.out.belowR hb
                have c1 := mix_cell hs6 HXL.out
                have fr := hs6.frozen (rowAt W X Y q + x)
                have HS6 := Aside0.mk (hs6.set (rowAt W X Y q + x) (.int .u32 (overP (rd pk ((rowAt W X Y q + x : Nat) : Int)) (rd P ((o + x : Nat) : Int)))))
                clear hs6 hb c2 c3 HS5
                go_wp2_with fail
                go_roundw
                case rel => exact ⟨x + 1, HXM.out, by go_num, by rw [HST.out, ← nums_set]; exact HS6.out⟩
                case measure => have := HXM.out; simp [intOf]; omega
              · obtain rfl : m = x := Nat.le_antisymm (Nat.le_of_not_lt hxm) hx
                have HS5 := Aside0.mk hs; clear hs hx hxm
                go_wp2_with fail
                go_roundw
                case rel => exact ⟨q + 1, HQ.out, by go_num, by rw [HNX.out]; unfold drawRow; simp only [Int.toNat_natCast, Bool.false_eq_true, if_false]; rw [← HO.out]; exact (canvO_shut HS5.out (mix_len _ _ _ _ _ FF.out.2.2.2.2.2.1)).swap⟩
                case measure => have := HQ.out; simp [intOf]; omega
          · have hrd : ∀ j : Nat, j < ((P.drop o).take m).length → w3.cell? ((ad.add o).add j) = some (.int .u32 (rd ((P.drop o).take m) j)) := by
              intro j hj
              rw [HPR.out] at hj
              have := HMF.out
              rw [Addr.add_add, HRD.out (o + j) (by omega), rd_nat' (by omega), rd_nat' (by rw [HPR.out]; exact hj), List.getElem_take, List.getElem_drop]
            have HRD2 := Aside0.mk hrd; clear hrd
            have hmm : ((P.drop o).take m).length = Nat.min m m := by rw [HPR.out]; exact (Nat.min_self m).symm
            have HMM := Aside0.mk hmm; clear hmm
            go_wp2_with ((with_reducible refine gate_builtin (b := .copy) (xs := #[.tmp 63, .tmp 64]) rfl ?_); refine St.copyB (w0 := w0) rfl (.tmp 63) (.tmp 64) 29 22 .u32 rfl Try.underlying29 (by kernel_rfl) (rowAt W X Y q) m m (ad.add o) m (pc - o) ((P.drop o).take m) rfl rfl HS4.out (by rw [HPR.out]; exact FF.out.2.2.2.2.2.1) HMM.out HRD2.out ?_; intro w4 hs; have HS5 := Aside0.mk hs; clear hs)
            go_roundw
            case rel => exact ⟨q + 1, HQ.out, by go_num, by rw [HNX.out]; unfold drawRow; simp only [Int.toNat_natCast, if_true]; rw [← HO.out]; exact (canvO_shut HS5.out (lay_len _ _ _ (by rw [HPR.out]; exact FF.out.2.2.2.2.2.1))).swap⟩
            case measure => have := HQ.out; simp [intOf]; omega
        · have hql2 : q = ph.toNat := Nat.le_antisymm hq (Nat.le_of_not_lt hlt)
          have t0 : decide ((q : Int) < ph) = false := decide_eq_false (not_lt_toNat hlt)
          have t1 : ((q : Int) < ph) = False := eq_false (not_lt_toNat hlt)
          have HQ2 := Aside0.mk hql2; clear hql2 hlt hq hC1l
          generalize hpk : drawRows W C1 X Y pw k P q = pk at hs
          have HPK := Aside0.mk hpk; clear hpk
          have b3 := (hs.cell 3).trans rfl
          have HS3 := Aside0.mk hs.swap.assoc; clear hs
          cases d
          · go_wp2_with ((with_reducible refine gate_ (.store 47 (.tmp 87) (.tmp 85)) rfl ?_); refine St.storeB rfl rfl 47 (.tmp 87) (.tmp 85) rfl 3 _ [.int .i64 0, .int .i64 0, .bool false, .bool false, .int .i64 0, .int .i64 0, .slice none 0 0] #[.int .i64 W, .int .i64 H, .slice (some ⟨h, 0, none⟩) pk.length pk.length, .int .i64 0, .int .i64 0, .bool false, .bool false, .int .i64 0, .int .i64 0, .slice none 0 0] rfl rfl rfl (by kernel_rfl) (by simp [Value.oneCell']) HS3.out (by simp) rfl ?_; intro w4 hs; have b3 := (hs.rot3.cell 3).trans rfl; have HS5 := Aside0.mk hs; clear hs)
            go_ret
            exact ⟨rfl, by rw [← HQL.out, huc.out, ← HQ2.out, HPK.out]; exact (canvO_shut HS5.out.swap rfl).swap.drop⟩
          · go_wp2_with (first
              | ((with_reducible refine gate_ (.store 47 (.tmp 87) (.tmp 85)) rfl ?_); refine St.storeB rfl rfl 47 (.tmp 87) (.tmp 85) rfl 3 _ [.int .i64 0, .int .i64 0, .bool false, .bool false, .int .i64 0, .int .i64 0, .slice none 0 0] #[.int .i64 W, .int .i64 H, .slice (some ⟨h, 0, none⟩) pk.length pk.length, .int .i64 0, .int .i64 0, .bool false, .bool false, .int .i64 0, .int .i64 0, .slice none 0 0] rfl rfl rfl (by kernel_rfl) (by simp [Value.oneCell']) HS3.out (by simp) rfl ?_; intro w4 hs; have b0 := (hs.rot3.cell 0).trans rfl; have b1 := (hs.rot3.cell 1).trans rfl; have b3 := (hs.rot3.cell 3).trans rfl; have b4 := (hs.rot3.cell 4).trans rfl; have b5 := (hs.rot3.cell 5).trans rfl; have HS5 := Aside0.mk hs; clear hs)
              | ((with_reducible refine gate_ (.store 47 (.tmp 104) (.tmp 102)) rfl ?_); refine St.storeB rfl rfl 47 (.tmp 104) (.tmp 102) rfl 3 _ [.int .i64 X, .int .i64 Y, .bool false, .bool false, .int .i64 pw, .int .i64 ph, .slice none 0 0] #[.int .i64 W, .int .i64 H, .slice (some ⟨h, 0, none⟩) pk.length pk.length, .int .i64 X, .int .i64 Y, .bool false, .bool false, .int .i64 pw, .int .i64 ph, .slice none 0 0] rfl rfl rfl (by kernel_rfl) (by simp [Value.oneCell']) HS5.out (by simp) rfl ?_; intro w5 hs; have HS6 := Aside0.mk hs; clear hs))
            go_ret
            exact ⟨rfl, by rw [← HQL.out, huc.out, ← HQ2.out, HPK.out]; exact (canvO_shut HS6.out.swap rfl).swap.drop⟩
end Go.Proofs.Ytegifkffhnhccaa.P
