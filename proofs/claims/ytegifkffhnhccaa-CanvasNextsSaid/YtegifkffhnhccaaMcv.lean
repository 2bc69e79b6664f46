/- The canvas: what its ways come to. -/
import Derived.Test.YtegifkffhnhccaaPxA
import Derived.Test.YtegifkffhnhccaaSplice
import Derived.Test.YtegifkffhnhccaaMark
namespace Go.Proofs.Ytegifkffhnhccaa.P
open Go Go.RowKit Go.Proofs.YtegifkffhnhccaaW.PrintWords Go.Proofs.YtegifkffhnhccaaW.PrintLast Go.Proofs.YtegifkffhnhccaaW.PrintMore
set_option linter.unusedVariables false
set_option linter.unusedSimpArgs false
attribute [local go_sem] max2_int min2_int max_two min_two max_three min_three max_four min_four

/-- A canvas at block g, its pixels at block h: W by H, and the place (lx, ly, lw, lh) that is to go. -/
def canvO (g h : Nat) (W H lx ly lw lh : Int) (pix : List Int) : Asrt :=
  Asrt.blk g 63 #[.int .i64 W, .int .i64 H, .slice (some ⟨h, 0, none⟩) pix.length pix.length, .int .i64 lx, .int .i64 ly, .bool false, .bool false, .int .i64 lw, .int .i64 lh, .slice none 0 0] * Asrt.blk h 22 (nums .u32 pix).toArray
def sideOk (n : Int) : Prop := 1 ≤ n ∧ n ≤ 16384
instance (n : Int) : Decidable (sideOk n) := by unfold sideOk; infer_instance
theorem side_calls (n : Int) (w : World) : Calls Try.prog 29 #[.int .i64 n] w fun e w' => e = .returned (.bool (decide (sideOk n))) ∧ Drawn0 w w' := by
  refine canvas_side.calls n _ w ?_
  unfold canvas_side.f sideOk
  by_cases c : n ≥ 1
  · rw [if_pos c]; congr 1; exact decide_eq_decide.2 (by omega)
  · rw [if_neg c]; congr 1; exact (decide_eq_false (by omega)).symm
theorem mul_area {w h : Int} (h0 : sideOk w) (h1 : sideOk h) : 1 ≤ w * h ∧ w * h ≤ 268435456 := by
  have a := Int.mul_le_mul h0.2 h1.2 (by have := h1.1; omega) (by omega)
  have b := Int.mul_le_mul h0.1 h1.1 (by omega) (by have := h0.1; omega)
  omega
theorem drawn_below {w w' : World} (h : Drawn0 w w') : Below w.heap.size w w' := by
  obtain ⟨n, rfl⟩ := h
  exact pw_below_drewN (Below.refl _ _) n
set_option maxHeartbeats 1000000 in
set_option maxRecDepth 100000 in
theorem canvas_New_no (W H : Int) (w : World) (h : ¬ (sideOk W ∧ sideOk H)) :
    Calls Try.prog 18 #[.int .i64 W, .int .i64 H] w fun e w' => e = .returned (.tuple #[.pointer none, .int .i64 1]) ∧ Below w.heap.size w w' := by
  by_cases c : sideOk W
  · have c2 : decide (sideOk H) = false := decide_eq_false fun x => h ⟨c, x⟩
    have c1 : decide (sideOk W) = true := decide_eq_true c
    clear h c
    go_enter Try.func18, Try.ntmps18
    go_wp2_with fail
    refine (side_calls W _).mono ?_; rintro e w1 ⟨rfl, hd⟩
    have D1 := Aside0.mk (drawn_below hd); clear hd
    rw [c1]
    go_wp2_with fail
    refine (side_calls H _).mono ?_; rintro e w2 ⟨rfl, hd⟩
    have D2 := Aside0.mk (D1.out.trans ((drawn_below hd).mono D1.out.size)); clear hd
    rw [c2]
    go_wp2
    go_ret2
    exact ⟨rfl, D2.out⟩
  · have c1 : decide (sideOk W) = false := decide_eq_false c
    clear h c
    go_enter Try.func18, Try.ntmps18
    go_wp2_with fail
    refine (side_calls W _).mono ?_; rintro e w1 ⟨rfl, hd⟩
    have D1 := Aside0.mk (drawn_below hd); clear hd
    rw [c1]
    go_wp2
    go_ret2
    exact ⟨rfl, D1.out⟩
set_option maxHeartbeats 1000000 in
set_option maxRecDepth 100000 in
theorem canvas_New_ok (W H : Int) (r : Asrt) (w0 w : World) (hW : sideOk W) (hH : sideOk H) (hs : St w0 w r) :
    Calls Try.prog 18 #[.int .i64 W, .int .i64 H] w fun e w' => ∃ g h, e = .returned (.tuple #[.pointer (some ⟨g, 0, none⟩), .int .i64 0]) ∧ St w0 w' (canvO g h W H 0 0 0 0 (List.replicate (W * H).toNat 0) * r) := by
  have ha := mul_area hW hH
  have c1 : decide (sideOk W) = true := decide_eq_true hW
  have c2 : decide (sideOk H) = true := decide_eq_true hH
  obtain ⟨m, hm⟩ : ∃ m : Nat, W * H = m := ⟨(W * H).toNat, by omega⟩
  have hw : wrap64 (W * H) = m := by rw [← hm]; exact px_w64 (by omega) (by omega)
  have hmk := print_make (P := Try.prog) 29 22 .u32 4 Try.underlying29 (by kernel_rfl) (by decide) m (by omega)
  have HM := Aside0.mk hm
  rw [hm] at ha
  clear hW hH hm
  have HS := Aside0.mk hs; clear hs
  go_enter Try.func18, Try.ntmps18
  go_wp2_with fail
  refine (side_calls W _).mono ?_; rintro e w1 ⟨rfl, hd⟩
  have HS1 := Aside0.mk (HS.out.belowR (drawn_below hd)); clear hd
  rw [c1]
  go_wp2_with fail
  refine (side_calls H _).mono ?_; rintro e w2 ⟨rfl, hd⟩
  have HS2 := Aside0.mk (HS1.out.belowR (drawn_below hd)); clear hd
  rw [c2]
  go_wp2
  go_ret2
  refine ⟨_, w2.heap.size, rfl, ?_⟩
  have e : (madeCells #[Value.int .u32 0] m) = (nums .u32 (List.replicate m 0)).toArray := made_nums .u32 m
  have h2 := (HS2.out.alloc (madeCells #[Value.int .u32 0] m) 22).alloc #[.int .i64 W, .int .i64 H, .slice (some ⟨w2.heap.size, 0, none⟩) m m, .int .i64 0, .int .i64 0, .bool false, .bool false, .int .i64 0, .int .i64 0, .slice none 0 0] 63
  rw [e] at h2
  have hl : (List.replicate (W * H).toNat (0 : Int)) = List.replicate m 0 := by rw [HM.out]; simp
  rw [hl]
  unfold canvO
  refine St.assoc' ?_
  rw [List.length_replicate]
  simpa [e] using h2
set_option maxHeartbeats 1000000 in
set_option maxRecDepth 100000 in
/-- A row of a place on the canvas: a slice of the canvas's pixels. -/
theorem canvas_row_ok (g h : Nat) (W H lx ly lw lh : Int) (pix : List Int) (X Y pw ph : Int) (k d : Bool) (PA : Option Addr) (pl pc : Nat) (y : Int) (at_ m : Nat) (r : Asrt) (w0 w : World)
    (hW : 0 ≤ W ∧ W ≤ 16384) (hX : 0 ≤ X ∧ X ≤ 16384) (hY : 0 ≤ Y ∧ Y ≤ 16384) (hy : 0 ≤ y ∧ y ≤ 16384) (hm : pw = m) (hm1 : 1 ≤ m) (hat : (Y + y) * W + X = at_) (hfit : at_ + m ≤ pix.length) (hl : pix.length ≤ 268435456)
    (hs : St w0 w (canvO g h W H lx ly lw lh pix * r)) :
    Calls Try.prog 32 #[.pointer (some ⟨g, 0, none⟩), .agg #[.int .i64 X, .int .i64 Y, .bool k, .bool d, .int .i64 pw, .int .i64 ph, .slice PA pl pc], .int .i64 y] w fun e w' => e = .returned (.slice (some ⟨h, at_, none⟩) m m) ∧ Below w.heap.size w w' := by
  subst hm
  have q5 : ((at_ : Int) + m).toNat = at_ + m := Int.toNat_natCast (at_ + m)
  have b1 : 0 ≤ (at_ : Int) := Int.natCast_nonneg _
  have b2 : (at_ : Int) ≤ (at_ : Int) + m := by have := Int.natCast_nonneg m; clear hat hs hfit hl; omega
  have b3 : (at_ : Int) + m ≤ pix.length := by clear hat hs hl; omega
  have b4 : ¬ (m = 0) := by clear hat hs; omega
  have hp := Int.mul_le_mul (show Y + y ≤ 32768 by omega) hW.2 hW.1 (by omega)
  have hp0 := Int.mul_nonneg (show 0 ≤ Y + y by omega) hW.1
  have q1 : wrap64 (Y + y) = Y + y := px_w64 (by omega) (by omega)
  have q2 : wrap64 ((Y + y) * W) = (Y + y) * W := px_w64 (by omega) (by omega)
  have q3 : wrap64 ((Y + y) * W + X) = at_ := by rw [hat]; exact px_w64 (by omega) (by omega)
  have q4 : wrap64 ((at_ : Int) + m) = at_ + m := px_w64 (by omega) (by omega)
  have s1 := hs.assoc
  have s2 := s1.alloc #[.int .i64 X, .int .i64 Y, .bool k, .bool d, .int .i64 m, .int .i64 ph, .slice PA pl pc] 47
  have m0 := (s2.cell 0).trans rfl
  have m1 := (s2.cell 1).trans rfl
  have m4 := (s2.cell 4).trans rfl
  have c0 := (s2.swap.cell 0).trans rfl
  have c2 := (s2.swap.cell 2).trans rfl
  have HB := Aside0.mk (below_alloc (Below.refl w.heap.size w) (.cells #[.int .i64 X, .int .i64 Y, .bool k, .bool d, .int .i64 m, .int .i64 ph, .slice PA pl pc] 47))
  have f1 := i64_w (Y + y)
  rw [q1] at f1
  have f2 := i64_w ((Y + y) * W)
  rw [q2] at f2
  have f3 := i64_w ((Y + y) * W + X)
  rw [q3] at f3
  have f4 := i64_w ((at_ : Int) + m)
  rw [q4] at f4
  clear hs s1 s2 hat hfit hl hp hp0 hW hX hY hy
  go_enter Try.func32, Try.ntmps32
  go_wp2_with fail
  generalize w.alloc (.cells #[.int .i64 X, .int .i64 Y, .bool k, .bool d, .int .i64 m, .int .i64 ph, .slice PA pl pc] 47) = w1 at *
  go_quiet (fail)
  go_wp2_with fail
  have m4 : (w1.drewN nq).cell? _ = _ := m4
  have c2 : (w1.drewN nq).cell? _ = _ := c2
  have HB2 := Aside0.mk (HB.out.trans (pw_below_drewN (Below.refl w.heap.size w1) nq))
  clear m0 m1 c0 HB
  generalize w1.drewN nq = w2 at *
  go_quiet (fail)
  go_wp2_with fail
  go_ret
  exact ⟨rfl, HB2.out.trans (pw_below_drewN (Below.refl _ _) _)⟩
def goodI (w h : Int) (l : List Int) : Prop := sideOk w ∧ sideOk h ∧ (l.length : Int) = w * h
instance (w h : Int) (l : List Int) : Decidable (goodI w h l) := by unfold goodI; infer_instance
theorem goodI_calls (a b : Int) (A : Option Addr) (c : Nat) (l : List Int) (w : World) (hr : Kd.C (Kd.int .u32) w A l.length l) (hc : l.length ≤ c) :
    Calls Try.prog 34 #[.agg #[.int .i64 a, .int .i64 b, .slice A l.length c]] w fun e w' => e = .returned (.bool (decide (goodI a b l))) ∧ Below w.heap.size w w' := by
  refine pixel_Good.calls a b A c l _ w hr hc ?_
  unfold pixel_Good.f
  by_cases c1 : a ≥ 1
  · rw [if_pos c1]
    by_cases c2 : a ≤ 16384
    · rw [if_pos c2]
      by_cases c3 : b ≥ 1
      · rw [if_pos c3]
        by_cases c4 : b ≤ 16384
        · rw [if_pos c4]
          have := mul_area (w := a) (h := b) ⟨c1, c2⟩ ⟨c3, c4⟩
          rw [px_w64 (by omega) (by omega)]
          congr 1
          have e : goodI a b l ↔ (l.length : Int) = a * b := ⟨fun h => h.2.2, fun h => ⟨⟨c1, c2⟩, ⟨c3, c4⟩, h⟩⟩
          have e2 : decide (goodI a b l) = decide ((l.length : Int) = a * b) := decide_eq_decide.2 e
          rw [e2]
          by_cases e : (l.length : Int) = a * b
          · simp [e]
          · simp [e]
        · rw [if_neg c4, decide_eq_false (fun h => c4 h.2.1.2)]
      · rw [if_neg c3, decide_eq_false (fun h => c3 h.2.1.1)]
    · rw [if_neg c2, decide_eq_false (fun h => c2 h.1.2)]
  · rw [if_neg c1, decide_eq_false (fun h => c1 h.1.1)]
theorem goodI_is (a b : Int) (A : Option Addr) (c : Nat) (l : List Int) (gd : Bool) (w : World) (hr : Kd.C (Kd.int .u32) w A l.length l) (hc : l.length ≤ c) (hg : decide (goodI a b l) = gd) :
    Calls Try.prog 34 #[.agg #[.int .i64 a, .int .i64 b, .slice A l.length c]] w fun e w' => e = .returned (.bool gd) ∧ Below w.heap.size w w' := hg ▸ goodI_calls a b A c l w hr hc
def withinC (W H X Y pw ph : Int) (P : List Int) : Prop := goodI pw ph P ∧ 0 ≤ X ∧ 0 ≤ Y ∧ X ≤ W - pw ∧ Y ≤ H - ph
instance (W H X Y pw ph : Int) (P : List Int) : Decidable (withinC W H X Y pw ph P) := by unfold withinC; infer_instance
set_option maxHeartbeats 4000000 in
set_option maxRecDepth 100000 in
theorem canvas_within (g h : Nat) (W H lx ly lw lh : Int) (pix : List Int) (X Y pw ph : Int) (k d : Bool) (PA : Option Addr) (pc : Nat) (P : List Int) (r : Asrt) (w0 w : World)
    (hW : sideOk W) (hH : sideOk H) (hr : Kd.C (Kd.int .u32) w PA P.length P) (hc : P.length ≤ pc)
    (hs : St w0 w (canvO g h W H lx ly lw lh pix * r)) :
    Calls Try.prog 31 #[.pointer (some ⟨g, 0, none⟩), .agg #[.int .i64 X, .int .i64 Y, .bool k, .bool d, .int .i64 pw, .int .i64 ph, .slice PA P.length pc]] w fun e w' => e = .returned (.bool (decide (withinC W H X Y pw ph P))) ∧ Below w.heap.size w w' := by
  have s1 := hs.assoc
  have s2 := s1.alloc #[.int .i64 X, .int .i64 Y, .bool k, .bool d, .int .i64 pw, .int .i64 ph, .slice PA P.length pc] 47
  have m0 := fun z => Since.cell ((s2.cell 0).trans rfl) z
  have m1 := fun z => Since.cell ((s2.cell 1).trans rfl) z
  have m4 := fun z => Since.cell ((s2.cell 4).trans rfl) z
  have m5 := fun z => Since.cell ((s2.cell 5).trans rfl) z
  have m6 := fun z => Since.cell ((s2.cell 6).trans rfl) z
  have c0 := fun z => Since.cell ((s2.swap.cell 0).trans rfl) z
  have c1 := fun z => Since.cell ((s2.swap.cell 1).trans rfl) z
  have HS := Aside0.mk s2
  have hb1 := below_alloc (Below.refl w.heap.size w) (.cells #[.int .i64 X, .int .i64 Y, .bool k, .bool d, .int .i64 pw, .int .i64 ph, .slice PA P.length pc] 47)
  have HR := Aside0.mk (Kd.C_below hr hb1)
  have HB := Aside0.mk hb1
  have HC := Aside0.mk hc
  clear hs s1 s2 hr hc hb1
  have main : ∀ (gd t1 t2 t3 t4 : Bool), decide (goodI pw ph P) = gd → (gd = true → decide (0 ≤ X) = t1 ∧ decide (0 ≤ Y) = t2 ∧ decide (X ≤ W - pw) = t3 ∧ decide (Y ≤ H - ph) = t4 ∧ wrap64 (W - pw) = W - pw ∧ wrap64 (H - ph) = H - ph) →
      Calls Try.prog 31 #[.pointer (some ⟨g, 0, none⟩), .agg #[.int .i64 X, .int .i64 Y, .bool k, .bool d, .int .i64 pw, .int .i64 ph, .slice PA P.length pc]] w fun e w' => e = .returned (.bool (gd && t1 && t2 && t3 && t4)) ∧ Below w.heap.size w w' := by
    intro gd t1 t2 t3 t4 hgd hts
    clear hW hH
    have HG := Aside0.mk hgd; clear hgd
    clear HS
    cases gd
    case false =>
      clear hts
      go_enter Try.func31, Try.ntmps31
      go_upto_region 1 with (fail)
      generalize hW1 : w.alloc (.cells #[.int .i64 X, .int .i64 Y, .bool k, .bool d, .int .i64 pw, .int .i64 ph, .slice PA P.length pc] 47) = W1 at *
      refine wp_region_since (by kernel_rfl) (by kernel_rfl) ?_
      repeat (first | go_big_quiet_step ((first | (go_at_call 34; exact Calls.since (goodI_is pw ph PA pc P false _ (Kd.C_below HR.out (Since.below _)) HC.out HG.out)))) | quiet_step ((first | (go_at_call 34; exact Calls.since (goodI_is pw ph PA pc P false _ (Kd.C_below HR.out (Since.below _)) HC.out HG.out)))))
      refine wpQuiet_nil ?_
      intro _ hw'
      obtain ⟨z, hz⟩ := hw'
      subst hz
      have HB2 := Aside0.mk (z.old HB.out)
      go_wp2_with fail
      go_ret
      exact ⟨rfl, HB2.out⟩
    obtain ⟨e1, e2, e3, e4, e5, e6⟩ := hts rfl
    clear hts
    have f5 := i64_w (W - pw)
    rw [e5] at f5
    have f6 := i64_w (H - ph)
    rw [e6] at f6
    have E1 := Aside0.mk e1; clear e1
    have E2 := Aside0.mk e2; clear e2
    have E3 := Aside0.mk e3; clear e3
    have E4 := Aside0.mk e4; clear e4
    cases t1
    case false =>
      have e1 := E1.out
      go_enter Try.func31, Try.ntmps31
      go_upto_region 1 with (fail)
      generalize hW1 : w.alloc (.cells #[.int .i64 X, .int .i64 Y, .bool k, .bool d, .int .i64 pw, .int .i64 ph, .slice PA P.length pc] 47) = W1 at *
      refine wp_region_since (by kernel_rfl) (by kernel_rfl) ?_
      repeat (first | go_big_quiet_step ((first | (go_at_call 34; exact Calls.since (goodI_is pw ph PA pc P true _ (Kd.C_below HR.out (Since.below _)) HC.out HG.out)))) | quiet_step ((first | (go_at_call 34; exact Calls.since (goodI_is pw ph PA pc P true _ (Kd.C_below HR.out (Since.below _)) HC.out HG.out)))))
      refine wpQuiet_nil ?_
      intro _ hw'
      obtain ⟨z, hz⟩ := hw'
      subst hz
      have HB2 := Aside0.mk (z.old HB.out)
      go_wp2_with fail
      go_ret
      exact ⟨rfl, HB2.out⟩
    have e1 := E1.out
    cases t2
    case false =>
      have e2 := E2.out
      go_enter Try.func31, Try.ntmps31
      go_upto_region 1 with (fail)
      generalize hW1 : w.alloc (.cells #[.int .i64 X, .int .i64 Y, .bool k, .bool d, .int .i64 pw, .int .i64 ph, .slice PA P.length pc] 47) = W1 at *
      refine wp_region_since (by kernel_rfl) (by kernel_rfl) ?_
      repeat (first | go_big_quiet_step ((first | (go_at_call 34; exact Calls.since (goodI_is pw ph PA pc P true _ (Kd.C_below HR.out (Since.below _)) HC.out HG.out)))) | quiet_step ((first | (go_at_call 34; exact Calls.since (goodI_is pw ph PA pc P true _ (Kd.C_below HR.out (Since.below _)) HC.out HG.out)))))
      refine wpQuiet_nil ?_
      intro _ hw'
      obtain ⟨z, hz⟩ := hw'
      subst hz
      have HB2 := Aside0.mk (z.old HB.out)
      go_wp2_with fail
      go_ret
      exact ⟨rfl, HB2.out⟩
    have e2 := E2.out
    cases t3
    case false =>
      have e3 := E3.out
      go_enter Try.func31, Try.ntmps31
      go_upto_region 1 with (fail)
      generalize hW1 : w.alloc (.cells #[.int .i64 X, .int .i64 Y, .bool k, .bool d, .int .i64 pw, .int .i64 ph, .slice PA P.length pc] 47) = W1 at *
      refine wp_region_since (by kernel_rfl) (by kernel_rfl) ?_
      repeat (first | go_big_quiet_step ((first | (go_at_call 34; exact Calls.since (goodI_is pw ph PA pc P true _ (Kd.C_below HR.out (Since.below _)) HC.out HG.out)))) | quiet_step ((first | (go_at_call 34; exact Calls.since (goodI_is pw ph PA pc P true _ (Kd.C_below HR.out (Since.below _)) HC.out HG.out)))))
      refine wpQuiet_nil ?_
      intro _ hw'
      obtain ⟨z, hz⟩ := hw'
      subst hz
      have HB2 := Aside0.mk (z.old HB.out)
      go_wp2_with fail
      go_ret
      exact ⟨rfl, HB2.out⟩
    have e3 := E3.out
    cases t4
    case false =>
      have e4 := E4.out
      go_enter Try.func31, Try.ntmps31
      go_upto_region 1 with (fail)
      generalize hW1 : w.alloc (.cells #[.int .i64 X, .int .i64 Y, .bool k, .bool d, .int .i64 pw, .int .i64 ph, .slice PA P.length pc] 47) = W1 at *
      refine wp_region_since (by kernel_rfl) (by kernel_rfl) ?_
      repeat (first | go_big_quiet_step ((first | (go_at_call 34; exact Calls.since (goodI_is pw ph PA pc P true _ (Kd.C_below HR.out (Since.below _)) HC.out HG.out)))) | quiet_step ((first | (go_at_call 34; exact Calls.since (goodI_is pw ph PA pc P true _ (Kd.C_below HR.out (Since.below _)) HC.out HG.out)))))
      refine wpQuiet_nil ?_
      intro _ hw'
      obtain ⟨z, hz⟩ := hw'
      subst hz
      have HB2 := Aside0.mk (z.old HB.out)
      go_wp2_with fail
      go_ret
      exact ⟨rfl, HB2.out⟩
    have e4 := E4.out
    go_enter Try.func31, Try.ntmps31
    go_upto_region 1 with (fail)
    generalize hW1 : w.alloc (.cells #[.int .i64 X, .int .i64 Y, .bool k, .bool d, .int .i64 pw, .int .i64 ph, .slice PA P.length pc] 47) = W1 at *
    refine wp_region_since (by kernel_rfl) (by kernel_rfl) ?_
    repeat (first | go_big_quiet_step ((first | (go_at_call 34; exact Calls.since (goodI_is pw ph PA pc P true _ (Kd.C_below HR.out (Since.below _)) HC.out HG.out)))) | quiet_step ((first | (go_at_call 34; exact Calls.since (goodI_is pw ph PA pc P true _ (Kd.C_below HR.out (Since.below _)) HC.out HG.out)))))
    refine wpQuiet_nil ?_
    intro _ hw'
    obtain ⟨z, hz⟩ := hw'
    subst hz
    have HB2 := Aside0.mk (z.old HB.out)
    go_wp2_with fail
    go_ret
    exact ⟨rfl, HB2.out⟩
  have := main (decide (goodI pw ph P)) (decide (0 ≤ X)) (decide (0 ≤ Y)) (decide (X ≤ W - pw)) (decide (Y ≤ H - ph)) rfl (fun hg => ⟨rfl, rfl, rfl, rfl, by
    obtain ⟨⟨a1, a2⟩, ⟨a3, a4⟩, _⟩ := of_decide_eq_true hg
    obtain ⟨b1, b2⟩ := hW
    exact px_w64 (by omega) (by omega), by
    obtain ⟨⟨a1, a2⟩, ⟨a3, a4⟩, _⟩ := of_decide_eq_true hg
    obtain ⟨b1, b2⟩ := hH
    exact px_w64 (by omega) (by omega)⟩)
  have e : decide (withinC W H X Y pw ph P) = (decide (goodI pw ph P) && decide (0 ≤ X) && decide (0 ≤ Y) && decide (X ≤ W - pw) && decide (Y ≤ H - ph)) := by
    by_cases c : withinC W H X Y pw ph P
    · rw [decide_eq_true c]
      obtain ⟨a1, a2, a3, a4, a5⟩ := c
      simp [a1, a2, a3, a4, a5]
    · rw [decide_eq_false c]
      symm
      rw [Bool.eq_false_iff]
      intro h
      simp only [Bool.and_eq_true, decide_eq_true_eq] at h
      exact c ⟨h.1.1.1.1, h.1.1.1.2, h.1.1.2, h.1.2, h.2⟩
  rw [e]
  exact this
end Go.Proofs.Ytegifkffhnhccaa.P
