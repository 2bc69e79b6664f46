/- What is kept is there just as it was given; what is blended over nothing is, too, but for what has no alpha. -/
import Derived.Test.YtegifkffhnhccaaPx
import Derived.Test.YtegifkffhnhccaaKeepsLaw
import Derived.Test.YtegifkffhnhccaaU
namespace Go.Proofs.Ytegifkffhnhccaa.Pure
open Go Go.RowKit Go.Proofs.Ytegifkffhnhccaa.P Go.Proofs.YtegifkffhnhccaaW.PrintWords Go.Proofs.YtegifkffhnhccaaW.PrintLast Go.Proofs.YtegifkffhnhccaaW.PrintMore Go.Proofs.Ytegifkffhnhccaa.U
set_option linter.unusedVariables false
set_option linter.unusedSimpArgs false
attribute [local go_sem] max2_int min2_int max_two min_two max_three min_three max_four min_four
theorem ref_good_eq (a b : Int) (l : List Int) : marquetryref11_Good.f a b l = some (decide (goodI a b l)) := by
  unfold marquetryref11_Good.f
  by_cases c1 : a ≥ 1
  case neg => rw [if_neg c1, decide_eq_false (fun h : goodI a b l => c1 h.1.1)]
  by_cases c2 : a ≤ 16384
  case neg => rw [if_pos c1, if_neg c2, decide_eq_false (fun h : goodI a b l => c2 h.1.2)]
  by_cases c3 : b ≥ 1
  case neg => rw [if_pos c1, if_pos c2, if_neg c3, decide_eq_false (fun h : goodI a b l => c3 h.2.1.1)]
  by_cases c4 : b ≤ 16384
  case neg => rw [if_pos c1, if_pos c2, if_pos c3, if_neg c4, decide_eq_false (fun h : goodI a b l => c4 h.2.1.2)]
  rw [if_pos c1, if_pos c2, if_pos c3, if_pos c4]
  have := mul_area (w := a) (h := b) ⟨c1, c2⟩ ⟨c3, c4⟩
  rw [w64 (by omega) (by omega)]
  congr 1
  by_cases c : (l.length : Int) = a * b
  · rw [decide_eq_true (show goodI a b l from ⟨⟨c1, c2⟩, ⟨c3, c4⟩, c⟩)]; simp [c]
  · rw [decide_eq_false (fun h : goodI a b l => c h.2.2)]; simp [c]
set_option maxHeartbeats 2000000 in
set_option maxRecDepth 100000 in
theorem CanvasKeeps (mw mh : Int) (A : Option Addr) (c : Nat) (l : List Int) (x y : Int) (keep : Bool) (w : World)
    (h1 : (Lit.int .i64 mw).wf = true) (h2 : (Lit.int .i64 mh).wf = true) (h3 : l.length ≤ maxLen) (h4 : l.length * 4 ≤ 140737488351232) (h5 : ∀ y ∈ l, (Lit.int .u32 y).wf = true) (h6 : (Lit.int .u8 x).wf = true) (h7 : (Lit.int .u8 y).wf = true)
    (g0 : Kd.C (Kd.int .u32) w A l.length l) (l0 : l.length ≤ c) :
    Calls Try.prog 8 #[.agg #[.int .i64 mw, .int .i64 mh, .slice A l.length c], .int .u8 x, .int .u8 y, .bool keep] w fun e w' => e = .returned (.bool true) ∧ Below w.heap.size w w' := by
  have hu : ∀ x ∈ l, U32 x := fun x hx => wf_u32 (h5 x hx)
  have hx8 := wf_u8 h6
  have hy8 := wf_u8 h7
  have w1 := wf_i64 h1
  have w2 := wf_i64 h2
  clear h1 h2 h3 h5 h6 h7
  have hs := (St.refl w).alloc #[.int .i64 mw, .int .i64 mh, .slice A l.length c] 31
  have m0 := (hs.cell 0).trans rfl
  have m1 := (hs.cell 1).trans rfl
  have m2 := (hs.cell 2).trans rfl
  have hb0 := hs.below
  have G := Aside0.mk (marquetryref11_Good.calls mw mh A c l (decide (goodI mw mh l)) _ (Kd.C_below g0 hb0) l0 (ref_good_eq mw mh l))
  have HS := Aside0.mk hs
  have HU := Aside0.mk hu
  have G0 := Aside0.mk g0
  have L0 := Aside0.mk l0
  clear hs hu hb0 g0 l0
  by_cases hall : goodI mw mh l ∧ (l.length : Int) ≤ 500 ∧ mw ≤ 40 ∧ mh ≤ 40
  case neg =>
    have skip : ∀ (gd t1 t2 t3 : Bool), decide (goodI mw mh l) = gd → decide ((l.length : Int) > 500) = t1 → decide (mw > 40) = t2 → decide (mh > 40) = t3 → (!gd || t1 || t2 || t3) = true →
        Calls Try.prog 8 #[.agg #[.int .i64 mw, .int .i64 mh, .slice A l.length c], .int .u8 x, .int .u8 y, .bool keep] w fun e w' => e = .returned (.bool true) ∧ Below w.heap.size w w' := by
      intro gd t1 t2 t3 hgd e1 e2 e3 hor
      clear hall hx8 hy8 w1 w2
      rw [hgd] at G
      have HG := G
      clear hgd G
      have e1' : decide (500 < (l.length : Int)) = t1 := e1
      have e2' : decide (40 < mw) = t2 := e2
      have e3' : decide (40 < mh) = t3 := e3
      have e1n : decide (500 < l.length) = t1 := by rw [← e1]; exact decide_eq_decide.2 (by omega)
      cases gd <;> cases t1 <;> cases t2 <;> cases t3 <;> first | exact absurd hor (by decide) | skip
      all_goals clear hor
      all_goals go_enter Try.func8, Try.ntmps8
      all_goals go_wp2_with fail
      all_goals (refine HG.out.mono ?_; rintro e w2 ⟨rfl, hb⟩)
      all_goals have h3 := HS.out.belowR hb
      all_goals have n0 := (h3.cell 0).trans rfl
      all_goals have n1 := (h3.cell 1).trans rfl
      all_goals have n2 := (h3.cell 2).trans rfl
      all_goals have HB := Aside0.mk h3.below
      all_goals clear m0 m1 m2 hb h3
      all_goals go_wp2_with fail
      all_goals (refine (marquetrylaw27_answers.calls true _ rfl).mono ?_; rintro e w3 ⟨rfl, hb⟩)
      all_goals have HB2 := Aside0.mk (below_then HB.out hb)
      all_goals clear hb
      all_goals go_wp2_with fail
      all_goals go_ret
      all_goals exact ⟨rfl, HB2.out⟩
    refine skip _ _ _ _ rfl rfl rfl rfl ?_
    by_cases a : goodI mw mh l
    case neg => rw [decide_eq_false a]; rfl
    by_cases b : (l.length : Int) > 500
    case pos => rw [decide_eq_true a, decide_eq_true b]; rfl
    by_cases d : mw > 40
    case pos => rw [decide_eq_true a, decide_eq_false b, decide_eq_true d]; rfl
    by_cases e : mh > 40
    case pos => rw [decide_eq_true a, decide_eq_false b, decide_eq_false d, decide_eq_true e]; rfl
    exact absurd ⟨a, by omega, by omega, by omega⟩ hall
  obtain ⟨hg, a500, a40, b40⟩ := hall
  obtain ⟨⟨q1, q2⟩, ⟨q3, q4⟩, q5⟩ := hg
  have hpos := (mul_area (w := mw) (h := mh) ⟨q1, q2⟩ ⟨q3, q4⟩).1
  obtain ⟨ad, rfl, _⟩ := G0.out.2.2 (by omega)
  obtain ⟨X, hX⟩ : ∃ X, X = x % 10 := ⟨_, rfl⟩
  obtain ⟨Y, hY⟩ : ∃ Y, Y = y % 10 := ⟨_, rfl⟩
  have bX : 0 ≤ X ∧ X ≤ 9 := by omega
  have bY : 0 ≤ Y ∧ Y ≤ 9 := by omega
  obtain ⟨pix, hren, hpl, hpx⟩ := kept_render (keep := keep) ⟨⟨q1, q2⟩, ⟨q3, q4⟩, q5⟩ a40 b40 bX bY HU.out
  rw [decide_eq_true (show goodI mw mh l from ⟨⟨q1, q2⟩, ⟨q3, q4⟩, q5⟩)] at G
  have t1 : decide ((l.length : Int) > 500) = false := decide_eq_false (by omega)
  have t1' : decide (500 < (l.length : Int)) = false := t1
  have t1n : decide (500 < l.length) = false := decide_eq_false (by omega)
  have t2 : decide (mw > 40) = false := decide_eq_false (by omega)
  have t2' : decide (40 < mw) = false := t2
  have t3 : decide (mh > 40) = false := decide_eq_false (by omega)
  have t3' : decide (40 < mh) = false := t3
  have e1 : wrap64 (mw + 10) = mw + 10 := w64 (by omega) (by omega)
  have e2 : wrap64 (mh + 10) = mh + 10 := w64 (by omega) (by omega)
  have e3 := i64_w (mw + 10)
  rw [e1] at e3
  have e4 := i64_w (mh + 10)
  rw [e2] at e4
  have e5 : Int.tmod x 10 = X := by rw [Int.tmod_eq_emod_of_nonneg hx8.1]; exact hX.symm
  have e6 : Int.tmod y 10 = Y := by rw [Int.tmod_eq_emod_of_nonneg hy8.1]; exact hY.symm
  have e7 : wrap64 X = X := w64 (by omega) (by omega)
  have e8 : wrap64 Y = Y := w64 (by omega) (by omega)
  have HREN := Aside0.mk hren
  have HPL := Aside0.mk hpl
  have HPX := Aside0.mk hpx
  have BX := Aside0.mk bX
  have BY := Aside0.mk bY
  have Q := Aside0.mk (⟨⟨q1, q2⟩, ⟨q3, q4⟩, q5⟩ : goodI mw mh l)
  have A40 := Aside0.mk a40
  have B40 := Aside0.mk b40
  have A500 := Aside0.mk a500
  clear hren hpl hpx bX bY hX hY hx8 hy8 q1 q2 q3 q4 q5 a40 b40 a500 w1 w2 hpos
  go_enter Try.func8, Try.ntmps8
  go_wp2_with fail
  refine G.out.mono ?_; rintro e w2 ⟨rfl, hb⟩
  have h3 := HS.out.belowR hb
  have n0 := (h3.cell 0).trans rfl
  have n1 := (h3.cell 1).trans rfl
  have n2 := (h3.cell 2).trans rfl
  have HS2 := Aside0.mk h3
  have h4 := h3.alloc #[.int .i64 X, .int .i64 Y, .bool keep, .bool false, .int .i64 mw, .int .i64 mh, .slice (some ad) l.length c] 47
  have o0 := (h4.swap.cell 0).trans rfl
  have o1 := (h4.swap.cell 1).trans rfl
  have o2 := (h4.swap.cell 2).trans rfl
  have p0 := (h4.cell 0).trans rfl
  have p1 := (h4.cell 1).trans rfl
  have p2 := (h4.cell 2).trans rfl
  have p3 := (h4.cell 3).trans rfl
  have p4 := (h4.cell 4).trans rfl
  have p5 := (h4.cell 5).trans rfl
  have p6 := (h4.cell 6).trans rfl
  have h5 := h4.alloc #[.int .i64 X, .int .i64 Y, .bool keep, .bool false, .int .i64 mw, .int .i64 mh, .slice (some ad) l.length c] 47
  have HC := Aside0.mk (C_one (d := k47) (x := keptP X Y keep mw mh l) (cs := [.int .i64 X, .int .i64 Y, .bool keep, .bool false, .int .i64 mw, .int .i64 mh, .slice (some ad) l.length c]) (k47_mk _ (keptP X Y keep mw mh l) L0.out (Kd.C_below G0.out h5.below)) rfl fun i u hi => by
    rw [show (⟨(w2.alloc (.cells #[.int .i64 X, .int .i64 Y, .bool keep, .bool false, .int .i64 mw, .int .i64 mh, .slice (some ad) l.length c] 47)).heap.size, 0, none⟩ : Addr).add i = ⟨(w2.alloc (.cells #[.int .i64 X, .int .i64 Y, .bool keep, .bool false, .int .i64 mw, .int .i64 mh, .slice (some ad) l.length c] 47)).heap.size, i, none⟩ by unfold Addr.add; split <;> simp_all]
    rw [h5.cell i]
    simpa using hi)
  rw [show (w2.alloc (.cells #[.int .i64 X, .int .i64 Y, .bool keep, .bool false, .int .i64 mw, .int .i64 mh, .slice (some ad) l.length c] 47)).heap.size = w2.heap.size + 1 by simp] at HC h5
  have HS3 := Aside0.mk h5.drop
  clear m0 m1 m2 hb h3 h4 h5 HS2
  go_wp2_with fail
  refine (renderF_calls (mw + 10) (mh + 10) _ 1 [keptP X Y keep mw mh l] 0 _ _ _ _ _ HC.out (Nat.le_refl 1) HREN.out).mono ?_; rintro e w3 ⟨v, rfl, ho, hb⟩
  obtain ⟨B, cB, rfl⟩ := Kd.R_slice ho
  have h6 := HS3.out.newRow hb (Kd.own_of_R ho) (Nat.le_refl _)
  obtain ⟨gb, rfl⟩ := h6.rowForm (by have := HPL.out; have := Q.out.1.1; have := Q.out.2.1.1; have := mul_area (w := mw + 10) (h := mh + 10) ⟨by omega, by have := A40.out; omega⟩ ⟨by omega, by have := B40.out; omega⟩; omega)
  have h7 := h6.alloc #[.int .i64 (mw + 10), .int .i64 (mh + 10), .slice (some ⟨gb, 0, none⟩) pix.length cB] 31
  have k0 := (h7.cell 0).trans rfl
  have k1 := (h7.cell 1).trans rfl
  have k2 := (h7.cell 2).trans rfl
  have j0 := (h7.rot4.cell 0).trans rfl
  have j1 := (h7.rot4.cell 1).trans rfl
  have j2 := (h7.rot4.cell 2).trans rfl
  have HS7 := Aside0.mk h7
  have pm : wrap64 ((mw + 10) * (mh + 10)) = pix.length := by
    have := HPL.out; have := Q.out.1.1; have := Q.out.2.1.1; have := A40.out; have := B40.out
    have := mul_area (w := mw + 10) (h := mh + 10) ⟨by omega, by omega⟩ ⟨by omega, by omega⟩
    rw [w64 (by omega) (by omega)]; omega
  have pm2 := i64_w ((mw + 10) * (mh + 10))
  rw [pm] at pm2
  have pmn : ((pix.length : Int) != (pix.length : Int)) = false := by simp
  clear o0 o1 o2 p0 p1 p2 p3 p4 p5 p6 h6 h7 HC HS3 ho hb
  go_wp2_with fail
  go_loopw [12] (fun i wr => ∃ q : Nat, q ≤ l.length ∧ i = .int .i64 q ∧ St w wr (Asrt.blk w3.heap.size 31 #[.int .i64 (mw + 10), .int .i64 (mh + 10), .slice (some ⟨gb, 0, none⟩) pix.length cB] * (Asrt.row 22 1 (.slice (some ⟨gb, 0, none⟩) pix.length cB) pix.length (nums .u32 pix) * (Asrt.blk w2.heap.size 47 #[.int .i64 X, .int .i64 Y, .bool keep, .bool false, .int .i64 mw, .int .i64 mh, .slice (some ad) l.length c] * (Asrt.blk w.heap.size 31 #[.int .i64 mw, .int .i64 mh, .slice (some ad) l.length c] * Asrt.emp))))) (fun i _ => l.length - (intOf i).toNat)
  case atStart => exact ⟨0, by omega, rfl, HS7.out⟩
  case round =>
    obtain ⟨q, hq, rfl, hs⟩ := hrel
    clear k0 k1 k2 j0 j1 j2
    have k0 := (hs.cell 0).trans rfl
    have k1 := (hs.cell 1).trans rfl
    have k2 := (hs.cell 2).trans rfl
    have j0 := (hs.rot4.cell 0).trans rfl
    have j1 := (hs.rot4.cell 1).trans rfl
    have j2 := (hs.rot4.cell 2).trans rfl
    have p0 := (hs.rot3.cell 0).trans rfl
    have p1 := (hs.rot3.cell 1).trans rfl
    by_cases hlt : q < l.length
    case neg =>
      obtain rfl : q = l.length := by omega
      have y1 : decide ((l.length : Int) < l.length) = false := decide_eq_false (by omega)
      have HS8 := Aside0.mk hs
      clear hs hlt hq HS7
      go_wp2_with fail
      refine (marquetrylaw27_answers.calls true _ rfl).mono ?_; rintro e w4 ⟨rfl, hb⟩
      have HB := Aside0.mk (HS8.out.belowR hb).below; clear hb
      go_wp2_with fail
      go_ret
      exact ⟨rfl, HB.out⟩
    have y1 : decide ((q : Int) < l.length) = true := decide_eq_true (by omega)
    have hcell : wr.cell? (ad.add q) = some (.int .u32 (rd l q)) := by
      obtain ⟨ad', he, hc⟩ := C_int_at G0.out (by omega)
      injection he with he
      subst he
      exact (hs.below.cell (World.block_lt_of_cell? _ _ (hc q hlt))).trans (hc q hlt)
    have hL : l.length ≤ 9223372036854775806 := by omega
    have HI := HPX.out q hlt
    obtain ⟨D, M, I, d1, d2, d3, d4, d5, d6, d7, d8⟩ : ∃ (D M : Int) (I : Nat), Int.tdiv (q : Int) mw = D ∧ Int.tmod (q : Int) mw = M ∧ wrap64 D = D ∧ wrap64 (Y + D) = Y + D ∧ wrap64 ((Y + D) * (mw + 10)) = (Y + D) * (mw + 10) ∧ wrap64 ((Y + D) * (mw + 10) + X) = (Y + D) * (mw + 10) + X ∧ wrap64 ((Y + D) * (mw + 10) + X + M) = I ∧ (I < pix.length ∧ rd pix I = if keep = false ∧ pA (rd l q) = 0 then 0 else rd l q) := by
      obtain ⟨⟨z1, z2⟩, ⟨z3, z4⟩, z5⟩ := Q.out
      have z6 := A40.out
      have z7 := B40.out
      have z8 := A500.out
      have z9 := BX.out
      have z10 := BY.out
      have q1 : (q : Int) / mw * mw + q % mw = q := Int.ediv_mul_add_emod _ _
      have q2 := Int.emod_nonneg (q : Int) (show mw ≠ 0 by omega)
      have q3 := Int.emod_lt_of_pos (q : Int) (show 0 < mw by omega)
      have q4 : 0 ≤ (q : Int) / mw := Int.ediv_nonneg (by omega) (by omega)
      have q5 : (q : Int) / mw < mh := Int.ediv_lt_of_lt_mul (by omega) (by rw [Int.mul_comm]; omega)
      have hin := at_in (W := mw + 10) (H := mh + 10) (x := X + (q : Int) % mw) (y := Y + (q : Int) / mw) (by omega) (by omega) (by omega) (by omega)
      have hm := mul_bd (x := Y + (q : Int) / mw) (y := mw + 10) (X := 60) (Y := 50) (by omega) (by omega) (by omega) (by omega)
      refine ⟨(q : Int) / mw, (q : Int) % mw, ((Y + (q : Int) / mw) * (mw + 10) + X + (q : Int) % mw).toNat, Int.tdiv_eq_ediv_of_nonneg (by omega), Int.tmod_eq_emod_of_nonneg (by omega), w64 (by omega) (by omega), w64 (by omega) (by omega), w64 (by omega) (by omega), w64 (by omega) (by omega), ?_, ?_, ?_⟩
      · rw [w64 (by omega) (by omega), Int.toNat_of_nonneg (by omega)]
      · have := HPL.out; omega
      · rw [Int.toNat_of_nonneg (by omega)]; exact HI
    have v1 := i64_w (Y + D); rw [d4] at v1
    have v2 := i64_w ((Y + D) * (mw + 10)); rw [d5] at v2
    have v3 := i64_w ((Y + D) * (mw + 10) + X); rw [d6] at v3
    have v4 := i64_w ((Y + D) * (mw + 10) + X + M); rw [d7] at v4
    have v5 := i64_w D; rw [d3] at v5
    have mz : (mw == 0) = false := by have := Q.out.1.1; simp; omega
    have mz2 : (mw = 0) = False := by have := Q.out.1.1; simp; omega
    have x1 := hs.swap.rowAt (I : Int) (by omega) (by have := d8.1; omega)
    simp only [Int.toNat_natCast] at x1
    have xc := x1.1
    have i1 : decide ((I : Int) < pix.length) = true := decide_eq_true (by have := d8.1; omega)
    have i2 : (I < pix.length) = True := eq_true d8.1
    have i3 : ((I : Int) < pix.length) = True := eq_true (by have := d8.1; omega)
    have i4 : decide (I < pix.length) = true := decide_eq_true d8.1
    have D8 := Aside0.mk d8.2
    have HS8 := Aside0.mk hs
    have HLT := Aside0.mk hlt
    clear hs x1 d8 HI HS7 hq
    generalize hR : rd l (q : Int) = R at *
    generalize hP : rd pix (I : Int) = P at *
    have hd := D8.out
    unfold pA at hd
    by_cases c0 : R / 16777216 = 0
    all_goals cases keep
    case pos.false =>
      rw [if_pos ⟨rfl, c0⟩] at hd
      subst hd
      have tz : (R / 16777216 == 0) = true := by simp [c0]
      clear D8 c0
      go_wp2_with fail
      go_quiet (fail)
      go_wp2_with fail
      go_roundw
      case rel => exact ⟨q + 1, HLT.out, by go_num, HS8.out.drewN nq⟩
      case measure => have := HLT.out; simp [intOf]; omega
    case neg.false =>
      rw [if_neg (fun h => c0 h.2)] at hd
      subst hd
      have tz : (P / 16777216 == 0) = false := by simp [c0]
      have tn : (P != P) = false := by simp
      clear D8 c0
      go_wp2_with fail
      go_quiet (fail)
      go_wp2_with fail
      go_roundw
      case rel => exact ⟨q + 1, HLT.out, by go_num, HS8.out.drewN nq⟩
      case measure => have := HLT.out; simp [intOf]; omega
    all_goals
      rw [if_neg (fun h => by cases h.1)] at hd
      subst hd
      have tn : (P != P) = false := by simp
      clear D8 c0
      go_wp2_with fail
      go_quiet (fail)
      go_wp2_with fail
      go_roundw
      case rel => exact ⟨q + 1, HLT.out, by go_num, HS8.out.drewN nq⟩
      case measure => have := HLT.out; simp [intOf]; omega
end Go.Proofs.Ytegifkffhnhccaa.Pure
