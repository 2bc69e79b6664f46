/- The part of our texts, and of the print's, that these laws' proofs use. -/
import Derived.Test.YthkocpcjcpohcaaZC14
section
namespace Go.Proofs.Ythkocpcjcpohcaa.P
open Go Go.RowKit Go.Proofs.YthkocpcjcpohcaaW.PrintWords Go.Proofs.YthkocpcjcpohcaaW.PrintLast Go.Proofs.YthkocpcjcpohcaaW.PrintMore Go.Proofs.Ythkocpcjcpohcaa.U Go.Proofs.Ythkocpcjcpohcaa.Pure
set_option linter.unusedVariables false
set_option linter.unusedSimpArgs false
attribute [local go_sem] max2_int min2_int max_two min_two max_three min_three max_four min_four
theorem same_loopG (a b : List Int) (hl : a.length = b.length) (hlen : a.length ≤ 140737488355328) (d : Nat) : ∀ i : Nat, i + d = a.length → Ev (fun k => marquetryref01_Same.l0 k a b i) (decide (a.drop i = b.drop i)) := by
  induction d with
  | zero =>
    intro i hd
    refine Ev.succ ?_
    simp only [marquetryref01_Same.l0]
    rw [List.drop_of_length_le (by omega), List.drop_of_length_le (by omega)]
    exact Ev.ite_neg (by omega) (Ev.now _)
  | succ d ih =>
    intro i hd
    refine Ev.succ ?_
    simp only [marquetryref01_Same.l0]
    rw [w64 (n := (i : Int) + 1) (by omega) (by omega)]
    refine Ev.ite_pos (by omega) (Ev.ite_pos (by omega) (Ev.ite_pos (by omega) ?_))
    rw [List.drop_eq_getElem_cons (show i < a.length by omega), List.drop_eq_getElem_cons (show i < b.length by omega), Pure.rd_nat (by omega), Pure.rd_nat (by omega)]
    by_cases h : a[i] = b[i]
    · rw [show decide (a[i] :: a.drop (i + 1) = b[i] :: b.drop (i + 1)) = decide (a.drop (i + 1) = b.drop (i + 1)) from decide_eq_decide.2 ⟨fun e => (List.cons.inj e).2, fun e => by rw [h, e]⟩]
      exact Ev.ite_pos h (ih (i + 1) (by omega))
    · rw [decide_eq_false fun x => h (List.cons.inj x).1]
      exact Ev.ite_neg h (Ev.now _)
theorem sameG_ev (a b : List Int) (hlen : a.length ≤ 140737488355328) : Ev (fun k => marquetryref01_Same.f k a b) (decide (a = b)) := by
  unfold marquetryref01_Same.f
  by_cases h : a.length = b.length
  · refine Ev.ite_pos (by omega) ?_
    have := same_loopG a b h hlen a.length 0 (by omega)
    simpa using this
  · rw [decide_eq_false fun x => h (by rw [x])]
    exact Ev.ite_neg (by omega) (Ev.now _)
theorem sameChunks_loopG (a b : List Ch) (hl : a.length = b.length) (hlen : a.length ≤ 140737488355328) (hd : ∀ x ∈ a, x.f1.length ≤ 140737488355328) (d : Nat) : ∀ i : Nat, i + d = a.length → Ev (fun k => marquetryref24_SameChunks.l0 k a b i) (decide (a.drop i = b.drop i)) := by
  induction d with
  | zero =>
    intro i h
    refine Ev.succ ?_
    simp only [marquetryref24_SameChunks.l0]
    rw [List.drop_of_length_le (by omega), List.drop_of_length_le (by omega)]
    exact Ev.ite_neg (by omega) (Ev.now _)
  | succ d ih =>
    intro i h
    refine Ev.succ ?_
    simp only [marquetryref24_SameChunks.l0]
    refine Ev.ite_pos (by omega) (Ev.ite_pos (by omega) (Ev.ite_pos (by omega) ?_))
    rw [rdT_at (show i < a.length by omega), rdT_at (show i < b.length by omega)]
    rw [List.drop_eq_getElem_cons (show i < a.length by omega), List.drop_eq_getElem_cons (show i < b.length by omega)]
    by_cases hn : a[i].f0.toList = b[i].f0.toList
    · refine Ev.ite_pos hn (Ev.bind (sameG_ev _ _ (hd _ (List.getElem_mem _))) ?_)
      have hn' : a[i].f0 = b[i].f0 := by have h := ba_eq a[i].f0 b[i].f0; rw [hn] at h; simpa using h.symm
      by_cases h1 : a[i].f1 = b[i].f1
      · have he : a[i] = b[i] := by
          generalize a[i] = u at hn' h1
          generalize b[i] = v at hn' h1
          cases u
          cases v
          simp_all
        rw [decide_eq_true h1, w64 (by omega) (by omega)]
        rw [show decide (a[i] :: a.drop (i + 1) = b[i] :: b.drop (i + 1)) = decide (a.drop (i + 1) = b.drop (i + 1)) from decide_eq_decide.2 ⟨fun e => (List.cons.inj e).2, fun e => by rw [he, e]⟩]
        exact Ev.ite_pos rfl (ih (i + 1) (by omega))
      · rw [decide_eq_false h1, decide_eq_false fun x => h1 (by rw [(List.cons.inj x).1])]
        exact Ev.ite_neg (by simp) (Ev.now _)
    · rw [decide_eq_false fun x => hn (by rw [(List.cons.inj x).1])]
      exact Ev.ite_neg hn (Ev.now _)
theorem sameChunksG_ev (a b : List Ch) (hlen : a.length ≤ 140737488355328) (hd : ∀ x ∈ a, x.f1.length ≤ 140737488355328) : Ev (fun k => marquetryref24_SameChunks.f k a b) (decide (a = b)) := by
  unfold marquetryref24_SameChunks.f
  by_cases h : a.length = b.length
  · refine Ev.ite_pos (by omega) ?_
    have := sameChunks_loopG a b h hlen hd a.length 0 (by omega)
    simpa using this
  · rw [decide_eq_false fun x => h (by rw [x])]
    exact Ev.ite_neg (by omega) (Ev.now _)
theorem rSame_calls (A0 : Option Addr) (c0 : Nat) (l0 : List Int) (A1 : Option Addr) (c1 : Nat) (l1 : List Int) (w : World) (hd : l0.length ≤ 140737488351232) (hr0 : (Kd.int .u8).C w A0 l0.length l0) (hc0 : l0.length ≤ c0) (hr1 : (Kd.int .u8).C w A1 l1.length l1) (hc1 : l1.length ≤ c1) :
    Calls Try.prog 15 #[.slice A0 l0.length c0, .slice A1 l1.length c1] w fun e w' => e = .returned (.bool (decide (l0 = l1))) ∧ Drawn0 w w' := by
  obtain ⟨k, hk⟩ := (sameG_ev l0 l1 (by omega)).rounds
  exact marquetryref01_Same.calls k A0 c0 l0 A1 c1 l1 _ w hr0 hc0 hr1 hc1 hk
theorem rSameChunks_calls (A0 : Option Addr) (c0 : Nat) (l0 : List Ch) (A1 : Option Addr) (c1 : Nat) (l1 : List Ch) (w : World) (hd : chsL l0) (hr0 : k42.C w A0 l0.length l0) (hc0 : l0.length ≤ c0) (hr1 : k42.C w A1 l1.length l1) (hc1 : l1.length ≤ c1) :
    Calls Try.prog 41 #[.slice A0 l0.length c0, .slice A1 l1.length c1] w fun e w' => e = .returned (.bool (decide (l0 = l1))) ∧ Drawn0 w w' := by
  obtain ⟨k, hk⟩ := (sameChunksG_ev l0 l1 (by have := hd.1; omega) (fun x hx => by have := (hd.2 x hx).2.2; omega)).rounds
  exact marquetryref24_SameChunks.calls k A0 c0 l0 A1 c1 l1 _ w hr0 hc0 hr1 hc1 hk
theorem St.two {w Wa Wb : World} {P Q : Array Value} {T T' : TypeId} (hX : w.alloc (.cells P T) = Wa) (hY : Wa.alloc (.cells Q T') = Wb) : St w Wb (Asrt.blk (w.heap.size + 1) T' Q * (Asrt.blk w.heap.size T P * Asrt.emp)) := by
  subst hX hY
  have h := ((St.refl w).alloc P T).alloc Q T'
  rwa [show (w.alloc (.cells P T)).heap.size = w.heap.size + 1 by simp] at h
theorem St.two' {w wr Wa Wb : World} {A : Asrt} {P Q : Array Value} {T T' : TypeId} (h : St w wr A) (hX : Wa = wr.alloc (.cells P T)) (hY : Wb = Wa.alloc (.cells Q T')) : St w Wb (Asrt.blk (wr.heap.size + 1) T' Q * (Asrt.blk wr.heap.size T P * A)) := by
  subst hX hY
  have h := (h.alloc P T).alloc Q T'
  rwa [show (wr.alloc (.cells P T)).heap.size = wr.heap.size + 1 by simp] at h
set_option maxHeartbeats 16000000 in
set_option maxRecDepth 100000 in
theorem refSame_calls (x y : Dc) (cs ds : List Value) (w : World) (hx : k27.K w x cs) (hy : k27.K w y ds) (bx : okDc x) :
    Calls Try.prog 18 #[.agg cs.toArray, .agg ds.toArray] w fun e w' => e = .returned (.bool (decide (x = y))) ∧ Below w.heap.size w w' := by
  obtain ⟨A1, c1, A2, c2, A3, c3, A4, c4, A5, c5, rfl, l1, g1, l2, g2, l3, g3, l4, g4, l5, g5⟩ := k27_open hx
  obtain ⟨B1, d1, B2, d2, B3, d3, B4, d4, B5, d5, rfl, m1, h1, m2, h2, m3, h3, m4, h4, m5, h5⟩ := k27_open hy
  have HE1 := Aside0.mk fun (W : World) (hb : Below w.heap.size w W) => rSame_calls A1 c1 x.f7 B1 d1 y.f7 W bx.pr.2 (Kd.C_below g1 hb) l1 (Kd.C_below h1 hb) m1
  have HE2 := Aside0.mk fun (W : World) (hb : Below w.heap.size w W) => rSame_calls A2 c2 x.f8 B2 d2 y.f8 W bx.ex.2 (Kd.C_below g2 hb) l2 (Kd.C_below h2 hb) m2
  have HE3 := Aside0.mk fun (W : World) (hb : Below w.heap.size w W) => rSame_calls A3 c3 x.f9 B3 d3 y.f9 W bx.xm.2 (Kd.C_below g3 hb) l3 (Kd.C_below h3 hb) m3
  have HE5 := Aside0.mk fun (W : World) (hb : Below w.heap.size w W) => rSameChunks_calls A5 c5 x.f14 B5 d5 y.f14 W bx.mo (Kd.C_below g5 hb) l5 (Kd.C_below h5 hb) m5
  have HXY := Aside0.mk (@dc_eq x y)
  have G4 := Aside0.mk g4
  have H4 := Aside0.mk h4
  have BX := Aside0.mk bx.fr
  clear hx hy g1 g2 g3 g4 g5 h1 h2 h3 h4 h5 bx
  go_enter Try.func18, Try.ntmps18
  go_upto_region 5 with (first
    | (go_at_call 15; with_reducible refine (HE1.out _ (by repeat (first | exact Below.refl _ _ | apply pw_below_drewN | apply below_alloc))).mono ?_; clear HE1; rintro e w1 ⟨rfl, ⟨n1, rfl⟩⟩)
    | (go_at_call 15; with_reducible refine (HE2.out _ (by repeat (first | exact Below.refl _ _ | apply pw_below_drewN | apply below_alloc))).mono ?_; clear HE2; rintro e w1 ⟨rfl, ⟨n2, rfl⟩⟩)
    | (go_at_call 15; with_reducible refine (HE3.out _ (by repeat (first | exact Below.refl _ _ | apply pw_below_drewN | apply below_alloc))).mono ?_; clear HE3; rintro e w1 ⟨rfl, ⟨n3, rfl⟩⟩)
    | (go_at_call 41; with_reducible refine (HE5.out _ (by repeat (first | exact Below.refl _ _ | apply pw_below_drewN | apply below_alloc))).mono ?_; clear HE5; rintro e w1 ⟨rfl, ⟨n4, rfl⟩⟩))
  all_goals first
    | (go_ret; refine And.intro ?_ (by repeat (first | exact Below.refl _ _ | apply pw_below_drewN | apply below_alloc)); simp [HXY.out, *]; done)
    | (go_ret; refine And.intro ?_ (by repeat (first | exact Below.refl _ _ | apply pw_below_drewN | apply below_alloc)); rename_i h; have hne : x ≠ y := (by rintro rfl; revert h; first | (simp; done) | (cases x.f12 <;> simp; done)); simp [hne]; done)
    | skip
  have hl : x.f13.length = y.f13.length := by
    simp only [bne_eq_false_iff_eq, Int.ofNat_inj] at *
    assumption
  have h12 : x.f12 = y.f12 := by
    first
      | exact ‹x.f12 = y.f12›
      | (have h := ‹(!x.f12 == y.f12) = false›; revert h; cases x.f12 <;> cases y.f12 <;> simp)
  have HEQ : Aside0 (x = y ↔ x.f13 = y.f13) := ⟨by simp [HXY.out, *]⟩
  clear h12
  rw [‹x.f14 = y.f14›]
  generalize hX : w.alloc _ = Wa
  generalize hY : Wa.alloc _ = Wb
  have hs0 := St.two hX hY
  go_cut [5] from 8 to 114 (fun v wc => v = .int .i64 0 ∧ ∃ (P1 P2 : Array Value) (r : Asrt), P1[13]? = some (.slice A4 x.f13.length c4) ∧ P2[13]? = some (.slice B4 y.f13.length d4) ∧ St w wc (Asrt.blk (w.heap.size + 1) 27 P2 * (Asrt.blk w.heap.size 27 P1 * r)))
  case first =>
    go_wp2_with fail
    go_meet
    case rel => exact ⟨rfl, _, _, _, rfl, rfl, hs0.belowR (by repeat (first | exact Below.refl _ _ | apply pw_below_drewN | apply below_alloc))⟩
  case rest =>
  obtain ⟨rfl, Q1, Q2, r0, hq1, hq2, hs1⟩ := hcut
  go_wp2_with fail
  have HLL := Aside0.mk hl
  clear hl
  go_loopw [5] (fun i wr => ∃ k : Nat, k ≤ x.f13.length ∧ i = .int .i64 k ∧ x.f13.take k = y.f13.take k ∧ ∃ (P1 P2 : Array Value) (r : Asrt), P1[13]? = some (.slice A4 x.f13.length c4) ∧ P2[13]? = some (.slice B4 y.f13.length d4) ∧ St w wr (Asrt.blk (w.heap.size + 1) 27 P2 * (Asrt.blk w.heap.size 27 P1 * r))) (fun i _ => x.f13.length - (intOf i).toNat)
  case atStart => exact ⟨0, Nat.zero_le _, rfl, rfl, Q1, Q2, r0, hq1, hq2, hs1⟩
  case round =>
    obtain ⟨k, hk, rfl, ht, P1, P2, r, hp1, hp2, hs⟩ := hrel
    clear hs0 hX hY HXY hs1 hq1 hq2
    have z13 := (hs.swap.cell 13).trans hp1
    have u13 := (hs.cell 13).trans hp2
    by_cases hlt : k < x.f13.length
    · have x1 : decide ((k : Int) < x.f13.length) = true := decide_eq_true (by omega)
      have x2 : decide (k < x.f13.length) = true := decide_eq_true hlt
      have x3 : (k < x.f13.length) = True := eq_true hlt
      have x4 : ((k : Int) < x.f13.length) = True := eq_true (by omega)
      have x5 : (k < y.f13.length) = True := eq_true (by have := HLL.out; omega)
      have x6 : ((k : Int) < y.f13.length) = True := eq_true (by have := HLL.out; omega)
      have k16 : k ≤ 9223372036854775806 := by have := G4.out.2.1; omega
      obtain ⟨ad1, E8, i8, E9, i9, E10, i10, rfl, e0, e1, e2, e3, e4, e5, e6, e7, e8, e9, e10, n8, j8, n9, j9, n10, j10⟩ := at_T44 G4.out (k : Int) (by omega) (by omega)
      obtain ⟨ad2, F8, o8, F9, o9, F10, o10, rfl, h0, h1, h2, h3, h4, h5, h6, h7, h8, h9, h10, p8, q8, p9, q9, p10, q10⟩ := at_T44 H4.out (k : Int) (by omega) (by have := HLL.out; omega)
      simp only [Int.toNat_natCast] at e0 e1 e2 e3 e4 e5 e6 e7 e8 e9 e10 h0 h1 h2 h3 h4 h5 h6 h7 h8 h9 h10
      have htn := take_next z44 hlt HLL.out ht
      have hin := getD_in z44 hlt
      rw [show x.f13.getD k z44 = rd_T44 x.f13 k from rfl, show y.f13.getD k z44 = rd_T44 y.f13 k from rfl] at htn
      rw [show x.f13.getD k z44 = rd_T44 x.f13 k from rfl] at hin
      generalize rd_T44 x.f13 k = u at *
      generalize rd_T44 y.f13 k = v at *
      have bu := BX.out.2 u hin
      have HT := Aside0.mk htn
      have HLT := Aside0.mk hlt
      have HB := Aside0.mk hs.below
      have HF1 := Aside0.mk fun (W : World) (hb : Below w.heap.size w W) => rSame_calls E8 i8 u.f8 F8 o8 v.f8 W bu.al.2 (Kd.C_below j8 hb) n8 (Kd.C_below q8 hb) p8
      have HF2 := Aside0.mk fun (W : World) (hb : Below w.heap.size w W) => rSame_calls E9 i9 u.f9 F9 o9 v.f9 W bu.da.2 (Kd.C_below j9 hb) n9 (Kd.C_below q9 hb) p9
      have HF3 := Aside0.mk fun (W : World) (hb : Below w.heap.size w W) => rSameChunks_calls E10 i10 u.f10 F10 o10 v.f10 W bu.mo (Kd.C_below j10 hb) n10 (Kd.C_below q10 hb) p10
      have HUV := Aside0.mk (@fr_eq u v)
      have HS := Aside0.mk hs
      replace e0 := (hs.below.cell (World.block_lt_of_cell? _ _ e0)).trans e0
      replace e1 := (hs.below.cell (World.block_lt_of_cell? _ _ e1)).trans e1
      replace e2 := (hs.below.cell (World.block_lt_of_cell? _ _ e2)).trans e2
      replace e3 := (hs.below.cell (World.block_lt_of_cell? _ _ e3)).trans e3
      replace e4 := (hs.below.cell (World.block_lt_of_cell? _ _ e4)).trans e4
      replace e5 := (hs.below.cell (World.block_lt_of_cell? _ _ e5)).trans e5
      replace e6 := (hs.below.cell (World.block_lt_of_cell? _ _ e6)).trans e6
      replace e7 := (hs.below.cell (World.block_lt_of_cell? _ _ e7)).trans e7
      replace e8 := (hs.below.cell (World.block_lt_of_cell? _ _ e8)).trans e8
      replace e9 := (hs.below.cell (World.block_lt_of_cell? _ _ e9)).trans e9
      replace e10 := (hs.below.cell (World.block_lt_of_cell? _ _ e10)).trans e10
      replace h0 := (hs.below.cell (World.block_lt_of_cell? _ _ h0)).trans h0
      replace h1 := (hs.below.cell (World.block_lt_of_cell? _ _ h1)).trans h1
      replace h2 := (hs.below.cell (World.block_lt_of_cell? _ _ h2)).trans h2
      replace h3 := (hs.below.cell (World.block_lt_of_cell? _ _ h3)).trans h3
      replace h4 := (hs.below.cell (World.block_lt_of_cell? _ _ h4)).trans h4
      replace h5 := (hs.below.cell (World.block_lt_of_cell? _ _ h5)).trans h5
      replace h6 := (hs.below.cell (World.block_lt_of_cell? _ _ h6)).trans h6
      replace h7 := (hs.below.cell (World.block_lt_of_cell? _ _ h7)).trans h7
      replace h8 := (hs.below.cell (World.block_lt_of_cell? _ _ h8)).trans h8
      replace h9 := (hs.below.cell (World.block_lt_of_cell? _ _ h9)).trans h9
      replace h10 := (hs.below.cell (World.block_lt_of_cell? _ _ h10)).trans h10
      have hwa := fun (o : Obj) => below_alloc (Below.refl wr.heap.size wr) o
      have hwb := fun (o o2 : Obj) => below_alloc (hwa o) o2
      have Ae0 := fun o => ((hwa o).cell (World.block_lt_of_cell? _ _ e0)).trans e0
      have Be0 := fun o o2 => ((hwb o o2).cell (World.block_lt_of_cell? _ _ e0)).trans e0
      have Ae1 := fun o => ((hwa o).cell (World.block_lt_of_cell? _ _ e1)).trans e1
      have Be1 := fun o o2 => ((hwb o o2).cell (World.block_lt_of_cell? _ _ e1)).trans e1
      have Ae2 := fun o => ((hwa o).cell (World.block_lt_of_cell? _ _ e2)).trans e2
      have Be2 := fun o o2 => ((hwb o o2).cell (World.block_lt_of_cell? _ _ e2)).trans e2
      have Ae3 := fun o => ((hwa o).cell (World.block_lt_of_cell? _ _ e3)).trans e3
      have Be3 := fun o o2 => ((hwb o o2).cell (World.block_lt_of_cell? _ _ e3)).trans e3
      have Ae4 := fun o => ((hwa o).cell (World.block_lt_of_cell? _ _ e4)).trans e4
      have Be4 := fun o o2 => ((hwb o o2).cell (World.block_lt_of_cell? _ _ e4)).trans e4
      have Ae5 := fun o => ((hwa o).cell (World.block_lt_of_cell? _ _ e5)).trans e5
      have Be5 := fun o o2 => ((hwb o o2).cell (World.block_lt_of_cell? _ _ e5)).trans e5
      have Ae6 := fun o => ((hwa o).cell (World.block_lt_of_cell? _ _ e6)).trans e6
      have Be6 := fun o o2 => ((hwb o o2).cell (World.block_lt_of_cell? _ _ e6)).trans e6
      have Ae7 := fun o => ((hwa o).cell (World.block_lt_of_cell? _ _ e7)).trans e7
      have Be7 := fun o o2 => ((hwb o o2).cell (World.block_lt_of_cell? _ _ e7)).trans e7
      have Ae8 := fun o => ((hwa o).cell (World.block_lt_of_cell? _ _ e8)).trans e8
      have Be8 := fun o o2 => ((hwb o o2).cell (World.block_lt_of_cell? _ _ e8)).trans e8
      have Ae9 := fun o => ((hwa o).cell (World.block_lt_of_cell? _ _ e9)).trans e9
      have Be9 := fun o o2 => ((hwb o o2).cell (World.block_lt_of_cell? _ _ e9)).trans e9
      have Ae10 := fun o => ((hwa o).cell (World.block_lt_of_cell? _ _ e10)).trans e10
      have Be10 := fun o o2 => ((hwb o o2).cell (World.block_lt_of_cell? _ _ e10)).trans e10
      have Ah0 := fun o => ((hwa o).cell (World.block_lt_of_cell? _ _ h0)).trans h0
      have Bh0 := fun o o2 => ((hwb o o2).cell (World.block_lt_of_cell? _ _ h0)).trans h0
      have Ah1 := fun o => ((hwa o).cell (World.block_lt_of_cell? _ _ h1)).trans h1
      have Bh1 := fun o o2 => ((hwb o o2).cell (World.block_lt_of_cell? _ _ h1)).trans h1
      have Ah2 := fun o => ((hwa o).cell (World.block_lt_of_cell? _ _ h2)).trans h2
      have Bh2 := fun o o2 => ((hwb o o2).cell (World.block_lt_of_cell? _ _ h2)).trans h2
      have Ah3 := fun o => ((hwa o).cell (World.block_lt_of_cell? _ _ h3)).trans h3
      have Bh3 := fun o o2 => ((hwb o o2).cell (World.block_lt_of_cell? _ _ h3)).trans h3
      have Ah4 := fun o => ((hwa o).cell (World.block_lt_of_cell? _ _ h4)).trans h4
      have Bh4 := fun o o2 => ((hwb o o2).cell (World.block_lt_of_cell? _ _ h4)).trans h4
      have Ah5 := fun o => ((hwa o).cell (World.block_lt_of_cell? _ _ h5)).trans h5
      have Bh5 := fun o o2 => ((hwb o o2).cell (World.block_lt_of_cell? _ _ h5)).trans h5
      have Ah6 := fun o => ((hwa o).cell (World.block_lt_of_cell? _ _ h6)).trans h6
      have Bh6 := fun o o2 => ((hwb o o2).cell (World.block_lt_of_cell? _ _ h6)).trans h6
      have Ah7 := fun o => ((hwa o).cell (World.block_lt_of_cell? _ _ h7)).trans h7
      have Bh7 := fun o o2 => ((hwb o o2).cell (World.block_lt_of_cell? _ _ h7)).trans h7
      have Ah8 := fun o => ((hwa o).cell (World.block_lt_of_cell? _ _ h8)).trans h8
      have Bh8 := fun o o2 => ((hwb o o2).cell (World.block_lt_of_cell? _ _ h8)).trans h8
      have Ah9 := fun o => ((hwa o).cell (World.block_lt_of_cell? _ _ h9)).trans h9
      have Bh9 := fun o o2 => ((hwb o o2).cell (World.block_lt_of_cell? _ _ h9)).trans h9
      have Ah10 := fun o => ((hwa o).cell (World.block_lt_of_cell? _ _ h10)).trans h10
      have Bh10 := fun o o2 => ((hwb o o2).cell (World.block_lt_of_cell? _ _ h10)).trans h10
      have Az13 := fun o => ((hwa o).cell (World.block_lt_of_cell? _ _ z13)).trans z13
      have Bz13 := fun o o2 => ((hwb o o2).cell (World.block_lt_of_cell? _ _ z13)).trans z13
      have Au13 := fun o => ((hwa o).cell (World.block_lt_of_cell? _ _ u13)).trans u13
      have Bu13 := fun o o2 => ((hwb o o2).cell (World.block_lt_of_cell? _ _ u13)).trans u13
      clear hs ht htn hin bu hlt hk hwa hwb j8 j9 j10 q8 q9 q10
      go_upto_region 8 with (fail)
      go_cut [6, 7] from 115 to 207 (fun a b wc => ∃ (p1 p2 : Nat), a = .pointer (some ⟨p1, 0, none⟩) ∧ b = .pointer (some ⟨p2, 0, none⟩) ∧ St w wc (Asrt.blk p1 44 #[.int .i64 u.f0, .int .i64 u.f1, .int .i64 u.f2, .int .i64 u.f3, .int .i64 u.f4, .bool u.f5, .bool u.f6, .int .i64 u.f7, .slice E8 u.f8.length i8, .slice E9 u.f9.length i9, .slice E10 u.f10.length i10] * (Asrt.blk p2 44 #[.int .i64 v.f0, .int .i64 v.f1, .int .i64 v.f2, .int .i64 v.f3, .int .i64 v.f4, .bool v.f5, .bool v.f6, .int .i64 v.f7, .slice F8 v.f8.length o8, .slice F9 v.f9.length o9, .slice F10 v.f10.length o10] * (Asrt.blk (w.heap.size + 1) 27 P2 * (Asrt.blk w.heap.size 27 P1 * r)))))
      case first =>
        go_region
        all_goals go_wp2_with fail
        all_goals go_meet
        all_goals (case rel => first | exact ⟨_, _, rfl, rfl, (St.two' HS.out rfl rfl).swap.drew⟩ | exact ⟨_, _, rfl, rfl, (St.two' HS.out rfl rfl).drew⟩)
      case rest =>
        clear z13 u13 e0 e1 e2 e3 e4 e5 e6 e7 e8 e9 e10 h0 h1 h2 h3 h4 h5 h6 h7 h8 h9 h10 Ae0 Ae1 Ae2 Ae3 Ae4 Ae5 Ae6 Ae7 Ae8 Ae9 Ae10 Ah0 Ah1 Ah2 Ah3 Ah4 Ah5 Ah6 Ah7 Ah8 Ah9 Ah10 Az13 Au13 Be0 Be1 Be2 Be3 Be4 Be5 Be6 Be7 Be8 Be9 Be10 Bh0 Bh1 Bh2 Bh3 Bh4 Bh5 Bh6 Bh7 Bh8 Bh9 Bh10 Bz13 Bu13
        obtain ⟨p1, p2, rfl, rfl, hsb⟩ := hcut
        have HSB := Aside0.mk hsb
        have zu := fun i => hsb.cell i
        have zv := fun i => hsb.swap.cell i
        clear hsb HS
        go_wp2_with (first
          | (go_at_call 15; with_reducible refine (HF1.out _ (bthen HSB.out.below (by repeat (first | exact Below.refl _ _ | apply pw_below_drewN | apply below_alloc)))).mono ?_; clear HF1; rintro e w1 ⟨rfl, ⟨n1, rfl⟩⟩)
          | (go_at_call 15; with_reducible refine (HF2.out _ (bthen HSB.out.below (by repeat (first | exact Below.refl _ _ | apply pw_below_drewN | apply below_alloc)))).mono ?_; clear HF2; rintro e w1 ⟨rfl, ⟨n2, rfl⟩⟩)
          | (go_at_call 41; with_reducible refine (HF3.out _ (bthen HSB.out.below (by repeat (first | exact Below.refl _ _ | apply pw_below_drewN | apply below_alloc)))).mono ?_; clear HF3; rintro e w1 ⟨rfl, ⟨n3, rfl⟩⟩))
        all_goals first
          | (go_ret; refine And.intro (congrArg (fun b => Ending.returned (.bool b)) (decide_eq_false fun hxy => HT.out.2 ?_ (HEQ.out.1 hxy)).symm) (bthen HSB.out.below (by repeat (first | exact Below.refl _ _ | apply pw_below_drewN | apply below_alloc))); simp [HUV.out, *]; done)
          | (go_ret; refine And.intro (congrArg (fun b => Ending.returned (.bool b)) (decide_eq_false fun hxy => HT.out.2 ?_ (HEQ.out.1 hxy)).symm) (bthen HSB.out.below (by repeat (first | exact Below.refl _ _ | apply pw_below_drewN | apply below_alloc))); rename_i h; rintro rfl; revert h; first | (simp; done) | (cases u.f5 <;> simp; done) | (cases u.f6 <;> simp; done))
          | skip
        have h5 : u.f5 = v.f5 := by
          first
            | exact ‹u.f5 = v.f5›
            | (have h := ‹(!u.f5 == v.f5) = false›; revert h; cases u.f5 <;> cases v.f5 <;> simp)
        have h6 : u.f6 = v.f6 := by
          first
            | exact ‹u.f6 = v.f6›
            | (have h := ‹(!u.f6 == v.f6) = false›; revert h; cases u.f6 <;> cases v.f6 <;> simp)
        have h7 : u.f7 = v.f7 := by
          first
            | exact ‹u.f7 = v.f7›
            | (simp only [bne_eq_false_iff_eq] at *; assumption)
        have h10 : u.f10 = v.f10 := by
          first
            | exact ‹u.f10 = v.f10›
            | (simp only [Bool.not_eq_false', decide_eq_true_iff] at *; assumption)
        have huv : u = v := by rw [HUV.out]; simp [*]
        go_roundw
        case rel =>
          have hrel2 : ∀ (wf : World) (vi : Value), vi = .int .i64 ((k + 1 : Nat) : Int) → Below _ _ wf → ∃ k : Nat, k ≤ x.f13.length ∧ vi = .int .i64 k ∧ x.f13.take k = y.f13.take k ∧ ∃ (P1 P2 : Array Value) (r : Asrt), P1[13]? = some (.slice (some ad1) x.f13.length c4) ∧ P2[13]? = some (.slice (some ad2) y.f13.length d4) ∧ St w wf (Asrt.blk (w.heap.size + 1) 27 P2 * (Asrt.blk w.heap.size 27 P1 * r)) :=
            fun wf vi hvi hbl => ⟨k + 1, HLT.out, hvi, HT.out.1 huv, P1, P2, _, hp1, hp2, (HSB.out.rot4.rot4).belowR hbl⟩
          first
            | exact hrel2 _ _ (by go_num) (by repeat (first | exact Below.refl _ _ | apply pw_below_drewN | apply below_alloc))
            | exact hrel2 _ (.int .i64 ((k + 1 : Nat) : Int)) rfl (by repeat (first | exact Below.refl _ _ | apply pw_below_drewN | apply below_alloc))
            | (repeat (first | exact And.intro (hrel2 _ (.int .i64 ((k + 1 : Nat) : Int)) rfl (by repeat (first | exact Below.refl _ _ | apply pw_below_drewN | apply below_alloc))) rfl | apply Exists.intro))
        case measure => have := HLT.out; simp [intOf]; omega
    · have x1 : decide ((k : Int) < x.f13.length) = false := decide_eq_false (by omega)
      have x2 : decide (k < x.f13.length) = false := decide_eq_false hlt
      have hfe : x.f13 = y.f13 := by
        have : k = x.f13.length := by omega
        rw [this, List.take_length, HLL.out, List.take_length] at ht
        exact ht
      have HFE : Aside0 (decide (x = y) = true) := ⟨decide_eq_true (HEQ.out.2 hfe)⟩
      have HB := Aside0.mk hs.below
      clear hs ht hk hlt hfe
      go_wp2_with fail
      go_ret
      rw [HFE.out]
      exact ⟨rfl, HB.out⟩
end Go.Proofs.Ythkocpcjcpohcaa.P
end
section
namespace Go.Proofs.Ythkocpcjcpohcaa.P
open Go Go.RowKit Go.Proofs.YthkocpcjcpohcaaW.PrintWords Go.Proofs.YthkocpcjcpohcaaW.PrintLast Go.Proofs.YthkocpcjcpohcaaW.PrintMore Go.Proofs.Ythkocpcjcpohcaa.U Go.Proofs.Ythkocpcjcpohcaa.Pure
set_option linter.unusedVariables false
set_option linter.unusedSimpArgs false
attribute [local go_sem] max2_int min2_int max_two min_two max_three min_three max_four min_four
theorem rown_loop (s : ByteArray) (hs : s.size ≤ 140737488355328) (l : List ByteArray) (hl : l.length ≤ 100) (d : Nat) : ∀ i : Nat, i + d = l.length → Ev (fun k => marquetryref24_own.l0 k s l i) (okName s && !((l.drop i).any fun x => decide (s.toList = x.toList))) := by
  induction d with
  | zero =>
    intro i hi
    refine Ev.succ ?_
    simp only [marquetryref24_own.l0]
    rw [List.drop_of_length_le (by omega), List.any_nil, Bool.not_false, Bool.and_true]
    refine Ev.ite_neg (by omega) (Ev.bind (Name_ev s hs) (Ev.now _))
  | succ d ih =>
    intro i hi
    refine Ev.succ ?_
    simp only [marquetryref24_own.l0]
    have hlt : i < l.length := by omega
    rw [any_drop hlt, rdOf_nat hlt, w64 (by omega) (by omega)]
    refine Ev.ite_pos (by omega) (Ev.ite_pos (by omega) ?_)
    by_cases h : l[i].toList = s.toList
    · refine Ev.ite_pos h ?_
      rw [decide_eq_true h.symm, Bool.true_or, Bool.not_true, Bool.and_false]
      exact Ev.now _
    · refine Ev.ite_neg h ?_
      rw [decide_eq_false fun x => h x.symm, Bool.false_or]
      exact ih (i + 1) (by omega)
theorem rown_ev (s : ByteArray) (hs : s.size ≤ 140737488355328) : Ev (fun k => marquetryref24_own.f k s) (ownB s) := by
  unfold marquetryref24_own.f ownB
  exact rown_loop s hs names (by decide) 9 0 rfl
theorem rmore_loop (l : List Ch) (hl : l.length ≤ 140737488355328) (hd : ∀ x ∈ l, x.f0.size ≤ 140737488355328) (d : Nat) : ∀ i : Nat, i + d = l.length → Ev (fun k => marquetryref24_more.l0 k l i) (moreB (l.drop i)) := by
  induction d with
  | zero =>
    intro i hi
    refine Ev.succ ?_
    simp only [marquetryref24_more.l0]
    rw [List.drop_of_length_le (by omega)]
    exact Ev.ite_neg (by omega) (Ev.now _)
  | succ d ih =>
    intro i hi
    have hlt : i < l.length := by omega
    refine Ev.succ ?_
    simp only [marquetryref24_more.l0]
    rw [rdT_at hlt, List.drop_eq_getElem_cons hlt, w64 (by omega) (by omega)]
    refine Ev.ite_pos (by omega) (Ev.ite_pos (by omega) (Ev.bind (rown_ev _ (hd _ (List.getElem_mem _))) ?_))
    have e : moreB (l[i] :: l.drop (i + 1)) = (ownB l[i].f0 && moreB (l.drop (i + 1))) := rfl
    rw [e]
    cases ownB l[i].f0 with
    | true => exact Ev.ite_pos rfl (by rw [Bool.true_and]; exact ih (i + 1) (by omega))
    | false => exact Ev.ite_neg (by simp) (Ev.now _)
theorem rmore_calls (A : Option Addr) (c : Nat) (l : List Ch) (w : World) (hl : chsL l) (hr : k42.C w A l.length l) (hc : l.length ≤ c) :
    Calls Try.prog 32 #[.slice A l.length c] w fun e w' => e = .returned (.bool (moreB l)) ∧ Below w.heap.size w w' := by
  have h := rmore_loop l (by have := hl.1; omega) (fun x hx => by have := (hl.2 x hx).1; omega) l.length 0 (by omega)
  obtain ⟨k, hk⟩ := h.rounds
  exact marquetryref24_more.calls k A c l _ w hr hc hk
theorem rkind_calls (x : Fr) (cs : List Value) (w : World) (hx : k44.K w x cs) : Calls Try.prog 31 #[.agg cs.toArray] w fun e w' => e = .returned (.bool (kindB x)) ∧ Below w.heap.size w w' := by
  obtain ⟨A1, c1, A2, c2, A3, c3, rfl, l1, g1, l2, g2, l3, g3⟩ := k44_open hx
  refine marquetryref24_kind.calls x.f0 x.f1 x.f2 x.f3 x.f4 x.f5 x.f6 x.f7 A1 c1 x.f8 A2 c2 x.f9 A3 c3 x.f10 (kindB x) w g1 l1 g2 l2 g3 l3 ?_
  unfold marquetryref24_kind.f kindB
  by_cases c : x.f7 = 2
  · rw [if_pos c, decide_eq_true (.inl c)]
  · rw [if_neg c]
    by_cases d : x.f7 = 1
    · rw [if_pos d]
      refine congrArg some ?_
      rw [Bool.eq_iff_iff, decide_eq_true_iff, beq_iff_eq]
      omega
    · rw [if_neg d, decide_eq_false (by omega)]
set_option maxHeartbeats 8000000 in
set_option maxRecDepth 100000 in
theorem rweight_calls (y : Dc) (ds : List Value) (w : World) (hy : k27.K w y ds) (ho : okDc y) (hn : smallN y < 20000) :
    Calls Try.prog 30 #[.agg ds.toArray] w fun e w' => ∃ n : Nat, e = .returned (.int .i64 n) ∧ n ≤ 67108864 ∧ Below w.heap.size w w' := by
  obtain ⟨B1, d1, B2, d2, B3, d3, B4, d4, B5, d5, rfl, m1, h1, m2, h2, m3, h3, m4, h4, m5, h5⟩ := k27_open hy
  have w1 : IntKind.i64.wrap ((y.f7.length : Int) + y.f8.length) = (y.f7.length : Int) + y.f8.length := by unfold smallN at hn; exact wi64 (by omega) (by omega)
  have w2 : IntKind.i64.wrap ((y.f7.length : Int) + y.f8.length + y.f9.length) = ((y.f7.length + y.f8.length + y.f9.length : Nat) : Int) := by unfold smallN at hn; rw [wi64 (by omega) (by omega)]; omega
  obtain ⟨b0, hb0⟩ : ∃ b0 : Nat, b0 = y.f7.length + y.f8.length + y.f9.length := ⟨_, rfl⟩
  rw [← hb0] at w2
  have hbl : b0 ≤ 20000 ∧ y.f14.length ≤ 1000 ∧ y.f13.length ≤ 1000 ∧ Pure.weight y.f14 ≤ 20000 ∧ sumN frN y.f13 ≤ 20000 := by unfold smallN at hn; omega
  have HS0 := Aside0.mk ((St.refl w).alloc #[.bool y.f0, .int .i64 y.f1, .int .i64 y.f2, .bool y.f3, .bool y.f4, .int .u32 y.f5, .int .i64 y.f6, .slice B1 y.f7.length d1, .slice B2 y.f8.length d2, .slice B3 y.f9.length d3, .bool y.f10, .bool y.f11, .bool y.f12, .slice B4 y.f13.length d4, .slice B5 y.f14.length d5] 27)
  have H4 := Aside0.mk h4
  have H5 := Aside0.mk h5
  have HO := Aside0.mk ho
  have HBL := Aside0.mk hbl
  clear hy h1 h2 h3 h4 h5 ho hbl hb0 hn
  go_enter Try.func30, Try.ntmps30
  go_upto_region 1 with (fail)
  generalize w.alloc (.cells _ 27) = W1 at HS0 ⊢
  generalize w.heap.size = g at HS0 ⊢
  have z := fun i => HS0.out.cell i
  go_upto_region 2 with (fail)
  clear z w1 w2
  go_wp2_with fail
  go_loopw [3, 4] (fun s i wr => ∃ k n : Nat, k ≤ y.f14.length ∧ s = .int .i64 n ∧ i = .int .i64 k ∧ n ≤ 20000 + 8 * k + Pure.weight (y.f14.take k) ∧ St w wr (Asrt.blk g 27 #[.bool y.f0, .int .i64 y.f1, .int .i64 y.f2, .bool y.f3, .bool y.f4, .int .u32 y.f5, .int .i64 y.f6, .slice B1 y.f7.length d1, .slice B2 y.f8.length d2, .slice B3 y.f9.length d3, .bool y.f10, .bool y.f11, .bool y.f12, .slice B4 y.f13.length d4, .slice B5 y.f14.length d5] * Asrt.emp)) (fun _ i _ => y.f14.length - (intOf i).toNat)
  case atStart => exact ⟨0, b0, Nat.zero_le _, rfl, rfl, by have := HBL.out.1; omega, HS0.out⟩
  case round =>
    obtain ⟨k, n, hk, rfl, rfl, hn, hs⟩ := hrel
    clear HS0
    have z14 := (hs.cell 14).trans (show _ = some (Value.slice B5 y.f14.length d5) from rfl)
    by_cases hlt : k < y.f14.length
    · have y1 : decide ((k : Int) < y.f14.length) = true := decide_eq_true (by omega)
      have y2 : decide (k < y.f14.length) = true := decide_eq_true hlt
      have y3 : (k < y.f14.length) = True := eq_true hlt
      have y4 : ((k : Int) < y.f14.length) = True := eq_true (by omega)
      have k16 : k ≤ 9223372036854775806 := by have := HBL.out; omega
      have hwt := weight_snoc hlt
      have hwl := weight_take y.f14 (k + 1)
      obtain ⟨ad1, Bc, cc, rfl, e0, e1, mc, gc⟩ := at_T42 (Kd.C_below H5.out hs.below) (k : Int) (by omega) (by omega)
      simp only [Int.toNat_natCast] at e0 e1
      rw [show y.f14.getD k z42 = rd_T42 y.f14 k from rfl] at hwt
      generalize rd_T42 y.f14 k = x at *
      have hb := HBL.out
      have w1 : IntKind.i64.wrap ((n : Int) + 8) = (n : Int) + 8 := wi64 (by omega) (by omega)
      have w2 : IntKind.i64.wrap ((n : Int) + 8 + (x.f1.length : Int)) = ((n + 8 + x.f1.length : Nat) : Int) := by rw [wi64 (by omega) (by omega)]; omega
      have HN := Aside0.mk (show n + 8 + x.f1.length ≤ 20000 + 8 * (k + 1) + Pure.weight (y.f14.take (k + 1)) by omega)
      have HLT := Aside0.mk hlt
      have HS := Aside0.mk hs
      clear hs hwt hwl gc hn hk hlt hb
      go_wp2_with fail
      go_roundw
      case rel => exact ⟨k + 1, n + 8 + x.f1.length, HLT.out, rfl, by go_num, HN.out, HS.out⟩
      case measure => have := HLT.out; simp [intOf]; omega
    · have y1 : decide ((k : Int) < y.f14.length) = false := decide_eq_false (by omega)
      have y2 : decide (k < y.f14.length) = false := decide_eq_false hlt
      have HN0 := Aside0.mk (show n ≤ 100000 by have := weight_take y.f14 k; have := HBL.out; omega)
      have HS := Aside0.mk hs
      clear hs hn hk hlt
      go_wp2_with fail
      clear z14
      go_loopw [3, 5] (fun s i wr => ∃ k n : Nat, k ≤ y.f13.length ∧ s = .int .i64 n ∧ i = .int .i64 k ∧ n ≤ 100000 + 32 * k + 2 * sumN frN (y.f13.take k) ∧ ∃ r, St w wr (Asrt.blk g 27 #[.bool y.f0, .int .i64 y.f1, .int .i64 y.f2, .bool y.f3, .bool y.f4, .int .u32 y.f5, .int .i64 y.f6, .slice B1 y.f7.length d1, .slice B2 y.f8.length d2, .slice B3 y.f9.length d3, .bool y.f10, .bool y.f11, .bool y.f12, .slice B4 y.f13.length d4, .slice B5 y.f14.length d5] * r)) (fun _ i _ => y.f13.length - (intOf i).toNat)
      case atStart => exact ⟨0, n, Nat.zero_le _, rfl, rfl, by have := HN0.out; omega, _, HS.out⟩
      case round =>
        obtain ⟨k, n, hk, rfl, rfl, hn, r, hs⟩ := hrel
        clear HS HN0
        have z13 := (hs.cell 13).trans (show _ = some (Value.slice B4 y.f13.length d4) from rfl)
        by_cases hlt : k < y.f13.length
        · have x1 : decide ((k : Int) < y.f13.length) = true := decide_eq_true (by omega)
          have x2 : decide (k < y.f13.length) = true := decide_eq_true hlt
          have x3 : (k < y.f13.length) = True := eq_true hlt
          have x4 : ((k : Int) < y.f13.length) = True := eq_true (by omega)
          have k16 : k ≤ 9223372036854775806 := by have := HBL.out; omega
          have hin := getD_in z44 hlt
          have hsn := sumN_snoc hlt
          have hst := sumN_take frN y.f13 (k + 1)
          obtain ⟨ad1, A8, c8, A9, c9, A10, c10, rfl, e0, e1, e2, e3, e4, e5, e6, e7, e8, e9, e10, n8, g8, n9, g9, n10, g10⟩ := at_T44 H4.out (k : Int) (by omega) (by omega)
          simp only [Int.toNat_natCast] at e0 e1 e2 e3 e4 e5 e6 e7 e8 e9 e10
          replace e0 := (hs.below.cell (World.block_lt_of_cell? _ _ e0)).trans e0
          replace e1 := (hs.below.cell (World.block_lt_of_cell? _ _ e1)).trans e1
          replace e2 := (hs.below.cell (World.block_lt_of_cell? _ _ e2)).trans e2
          replace e3 := (hs.below.cell (World.block_lt_of_cell? _ _ e3)).trans e3
          replace e4 := (hs.below.cell (World.block_lt_of_cell? _ _ e4)).trans e4
          replace e5 := (hs.below.cell (World.block_lt_of_cell? _ _ e5)).trans e5
          replace e6 := (hs.below.cell (World.block_lt_of_cell? _ _ e6)).trans e6
          replace e7 := (hs.below.cell (World.block_lt_of_cell? _ _ e7)).trans e7
          replace e8 := (hs.below.cell (World.block_lt_of_cell? _ _ e8)).trans e8
          replace e9 := (hs.below.cell (World.block_lt_of_cell? _ _ e9)).trans e9
          replace e10 := (hs.below.cell (World.block_lt_of_cell? _ _ e10)).trans e10
          rw [show y.f13.getD k z44 = rd_T44 y.f13 k from rfl] at hin hsn
          generalize rd_T44 y.f13 k = x at *
          have hfx : frN x = x.f8.length + x.f9.length + 20 * x.f10.length + Pure.weight x.f10 := rfl
          have hb := HBL.out
          have w1 : IntKind.i64.wrap ((n : Int) + 32) = (n : Int) + 32 := wi64 (by omega) (by omega)
          have w2 : IntKind.i64.wrap ((n : Int) + 32 + (x.f8.length : Int)) = (n : Int) + 32 + (x.f8.length : Int) := wi64 (by omega) (by omega)
          have w3 : IntKind.i64.wrap ((n : Int) + 32 + (x.f8.length : Int) + (x.f9.length : Int)) = ((n + 32 + x.f8.length + x.f9.length : Nat) : Int) := by rw [wi64 (by omega) (by omega)]; omega
          have HFX : Aside0 (2 * sumN frN (y.f13.take (k + 1)) = 2 * sumN frN (y.f13.take k) + 2 * (x.f8.length + x.f9.length + 20 * x.f10.length + Pure.weight x.f10)) := ⟨by omega⟩
          have HN1 := Aside0.mk (show n + 32 + x.f8.length + x.f9.length ≤ 100000 + 32 * (k + 1) + 2 * sumN frN (y.f13.take k) + 2 * (x.f8.length + x.f9.length) by omega)
          have HBW := Aside0.mk (show 100000 + 32 * (k + 1) + 2 * sumN frN (y.f13.take (k + 1)) ≤ 1000000 by omega)
          have HLT := Aside0.mk hlt
          have HG10 := Aside0.mk g10
          have HAL := Aside0.mk (hs.alloc #[.int .i64 x.f0, .int .i64 x.f1, .int .i64 x.f2, .int .i64 x.f3, .int .i64 x.f4, .bool x.f5, .bool x.f6, .int .i64 x.f7, .slice A8 x.f8.length c8, .slice A9 x.f9.length c9, .slice A10 x.f10.length c10] 44)
          clear hs hin hsn hst hfx hb g8 g9 g10 n8 n9 n10 hn hk hlt
          go_upto_region 10 with (fail)
          generalize wr.alloc (.cells _ 44) = W2 at HAL ⊢
          generalize wr.heap.size = gf at HAL ⊢
          have z8 := (HAL.out.cell 8).trans (show _ = some (Value.slice A8 x.f8.length c8) from rfl)
          have z9 := (HAL.out.cell 9).trans (show _ = some (Value.slice A9 x.f9.length c9) from rfl)
          have z10 := (HAL.out.cell 10).trans (show _ = some (Value.slice A10 x.f10.length c10) from rfl)
          go_wp2_with fail
          clear z8 z9 z10 z13 e0 e1 e2 e3 e4 e5 e6 e7 e8 e9 e10
          go_loopw [3, 7] (fun s i w2 => ∃ j n2 : Nat, j ≤ x.f10.length ∧ s = .int .i64 n2 ∧ i = .int .i64 j ∧ n2 ≤ 100000 + 32 * (k + 1) + 2 * sumN frN (y.f13.take k) + 2 * (x.f8.length + x.f9.length) + 2 * Pure.weight (x.f10.take j) ∧ ∃ r2, St w w2 (Asrt.blk gf 44 #[.int .i64 x.f0, .int .i64 x.f1, .int .i64 x.f2, .int .i64 x.f3, .int .i64 x.f4, .bool x.f5, .bool x.f6, .int .i64 x.f7, .slice A8 x.f8.length c8, .slice A9 x.f9.length c9, .slice A10 x.f10.length c10] * (Asrt.blk g 27 #[.bool y.f0, .int .i64 y.f1, .int .i64 y.f2, .bool y.f3, .bool y.f4, .int .u32 y.f5, .int .i64 y.f6, .slice B1 y.f7.length d1, .slice B2 y.f8.length d2, .slice B3 y.f9.length d3, .bool y.f10, .bool y.f11, .bool y.f12, .slice (some ad1) y.f13.length d4, .slice B5 y.f14.length d5] * r2))) (fun _ i _ => x.f10.length - (intOf i).toNat)
          case atStart => exact ⟨0, n + 32 + x.f8.length + x.f9.length, Nat.zero_le _, rfl, rfl, by have := HN1.out; omega, _, HAL.out⟩
          case round =>
            obtain ⟨j, n2, hj, rfl, rfl, hn2, r2, hs2⟩ := hrel
            clear HAL HN1
            have z10 := (hs2.cell 10).trans (show _ = some (Value.slice A10 x.f10.length c10) from rfl)
            by_cases hlt2 : j < x.f10.length
            · have v1 : decide ((j : Int) < x.f10.length) = true := decide_eq_true (by omega)
              have v2 : decide (j < x.f10.length) = true := decide_eq_true hlt2
              have v3 : (j < x.f10.length) = True := eq_true hlt2
              have v4 : ((j : Int) < x.f10.length) = True := eq_true (by omega)
              have hwt := weight_snoc hlt2
              have hwl := weight_take x.f10 (j + 1)
              have hbw := HBW.out
              have hfx := HFX.out
              have j16 : j ≤ 9223372036854775806 := by have := HG10.out.2.1; omega
              obtain ⟨ad2, Bc, cc, rfl, u0, u1, mc, gc⟩ := at_T42 (Kd.C_below HG10.out hs2.below) (j : Int) (by omega) (by omega)
              simp only [Int.toNat_natCast] at u0 u1
              rw [show x.f10.getD j z42 = rd_T42 x.f10 j from rfl] at hwt
              generalize rd_T42 x.f10 j = q at *
              have q0 : IntKind.i64.wrap (2 * (q.f0.size : Int)) = 2 * (q.f0.size : Int) := wi64 (by omega) (by omega)
              have q1 : IntKind.i64.wrap ((n2 : Int) + 2 * (q.f0.size : Int)) = (n2 : Int) + 2 * (q.f0.size : Int) := wi64 (by omega) (by omega)
              have q2 : IntKind.i64.wrap ((n2 : Int) + 2 * (q.f0.size : Int) + (q.f1.length : Int)) = ((n2 + 2 * q.f0.size + q.f1.length : Nat) : Int) := by rw [wi64 (by omega) (by omega)]; omega
              have HN2 := Aside0.mk (show n2 + 2 * q.f0.size + q.f1.length ≤ 100000 + 32 * (k + 1) + 2 * sumN frN (y.f13.take k) + 2 * (x.f8.length + x.f9.length) + 2 * Pure.weight (x.f10.take (j + 1)) by omega)
              have HLT2 := Aside0.mk hlt2
              have HS2 := Aside0.mk hs2
              clear hs2 hwt hwl hbw hfx gc hn2 hj hlt2
              go_upto_region 14 with (fail)
              go_quiet (fail)
              go_wp2_with fail
              go_roundw
              case rel => exact ⟨j + 1, n2 + 2 * q.f0.size + q.f1.length, HLT2.out, rfl, by go_num, HN2.out, r2, HS2.out.drewN _⟩
              case measure => have := HLT2.out; simp [intOf]; omega
            · have v1 : decide ((j : Int) < x.f10.length) = false := decide_eq_false (by omega)
              have v2 : decide (j < x.f10.length) = false := decide_eq_false hlt2
              have HN2 := Aside0.mk (show n2 ≤ 100000 + 32 * (k + 1) + 2 * sumN frN (y.f13.take (k + 1)) by have := weight_take x.f10 j; have := HFX.out; omega)
              have HS2 := Aside0.mk hs2.swap
              clear hs2 hn2 hj hlt2
              go_wp2_with fail
              go_roundw
              case rel => exact ⟨k + 1, n2, HLT.out, rfl, by go_num, HN2.out, _, HS2.out⟩
              case measure => have := HLT.out; simp [intOf]; omega
        · have x1 : decide ((k : Int) < y.f13.length) = false := decide_eq_false (by omega)
          have x2 : decide (k < y.f13.length) = false := decide_eq_false hlt
          have HN2 := Aside0.mk (show n ≤ 67108864 by have := sumN_take frN y.f13 k; have := HBL.out; omega)
          have HB := Aside0.mk hs.below
          clear hs hn hk hlt
          go_wp2_with fail
          go_ret
          exact ⟨n, rfl, HN2.out, HB.out⟩
end Go.Proofs.Ythkocpcjcpohcaa.P
end
section
namespace Go.Proofs.Ythkocpcjcpohcaa.P
open Go Go.RowKit Go.Proofs.YthkocpcjcpohcaaW.PrintWords Go.Proofs.YthkocpcjcpohcaaW.PrintLast Go.Proofs.YthkocpcjcpohcaaW.PrintMore Go.Proofs.Ythkocpcjcpohcaa.U Go.Proofs.Ythkocpcjcpohcaa.Pure
set_option linter.unusedVariables false
set_option linter.unusedSimpArgs false
attribute [local go_sem] max2_int min2_int max_two min_two max_three min_three max_four min_four
theorem nlen (l : List Int) : (l.length = 0) = ¬ (0 < l.length) := by rw [eq_iff_iff]; omega
def restP (d : Dc) : Prop := if d.f0 = true then plainP d else
  wideP d ∧ d.f1 * d.f2 < 4294967296 ∧ 0 ≤ d.f6 ∧ d.f6 < 65536 ∧ (d.f4 = false → (d.f13.length : Int) = 1 ∧ d.f5 = 0 ∧ d.f6 = 0) ∧
  moreB d.f14 = true ∧ toldP d.f10 d.f7 ∧ toldP d.f11 d.f8 ∧ toldP d.f12 d.f9 ∧ ∀ f ∈ d.f13, frameP f d
theorem sumW_chunks : ∀ l : List Ch, sumW wCh l ≤ 2 * (Pure.weight l : Int)
  | [] => by simp [sumW, Pure.weight]
  | x :: l => by
    have := sumW_chunks l
    simp only [sumW, Pure.weight, wCh]
    omega
theorem sumW_frames : ∀ l : List Fr, sumW wFr l + sumW wCh (l.flatMap (·.f10)) ≤ 32 * (l.length : Int) + 2 * (sumN frN l : Int)
  | [] => by simp [sumW, sumN]
  | x :: l => by
    have h1 := sumW_frames l
    have h2 := sumW_chunks x.f10
    rw [List.flatMap_cons, sumW_app]
    simp only [sumW, sumN, wFr, frN, List.length_cons]
    omega
theorem sound_rest {y : Dc} (hn : smallN y < 20000) : soundP y ↔ restP y := by
  have h1 := sumW_chunks y.f14
  have h2 : sumW wFr y.f13 + sumW wCh (y.f13.flatMap (·.f10)) ≤ 32 * (y.f13.length : Int) + 2 * (sumN frN y.f13 : Int) := sumW_frames y.f13
  have hw : weightI y ≤ 67108864 ∧ (y.f13.length : Int) ≤ 4096 := by
    unfold smallN at hn
    have e : sumW wCh (allCh y) = sumW wCh y.f14 + sumW wCh (y.f13.flatMap (·.f10)) := sumW_app
    unfold weightI
    omega
  exact ⟨fun h => h.2, fun h => ⟨hw, h⟩⟩
theorem plain_iff {y : Dc} {f : Fr} (h0 : y.f0 = true) (hf : y.f13 = [f]) : plainP y ↔ (kindB f = true ∧ f.f8.length = 0) ∧ (y.f1 = 0 ∧ y.f2 = 0 ∧ y.f3 = false ∧ y.f4 = false ∧ y.f5 = 0 ∧ y.f6 = 0 ∧ y.f10 = false ∧ y.f11 = false ∧ y.f12 = false ∧ y.f7.length + y.f8.length + y.f9.length + y.f14.length = 0) ∧
    f.f0 = 0 ∧ f.f1 = 0 ∧ f.f2 = 0 ∧ f.f3 = 0 ∧ f.f4 = 0 ∧ f.f5 = false ∧ f.f6 = false ∧ f.f10.length = 0 := by
  constructor
  · rintro ⟨g, hg, hk, hy⟩
    obtain rfl : f = g := by rw [hf] at hg; simpa using hg
    have hfe : f = ⟨0, 0, 0, 0, 0, false, false, f.f7, [], f.f9, []⟩ := by
      have h13 : y.f13 = [⟨0, 0, 0, 0, 0, false, false, f.f7, [], f.f9, []⟩] := by rw [hy]; rfl
      rw [hf] at h13
      simpa using h13
    refine ⟨⟨hk, by rw [hfe]; rfl⟩, ?_, ?_⟩
    · rw [hy]; exact ⟨rfl, rfl, rfl, rfl, rfl, rfl, rfl, rfl, rfl, rfl⟩
    · rw [hfe]; exact ⟨rfl, rfl, rfl, rfl, rfl, rfl, rfl, rfl⟩
  · rintro ⟨⟨hk, h8⟩, ⟨a1, a2, a3, a4, a5, a6, a10, a11, a12, al⟩, b0, b1, b2, b3, b4, b5, b6, b10⟩
    refine ⟨f, hf, hk, ?_⟩
    have e7 : y.f7 = [] := List.length_eq_zero_iff.1 (by omega)
    have e8 : y.f8 = [] := List.length_eq_zero_iff.1 (by omega)
    have e9 : y.f9 = [] := List.length_eq_zero_iff.1 (by omega)
    have e14 : y.f14 = [] := List.length_eq_zero_iff.1 (by omega)
    have g8 : f.f8 = [] := List.length_eq_zero_iff.1 h8
    have g10 : f.f10 = [] := List.length_eq_zero_iff.1 b10
    have hfe : f = ⟨0, 0, 0, 0, 0, false, false, f.f7, [], f.f9, []⟩ := by cases f; simp_all
    rw [dc_eq]
    unfold plainD
    simp only [h0, a1, a2, a3, a4, a5, a6, a10, a11, a12, e7, e8, e9, e14, hf, true_and, and_true]
    rw [← hfe]
theorem nlenC (l : List Ch) : (l.length = 0) = ¬ (0 < l.length) := by rw [eq_iff_iff]; omega
def sideQ (x : Fr) (y : Dc) : Prop := sidesP x y.f1 y.f2 ∧ kindB x = true ∧ 0 ≤ x.f4 ∧ x.f4 < 16777216 ∧ moreB x.f10 = true
def standQ (x : Fr) (y : Dc) : Prop := y.f4 = false → (x.f2 = y.f1 ∧ x.f3 = y.f2 ∧ x.f4 = 0 ∧ x.f5 = false ∧ x.f6 = false ∧ x.f10.length = 0)
theorem frameP_iff {x : Fr} {y : Dc} : frameP x y ↔ sideQ x y ∧ standQ x y := by
  unfold frameP sideQ standQ sidesP
  cases h4 : y.f4 with
  | true => rw [if_pos rfl]; simp only [Bool.true_eq_false, false_imp_iff, and_true]
  | false =>
    rw [if_neg (by simp)]
    constructor
    · rintro ⟨h1, h2, h3, h3', g0, g1, g2, g3, g4, g5, g6, g10⟩
      exact ⟨⟨h1, h2, h3, h3', by rw [List.length_eq_zero_iff.1 g10]; rfl⟩, fun _ => ⟨g2, g3, g4, g5, g6, g10⟩⟩
    · rintro ⟨⟨h1, h2, h3, h3', _⟩, h⟩
      obtain ⟨g2, g3, g4, g5, g6, g10⟩ := h rfl
      exact ⟨h1, h2, h3, h3', by omega, by omega, g2, g3, g4, g5, g6, g10⟩
set_option maxHeartbeats 16000000 in
set_option maxRecDepth 100000 in
theorem refSoundP_calls (y : Dc) (ds : List Value) (w : World) (hy : k27.K w y ds) (ho : okDc y) (hn : smallN y < 20000) (h0 : y.f0 = true) (b : Bool) (hb : b = true ↔ soundP y) :
    Calls Try.prog 13 #[.agg ds.toArray] w fun e w' => e = .returned (.bool b) ∧ Below w.heap.size w w' := by
  rw [sound_rest hn] at hb
  have HWT := Aside0.mk fun (W : World) (hb : Below w.heap.size w W) => rweight_calls y ds W (k27.K_below hb hy) ho hn
  obtain ⟨B1, d1, B2, d2, B3, d3, B4, d4, B5, d5, rfl, m1, h1, m2, h2, m3, h3, m4, h4, m5, h5⟩ := k27_open hy
  have HBB := Aside0.mk hb
  have hlens : y.f7.length < 20000 ∧ y.f8.length < 20000 ∧ y.f9.length < 20000 ∧ y.f13.length ≤ 1000 ∧ y.f14.length ≤ 1000 := by unfold smallN at hn; omega
  have HO := Aside0.mk ho
  have HMO := Aside0.mk fun (W : World) (hb : Below w.heap.size w W) => rmore_calls B5 d5 y.f14 W ho.mo (Kd.C_below h5 hb) m5
  have H4 := Aside0.mk h4
  have HS0 := Aside0.mk ((St.refl w).alloc #[.bool y.f0, .int .i64 y.f1, .int .i64 y.f2, .bool y.f3, .bool y.f4, .int .u32 y.f5, .int .i64 y.f6, .slice B1 y.f7.length d1, .slice B2 y.f8.length d2, .slice B3 y.f9.length d3, .bool y.f10, .bool y.f11, .bool y.f12, .slice B4 y.f13.length d4, .slice B5 y.f14.length d5] 27)
  have f13 : decide ((4096 : Int) < y.f13.length) = false := decide_eq_false (by omega)
  have f13b : decide (4096 < y.f13.length) = false := decide_eq_false (by omega)
  clear hy h1 h2 h3 h4 h5 ho hn hb
  by_cases hl : y.f13.length = 1
  case neg =>
    have HN : Aside0 (b = false) := ⟨Bool.eq_false_iff.2 fun hbt => by
      have h := HBB.out.1 hbt
      unfold restP at h
      rw [if_pos h0] at h
      obtain ⟨f, hf, _⟩ := h
      exact hl (by rw [hf]; rfl)⟩
    have x1 : ((y.f13.length : Int) != 1) = true := by simp; omega
    rw [h0] at HS0 HWT ⊢
    clear h0 hl hlens
    go_enter Try.func13, Try.ntmps13
    go_upto_region 1 with (fail)
    generalize w.alloc (.cells _ 27) = W1 at HS0 ⊢
    generalize w.heap.size = g at HS0 ⊢
    have z := fun i => HS0.out.cell i
    go_wp2_with (go_at_call 30; refine (HWT.out _ HS0.out.below).mono ?_; rintro e w2 ⟨nw, rfl, hw, hb⟩; have HS1 := Aside0.mk (HS0.out.belowR hb); have z1 := fun i => HS1.out.cell i; have u1 : decide ((67108864 : Int) < (nw : Int)) = false := decide_eq_false (by omega); have u2 : decide (67108864 < nw) = false := decide_eq_false (by omega); clear hw hb)
    go_ret
    rw [HN.out]
    exact ⟨rfl, HS1.out.below⟩
  case pos =>
    obtain ⟨f, hf⟩ : ∃ f, y.f13 = [f] := List.length_eq_one_iff.1 hl
    have hbp := HBB.out
    unfold restP at hbp
    rw [if_pos h0, plain_iff h0 hf] at hbp
    have HPI := Aside0.mk hbp
    have hC := H4.out
    rw [hl] at hC
    obtain ⟨ad1, A8, c8, A9, c9, A10, c10, rfl, e0, e1, e2, e3, e4, e5, e6, e7, e8, e9, e10, n8, g8, n9, g9, n10, g10⟩ := at_T44 hC (0 : Int) (by omega) (by omega)
    simp only [Int.toNat_zero, Nat.zero_mul] at e0 e1 e2 e3 e4 e5 e6 e7 e8 e9 e10
    have h0' : ad1.add 0 = ad1 := by cases ad1; unfold Addr.add; split <;> simp_all
    rw [show rd_T44 y.f13 0 = f by rw [hf]; rfl] at e0 e1 e2 e3 e4 e5 e6 e7 e8 e9 e10 n8 g8 n9 g9 n10 g10
    rw [h0'] at e0 e1 e2 e3 e4 e5 e6 e7 e8 e9 e10
    have HKD := Aside0.mk fun (W : World) (hb : Below w.heap.size w W) => rkind_calls f _ W (k44.K_below hb (k44_mk w f n8 g8 n9 g9 n10 g10))
    have hlf : (f.f10.length : Int) ≤ 9223372036854775807 := by have := g10.2.1; omega
    have v1 : IntKind.i64.wrap ((y.f7.length : Int) + y.f8.length) = (y.f7.length : Int) + y.f8.length := wi64 (by omega) (by omega)
    have v2 : IntKind.i64.wrap ((y.f7.length : Int) + y.f8.length + y.f9.length) = (y.f7.length : Int) + y.f8.length + y.f9.length := wi64 (by omega) (by omega)
    have v3 : IntKind.i64.wrap ((y.f7.length : Int) + y.f8.length + y.f9.length + y.f14.length) = (y.f7.length : Int) + y.f8.length + y.f9.length + y.f14.length := wi64 (by omega) (by omega)
    have x1 : ((y.f13.length : Int) != 1) = false := by simp [hl]
    have x3 : (0 < y.f13.length) = True := eq_true (by omega)
    have x4 : ((0 : Int) < y.f13.length) = True := eq_true (by omega)
    rw [h0] at HS0 HWT ⊢
    clear h0 hl hC hf hbp g8 g9 g10 hlens h0' HBB H4 HO HMO
    go_enter Try.func13, Try.ntmps13
    go_upto_region 1 with (fail)
    generalize w.alloc (.cells _ 27) = W1 at HS0 ⊢
    generalize w.heap.size = g at HS0 ⊢
    have z := fun i => HS0.out.cell i
    go_wp2_with (first
      | (go_at_call 30; refine (HWT.out _ HS0.out.below).mono ?_; rintro e w2 ⟨nw, rfl, hw, hb⟩; have HS1 := Aside0.mk (HS0.out.belowR hb); have z1 := fun i => HS1.out.cell i; have a0 := (HS1.out.below.cell (World.block_lt_of_cell? _ _ e0)).trans e0; have a1 := (HS1.out.below.cell (World.block_lt_of_cell? _ _ e1)).trans e1; have a2 := (HS1.out.below.cell (World.block_lt_of_cell? _ _ e2)).trans e2; have a3 := (HS1.out.below.cell (World.block_lt_of_cell? _ _ e3)).trans e3; have a4 := (HS1.out.below.cell (World.block_lt_of_cell? _ _ e4)).trans e4; have a5 := (HS1.out.below.cell (World.block_lt_of_cell? _ _ e5)).trans e5; have a6 := (HS1.out.below.cell (World.block_lt_of_cell? _ _ e6)).trans e6; have a7 := (HS1.out.below.cell (World.block_lt_of_cell? _ _ e7)).trans e7; have a8 := (HS1.out.below.cell (World.block_lt_of_cell? _ _ e8)).trans e8; have a9 := (HS1.out.below.cell (World.block_lt_of_cell? _ _ e9)).trans e9; have a10 := (HS1.out.below.cell (World.block_lt_of_cell? _ _ e10)).trans e10; have u1 : decide ((67108864 : Int) < (nw : Int)) = false := decide_eq_false (by omega); have u2 : decide (67108864 < nw) = false := decide_eq_false (by omega); clear hw hb z)
      | (go_at_call 31; refine (HKD.out _ HS1.out.below).mono ?_; rintro e w3 ⟨rfl, hb⟩; have HS2 := Aside0.mk (HS1.out.belowR hb); have z2 := fun i => HS2.out.cell i; have z3 := fun (cs : Array Value) (T : TypeId) (i : Nat) => (HS2.out.alloc cs T).swap.cell i; have b0 := (HS2.out.below.cell (World.block_lt_of_cell? _ _ e0)).trans e0; have b1 := (HS2.out.below.cell (World.block_lt_of_cell? _ _ e1)).trans e1; have b2 := (HS2.out.below.cell (World.block_lt_of_cell? _ _ e2)).trans e2; have b3 := (HS2.out.below.cell (World.block_lt_of_cell? _ _ e3)).trans e3; have b4 := (HS2.out.below.cell (World.block_lt_of_cell? _ _ e4)).trans e4; have b5 := (HS2.out.below.cell (World.block_lt_of_cell? _ _ e5)).trans e5; have b6 := (HS2.out.below.cell (World.block_lt_of_cell? _ _ e6)).trans e6; have b7 := (HS2.out.below.cell (World.block_lt_of_cell? _ _ e7)).trans e7; have b8 := (HS2.out.below.cell (World.block_lt_of_cell? _ _ e8)).trans e8; have b9 := (HS2.out.below.cell (World.block_lt_of_cell? _ _ e9)).trans e9; have b10 := (HS2.out.below.cell (World.block_lt_of_cell? _ _ e10)).trans e10; clear hb z1))
    all_goals go_ret
    all_goals refine ⟨congrArg (fun b => Ending.returned (.bool b)) (Bool.eq_iff_iff.2 (Iff.trans ?_ HPI.out.symm)), by first | exact HS2.out.below | exact bthen HS2.out.below (by repeat (first | exact Below.refl _ _ | apply pw_below_drewN | apply below_alloc))⟩
    all_goals first
      | (simp [*]; done)
      | (simp [*]; omega)
      | (rw [beq_iff_eq]; refine Iff.intro (fun h => ?_) (fun h => by have h2 := h.2.2.2.2.2.2.2.2.2; omega); refine ⟨⟨?_, ?_⟩, ⟨?_, ?_, ?_, ?_, ?_, ?_, ?_, ?_, ?_, ?_⟩, ?_, ?_, ?_, ?_, ?_, ?_, ?_, ?_⟩ <;> first | assumption | omega | (simp_all; done))
      | (refine ⟨fun h => absurd h Bool.false_ne_true, ?_⟩; rintro ⟨⟨k1, k2⟩, ⟨a1, a2, a3, a4, a5, a6, a10, a11, a12, al⟩, c0, c1, c2, c3, c4, c5, c6, c10⟩; first | omega | (simp_all; done))
      | trace_state
end Go.Proofs.Ythkocpcjcpohcaa.P
end
section
namespace Go.Proofs.Ythkocpcjcpohcaa.P
open Go
def regionIn (n : Nat) : Code → Option Code
  | .region id ops d => if id = n then some (.region id ops d) else none
  | .seq a b => match regionIn n a with
    | some c => some c
    | none => regionIn n b
  | .block _ c => regionIn n c
  | .loop c => regionIn n c
  | .scope c => regionIn n c
  | .cond _ a b => match regionIn n a with
    | some c => some c
    | none => regionIn n b
  | _ => none
end Go.Proofs.Ythkocpcjcpohcaa.P
end
section
namespace Go.Proofs.Ythkocpcjcpohcaa.P
open Go Go.RowKit Go.Proofs.YthkocpcjcpohcaaW.PrintWords Go.Proofs.YthkocpcjcpohcaaW.PrintLast Go.Proofs.YthkocpcjcpohcaaW.PrintMore Go.Proofs.Ythkocpcjcpohcaa.U Go.Proofs.Ythkocpcjcpohcaa.Pure
set_option linter.unusedVariables false
set_option linter.unusedSimpArgs false
attribute [local go_sem] max2_int min2_int max_two min_two max_three min_three max_four min_four
noncomputable def rs9_code : Code := ((Try.f13.body).bind (regionIn 9)).getD .skip
set_option maxHeartbeats 16000000 in
set_option maxRecDepth 1000000 in
theorem rs9 {c0 c2 c3 c4 c5 c6 c7 c8 c9 c10 c11 c12 c13 c14 c15 c16 c17 c18 c19 c20 c21 c22 c23 c24 c25 c26 c27 c28 c29 c30 c31 c32 c33 c34 c35 c36 c37 c38 c39 c40 c41 c42 c43 c44 c45 c46 c47 c48 c49 c50 c51 c52 c53 c54 c55 c56 c57 c58 c59 c60 c61 c62 c63 c64 c65 c66 c67 c68 c69 c70 c71 c72 c73 c74 c75 c76 c77 c78 c79 c80 c81 c82 c83 c84 c85 c86 c87 c88 c89 c90 c91 c92 c93 c94 c95 c96 c97 c98 c99 c100 c101 c102 c103 c104 c105 c106 c107 c108 c109 c110 c111 c112 c113 c114 c115 c116 c117 c118 c119 c120 c121 c122 c123 c124 c125 c126 c127 c128 c129 c130 c131 c132 c133 c134 c135 c136 c137 c138 c139 c140 c141 c142 c143 c144 c145 c146 c147 c148 c149 c150 c151 c152 c153 c154 c155 c156 c157 c158 c159 c160 c161 c162 c163 c164 c165 c166 c167 c168 c169 c170 c171 c172 c173 c174 c175 c176 c177 c178 c179 c180 c181 c182 c183 c184 c185 c186 c187 c188 c189 c190 c191 c192 c193 c194 c195 c196 c197 c198 c199 c200 c201 c202 c203 c204 c205 c206 c207 c208 c209 c210 c211 c212 c213 c214 c215 c216 c217 c218 c219 c220 c221 c222 c223 c224 c225 c226 c227 c228 c229 c230 c231 c232 c233 c234 c235 c236 c237 c238 c239 c240 c241 c242 c243 c244 c245 c246 c247 c248 c249 c250 c251 c252 c253 c254 c255 c256 c257 c258 c259 c260 c261 c262 c263 c264 c265 c266 c267 c268 c269 c270 c271 c272 c273 c274 c275 c276 c277 c278 c279 c280 c281 c282 c283 c284 c285 c286 c287 c288 c289 c290 c291 c292 c293 c294 c295 c296 c297 c298 c299 c300 c301 c302 c303 c304 c305 c306 c307 c308 c309 c310 c311 c312 c313 c314 c315 c316 c317 c318 c319 c320 c321 c322 c323 c324 c325 c326 c327 c328 c329 c330 c331 c332 c333 c334 c335 c336 c337 c338 c339 c340 c341 c342 c343 c344 c345 c346 c347 c348 c349 c350 c351 c352 c353 c354 c355 c356 c357 c358 c359 c360 c361 c362 c363 c364 c365 c366 c367 c368 c369 c370 : Value} {Q : Exit → Act → World → Prop} (y : Dc) (w w2 : World) (g : Nat) (R : Asrt) {B1 B2 B3 B4 B5 : Option Addr} {d1 d2 d3 d4 d5 : Nat} (HS1 : Aside0 (St w w2 (Asrt.blk g 27 #[.bool false, .int .i64 y.f1, .int .i64 y.f2, .bool y.f3, .bool y.f4, .int .u32 y.f5, .int .i64 y.f6, .slice B1 y.f7.length d1, .slice B2 y.f8.length d2, .slice B3 y.f9.length d3, .bool y.f10, .bool y.f11, .bool y.f12, .slice B4 y.f13.length d4, .slice B5 y.f14.length d5] * R))) (HC : Aside0 (wideP y)) (HMO : Aside0 (∀ W : World, Below w.heap.size w W → Calls Try.prog 32 #[.slice B5 y.f14.length d5] W fun e w' => e = .returned (.bool (moreB y.f14)) ∧ Below W.heap.size W w'))
    (hK : ∀ (v u146 u147 u148 u149 u150 u151 u152 u153 u154 u155 u156 u157 u158 u159 u160 u161 u162 u163 u164 u165 u166 u167 u168 u169 u170 u171 u172 u173 u174 u175 u176 u177 u178 u179 u180 u181 u182 u183 u184 u185 u186 : Value) (wc : World), (∃ t : Bool, v = .bool t ∧ (t = false ↔ (y.f1 * y.f2 < 4294967296 ∧ 0 ≤ y.f6 ∧ y.f6 < 65536 ∧ moreB y.f14 = true)) ∧ St w wc (Asrt.blk g 27 #[.bool false, .int .i64 y.f1, .int .i64 y.f2, .bool y.f3, .bool y.f4, .int .u32 y.f5, .int .i64 y.f6, .slice B1 y.f7.length d1, .slice B2 y.f8.length d2, .slice B3 y.f9.length d3, .bool y.f10, .bool y.f11, .bool y.f12, .slice B4 y.f13.length d4, .slice B5 y.f14.length d5] * R)) → Q .normal ⟨#[c0, Value.pointer (some ⟨g, 0, none⟩), c2, c3, c4, c5, c6, c7, c8, c9, c10, c11, c12, c13, c14, c15, c16, c17, c18, c19, c20, c21, c22, c23, c24, c25, c26, c27, c28, c29, c30, c31, c32, c33, c34, c35, c36, c37, c38, c39, c40, c41, c42, c43, c44, c45, c46, c47, c48, c49, c50, c51, c52, c53, c54, c55, c56, c57, c58, c59, c60, c61, c62, c63, c64, c65, c66, c67, c68, c69, c70, c71, c72, c73, c74, c75, c76, c77, c78, c79, c80, c81, c82, c83, c84, c85, c86, c87, c88, c89, c90, c91, c92, c93, c94, c95, c96, c97, c98, c99, c100, c101, c102, c103, c104, c105, c106, c107, c108, c109, c110, c111, c112, c113, c114, c115, c116, c117, c118, c119, c120, c121, c122, c123, c124, c125, c126, c127, c128, c129, c130, c131, c132, c133, c134, c135, c136, c137, c138, c139, c140, c141, c142, c143, c144, c145, u146, u147, u148, u149, u150, u151, u152, u153, u154, u155, u156, u157, u158, u159, u160, u161, u162, u163, u164, u165, u166, u167, u168, u169, u170, u171, u172, u173, u174, u175, u176, u177, u178, u179, u180, u181, u182, u183, u184, u185, u186, v, c188, c189, c190, c191, c192, c193, c194, c195, c196, c197, c198, c199, c200, c201, c202, c203, c204, c205, c206, c207, c208, c209, c210, c211, c212, c213, c214, c215, c216, c217, c218, c219, c220, c221, c222, c223, c224, c225, c226, c227, c228, c229, c230, c231, c232, c233, c234, c235, c236, c237, c238, c239, c240, c241, c242, c243, c244, c245, c246, c247, c248, c249, c250, c251, c252, c253, c254, c255, c256, c257, c258, c259, c260, c261, c262, c263, c264, c265, c266, c267, c268, c269, c270, c271, c272, c273, c274, c275, c276, c277, c278, c279, c280, c281, c282, c283, c284, c285, c286, c287, c288, c289, c290, c291, c292, c293, c294, c295, c296, c297, c298, c299, c300, c301, c302, c303, c304, c305, c306, c307, c308, c309, c310, c311, c312, c313, c314, c315, c316, c317, c318, c319, c320, c321, c322, c323, c324, c325, c326, c327, c328, c329, c330, c331, c332, c333, c334, c335, c336, c337, c338, c339, c340, c341, c342, c343, c344, c345, c346, c347, c348, c349, c350, c351, c352, c353, c354, c355, c356, c357, c358, c359, c360, c361, c362, c363, c364, c365, c366, c367, c368, c369, c370], []⟩ wc) :
    Code.wp Try.prog rs9_code Q ⟨#[c0, Value.pointer (some ⟨g, 0, none⟩), c2, c3, c4, c5, c6, c7, c8, c9, c10, c11, c12, c13, c14, c15, c16, c17, c18, c19, c20, c21, c22, c23, c24, c25, c26, c27, c28, c29, c30, c31, c32, c33, c34, c35, c36, c37, c38, c39, c40, c41, c42, c43, c44, c45, c46, c47, c48, c49, c50, c51, c52, c53, c54, c55, c56, c57, c58, c59, c60, c61, c62, c63, c64, c65, c66, c67, c68, c69, c70, c71, c72, c73, c74, c75, c76, c77, c78, c79, c80, c81, c82, c83, c84, c85, c86, c87, c88, c89, c90, c91, c92, c93, c94, c95, c96, c97, c98, c99, c100, c101, c102, c103, c104, c105, c106, c107, c108, c109, c110, c111, c112, c113, c114, c115, c116, c117, c118, c119, c120, c121, c122, c123, c124, c125, c126, c127, c128, c129, c130, c131, c132, c133, c134, c135, c136, c137, c138, c139, c140, c141, c142, c143, c144, c145, c146, c147, c148, c149, c150, c151, c152, c153, c154, c155, c156, c157, c158, c159, c160, c161, c162, c163, c164, c165, c166, c167, c168, c169, c170, c171, c172, c173, c174, c175, c176, c177, c178, c179, c180, c181, c182, c183, c184, c185, c186, c187, c188, c189, c190, c191, c192, c193, c194, c195, c196, c197, c198, c199, c200, c201, c202, c203, c204, c205, c206, c207, c208, c209, c210, c211, c212, c213, c214, c215, c216, c217, c218, c219, c220, c221, c222, c223, c224, c225, c226, c227, c228, c229, c230, c231, c232, c233, c234, c235, c236, c237, c238, c239, c240, c241, c242, c243, c244, c245, c246, c247, c248, c249, c250, c251, c252, c253, c254, c255, c256, c257, c258, c259, c260, c261, c262, c263, c264, c265, c266, c267, c268, c269, c270, c271, c272, c273, c274, c275, c276, c277, c278, c279, c280, c281, c282, c283, c284, c285, c286, c287, c288, c289, c290, c291, c292, c293, c294, c295, c296, c297, c298, c299, c300, c301, c302, c303, c304, c305, c306, c307, c308, c309, c310, c311, c312, c313, c314, c315, c316, c317, c318, c319, c320, c321, c322, c323, c324, c325, c326, c327, c328, c329, c330, c331, c332, c333, c334, c335, c336, c337, c338, c339, c340, c341, c342, c343, c344, c345, c346, c347, c348, c349, c350, c351, c352, c353, c354, c355, c356, c357, c358, c359, c360, c361, c362, c363, c364, c365, c366, c367, c368, c369, c370], []⟩ w2 := by
  have HK := Aside0.mk hK
  clear hK
  conv => arg 2; whnf
  have hcc := HC.out
  unfold wideP at hcc
  have pp : 0 ≤ y.f1 * y.f2 := Int.mul_nonneg (by omega) (by omega)
  have pq : y.f1 * y.f2 ≤ 281474976710656 := Int.le_trans (Int.mul_le_mul hcc.1.2 hcc.2.2 (by omega) (by decide)) (by decide)
  have t1 : IntKind.i64.wrap (y.f1 * y.f2) = y.f1 * y.f2 := wi64 (by omega) (by omega)
  have t2 : decide (y.f1 < 1) = false := decide_eq_false (by omega)
  have t3 : decide (16777216 < y.f1) = false := decide_eq_false (by omega)
  have t4 : decide (y.f2 < 1) = false := decide_eq_false (by omega)
  have t5 : decide (16777216 < y.f2) = false := decide_eq_false (by omega)
  clear hcc pp pq
  have z1 := fun i => HS1.out.cell i
  go_wp2_with (go_at_call 32; refine (HMO.out _ HS1.out.below).mono ?_; rintro e w3 ⟨rfl, hb⟩; have HS2 := Aside0.mk (HS1.out.belowR hb); clear hb)
  all_goals apply HK.out
  all_goals (refine ⟨_, rfl, ?_, by first | exact HS2.out | exact HS1.out⟩; clear z1 HK HMO; first | (simp [*]; done) | (simp [*]; omega) | (refine ⟨fun h => absurd h (by simp), fun h => ?_⟩; omega) | (cases hmo : moreB y.f14 <;> simp [*] <;> omega) | trace_state)
noncomputable def rs11_code : Code := ((Try.f13.body).bind (regionIn 11)).getD .skip
set_option maxHeartbeats 16000000 in
set_option maxRecDepth 1000000 in
theorem rs11 {c0 c2 c3 c4 c5 c6 c7 c8 c9 c10 c11 c12 c13 c14 c15 c16 c17 c18 c19 c20 c21 c22 c23 c24 c25 c26 c27 c28 c29 c30 c31 c32 c33 c34 c35 c36 c37 c38 c39 c40 c41 c42 c43 c44 c45 c46 c47 c48 c49 c50 c51 c52 c53 c54 c55 c56 c57 c58 c59 c60 c61 c62 c63 c64 c65 c66 c67 c68 c69 c70 c71 c72 c73 c74 c75 c76 c77 c78 c79 c80 c81 c82 c83 c84 c85 c86 c87 c88 c89 c90 c91 c92 c93 c94 c95 c96 c97 c98 c99 c100 c101 c102 c103 c104 c105 c106 c107 c108 c109 c110 c111 c112 c113 c114 c115 c116 c117 c118 c119 c120 c121 c122 c123 c124 c125 c126 c127 c128 c129 c130 c131 c132 c133 c134 c135 c136 c137 c138 c139 c140 c141 c142 c143 c144 c145 c146 c147 c148 c149 c150 c151 c152 c153 c154 c155 c156 c157 c158 c159 c160 c161 c162 c163 c164 c165 c166 c167 c168 c169 c170 c171 c172 c173 c174 c175 c176 c177 c178 c179 c180 c181 c182 c183 c184 c185 c186 c187 c188 c189 c190 c191 c192 c193 c194 c195 c196 c197 c198 c199 c200 c201 c202 c203 c204 c205 c206 c207 c208 c209 c210 c211 c212 c213 c214 c215 c216 c217 c218 c219 c220 c221 c222 c223 c224 c225 c226 c227 c228 c229 c230 c231 c232 c233 c234 c235 c236 c237 c238 c239 c240 c241 c242 c243 c244 c245 c246 c247 c248 c249 c250 c251 c252 c253 c254 c255 c256 c257 c258 c259 c260 c261 c262 c263 c264 c265 c266 c267 c268 c269 c270 c271 c272 c273 c274 c275 c276 c277 c278 c279 c280 c281 c282 c283 c284 c285 c286 c287 c288 c289 c290 c291 c292 c293 c294 c295 c296 c297 c298 c299 c300 c301 c302 c303 c304 c305 c306 c307 c308 c309 c310 c311 c312 c313 c314 c315 c316 c317 c318 c319 c320 c321 c322 c323 c324 c325 c326 c327 c328 c329 c330 c331 c332 c333 c334 c335 c336 c337 c338 c339 c340 c341 c342 c343 c344 c345 c346 c347 c348 c349 c350 c351 c352 c353 c354 c355 c356 c357 c358 c359 c360 c361 c362 c363 c364 c365 c366 c367 c368 c369 c370 : Value} {Q : Exit → Act → World → Prop} (y : Dc) (w w2 : World) (g : Nat) (R : Asrt) {B1 B2 B3 B4 B5 : Option Addr} {d1 d2 d3 d4 d5 : Nat} (HS1 : Aside0 (St w w2 (Asrt.blk g 27 #[.bool false, .int .i64 y.f1, .int .i64 y.f2, .bool y.f3, .bool y.f4, .int .u32 y.f5, .int .i64 y.f6, .slice B1 y.f7.length d1, .slice B2 y.f8.length d2, .slice B3 y.f9.length d3, .bool y.f10, .bool y.f11, .bool y.f12, .slice B4 y.f13.length d4, .slice B5 y.f14.length d5] * R)))
    (hK : ∀ (v u188 u189 u190 u191 u192 u193 u194 u195 u196 u197 u198 u199 u200 u201 u202 u203 u204 u205 u206 u207 u208 u209 u210 u211 u212 u213 u214 u215 u216 u217 : Value) (wc : World), (∃ t : Bool, v = .bool t ∧ (t = false ↔ (toldP y.f10 y.f7 ∧ toldP y.f11 y.f8 ∧ toldP y.f12 y.f9)) ∧ St w wc (Asrt.blk g 27 #[.bool false, .int .i64 y.f1, .int .i64 y.f2, .bool y.f3, .bool y.f4, .int .u32 y.f5, .int .i64 y.f6, .slice B1 y.f7.length d1, .slice B2 y.f8.length d2, .slice B3 y.f9.length d3, .bool y.f10, .bool y.f11, .bool y.f12, .slice B4 y.f13.length d4, .slice B5 y.f14.length d5] * R)) → Q .normal ⟨#[c0, Value.pointer (some ⟨g, 0, none⟩), c2, c3, c4, c5, c6, c7, c8, c9, c10, c11, c12, c13, c14, c15, c16, c17, c18, c19, c20, c21, c22, c23, c24, c25, c26, c27, c28, c29, c30, c31, c32, c33, c34, c35, c36, c37, c38, c39, c40, c41, c42, c43, c44, c45, c46, c47, c48, c49, c50, c51, c52, c53, c54, c55, c56, c57, c58, c59, c60, c61, c62, c63, c64, c65, c66, c67, c68, c69, c70, c71, c72, c73, c74, c75, c76, c77, c78, c79, c80, c81, c82, c83, c84, c85, c86, c87, c88, c89, c90, c91, c92, c93, c94, c95, c96, c97, c98, c99, c100, c101, c102, c103, c104, c105, c106, c107, c108, c109, c110, c111, c112, c113, c114, c115, c116, c117, c118, c119, c120, c121, c122, c123, c124, c125, c126, c127, c128, c129, c130, c131, c132, c133, c134, c135, c136, c137, c138, c139, c140, c141, c142, c143, c144, c145, c146, c147, c148, c149, c150, c151, c152, c153, c154, c155, c156, c157, c158, c159, c160, c161, c162, c163, c164, c165, c166, c167, c168, c169, c170, c171, c172, c173, c174, c175, c176, c177, c178, c179, c180, c181, c182, c183, c184, c185, c186, c187, u188, u189, u190, u191, u192, u193, u194, u195, u196, u197, u198, u199, u200, u201, u202, u203, u204, u205, u206, u207, u208, u209, u210, u211, u212, u213, u214, u215, u216, u217, v, c219, c220, c221, c222, c223, c224, c225, c226, c227, c228, c229, c230, c231, c232, c233, c234, c235, c236, c237, c238, c239, c240, c241, c242, c243, c244, c245, c246, c247, c248, c249, c250, c251, c252, c253, c254, c255, c256, c257, c258, c259, c260, c261, c262, c263, c264, c265, c266, c267, c268, c269, c270, c271, c272, c273, c274, c275, c276, c277, c278, c279, c280, c281, c282, c283, c284, c285, c286, c287, c288, c289, c290, c291, c292, c293, c294, c295, c296, c297, c298, c299, c300, c301, c302, c303, c304, c305, c306, c307, c308, c309, c310, c311, c312, c313, c314, c315, c316, c317, c318, c319, c320, c321, c322, c323, c324, c325, c326, c327, c328, c329, c330, c331, c332, c333, c334, c335, c336, c337, c338, c339, c340, c341, c342, c343, c344, c345, c346, c347, c348, c349, c350, c351, c352, c353, c354, c355, c356, c357, c358, c359, c360, c361, c362, c363, c364, c365, c366, c367, c368, c369, c370], []⟩ wc) :
    Code.wp Try.prog rs11_code Q ⟨#[c0, Value.pointer (some ⟨g, 0, none⟩), c2, c3, c4, c5, c6, c7, c8, c9, c10, c11, c12, c13, c14, c15, c16, c17, c18, c19, c20, c21, c22, c23, c24, c25, c26, c27, c28, c29, c30, c31, c32, c33, c34, c35, c36, c37, c38, c39, c40, c41, c42, c43, c44, c45, c46, c47, c48, c49, c50, c51, c52, c53, c54, c55, c56, c57, c58, c59, c60, c61, c62, c63, c64, c65, c66, c67, c68, c69, c70, c71, c72, c73, c74, c75, c76, c77, c78, c79, c80, c81, c82, c83, c84, c85, c86, c87, c88, c89, c90, c91, c92, c93, c94, c95, c96, c97, c98, c99, c100, c101, c102, c103, c104, c105, c106, c107, c108, c109, c110, c111, c112, c113, c114, c115, c116, c117, c118, c119, c120, c121, c122, c123, c124, c125, c126, c127, c128, c129, c130, c131, c132, c133, c134, c135, c136, c137, c138, c139, c140, c141, c142, c143, c144, c145, c146, c147, c148, c149, c150, c151, c152, c153, c154, c155, c156, c157, c158, c159, c160, c161, c162, c163, c164, c165, c166, c167, c168, c169, c170, c171, c172, c173, c174, c175, c176, c177, c178, c179, c180, c181, c182, c183, c184, c185, c186, c187, c188, c189, c190, c191, c192, c193, c194, c195, c196, c197, c198, c199, c200, c201, c202, c203, c204, c205, c206, c207, c208, c209, c210, c211, c212, c213, c214, c215, c216, c217, c218, c219, c220, c221, c222, c223, c224, c225, c226, c227, c228, c229, c230, c231, c232, c233, c234, c235, c236, c237, c238, c239, c240, c241, c242, c243, c244, c245, c246, c247, c248, c249, c250, c251, c252, c253, c254, c255, c256, c257, c258, c259, c260, c261, c262, c263, c264, c265, c266, c267, c268, c269, c270, c271, c272, c273, c274, c275, c276, c277, c278, c279, c280, c281, c282, c283, c284, c285, c286, c287, c288, c289, c290, c291, c292, c293, c294, c295, c296, c297, c298, c299, c300, c301, c302, c303, c304, c305, c306, c307, c308, c309, c310, c311, c312, c313, c314, c315, c316, c317, c318, c319, c320, c321, c322, c323, c324, c325, c326, c327, c328, c329, c330, c331, c332, c333, c334, c335, c336, c337, c338, c339, c340, c341, c342, c343, c344, c345, c346, c347, c348, c349, c350, c351, c352, c353, c354, c355, c356, c357, c358, c359, c360, c361, c362, c363, c364, c365, c366, c367, c368, c369, c370], []⟩ w2 := by
  have HK := Aside0.mk hK
  clear hK
  conv => arg 2; whnf
  have z1 := fun i => HS1.out.cell i
  go_wp2_with fail
  all_goals apply HK.out
  all_goals (refine ⟨_, rfl, ?_, HS1.out⟩; clear z1 HK; unfold toldP; rw [nlen y.f7, nlen y.f8, nlen y.f9]; simp only [*, or_true, true_or, or_false, false_or, and_true, true_and, not_true_eq_false, not_false_eq_true, and_false, false_and, decide_eq_false_iff_not, Bool.true_eq_false, Bool.false_eq_true, iff_false, iff_true, iff_self, decide_true, decide_false, reduceCtorEq])
noncomputable def rs13_code : Code := ((Try.f13.body).bind (regionIn 13)).getD .skip
set_option maxHeartbeats 16000000 in
set_option maxRecDepth 1000000 in
theorem rs13 {c0 c2 c3 c4 c5 c6 c7 c8 c9 c10 c11 c12 c13 c14 c15 c16 c17 c18 c19 c20 c21 c22 c23 c24 c25 c26 c27 c28 c29 c30 c31 c32 c33 c34 c35 c36 c37 c38 c39 c40 c41 c42 c43 c44 c45 c46 c47 c48 c49 c50 c51 c52 c53 c54 c55 c56 c57 c58 c59 c60 c61 c62 c63 c64 c65 c66 c67 c68 c69 c70 c71 c72 c73 c74 c75 c76 c77 c78 c79 c80 c81 c82 c83 c84 c85 c86 c87 c88 c89 c90 c91 c92 c93 c94 c95 c96 c97 c98 c99 c100 c101 c102 c103 c104 c105 c106 c107 c108 c109 c110 c111 c112 c113 c114 c115 c116 c117 c118 c119 c120 c121 c122 c123 c124 c125 c126 c127 c128 c129 c130 c131 c132 c133 c134 c135 c136 c137 c138 c139 c140 c141 c142 c143 c144 c145 c146 c147 c148 c149 c150 c151 c152 c153 c154 c155 c156 c157 c158 c159 c160 c161 c162 c163 c164 c165 c166 c167 c168 c169 c170 c171 c172 c173 c174 c175 c176 c177 c178 c179 c180 c181 c182 c183 c184 c185 c186 c187 c188 c189 c190 c191 c192 c193 c194 c195 c196 c197 c198 c199 c200 c201 c202 c203 c204 c205 c206 c207 c208 c209 c210 c211 c212 c213 c214 c215 c216 c217 c218 c219 c220 c221 c222 c223 c224 c225 c226 c227 c228 c229 c230 c231 c232 c233 c234 c235 c236 c237 c238 c239 c240 c241 c242 c243 c244 c245 c246 c247 c248 c249 c250 c251 c252 c253 c254 c255 c256 c257 c258 c259 c260 c261 c262 c263 c264 c265 c266 c267 c268 c269 c270 c271 c272 c273 c274 c275 c276 c277 c278 c279 c280 c281 c282 c283 c284 c285 c286 c287 c288 c289 c290 c291 c292 c293 c294 c295 c296 c297 c298 c299 c300 c301 c302 c303 c304 c305 c306 c307 c308 c309 c310 c311 c312 c313 c314 c315 c316 c317 c318 c319 c320 c321 c322 c323 c324 c325 c326 c327 c328 c329 c330 c331 c332 c333 c334 c335 c336 c337 c338 c339 c340 c341 c342 c343 c344 c345 c346 c347 c348 c349 c350 c351 c352 c353 c354 c355 c356 c357 c358 c359 c360 c361 c362 c363 c364 c365 c366 c367 c368 c369 c370 : Value} {Q : Exit → Act → World → Prop} (y : Dc) (w w2 : World) (g : Nat) (R : Asrt) {B1 B2 B3 B4 B5 : Option Addr} {d1 d2 d3 d4 d5 : Nat} (HS1 : Aside0 (St w w2 (Asrt.blk g 27 #[.bool false, .int .i64 y.f1, .int .i64 y.f2, .bool y.f3, .bool y.f4, .int .u32 y.f5, .int .i64 y.f6, .slice B1 y.f7.length d1, .slice B2 y.f8.length d2, .slice B3 y.f9.length d3, .bool y.f10, .bool y.f11, .bool y.f12, .slice B4 y.f13.length d4, .slice B5 y.f14.length d5] * R)))
    (hK : ∀ (v u219 u220 u221 u222 u223 u224 u225 u226 u227 u228 u229 u230 u231 u232 u233 u234 u235 u236 : Value) (wc : World), (∃ t : Bool, v = .bool t ∧ (t = false ↔ (y.f4 = false → (y.f13.length : Int) = 1 ∧ y.f5 = 0 ∧ y.f6 = 0)) ∧ St w wc (Asrt.blk g 27 #[.bool false, .int .i64 y.f1, .int .i64 y.f2, .bool y.f3, .bool y.f4, .int .u32 y.f5, .int .i64 y.f6, .slice B1 y.f7.length d1, .slice B2 y.f8.length d2, .slice B3 y.f9.length d3, .bool y.f10, .bool y.f11, .bool y.f12, .slice B4 y.f13.length d4, .slice B5 y.f14.length d5] * R)) → Q .normal ⟨#[c0, Value.pointer (some ⟨g, 0, none⟩), c2, c3, c4, c5, c6, c7, c8, c9, c10, c11, c12, c13, c14, c15, c16, c17, c18, c19, c20, c21, c22, c23, c24, c25, c26, c27, c28, c29, c30, c31, c32, c33, c34, c35, c36, c37, c38, c39, c40, c41, c42, c43, c44, c45, c46, c47, c48, c49, c50, c51, c52, c53, c54, c55, c56, c57, c58, c59, c60, c61, c62, c63, c64, c65, c66, c67, c68, c69, c70, c71, c72, c73, c74, c75, c76, c77, c78, c79, c80, c81, c82, c83, c84, c85, c86, c87, c88, c89, c90, c91, c92, c93, c94, c95, c96, c97, c98, c99, c100, c101, c102, c103, c104, c105, c106, c107, c108, c109, c110, c111, c112, c113, c114, c115, c116, c117, c118, c119, c120, c121, c122, c123, c124, c125, c126, c127, c128, c129, c130, c131, c132, c133, c134, c135, c136, c137, c138, c139, c140, c141, c142, c143, c144, c145, c146, c147, c148, c149, c150, c151, c152, c153, c154, c155, c156, c157, c158, c159, c160, c161, c162, c163, c164, c165, c166, c167, c168, c169, c170, c171, c172, c173, c174, c175, c176, c177, c178, c179, c180, c181, c182, c183, c184, c185, c186, c187, c188, c189, c190, c191, c192, c193, c194, c195, c196, c197, c198, c199, c200, c201, c202, c203, c204, c205, c206, c207, c208, c209, c210, c211, c212, c213, c214, c215, c216, c217, c218, u219, u220, u221, u222, u223, u224, u225, u226, u227, u228, u229, u230, u231, u232, u233, u234, u235, u236, v, c238, c239, c240, c241, c242, c243, c244, c245, c246, c247, c248, c249, c250, c251, c252, c253, c254, c255, c256, c257, c258, c259, c260, c261, c262, c263, c264, c265, c266, c267, c268, c269, c270, c271, c272, c273, c274, c275, c276, c277, c278, c279, c280, c281, c282, c283, c284, c285, c286, c287, c288, c289, c290, c291, c292, c293, c294, c295, c296, c297, c298, c299, c300, c301, c302, c303, c304, c305, c306, c307, c308, c309, c310, c311, c312, c313, c314, c315, c316, c317, c318, c319, c320, c321, c322, c323, c324, c325, c326, c327, c328, c329, c330, c331, c332, c333, c334, c335, c336, c337, c338, c339, c340, c341, c342, c343, c344, c345, c346, c347, c348, c349, c350, c351, c352, c353, c354, c355, c356, c357, c358, c359, c360, c361, c362, c363, c364, c365, c366, c367, c368, c369, c370], []⟩ wc) :
    Code.wp Try.prog rs13_code Q ⟨#[c0, Value.pointer (some ⟨g, 0, none⟩), c2, c3, c4, c5, c6, c7, c8, c9, c10, c11, c12, c13, c14, c15, c16, c17, c18, c19, c20, c21, c22, c23, c24, c25, c26, c27, c28, c29, c30, c31, c32, c33, c34, c35, c36, c37, c38, c39, c40, c41, c42, c43, c44, c45, c46, c47, c48, c49, c50, c51, c52, c53, c54, c55, c56, c57, c58, c59, c60, c61, c62, c63, c64, c65, c66, c67, c68, c69, c70, c71, c72, c73, c74, c75, c76, c77, c78, c79, c80, c81, c82, c83, c84, c85, c86, c87, c88, c89, c90, c91, c92, c93, c94, c95, c96, c97, c98, c99, c100, c101, c102, c103, c104, c105, c106, c107, c108, c109, c110, c111, c112, c113, c114, c115, c116, c117, c118, c119, c120, c121, c122, c123, c124, c125, c126, c127, c128, c129, c130, c131, c132, c133, c134, c135, c136, c137, c138, c139, c140, c141, c142, c143, c144, c145, c146, c147, c148, c149, c150, c151, c152, c153, c154, c155, c156, c157, c158, c159, c160, c161, c162, c163, c164, c165, c166, c167, c168, c169, c170, c171, c172, c173, c174, c175, c176, c177, c178, c179, c180, c181, c182, c183, c184, c185, c186, c187, c188, c189, c190, c191, c192, c193, c194, c195, c196, c197, c198, c199, c200, c201, c202, c203, c204, c205, c206, c207, c208, c209, c210, c211, c212, c213, c214, c215, c216, c217, c218, c219, c220, c221, c222, c223, c224, c225, c226, c227, c228, c229, c230, c231, c232, c233, c234, c235, c236, c237, c238, c239, c240, c241, c242, c243, c244, c245, c246, c247, c248, c249, c250, c251, c252, c253, c254, c255, c256, c257, c258, c259, c260, c261, c262, c263, c264, c265, c266, c267, c268, c269, c270, c271, c272, c273, c274, c275, c276, c277, c278, c279, c280, c281, c282, c283, c284, c285, c286, c287, c288, c289, c290, c291, c292, c293, c294, c295, c296, c297, c298, c299, c300, c301, c302, c303, c304, c305, c306, c307, c308, c309, c310, c311, c312, c313, c314, c315, c316, c317, c318, c319, c320, c321, c322, c323, c324, c325, c326, c327, c328, c329, c330, c331, c332, c333, c334, c335, c336, c337, c338, c339, c340, c341, c342, c343, c344, c345, c346, c347, c348, c349, c350, c351, c352, c353, c354, c355, c356, c357, c358, c359, c360, c361, c362, c363, c364, c365, c366, c367, c368, c369, c370], []⟩ w2 := by
  have HK := Aside0.mk hK
  clear hK
  conv => arg 2; whnf
  have z1 := fun i => HS1.out.cell i
  go_wp2_with fail
  all_goals apply HK.out
  all_goals (refine ⟨_, rfl, ?_, HS1.out⟩; clear z1 HK; first | (simp [*]; done) | (simp [*]; omega) | trace_state)
end Go.Proofs.Ythkocpcjcpohcaa.P
end
