/- Part by part the canvas is what it is at once; a part that may not be changes nothing. -/
import Derived.Test.YtegifkffhnhccaaCanvasEv
import Derived.Test.YtegifkffhnhccaaParts27
namespace Go.Proofs.Ytegifkffhnhccaa.Pure
open Go Go.RowKit Go.Proofs.Ytegifkffhnhccaa.P Go.Proofs.YtegifkffhnhccaaW.PrintWords Go.Proofs.YtegifkffhnhccaaW.PrintLast Go.Proofs.YtegifkffhnhccaaW.PrintMore Go.Proofs.Ytegifkffhnhccaa.U
set_option linter.unusedVariables false
set_option linter.unusedSimpArgs false
attribute [local go_sem] max2_int min2_int max_two min_two max_three min_three max_four min_four
theorem same_loop {l : List Int} (hl : l.length ≤ 268435456) (d : Nat) : ∀ i : Nat, i + d = l.length → Ev (fun k => marquetryref11_Pixels.l0 k l l i) true := by
  induction d with
  | zero =>
    intro i hd
    refine Ev.succ ?_
    simp only [marquetryref11_Pixels.l0]
    exact Ev.ite_neg (by omega) (Ev.now _)
  | succ d ih =>
    intro i hd
    refine Ev.succ ?_
    simp only [marquetryref11_Pixels.l0]
    refine Ev.ite_pos (by omega) (Ev.ite_pos (by omega) (Ev.ite_pos (by omega) (Ev.ite_pos trivial ?_)))
    rw [w64 (by omega) (by omega)]
    exact ih (i + 1) (by omega)
theorem same_ev {a b : Int} {l : List Int} (hl : l.length ≤ 268435456) : Ev (fun k => marquetryref11_Same.f k a b l a b l) true := by
  unfold marquetryref11_Same.f marquetryref11_Pixels.f
  exact Ev.ite_pos rfl (Ev.ite_pos rfl (Ev.bind (Ev.ite_pos rfl (same_loop hl l.length 0 (Nat.zero_add _))) (Ev.now _)))
theorem ints_C {w : World} {k : IntKind} {A : Option Addr} {n : Nat} {xs : List Int} (h : ReadsInt w k A n xs) : Kd.C (Kd.int k) w A n xs := Kd.C_of_reads (readsInt_of.1 h)
theorem same_call {a b : Int} {B C : Option Addr} {n cB cC : Nat} {l : List Int} (hn : l.length = n) (hl : n ≤ 268435456) (w : World) (h1 : ReadsInt w .u32 B n l) (h2 : ReadsInt w .u32 C n l) (c1 : n ≤ cB) (c2 : n ≤ cC) :
    Calls Try.prog 21 #[.agg #[.int .i64 a, .int .i64 b, .slice B n cB], .agg #[.int .i64 a, .int .i64 b, .slice C n cC]] w fun e w' => e = .returned (.bool true) ∧ Below w.heap.size w w' := by
  subst hn
  obtain ⟨k, h⟩ := (same_ev (a := a) (b := b) hl).rounds
  exact marquetryref11_Same.calls k a b B cB l a b C cC l true w (ints_C h1) c1 (ints_C h2) c2 h
/-- Only what is told of the first parts matters. -/
theorem comeF_app {W H : Int} {L : List Pt} {p : Pt} : ∀ n : Nat, n ≤ L.length → comeF W H (L ++ [p]) n = comeF W H L n
  | 0, _ => rfl
  | n + 1, h => by
    have e : rd_T47 (L ++ [p]) n = rd_T47 L n := by
      simp [rd_T47, List.getD_eq_getElem?_getD, List.getElem?_append, show n < L.length by omega]
    show (comeF W H (L ++ [p]) n).put W (rd_T47 (L ++ [p]) n) = (comeF W H L n).put W (rd_T47 L n)
    rw [comeF_app n (by omega), e]
theorem rd_last {L : List Pt} {p : Pt} : rd_T47 (L ++ [p]) (L.length : Nat) = p := by simp [rd_T47, List.getD_eq_getElem?_getD]
theorem comeF_snoc {W H : Int} {L : List Pt} {p : Pt} : comeF W H (L ++ [p]) (L.length + 1) = (comeF W H L L.length).put W p := by
  show (comeF W H (L ++ [p]) L.length).put W (rd_T47 (L ++ [p]) (L.length : Nat)) = _
  rw [comeF_app _ (Nat.le_refl _), rd_last]
theorem allIn_snoc {W H : Int} {L : List Pt} {p : Pt} (h : allIn W H L L.length) (hp : partIn W H p) : allIn W H (L ++ [p]) (L.length + 1) := by
  intro i hi
  rcases Nat.lt_or_ge i L.length with c | c
  · have e : rd_T47 (L ++ [p]) i = rd_T47 L i := by simp [rd_T47, List.getD_eq_getElem?_getD, List.getElem?_append, c]
    rw [e]; exact h i c
  · obtain rfl : i = L.length := by omega
    rw [rd_last]; exact hp
set_option maxHeartbeats 8000000 in
set_option maxRecDepth 100000 in
theorem CanvasNexts (W H : Int) (A : Option Addr) (c : Nat) (l : List Pt) (w : World)
    (h1 : (Lit.int .i64 W).wf = true) (h2 : (Lit.int .i64 H).wf = true) (h3 : l.length ≤ maxLen) (h4 : l.length * 64 ≤ 140737488351232) (h5 : ∀ y ∈ l, q47 y)
    (g0 : Kd.C k47 w A l.length l) (l0 : l.length ≤ c) :
    Calls Try.prog 5 #[.int .i64 W, .int .i64 H, .slice A l.length c] w fun e w' => e = .returned (.bool true) ∧ Below w.heap.size w w' := by
  have hU := (part_known h5).1
  obtain ⟨b, ⟨ks, hsm⟩, hb2⟩ := small_ev (W := W) (H := H) h4 h5
  have hsm := hsm ks (Nat.le_refl _)
  have G0 := Aside0.mk g0
  have L0 := Aside0.mk l0
  have HU := Aside0.mk hU
  have HB2 := Aside0.mk hb2
  have HSM := Aside0.mk hsm
  have hW64 := wf_i64 h1
  have hH64 := wf_i64 h2
  clear h1 h2 h3 h5 hU g0 l0 hb2 hsm
  by_cases side : W ≥ 1 ∧ H ≥ 1
  case neg =>
    have main : ∀ t1 t2 : Bool, decide (W < 1) = t1 → decide (H < 1) = t2 → (t1 || t2) = true → ¬ (sideOk W ∧ sideOk H) → 
        Calls Try.prog 5 #[.int .i64 W, .int .i64 H, .slice A l.length c] w fun e w' => e = .returned (.bool true) ∧ Below w.heap.size w w' := by
      intro t1 t2 e1 e2 hor hno
      clear side hW64 hH64
      have HNO := Aside0.mk hno; clear hno
      cases t1 <;> cases t2 <;> first | exact absurd hor (by decide) | skip
      all_goals clear hor
      all_goals go_enter Try.func5, Try.ntmps5
      all_goals go_wp2_with fail
      all_goals (refine (marquetrylaw27_small.calls ks W H A c l b _ G0.out L0.out HSM.out).mono ?_; rintro e w1 ⟨rfl, ⟨nd, rfl⟩⟩)
      all_goals have HS := Aside0.mk (pw_below_drewN (Below.refl w.heap.size w) nd)
      all_goals cases b
      all_goals go_wp2_with fail
      all_goals (try (refine (canvas_New_no W H _ HNO.out).mono ?_; rintro e w2 ⟨rfl, hb⟩; have HS := Aside0.mk (below_then HS.out hb); clear hb; go_wp2_with fail))
      all_goals (refine (marquetrylaw27_answers.calls true _ rfl).mono ?_; rintro e w3 ⟨rfl, hb⟩; have HB := Aside0.mk (below_then HS.out hb); clear hb; go_wp2_with fail; go_ret; exact ⟨rfl, HB.out⟩)
    refine main _ _ rfl rfl ?_ (fun h => side ⟨h.1.1, h.2.1⟩)
    by_cases a : W < 1
    · rw [decide_eq_true a]; rfl
    · rw [decide_eq_false a, decide_eq_true (show H < 1 by omega)]; rfl
  obtain ⟨s1, s2⟩ := side
  have t1 : decide (W < 1) = false := decide_eq_false (by omega)
  have t2 : decide (H < 1) = false := decide_eq_false (by omega)
  cases b
  case false =>
    clear s1 s2 hW64 hH64
    go_enter Try.func5, Try.ntmps5
    go_wp2_with fail
    refine (marquetrylaw27_small.calls ks W H A c l false _ G0.out L0.out HSM.out).mono ?_; rintro e w1 ⟨rfl, ⟨nd, rfl⟩⟩
    have HS := Aside0.mk (pw_below_drewN (Below.refl w.heap.size w) nd)
    go_wp2_with fail
    refine (marquetrylaw27_answers.calls true _ rfl).mono ?_; rintro e w3 ⟨rfl, hb⟩; have HB := Aside0.mk (below_then HS.out hb); clear hb; go_wp2_with fail; go_ret; exact ⟨rfl, HB.out⟩
  obtain ⟨w60, h60, len⟩ := HB2.out rfl
  have hW : sideOk W := ⟨s1, by omega⟩
  have hH : sideOk H := ⟨s2, by omega⟩
  have HW := Aside0.mk hW
  have HH := Aside0.mk hH
  have HW6 := Aside0.mk (⟨s1, w60⟩ : 1 ≤ W ∧ W ≤ 60)
  have HH6 := Aside0.mk (⟨s2, h60⟩ : 1 ≤ H ∧ H ≤ 60)
  obtain ⟨xs, hkl, hrc⟩ := C_cells G0.out (show 0 < 7 by decide)
  have HKL := Aside0.mk hkl
  have HRC := Aside0.mk hrc
  clear hW hH s1 s2 w60 h60 hW64 hH64 HB2 hkl hrc
  go_enter Try.func5, Try.ntmps5
  go_wp2_with fail
  refine (marquetrylaw27_small.calls ks W H A c l true _ G0.out L0.out HSM.out).mono ?_; rintro e w1 ⟨rfl, ⟨nd, rfl⟩⟩
  have HS := Aside0.mk ((St.refl w).drewN nd)
  go_wp2_with fail
  refine (canvas_New_ok W H _ w _ HW.out HH.out HS.out).mono ?_; rintro e w2 ⟨g, gb, rfl, hs⟩
  have HS2 := Aside0.mk hs; clear hs HS
  go_wp2_with fail
  refine (marquetrylaw27_answers.calls true _ rfl).mono ?_; rintro e w3 ⟨rfl, hb⟩
  have HS3 := Aside0.mk (HS2.out.belowR hb); clear hb HS2
  go_wp2_with fail
  refine (parts_st A c l xs w3 L0.out len (HRC.out.below HS3.out.below) (KL_below HS3.out.below HKL.out)).mono ?_; rintro e w4 ⟨PB, pc, rfl, hs⟩
  have HS4 := Aside0.mk (((HS3.out.frame hs).assoc.swap.drop.swap).rowNil 47 7).swap; clear hs HS3
  go_wp2_with fail
  go_loopw [9, 11] (fun v i wr => ∃ (n : Nat) (L : List Pt) (ys : List Value) (G : Option Addr) (cG : Nat), n ≤ l.length ∧ L.length ≤ n ∧ v = .slice G L.length cG ∧ i = .int .i64 n ∧ KL k47 w L ys ∧ allIn W H L L.length ∧ partsU L ∧
    St w wr ((comeF W H L L.length).obj g gb W H * (Asrt.row 47 7 (.slice G L.length cG) L.length ys * (Asrt.row 39 7 (.slice PB l.length pc) l.length xs * Asrt.emp)))) (fun _ i _ => l.length - (intOf i).toNat)
  case atStart => exact ⟨0, [], [], none, 0, by omega, Nat.le_refl _, rfl, rfl, rfl, (fun i hi => absurd hi (Nat.not_lt_zero _)), (fun p hp => by cases hp), HS4.out⟩
  case round =>
    obtain ⟨n, L, ys, G, cG, hn, hLn, rfl, rfl, hky, hall, hLU, hs⟩ := hrel
    clear HS4
    by_cases hlt : n < l.length
    case neg =>
      have y1 : decide ((n : Int) < l.length) = false := decide_eq_false (by omega)
      obtain rfl : n = l.length := by omega
      have HB := Aside0.mk hs.below
      clear hs
      go_wp2_with fail
      go_ret
      exact ⟨rfl, HB.out⟩
    have y1 : decide ((n : Int) < l.length) = true := decide_eq_true (by omega)
    have y2 : decide (n < l.length) = true := decide_eq_true hlt
    have hA : ∃ ad, A = some ad := by
      obtain ⟨ad, h, _⟩ := HRC.out.2.2 (by omega)
      exact ⟨ad, h⟩
    obtain ⟨ad, rfl⟩ := hA
    obtain ⟨A6, c6, ht, l6, g6, hcl⟩ := take_cells HRC.out HKL.out n hlt rfl
    have hpU := partsU_rd HU.out n hlt
    generalize hp : rd_T47 l n = p at *
    have e0 := hcl 0 _ rfl
    have e1 := hcl 1 _ rfl
    have e2 := hcl 2 _ rfl
    have e3 := hcl 3 _ rfl
    have e4 := hcl 4 _ rfl
    have e5 := hcl 5 _ rfl
    have e6 := hcl 6 _ rfl
    rw [Nat.add_zero] at e0
    rw [add_field _ _ 1 (by omega)] at e1
    rw [add_field _ _ 2 (by omega)] at e2
    rw [add_field _ _ 3 (by omega)] at e3
    rw [add_field _ _ 4 (by omega)] at e4
    rw [add_field _ _ 5 (by omega)] at e5
    rw [add_field _ _ 6 (by omega)] at e6
    have hok := comeF_ok HW.out HH.out (partsU_rd hLU) L.length (Nat.le_refl _) hall
    have hpix : (comeF W H L L.length).pix.length ≤ 268435456 := nat_big (by have := (mul_area HW.out HH.out).2; rw [← hok.1] at this; exact this)
    have hcells := fun j u (hj : (cells7 p A6 c6)[j]? = some u) => show xs[n * 7 + j]? = some u from by
      have this : (xs.take (7 * (n + 1)))[7 * n + j]? = (xs.take (7 * n) ++ cells7 p A6 c6)[7 * n + j]? := by rw [ht]
      have hlen : xs.length = l.length * 7 := HRC.out.1
      have hj7 : j < 7 := (List.getElem?_eq_some_iff.1 hj).1
      have hm : min (7 * n) xs.length = 7 * n := by omega
      rw [List.getElem?_take_of_lt (by omega), List.getElem?_append_right (by rw [List.length_take]; omega), List.length_take, hm, Nat.add_sub_cancel_left, hj] at this
      rw [Nat.mul_comm]; exact this
    obtain ⟨gp, rfl⟩ := hs.rot3.rowForm (by omega)
    generalize hCV : comeF W H L L.length = cv at *
    have HPU := Aside0.mk hpU
    have HL6 := Aside0.mk l6
    have HG6 := Aside0.mk g6
    have HKY := Aside0.mk hky
    have HALL := Aside0.mk hall
    have HLU := Aside0.mk hLU
    have HOK := Aside0.mk hok
    have HPIX := Aside0.mk hpix
    have HCELLS := Aside0.mk hcells
    have HCV := Aside0.mk hCV
    have HLT := Aside0.mk hlt
    have HLN := Aside0.mk hLn
    have HCL := Aside0.mk hcl
    have HHP := Aside0.mk hp
    have HSN := Aside0.mk hs
    have n3000 : n ≤ 3000 := by omega
    clear hpU l6 g6 hky hall hLU hok hpix hcells hCV hLn hcl hs ht hp hn
    go_wp2_with fail
    refine (canvas_Image_ok g gb W H _ _ _ _ cv.pix _ w _ HPIX.out HSN.out).mono ?_; rintro e w5 ⟨B, cB, rfl, hs⟩
    have h5 := hs.alloc #[.int .i64 W, .int .i64 H, .slice B cv.pix.length cB] 31
    have d0 := (h5.below.cell (World.block_lt_of_cell? w _ e0)).trans e0
    have d1 := (h5.below.cell (World.block_lt_of_cell? w _ e1)).trans e1
    have d2 := (h5.below.cell (World.block_lt_of_cell? w _ e2)).trans e2
    have d3 := (h5.below.cell (World.block_lt_of_cell? w _ e3)).trans e3
    have d4 := (h5.below.cell (World.block_lt_of_cell? w _ e4)).trans e4
    have d5 := (h5.below.cell (World.block_lt_of_cell? w _ e5)).trans e5
    have d6 := (h5.below.cell (World.block_lt_of_cell? w _ e6)).trans e6
    have HS5 := Aside0.mk h5.rot3
    clear hs h5 HSN
    by_cases hin : partIn W H p
    case neg =>
      have HIN := Aside0.mk hin
      go_wp2_with fail
      refine (canvas_put_no g gb W H cv p (A6) c6 _ w _ HW.out HH.out HG6.out HL6.out HIN.out HS5.out).mono ?_; rintro e w6 ⟨rfl, hs⟩
      have HS6 := Aside0.mk hs
      have hpc := hs.drop.drop.drop.drop.row.cells (g := gp) rfl
      have p0 := hpc _ _ (HCELLS.out 0 _ rfl)
      have p1 := hpc _ _ (HCELLS.out 1 _ rfl)
      have p2 := hpc _ _ (HCELLS.out 2 _ rfl)
      have p3 := hpc _ _ (HCELLS.out 3 _ rfl)
      have p4 := hpc _ _ (HCELLS.out 4 _ rfl)
      have p5 := hpc _ _ (HCELLS.out 5 _ rfl)
      have p6 := hpc _ _ (HCELLS.out 6 _ rfl)
      have hadd : ∀ z : Nat, (⟨gp, 0, none⟩ : Addr).add z = ⟨gp, z, none⟩ := fun z => by unfold Addr.add; split <;> simp_all
      rw [hadd] at p0 p1 p2 p3 p4 p5 p6
      rw [Nat.add_zero] at p0
      clear hs hpc d0 d1 d2 d3 d4 d5 d6 hadd HS5
      go_wp2_with fail
      have hwi := within_eq HW6.out HH6.out p
      rw [decide_eq_false HIN.out] at hwi
      refine (marquetryref24_Within.calls W H p.f0 p.f1 p.f2 p.f3 p.f4.f0 p.f4.f1 A6 c6 p.f4.f2 false w6 (Kd.C_below HG6.out HS6.out.below) HL6.out hwi).mono ?_; rintro e w7 ⟨rfl, hb⟩
      have h7 := HS6.out.belowR hb
      have HS7 := Aside0.mk h7
      have m0 := (h7.swap.cell 0).trans rfl
      have m1 := (h7.swap.cell 1).trans rfl
      have m2 := (h7.swap.cell 2).trans rfl
      have HBR := Aside0.mk (rowReads h7.rot3)
      have HCB := Aside0.mk (own_le h7.rot3.row)
      clear hwi hb h7 p0 p1 p2 p3 p4 p5 p6 HS6
      go_upto_region 16 with (fail)
      go_region_held3 (fun w' => w'.cell? ⟨w5.heap.size, 0, none⟩ = some (.int .i64 W) ∧ w'.cell? ⟨w5.heap.size, 1, none⟩ = some (.int .i64 H) ∧ w'.cell? ⟨w5.heap.size, 2, none⟩ = some (.slice B cv.pix.length cB)) (go_keep) (first
        | (go_at_call 19; with_reducible refine (canvas_Image_ok g gb W H _ _ _ _ cv.pix _ w _ HPIX.out HS7.out.drew).mono ?_; rintro e w8 ⟨B8, c8, rfl, hs⟩; have HS8 := Aside0.mk hs; have q0 := (hs.rot3.cell 0).trans rfl; have q1 := (hs.rot3.cell 1).trans rfl; have q2 := (hs.rot3.cell 2).trans rfl; clear hs)
        | (go_at_call 21; with_reducible refine (same_call rfl HPIX.out _ (rowReads HS8.out) (rowReads HS8.out.rot4) (own_le HS8.out.row) (own_le HS8.out.rot4.row)).mono ?_; rintro e w9 ⟨rfl, hb⟩; have hs := HS8.out.belowR hb; have HS9 := Aside0.mk hs; have q0 := (hs.rot3.cell 0).trans rfl; have q1 := (hs.rot3.cell 1).trans rfl; have q2 := (hs.rot3.cell 2).trans rfl; clear hs hb))
      clear q0 q1 q2
      go_wp2_with fail
      go_roundw
      case rel => exact ⟨n + 1, L, ys, G, cG, HLT.out, by have := HLN.out; omega, rfl, by go_num, HKY.out, HALL.out, HLU.out, by rw [HCV.out]; exact HS9.out.drop.swap.drop.swap.drop⟩
      case measure => have := HLT.out; simp [intOf]; omega
    have hkp : k47.K w p (cells7 p A6 c6) := k47_mk w p HL6.out HG6.out
    have hsn : comeF W H (L ++ [p]) (L.length + 1) = cv.put W p := by rw [comeF_snoc, HCV.out]
    have halls := allIn_snoc HALL.out hin
    have hus : partsU (L ++ [p]) := fun r hr => (List.mem_append.1 hr).elim (HLU.out r) fun h => by rw [List.mem_singleton.1 h]; exact HPU.out
    have hask : askOk W H (L ++ [p]) L.length := ⟨⟨HW.out, HH.out⟩, ⟨by omega, by simp; omega⟩, by simpa using halls⟩
    have hren : renderF W H (L ++ [p]) L.length = some (W, H, (cv.put W p).pix, 0) := by
      unfold renderF
      rw [if_pos hus, if_pos hask, Int.toNat_natCast, hsn]
    have hok2 := CV.put_ok HW.out HH.out HOK.out hin HPU.out
    have hpix2 : (cv.put W p).pix.length ≤ 268435456 := nat_big (by have := (mul_area HW.out HH.out).2; rw [← hok2.1] at this; exact this)
    have HKP := Aside0.mk hkp
    have HSNO := Aside0.mk hsn
    have HALLS := Aside0.mk halls
    have HUS := Aside0.mk hus
    have HREN := Aside0.mk hren
    have HPIX2 := Aside0.mk hpix2
    have HIN := Aside0.mk hin
    clear hkp hsn halls hus hask hren hok2 hpix2 hin
    go_wp2_with fail
    refine (canvas_put g gb W H cv p A6 c6 _ w _ HW.out HH.out HOK.out HPU.out HG6.out HL6.out HIN.out HS5.out).mono ?_; rintro e w6 ⟨rfl, hs⟩
    have HS6 := Aside0.mk hs
    have hpc := hs.drop.drop.drop.drop.row.cells (g := gp) rfl
    have p0 := hpc _ _ (HCELLS.out 0 _ rfl)
    have p1 := hpc _ _ (HCELLS.out 1 _ rfl)
    have p2 := hpc _ _ (HCELLS.out 2 _ rfl)
    have p3 := hpc _ _ (HCELLS.out 3 _ rfl)
    have p4 := hpc _ _ (HCELLS.out 4 _ rfl)
    have p5 := hpc _ _ (HCELLS.out 5 _ rfl)
    have p6 := hpc _ _ (HCELLS.out 6 _ rfl)
    have hadd : ∀ z : Nat, (⟨gp, 0, none⟩ : Addr).add z = ⟨gp, z, none⟩ := fun z => by unfold Addr.add; split <;> simp_all
    rw [hadd] at p0 p1 p2 p3 p4 p5 p6
    rw [Nat.add_zero] at p0
    clear hs hpc d0 d1 d2 d3 d4 d5 d6 hadd HS5
    go_wp2_with fail
    have hwi := within_eq HW6.out HH6.out p
    rw [decide_eq_true HIN.out] at hwi
    refine (marquetryref24_Within.calls W H p.f0 p.f1 p.f2 p.f3 p.f4.f0 p.f4.f1 A6 c6 p.f4.f2 true w6 (Kd.C_below HG6.out HS6.out.below) HL6.out hwi).mono ?_; rintro e w7 ⟨rfl, hb⟩
    have h7 := (HS6.out.belowR hb).swap.drop.swap.drop.swap
    have HS7 := Aside0.mk h7
    have d0 := (h7.below.cell (World.block_lt_of_cell? w _ e0)).trans e0
    have d1 := (h7.below.cell (World.block_lt_of_cell? w _ e1)).trans e1
    have d2 := (h7.below.cell (World.block_lt_of_cell? w _ e2)).trans e2
    have d3 := (h7.below.cell (World.block_lt_of_cell? w _ e3)).trans e3
    have d4 := (h7.below.cell (World.block_lt_of_cell? w _ e4)).trans e4
    have d5 := (h7.below.cell (World.block_lt_of_cell? w _ e5)).trans e5
    have d6 := (h7.below.cell (World.block_lt_of_cell? w _ e6)).trans e6
    have HS8 := Aside0.mk (h7.allocCells 47 7 1 (cells7 p A6 c6) rfl (by decide)).swap
    have hone : ∀ u ∈ cells7 p A6 c6, u.oneCell' = true := by simp [cells7, Value.oneCell']
    have HONE := Aside0.mk hone
    have hbytes : (L.length + 1) * 64 ≤ 140737488355328 := by have := HLN.out; omega
    have l1 : wrap64 (L.length : Int) = L.length := w64 (by omega) (by have := HLN.out; omega)
    have l2 : wrap64 ((L.length : Int) + 1 - 1) = L.length := by rw [Int.add_sub_cancel]; exact l1
    have l3 := i64_w (L.length : Int); rw [l1] at l3
    have l4 := i64_w ((L.length : Int) + 1 - 1); rw [l2] at l4
    clear hwi hb h7 p0 p1 p2 p3 p4 p5 p6 HS6 hone HS7
    go_wp2_with ((with_reducible refine gate_builtin (b := .append) (xs := #[.tmp 82, .tmp 87]) rfl ?_); at_builtin; refine St.append_cells (w0 := w) rfl (.tmp 82) (.tmp 87) 27 47 (.agg #[.int .i64 0, .int .i64 0, .bool false, .bool false, .int .i64 0, .int .i64 0, .slice none 0 0]) 7 64 rfl Try.underlying27 (by kernel_rfl) rfl (by decide) (by decide) _ L.length ys (cells7 p A6 c6) (some ⟨_, 0, none⟩) 1 1 rfl rfl HS8.out (rowReadsC HS8.out.swap HONE.out) hbytes ?_; intro G2 c2 w9 hs; have HS9 := Aside0.mk hs.swap.drop; clear hs)
    have hkl2 : KL k47 w (L ++ [p]) (ys ++ cells7 p A6 c6) := KL_app HKY.out ⟨cells7 p A6 c6, [], by simp, rfl, HKP.out, rfl⟩
    have hC := C_of_KL (d := k47) (l := L ++ [p]) (KL_below HS9.out.below hkl2) (by simp) (by have := HLN.out; omega) (rowReadsC HS9.out (KL_one hkl2))
    have hlen1 : (L ++ [p]).length = L.length + 1 := by simp
    have c1 := renderF_calls W H G2 c2 (L ++ [p]) L.length _ _ _ _ w9 (by rw [hlen1]; exact hC) (by rw [hlen1]; exact own_le HS9.out.row) HREN.out
    rw [hlen1] at c1
    have C1 := Aside0.mk c1
    have HKL2 := Aside0.mk hkl2
    clear hkl2 hC hlen1 c1 d0 d1 d2 d3 d4 d5 d6 HS8
    refine C1.out.mono ?_; rintro e w10 ⟨v, rfl, ho, hb⟩
    obtain ⟨B8, c8, rfl⟩ := Kd.R_slice ho
    have h10 := (HS9.out.newRow hb (Kd.own_of_R ho) (Nat.le_refl _)).alloc #[.int .i64 W, .int .i64 H, .slice B8 (cv.put W p).pix.length c8] 31
    have m0 := (h10.cell 0).trans rfl
    have m1 := (h10.cell 1).trans rfl
    have m2 := (h10.cell 2).trans rfl
    have HS10 := Aside0.mk h10.rot4
    clear ho hb h10 HS9 C1
    go_upto_region 20 with (fail)
    go_region_held3 (fun w' => w'.cell? ⟨w10.heap.size, 0, none⟩ = some (.int .i64 W) ∧ w'.cell? ⟨w10.heap.size, 1, none⟩ = some (.int .i64 H) ∧ w'.cell? ⟨w10.heap.size, 2, none⟩ = some (.slice B8 (cv.put W p).pix.length c8)) (go_keep) (first
        | (go_at_call 19; with_reducible refine (canvas_Image_ok g gb W H _ _ _ _ (cv.put W p).pix _ w _ HPIX2.out HS10.out.drew).mono ?_; rintro e w11 ⟨B9, c9, rfl, hs⟩; have HS11 := Aside0.mk hs; have q0 := (hs.rot3.cell 0).trans rfl; have q1 := (hs.rot3.cell 1).trans rfl; have q2 := (hs.rot3.cell 2).trans rfl; clear hs)
        | (go_at_call 21; with_reducible refine (same_call rfl HPIX2.out _ (rowReads HS11.out.rot4) (rowReads HS11.out) (own_le HS11.out.rot4.row) (own_le HS11.out.row)).mono ?_; rintro e w12 ⟨rfl, hb⟩; have hs := HS11.out.belowR hb; have HS12 := Aside0.mk hs; have q0 := (hs.rot3.cell 0).trans rfl; have q1 := (hs.rot3.cell 1).trans rfl; have q2 := (hs.rot3.cell 2).trans rfl; clear hs hb))
    clear q0 q1 q2
    go_wp2_with fail
    go_roundw
    case rel =>
      have hlen1 : (L ++ [p]).length = L.length + 1 := by simp
      refine ⟨n + 1, L ++ [p], ys ++ cells7 p A6 c6, G2, c2, HLT.out, by have := HLN.out; omega, by rw [hlen1], by go_num, HKL2.out, by rw [hlen1]; exact HALLS.out, HUS.out, ?_⟩
      rw [hlen1, HSNO.out]
      exact HS12.out.drop.swap.drop.swap.drop
    case measure => have := HLT.out; simp [intOf]; omega
end Go.Proofs.Ytegifkffhnhccaa.Pure
