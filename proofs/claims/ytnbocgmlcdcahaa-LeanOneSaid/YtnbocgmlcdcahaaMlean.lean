/- lean.Forth and lean.Back: what the calls of the closures, of each and of both come to. -/
import Derived.Test.YtnbocgmlcdcahaaSl
import Derived.Test.YtnbocgmlcdcahaaLeanSeq
import Derived.Deep.RegionHeld3
namespace Go.Proofs.Ytnbocgmlcdcahaa.P
open Go Go.RowKit Go.Proofs.YtnbocgmlcdcahaaW.PrintWords Go.Proofs.YtnbocgmlcdcahaaW.PrintLast Go.Proofs.YtnbocgmlcdcahaaW.PrintMore Go.Proofs.Ytnbocgmlcdcahaa.Pure Go.Proofs.Ytnbocgmlcdcahaa.U
set_option linter.unusedVariables false
set_option linter.unusedSimpArgs false
attribute [local go_sem] max2_int min2_int max_two min_two max_three min_three max_four min_four

theorem reads_C {k : IntKind} {w : World} {A : Option Addr} {n : Nat} {l : List Int} (h : ReadsInt w k A n l) : Kd.C (Kd.int k) w A n l := by
  refine ⟨h.1, h.2.1, fun hn => ?_⟩
  obtain ⟨ad, e, hc⟩ := h.2.2 hn
  refine ⟨ad, e, fun i x hx => ?_⟩
  obtain ⟨hi, rfl⟩ := List.getElem?_eq_some_iff.1 hx
  refine ⟨[.int k l[i]], rfl, rfl, fun j v hj => ?_⟩
  match j, hj with
  | 0, hj =>
    obtain rfl : Value.int k l[i] = v := by simpa using hj
    have := hc i (by rw [← h.1]; exact hi)
    rw [show i * (Kd.int k).sz + 0 = i by rw [show (Kd.int k).sz = 1 from rfl]; omega, this]
    simp [rd, hi]
  | j + 1, hj => simp at hj
/-- What the closures have at hand: what is made, the image, the view, the modes. -/
@[reducible] def four13 (gm gv ga go : Nat) (w h b : Int) (Am : Option Addr) (n cm : Nat) (Av : Option Addr) (cv : Nat) (Al : Option Addr) (m cl : Nat) (B : Option Addr) (cb : Nat) (L : List Int) (r : Asrt) : Asrt :=
  Asrt.row 35 1 (.slice B n cb) n (nums .u32 L) * (Asrt.blk go 24 #[.int .i64 w, .int .i64 h, .slice B n cb] * (Asrt.blk gm 24 #[.int .i64 w, .int .i64 h, .slice Am n cm] * (Asrt.blk gv 44 #[.int .i64 w, .slice Av n cv] * (Asrt.blk ga 42 #[.int .i64 w, .int .i64 b, .slice Al m cl] * r))))
set_option maxHeartbeats 4000000 in
set_option maxRecDepth 100000 in
theorem forth1 (gm gv ga go : Nat) (w h b : Int) (Am : Option Addr) (cm : Nat) (Al : Option Addr) (cl : Nat) (B : Option Addr) (cb : Nat) (p l L : List Int) (k : Nat) (r : Asrt) (w0 W : World)
    (hrp : Kd.C (Kd.int .u32) w0 Am p.length p) (hcm : p.length ≤ cm) (hrl : Kd.C (Kd.int .i64) w0 Al l.length l) (hcl : l.length ≤ cl)
    (hso : sound w h p b l) (hp : U32s p) (hk : k < p.length) (hL : L.length = p.length)
    (hs : St w0 W (four13 gm gv ga go w h b Am p.length cm Am cm Al l.length cl B cb L r)) :
    Calls Try.prog 19 #[.int .i64 ((k : Int) % w), .int .i64 ((k : Int) / w), .int .i64 k, .pointer (some ⟨gm, 0, none⟩), .pointer (some ⟨gv, 0, none⟩), .pointer (some ⟨ga, 0, none⟩), .pointer (some ⟨go, 0, none⟩)] W fun e W' =>
      e = .returned (.tuple #[]) ∧ St w0 W' (four13 gm gv ga go w h b Am p.length cm Am cm Al l.length cl B cb (L.set k (step13 false w b l p L k)) r) := by
  obtain ⟨hx, hy⟩ := place hso.1 hk
  have eA := At_mo hso hx hy
  obtain ⟨kv, eV⟩ := (View_At_ev hp hso.1 hx hy (mo w b l ((k : Int) % w) ((k : Int) / w))).rounds
  have eS : pixel_Sub.f (rd p k) (at12 w p (mo w b l ((k : Int) % w) ((k : Int) / w)) ((k : Int) % w) ((k : Int) / w)) = some (step13 false w b l p L k) := if_pos ⟨rd_u32 hp _, at12_u32 hp⟩
  obtain ⟨ad, hAm, hat⟩ := C_int_at hrp (by omega)
  subst hAm
  have hc := hat k hk
  obtain ⟨gB, rfl⟩ := hs.rowForm (by omega)
  have g2 := (hs.swap.cell 2).trans rfl
  have m2 := (hs.rot3.cell 2).trans rfl
  have v0 := (hs.rot4.cell 0).trans rfl
  have v1 := (hs.rot4.cell 1).trans rfl
  have a0 := (hs.drop.rot4.cell 0).trans rfl
  have a1 := (hs.drop.rot4.cell 1).trans rfl
  have a2 := (hs.drop.rot4.cell 2).trans rfl
  have hr := hs.rowAt (k : Int) (by omega) (by omega)
  have b0 : (0 : Int) ≤ k := by omega
  have b1 : (k : Int) < p.length := by omega
  have hb := below_drew hs.below
  have hcw := pw_cell_below hs.below hc
  rw [Int.toNat_natCast] at hr
  have hr1 := hr.1
  have hr2 := hr.2
  clear hr
  have HB := Aside0.mk hb; clear hb
  have EA := Aside0.mk eA; clear eA
  have EV := Aside0.mk eV; clear eV
  have ES := Aside0.mk eS; clear eS
  have HS0 := Aside0.mk hs.drew; clear hs
  have HRP := Aside0.mk hrp; clear hrp
  have HRL := Aside0.mk hrl; clear hrl hat hx hy hso hp
  generalize (k : Int) % w = x at *
  generalize (k : Int) / w = y at *
  generalize step13 false w b l p L k = z at *
  generalize at12 w p (mo w b l x y) x y = q at *
  generalize mo w b l x y = mm at *
  generalize rd p (k : Int) = pk at *
  go_enter Try.func19, Try.ntmps19
  go_region_held3 (fun w' => w'.cell? ⟨go, 2, none⟩ = some (.slice (some ⟨gB, 0, none⟩) p.length cb) ∧ w'.cell? ⟨gm, 2, none⟩ = some (.slice (some ad) p.length cm) ∧ w'.cell? ⟨gv, 0, none⟩ = some (.int .i64 w) ∧ w'.cell? ⟨gv, 1, none⟩ = some (.slice (some ad) p.length cm) ∧ w'.cell? ⟨ga, 0, none⟩ = some (.int .i64 w) ∧ w'.cell? ⟨ga, 1, none⟩ = some (.int .i64 b) ∧ w'.cell? ⟨ga, 2, none⟩ = some (.slice Al l.length cl) ∧ w'.cell? (ad.add k) = some (.int .u32 pk) ∧ Aside0 (Below w0.heap.size w0 w')) (go_keep) (first | (go_at_call 22; refine (lean_Blocks_int_At.calls w b Al cl l x y mm _ (Kd.C_below HRL.out HB.out) hcl EA.out).mono ?_; rintro e w1 ⟨rfl, hb1⟩; have HS1 := Aside0.mk (HS0.out.belowR hb1); have HB1 := Aside0.mk HS1.out.below; clear hb1; have d1_0 := (HS1.out.swap.cell 2).trans rfl; have d1_1 := (HS1.out.rot3.cell 2).trans rfl; have d1_2 := (HS1.out.rot4.cell 0).trans rfl; have d1_3 := (HS1.out.rot4.cell 1).trans rfl; have d1_4 := (HS1.out.drop.rot4.cell 0).trans rfl; have d1_5 := (HS1.out.drop.rot4.cell 1).trans rfl; have d1_6 := (HS1.out.drop.rot4.cell 2).trans rfl; have d1_7 := pw_cell_below HB1.out hc) | (go_at_call 21; refine (guess_View_At.calls kv w (some ad) cm p mm x y q _ (Kd.C_below HRP.out HB1.out) hcm EV.out).mono ?_; rintro e w2 ⟨rfl, hb2⟩; have HS2 := Aside0.mk (HS1.out.belowR hb2); have HB2 := Aside0.mk HS2.out.below; clear hb2; have d2_0 := (HS2.out.swap.cell 2).trans rfl; have d2_1 := (HS2.out.rot3.cell 2).trans rfl; have d2_2 := (HS2.out.rot4.cell 0).trans rfl; have d2_3 := (HS2.out.rot4.cell 1).trans rfl; have d2_4 := (HS2.out.drop.rot4.cell 0).trans rfl; have d2_5 := (HS2.out.drop.rot4.cell 1).trans rfl; have d2_6 := (HS2.out.drop.rot4.cell 2).trans rfl; have d2_7 := pw_cell_below HB2.out hc) | (go_at_call 20; refine (pixel_Sub.calls pk q z _ ES.out).mono ?_; rintro e w3 ⟨rfl, hb3⟩; have HS3 := Aside0.mk (HS2.out.belowR hb3); have HB3 := Aside0.mk HS3.out.below; clear hb3; have d3_0 := (HS3.out.swap.cell 2).trans rfl; have d3_1 := (HS3.out.rot3.cell 2).trans rfl; have d3_2 := (HS3.out.rot4.cell 0).trans rfl; have d3_3 := (HS3.out.rot4.cell 1).trans rfl; have d3_4 := (HS3.out.drop.rot4.cell 0).trans rfl; have d3_5 := (HS3.out.drop.rot4.cell 1).trans rfl; have d3_6 := (HS3.out.drop.rot4.cell 2).trans rfl; have d3_7 := pw_cell_below HB3.out hc; have f3 := HS3.out.rowAt (k : Int) b0 (by omega); have f31 := f3.1; have f32 := f3.2; rw [Int.toNat_natCast] at f31 f32; clear f3; have hs4 := HS3.out.rowSet (k : Int) z; rw [Int.toNat_natCast] at hs4; have HS4 := Aside0.mk hs4; clear hs4; have HB4 := Aside0.mk HS4.out.below; have d4_0 := (HS4.out.swap.cell 2).trans rfl; have d4_1 := (HS4.out.rot3.cell 2).trans rfl; have d4_2 := (HS4.out.rot4.cell 0).trans rfl; have d4_3 := (HS4.out.rot4.cell 1).trans rfl; have d4_4 := (HS4.out.drop.rot4.cell 0).trans rfl; have d4_5 := (HS4.out.drop.rot4.cell 1).trans rfl; have d4_6 := (HS4.out.drop.rot4.cell 2).trans rfl; have d4_7 := pw_cell_below HB4.out hc))
  first | (go_end0; exact ⟨rfl, HS4.out⟩) | (refine bodyPost_ret (results_none rfl _ _ _) rfl ?_; exact ⟨rfl, HS4.out⟩)
set_option maxHeartbeats 4000000 in
set_option maxRecDepth 100000 in
theorem back1 (gm gv ga go : Nat) (w h b : Int) (Am : Option Addr) (cm : Nat) (Al : Option Addr) (cl : Nat) (B : Option Addr) (cb : Nat) (p l L : List Int) (k : Nat) (r : Asrt) (w0 W : World)
    (hrp : Kd.C (Kd.int .u32) w0 Am p.length p) (hcm : p.length ≤ cm) (hrl : Kd.C (Kd.int .i64) w0 Al l.length l) (hcl : l.length ≤ cl) (hcb : p.length ≤ cb) (hLu : U32s L)
    (hso : sound w h p b l) (hp : U32s p) (hk : k < p.length) (hL : L.length = p.length)
    (hs : St w0 W (four13 gm gv ga go w h b Am p.length cm B cb Al l.length cl B cb L r)) :
    Calls Try.prog 25 #[.int .i64 ((k : Int) % w), .int .i64 ((k : Int) / w), .int .i64 k, .pointer (some ⟨gm, 0, none⟩), .pointer (some ⟨gv, 0, none⟩), .pointer (some ⟨ga, 0, none⟩), .pointer (some ⟨go, 0, none⟩)] W fun e W' =>
      e = .returned (.tuple #[]) ∧ St w0 W' (four13 gm gv ga go w h b Am p.length cm B cb Al l.length cl B cb (L.set k (step13 true w b l p L k)) r) := by
  obtain ⟨hx, hy⟩ := place hso.1 hk
  have eA := At_mo hso hx hy
  obtain ⟨kv, eV⟩ := (View_At_ev hLu (good_of_len hso.1 hL) hx hy (mo w b l ((k : Int) % w) ((k : Int) / w))).rounds
  have eS : pixel_Add.f (rd p k) (at12 w L (mo w b l ((k : Int) % w) ((k : Int) / w)) ((k : Int) % w) ((k : Int) / w)) = some (step13 true w b l p L k) := if_pos ⟨rd_u32 hp _, at12_u32 hLu⟩
  obtain ⟨ad, hAm, hat⟩ := C_int_at hrp (by omega)
  subst hAm
  have hc := hat k hk
  obtain ⟨gB, rfl⟩ := hs.rowForm (by omega)
  have g2 := (hs.swap.cell 2).trans rfl
  have m2 := (hs.rot3.cell 2).trans rfl
  have v0 := (hs.rot4.cell 0).trans rfl
  have v1 := (hs.rot4.cell 1).trans rfl
  have a0 := (hs.drop.rot4.cell 0).trans rfl
  have a1 := (hs.drop.rot4.cell 1).trans rfl
  have a2 := (hs.drop.rot4.cell 2).trans rfl
  have hr := hs.rowAt (k : Int) (by omega) (by omega)
  have b0 : (0 : Int) ≤ k := by omega
  have b1 : (k : Int) < p.length := by omega
  have hb := below_drew hs.below
  have hcw := pw_cell_below hs.below hc
  rw [Int.toNat_natCast] at hr
  have hr1 := hr.1
  have hr2 := hr.2
  clear hr
  have HB := Aside0.mk hb; clear hb
  have EA := Aside0.mk eA; clear eA
  have EV := Aside0.mk eV; clear eV
  have ES := Aside0.mk eS; clear eS
  have HS0 := Aside0.mk hs.drew; clear hs
  have HRP := Aside0.mk hrp; clear hrp
  have HRL := Aside0.mk hrl; clear hrl hat hx hy hso hp
  generalize (k : Int) % w = x at *
  generalize (k : Int) / w = y at *
  generalize step13 true w b l p L k = z at *
  generalize at12 w L (mo w b l x y) x y = q at *
  generalize mo w b l x y = mm at *
  generalize rd p (k : Int) = pk at *
  have hV : ∀ W', ReadsInt W' .u32 (some ⟨gB, 0, none⟩) p.length L → Calls Try.prog 21 #[.agg #[.int .i64 w, .slice (some ⟨gB, 0, none⟩) p.length cb], .int .i64 mm, .int .i64 x, .int .i64 y] W' fun e w' => e = .returned (.int .u32 q) ∧ Below W'.heap.size W' w' := by
    intro W' hr
    have := guess_View_At.calls kv w (some ⟨gB, 0, none⟩) cb L mm x y q W' (reads_C (by rw [hL]; exact hr)) (by omega) EV.out
    rwa [hL] at this
  have HV := Aside0.mk hV; clear hV
  go_enter Try.func25, Try.ntmps25
  go_region_held3 (fun w' => w'.cell? ⟨go, 2, none⟩ = some (.slice (some ⟨gB, 0, none⟩) p.length cb) ∧ w'.cell? ⟨gm, 2, none⟩ = some (.slice (some ad) p.length cm) ∧ w'.cell? ⟨gv, 0, none⟩ = some (.int .i64 w) ∧ w'.cell? ⟨gv, 1, none⟩ = some (.slice (some ⟨gB, 0, none⟩) p.length cb) ∧ w'.cell? ⟨ga, 0, none⟩ = some (.int .i64 w) ∧ w'.cell? ⟨ga, 1, none⟩ = some (.int .i64 b) ∧ w'.cell? ⟨ga, 2, none⟩ = some (.slice Al l.length cl) ∧ w'.cell? (ad.add k) = some (.int .u32 pk) ∧ Aside0 (Below w0.heap.size w0 w')) (go_keep) (first | (go_at_call 22; refine (lean_Blocks_int_At.calls w b Al cl l x y mm _ (Kd.C_below HRL.out HB.out) hcl EA.out).mono ?_; rintro e w1 ⟨rfl, hb1⟩; have HS1 := Aside0.mk (HS0.out.belowR hb1); have HB1 := Aside0.mk HS1.out.below; clear hb1; have d1_0 := (HS1.out.swap.cell 2).trans rfl; have d1_1 := (HS1.out.rot3.cell 2).trans rfl; have d1_2 := (HS1.out.rot4.cell 0).trans rfl; have d1_3 := (HS1.out.rot4.cell 1).trans rfl; have d1_4 := (HS1.out.drop.rot4.cell 0).trans rfl; have d1_5 := (HS1.out.drop.rot4.cell 1).trans rfl; have d1_6 := (HS1.out.drop.rot4.cell 2).trans rfl; have d1_7 := pw_cell_below HB1.out hc) | (go_at_call 21; refine (HV.out _ (rowReads HS1.out)).mono ?_; rintro e w2 ⟨rfl, hb2⟩; have HS2 := Aside0.mk (HS1.out.belowR hb2); have HB2 := Aside0.mk HS2.out.below; clear hb2; have d2_0 := (HS2.out.swap.cell 2).trans rfl; have d2_1 := (HS2.out.rot3.cell 2).trans rfl; have d2_2 := (HS2.out.rot4.cell 0).trans rfl; have d2_3 := (HS2.out.rot4.cell 1).trans rfl; have d2_4 := (HS2.out.drop.rot4.cell 0).trans rfl; have d2_5 := (HS2.out.drop.rot4.cell 1).trans rfl; have d2_6 := (HS2.out.drop.rot4.cell 2).trans rfl; have d2_7 := pw_cell_below HB2.out hc) | (go_at_call 26; refine (pixel_Add.calls pk q z _ ES.out).mono ?_; rintro e w3 ⟨rfl, hb3⟩; have HS3 := Aside0.mk (HS2.out.belowR hb3); have HB3 := Aside0.mk HS3.out.below; clear hb3; have d3_0 := (HS3.out.swap.cell 2).trans rfl; have d3_1 := (HS3.out.rot3.cell 2).trans rfl; have d3_2 := (HS3.out.rot4.cell 0).trans rfl; have d3_3 := (HS3.out.rot4.cell 1).trans rfl; have d3_4 := (HS3.out.drop.rot4.cell 0).trans rfl; have d3_5 := (HS3.out.drop.rot4.cell 1).trans rfl; have d3_6 := (HS3.out.drop.rot4.cell 2).trans rfl; have d3_7 := pw_cell_below HB3.out hc; have f3 := HS3.out.rowAt (k : Int) b0 (by omega); have f31 := f3.1; have f32 := f3.2; rw [Int.toNat_natCast] at f31 f32; clear f3; have hs4 := HS3.out.rowSet (k : Int) z; rw [Int.toNat_natCast] at hs4; have HS4 := Aside0.mk hs4; clear hs4; have HB4 := Aside0.mk HS4.out.below; have d4_0 := (HS4.out.swap.cell 2).trans rfl; have d4_1 := (HS4.out.rot3.cell 2).trans rfl; have d4_2 := (HS4.out.rot4.cell 0).trans rfl; have d4_3 := (HS4.out.rot4.cell 1).trans rfl; have d4_4 := (HS4.out.drop.rot4.cell 0).trans rfl; have d4_5 := (HS4.out.drop.rot4.cell 1).trans rfl; have d4_6 := (HS4.out.drop.rot4.cell 2).trans rfl; have d4_7 := pw_cell_below HB4.out hc))
  first | (go_end0; exact ⟨rfl, HS4.out⟩) | (refine bodyPost_ret (results_none rfl _ _ _) rfl ?_; exact ⟨rfl, HS4.out⟩)
set_option maxHeartbeats 4000000 in
set_option maxRecDepth 100000 in
/-- A closure called for each pixel. -/
theorem lean_each (fn : FuncId) (hR : ∀ args W, (callFunc fn args).run Try.prog W = .ok (.enter fn args) W) (p1 p2 p3 p4 : Value) (w h : Int) (Am : Option Addr) (n cm : Nat) (A : Nat → Asrt → Asrt) (r : Asrt) (w0 W : World)
    (hw : 1 ≤ w ∧ w ≤ 16384) (hn : n ≤ 268435456)
    (hA : ∀ k b r, (b * A k r).le (A k (b * r))) (hA' : ∀ k b r, (A k (b * r)).le (b * A k r))
    (hF : ∀ (k : Nat) (r : Asrt) (W : World), k < n → St w0 W (A k r) → Calls Try.prog fn #[.int .i64 ((k : Int) % w), .int .i64 ((k : Int) / w), .int .i64 k, p1, p2, p3, p4] W fun e W' => e = .returned (.tuple #[]) ∧ St w0 W' (A (k + 1) r))
    (hs : St w0 W (A 0 r)) :
    Calls Try.prog 18 #[.agg #[.int .i64 w, .int .i64 h, .slice Am n cm], .func (.func fn) #[] #[p1, p2, p3, p4]] W fun e W' => e = .returned (.tuple #[]) ∧ St w0 W' (A n r) := by
  have HF := Aside0.mk hF; clear hF
  have HR := Lib.hid hR; clear hR
  have HA := Aside0.mk hA; clear hA
  have HA' := Aside0.mk hA'; clear hA'
  have hs1 := hs.alloc #[.int .i64 w, .int .i64 h, .slice Am n cm] 24
  have c2 := (hs1.cell 2).trans rfl
  have HS := Aside0.mk hs1; clear hs1 hs
  go_enter Try.func18, Try.ntmps18
  go_wp2_with fail
  generalize W.alloc (.cells #[.int .i64 w, .int .i64 h, .slice Am n cm] 24) = W1 at *
  generalize W.heap.size = gi at *
  clear c2
  go_loopw [8] (fun i wr => ∃ k : Nat, k ≤ n ∧ i = .int .i64 k ∧ St w0 wr (Asrt.blk gi 24 #[.int .i64 w, .int .i64 h, .slice Am n cm] * A k r)) (fun i _ => n - (intOf i).toNat)
  case atStart => exact ⟨0, by omega, rfl, HS.out⟩
  case round =>
    obtain ⟨k, hk, rfl, hsk⟩ := hrel
    clear HS
    have c0 := (hsk.cell 0).trans rfl
    have hsk2 := hsk.imp (HA.out k _ _)
    clear hsk
    by_cases hlt : k < n
    · have tl : decide ((k : Int) < n) = true := decide_eq_true (by omega)
      have tw : (w == 0) = false := by simp; omega
      have hw0 : ¬ w = 0 := by omega
      have d0 : (0 : Int) ≤ (k : Int) / w := Int.ediv_nonneg (by omega) (by omega)
      have d1 : (k : Int) / w ≤ k := Int.ediv_le_self _ (by omega)
      have em : Int.tmod (k : Int) w = (k : Int) % w := Int.tmod_eq_emod_of_nonneg (by omega)
      have ed : Int.tdiv (k : Int) w = (k : Int) / w := Int.tdiv_eq_ediv_of_nonneg (by omega)
      have ew : IntKind.i64.wrap ((k : Int) / w) = (k : Int) / w := wi64 (by omega) (by omega)
      have em2 : IntKind.i64.wrap ((k : Int) % w) = (k : Int) % w := by
        have := Int.emod_nonneg (k : Int) hw0
        have := Int.emod_lt_of_pos (k : Int) (show 0 < w by omega)
        exact wi64 (by omega) (by omega)
      have HK := Aside0.mk hsk2; clear hsk2
      go_wp2_with fail
      go_still_tail 10, (by kernel_rfl)
      go_wp2_with fail
      rw [HR.out]
      go_simp
      refine (HF.out k _ _ hlt HK.out.drew).mono ?_
      rintro e w2 ⟨rfl, hs2⟩
      have HS2 := Aside0.mk (hs2.imp (HA'.out (k + 1) _ _)); clear hs2
      go_wp2_with fail
      go_roundw
      case rel => exact ⟨k + 1, by omega, by go_num, HS2.out⟩
      case measure => simp [intOf]; omega
    · have tl : decide ((k : Int) < n) = false := decide_eq_false (by omega)
      obtain rfl : k = n := by omega
      have HK := Aside0.mk (hsk2.imp (HA'.out k _ _)).drop; clear hsk2
      go_wp2_with fail
      first | (go_end0; exact ⟨rfl, HK.out⟩) | (refine bodyPost_ret (results_none rfl _ _ _) rfl ?_; exact ⟨rfl, HK.out⟩)
theorem push5 (b a1 a2 a3 a4 a5 r : Asrt) : (b * (a1 * (a2 * (a3 * (a4 * (a5 * r)))))).le (a1 * (a2 * (a3 * (a4 * (a5 * (b * r)))))) :=
  Asrt.le_trans (Asrt.swap _ _ _) (Asrt.mono_r (Asrt.le_trans (Asrt.swap _ _ _) (Asrt.mono_r (Asrt.le_trans (Asrt.swap _ _ _) (Asrt.mono_r (Asrt.le_trans (Asrt.swap _ _ _) (Asrt.mono_r (Asrt.swap _ _ _))))))))
theorem pull5 (b a1 a2 a3 a4 a5 r : Asrt) : (a1 * (a2 * (a3 * (a4 * (a5 * (b * r)))))).le (b * (a1 * (a2 * (a3 * (a4 * (a5 * r)))))) :=
  Asrt.le_trans (Asrt.mono_r (Asrt.le_trans (Asrt.mono_r (Asrt.le_trans (Asrt.mono_r (Asrt.le_trans (Asrt.mono_r (Asrt.swap _ _ _)) (Asrt.swap _ _ _))) (Asrt.swap _ _ _))) (Asrt.swap _ _ _))) (Asrt.swap _ _ _)
theorem Asrt.rotL3 (a b c r : Asrt) : (a * (b * (c * r))).le (c * (a * (b * r))) := Asrt.le_trans (Asrt.mono_r (Asrt.swap b c r)) (Asrt.swap a c _)
theorem Asrt.rotL4 (a b c d r : Asrt) : (a * (b * (c * (d * r)))).le (d * (a * (b * (c * r)))) := Asrt.le_trans (Asrt.mono_r (Asrt.rotL3 b c d r)) (Asrt.swap a d _)
theorem perm13 (gv ga go row gout gm r : Asrt) : (gv * (ga * (go * (row * (gout * (gm * r)))))).le (row * (go * (gm * (gv * (ga * (gout * r)))))) := Asrt.le_trans (Asrt.rotL4 _ _ _ _ _) (Asrt.mono_r (Asrt.le_trans (Asrt.rotL3 _ _ _ _) (Asrt.mono_r (Asrt.rotL4 _ _ _ _ _))))
set_option maxHeartbeats 4000000 in
set_option maxRecDepth 100000 in
theorem lean_Forth_ok (w h b : Int) (Am : Option Addr) (cm : Nat) (Al : Option Addr) (cl : Nat) (p l : List Int) (W : World)
    (hrp : Kd.C (Kd.int .u32) W Am p.length p) (hcm : p.length ≤ cm) (hrl : Kd.C (Kd.int .i64) W Al l.length l) (hcl : l.length ≤ cl) (hso : sound w h p b l) (hp : U32s p) :
    Calls Try.prog 10 #[.agg #[.int .i64 w, .int .i64 h, .slice Am p.length cm], .int .i64 b, .slice Al l.length cl] W fun e W' =>
      ∃ B c', e = .returned (.tuple #[.agg #[.int .i64 w, .int .i64 h, .slice B p.length c'], .int .i64 0]) ∧ p.length ≤ c' ∧ St W W' (Asrt.row 35 1 (.slice B p.length c') p.length (nums .u32 (lean13 false w b l p p.length)) * Asrt.emp) := by
  have hgl := good_len hso.1
  have hgw := hso.1
  have hmk := print_make (P := Try.prog) 22 35 .u32 4 Try.underlying22 (by kernel_rfl) (by decide) p.length (by omega)
  obtain ⟨ks, es⟩ := (Sound_ev (w := w) (h := h) (b := b) (p := p) (l := l) (by have := hso.2.2.2.1; have := many_bd hso.1 hso.2.1 hso.2.2.1; omega)).rounds
  rw [decide_eq_true hso] at es
  have HES := Aside0.mk es; clear es
  have HSO := Aside0.mk hso; clear hso
  have HP := Aside0.mk hp; clear hp
  have HRP := Aside0.mk hrp; clear hrp
  have HRL := Aside0.mk hrl; clear hrl
  have hs := ((((St.refl W).alloc #[.int .i64 w, .int .i64 h, .slice Am p.length cm] 24).alloc #[.int .i64 0, .int .i64 0, .slice none 0 0] 24))
  have e1 : ∀ o, (W.alloc o).heap.size = W.heap.size + 1 := fun o => by simp
  rw [e1] at hs
  clear e1
  have HS := Aside0.mk hs; clear hs
  go_enter Try.func10, Try.ntmps10
  go_wp2_with fail
  refine (lean_Sound.calls ks w h Am cm p b Al cl l true _ (Kd.C_below HRP.out HS.out.below) hcm (Kd.C_below HRL.out HS.out.below) hcl HES.out).mono ?_; rintro e w1 ⟨rfl, hb1⟩
  have hs1 := HS.out.belowR hb1
  clear hb1 HS
  generalize W.heap.size + 1 = gout at *
  generalize W.heap.size = gm at *
  have c0 := (hs1.swap.cell 0).trans rfl
  have c1 := (hs1.swap.cell 1).trans rfl
  have c2 := (hs1.swap.cell 2).trans rfl
  have HS1 := Aside0.mk hs1; clear hs1
  have e2 : ∀ o, (w1.alloc o).heap.size = w1.heap.size + 1 := fun o => by simp
  go_upto_region 3 with (fail)
  go_region_held3? (fun w' => w'.cell? ⟨gm, 0, none⟩ = some (.int .i64 w) ∧ w'.cell? ⟨gm, 1, none⟩ = some (.int .i64 h) ∧ w'.cell? ⟨gm, 2, none⟩ = some (.slice Am p.length cm)) (go_keep) (fail)
  · have hs5 := ((HS1.out.allocRow 35 .u32 (List.replicate p.length 0) (by simp; omega)).alloc #[.int .i64 w, .int .i64 h, .slice (some ⟨w1.heap.size, 0, none⟩) p.length p.length] 24).drew
    rw [e2, ← made_nums, List.length_replicate] at hs5
    generalize hwx : w1.heap.size + 1 = GA at *
    generalize w1.heap.size = GB at *
    clear hwx e2 HS1 c0 c1 c2
    generalize World.drew _ = w5 at hs5 ⊢
    have c0 := (hs5.rot4.cell 0).trans rfl
    have c2 := (hs5.rot4.cell 2).trans rfl
    have d2 := (hs5.cell 2).trans rfl
    have ha := (hs5.alloc #[.int .i64 w, .int .i64 b, .slice Al l.length cl] 42).drop.rot4
    have a0 := (ha.cell 0).trans rfl
    have a2 := (ha.cell 2).trans rfl
    clear ha
    have e3 : ∀ o, (w5.alloc o).heap.size = w5.heap.size + 1 := fun o => by simp
    have hs6 := ((hs5.alloc #[.int .i64 w, .int .i64 b, .slice Al l.length cl] 42).alloc #[.int .i64 w, .slice Am p.length cm] 44).imp (perm13 _ _ _ _ _ _ _)
    rw [e3] at hs6
    clear e3
    have b0 := (hs6.rot3.cell 0).trans rfl
    have b1 := (hs6.rot3.cell 1).trans rfl
    have b2 := (hs6.rot3.cell 2).trans rfl
    have HS6 := Aside0.mk hs6; clear hs6
    go_wp2_with fail
    refine (lean_each 19 (px_run _ Try.f19 (by kernel_rfl) (by kernel_rfl) (by kernel_rfl)) _ _ _ _ w h Am p.length cm (fun k r => four13 gm (w5.heap.size + 1) w5.heap.size GA w h b Am p.length cm Am cm Al l.length cl (some ⟨GB, 0, none⟩) p.length (lean13 false w b l p k) r) _ W _ ⟨hgw.1, hgw.2.1⟩ (by omega) (fun k b r => push5 _ _ _ _ _ _ _) (fun k b r => pull5 _ _ _ _ _ _ _)
      (fun k r W' hk hsk => forth1 gm (w5.heap.size + 1) w5.heap.size GA w h b Am cm Al cl (some ⟨GB, 0, none⟩) p.length p l (lean13 false w b l p k) k r W W' HRP.out hcm HRL.out hcl HSO.out HP.out hk (lean13_len _ _ _ _ _ _) hsk) HS6.out).mono ?_; rintro e w6 ⟨rfl, hs7⟩
    have hs8 := hs7.swap
    have d0 := (hs8.cell 0).trans rfl
    have d1 := (hs8.cell 1).trans rfl
    have d2 := (hs8.cell 2).trans rfl
    have hs9 := hs7.imp (pull5 _ _ _ _ _ _ _)
    have g0 := (hs9.cell 0).trans rfl
    have g1 := (hs9.cell 1).trans rfl
    have g2 := (hs9.cell 2).trans rfl
    have f0 := hs9.frozen 0
    have f1 := hs9.frozen 1
    have f2 := hs9.frozen 2
    have hsr := ((hs9.set 0 (.int .i64 w)).set 1 (.int .i64 h)).set 2 (.slice (some ⟨GB, 0, none⟩) p.length p.length)
    have HRB := Aside0.mk (hsr.blk.trans rfl)
    have hs10 := hsr.drop.swap.drop.swap.drop.swap.drop.swap.drop
    have HS10 := Aside0.mk hs10; clear hs10 hsr hs9 hs8 hs7 a0 a2 b0 b1 b2 c0 c2 HS6 hs5
    go_wp2_with fail
    refine bodyPost_ret (results_ct rfl _ _ gout 24 #[.int .i64 w, .int .i64 h, .slice (some ⟨GB, 0, none⟩) p.length p.length] (0, 0) _ rfl HRB.out Try.underlying24 rfl (by kernel_rfl)) rfl ?_
    exact ⟨_, _, rfl, Nat.le_refl _, HS10.out⟩
  · have hs5 := ((HS1.out.alloc #[.int .i64 w, .int .i64 h, .slice (some ⟨w1.heap.size + 1, 0, none⟩) p.length p.length] 24).allocRow 35 .u32 (List.replicate p.length 0) (by simp; omega)).swap.drew
    rw [e2, ← made_nums, List.length_replicate] at hs5
    generalize hwx : w1.heap.size + 1 = GA at *
    generalize w1.heap.size = GB at *
    clear hwx e2 HS1 c0 c1 c2
    generalize World.drew _ = w5 at hs5 ⊢
    have c0 := (hs5.rot4.cell 0).trans rfl
    have c2 := (hs5.rot4.cell 2).trans rfl
    have d2 := (hs5.cell 2).trans rfl
    have ha := (hs5.alloc #[.int .i64 w, .int .i64 b, .slice Al l.length cl] 42).drop.rot4
    have a0 := (ha.cell 0).trans rfl
    have a2 := (ha.cell 2).trans rfl
    clear ha
    have e3 : ∀ o, (w5.alloc o).heap.size = w5.heap.size + 1 := fun o => by simp
    have hs6 := ((hs5.alloc #[.int .i64 w, .int .i64 b, .slice Al l.length cl] 42).alloc #[.int .i64 w, .slice Am p.length cm] 44).imp (perm13 _ _ _ _ _ _ _)
    rw [e3] at hs6
    clear e3
    have b0 := (hs6.rot3.cell 0).trans rfl
    have b1 := (hs6.rot3.cell 1).trans rfl
    have b2 := (hs6.rot3.cell 2).trans rfl
    have HS6 := Aside0.mk hs6; clear hs6
    go_wp2_with fail
    refine (lean_each 19 (px_run _ Try.f19 (by kernel_rfl) (by kernel_rfl) (by kernel_rfl)) _ _ _ _ w h Am p.length cm (fun k r => four13 gm (w5.heap.size + 1) w5.heap.size GB w h b Am p.length cm Am cm Al l.length cl (some ⟨GA, 0, none⟩) p.length (lean13 false w b l p k) r) _ W _ ⟨hgw.1, hgw.2.1⟩ (by omega) (fun k b r => push5 _ _ _ _ _ _ _) (fun k b r => pull5 _ _ _ _ _ _ _)
      (fun k r W' hk hsk => forth1 gm (w5.heap.size + 1) w5.heap.size GB w h b Am cm Al cl (some ⟨GA, 0, none⟩) p.length p l (lean13 false w b l p k) k r W W' HRP.out hcm HRL.out hcl HSO.out HP.out hk (lean13_len _ _ _ _ _ _) hsk) HS6.out).mono ?_; rintro e w6 ⟨rfl, hs7⟩
    have hs8 := hs7.swap
    have d0 := (hs8.cell 0).trans rfl
    have d1 := (hs8.cell 1).trans rfl
    have d2 := (hs8.cell 2).trans rfl
    have hs9 := hs7.imp (pull5 _ _ _ _ _ _ _)
    have g0 := (hs9.cell 0).trans rfl
    have g1 := (hs9.cell 1).trans rfl
    have g2 := (hs9.cell 2).trans rfl
    have f0 := hs9.frozen 0
    have f1 := hs9.frozen 1
    have f2 := hs9.frozen 2
    have hsr := ((hs9.set 0 (.int .i64 w)).set 1 (.int .i64 h)).set 2 (.slice (some ⟨GA, 0, none⟩) p.length p.length)
    have HRB := Aside0.mk (hsr.blk.trans rfl)
    have hs10 := hsr.drop.swap.drop.swap.drop.swap.drop.swap.drop
    have HS10 := Aside0.mk hs10; clear hs10 hsr hs9 hs8 hs7 a0 a2 b0 b1 b2 c0 c2 HS6 hs5
    go_wp2_with fail
    refine bodyPost_ret (results_ct rfl _ _ gout 24 #[.int .i64 w, .int .i64 h, .slice (some ⟨GA, 0, none⟩) p.length p.length] (0, 0) _ rfl HRB.out Try.underlying24 rfl (by kernel_rfl)) rfl ?_
    exact ⟨_, _, rfl, Nat.le_refl _, HS10.out⟩
set_option maxHeartbeats 4000000 in
set_option maxRecDepth 100000 in
theorem lean_Back_ok (w h b : Int) (Am : Option Addr) (cm : Nat) (Al : Option Addr) (cl : Nat) (p l : List Int) (W : World)
    (hrp : Kd.C (Kd.int .u32) W Am p.length p) (hcm : p.length ≤ cm) (hrl : Kd.C (Kd.int .i64) W Al l.length l) (hcl : l.length ≤ cl) (hso : sound w h p b l) (hp : U32s p) :
    Calls Try.prog 13 #[.agg #[.int .i64 w, .int .i64 h, .slice Am p.length cm], .int .i64 b, .slice Al l.length cl] W fun e W' =>
      ∃ B c', e = .returned (.tuple #[.agg #[.int .i64 w, .int .i64 h, .slice B p.length c'], .int .i64 0]) ∧ p.length ≤ c' ∧ St W W' (Asrt.row 35 1 (.slice B p.length c') p.length (nums .u32 (lean13 true w b l p p.length)) * Asrt.emp) := by
  have hgl := good_len hso.1
  have hgw := hso.1
  have hmk := print_make (P := Try.prog) 22 35 .u32 4 Try.underlying22 (by kernel_rfl) (by decide) p.length (by omega)
  obtain ⟨ks, es⟩ := (Sound_ev (w := w) (h := h) (b := b) (p := p) (l := l) (by have := hso.2.2.2.1; have := many_bd hso.1 hso.2.1 hso.2.2.1; omega)).rounds
  rw [decide_eq_true hso] at es
  have HES := Aside0.mk es; clear es
  have HSO := Aside0.mk hso; clear hso
  have HP := Aside0.mk hp; clear hp
  have HRP := Aside0.mk hrp; clear hrp
  have HRL := Aside0.mk hrl; clear hrl
  have hs := ((((St.refl W).alloc #[.int .i64 w, .int .i64 h, .slice Am p.length cm] 24).alloc #[.int .i64 0, .int .i64 0, .slice none 0 0] 24))
  have e1 : ∀ o, (W.alloc o).heap.size = W.heap.size + 1 := fun o => by simp
  rw [e1] at hs
  clear e1
  have HS := Aside0.mk hs; clear hs
  go_enter Try.func13, Try.ntmps13
  go_wp2_with fail
  refine (lean_Sound.calls ks w h Am cm p b Al cl l true _ (Kd.C_below HRP.out HS.out.below) hcm (Kd.C_below HRL.out HS.out.below) hcl HES.out).mono ?_; rintro e w1 ⟨rfl, hb1⟩
  have hs1 := HS.out.belowR hb1
  clear hb1 HS
  generalize W.heap.size + 1 = gout at *
  generalize W.heap.size = gm at *
  have c0 := (hs1.swap.cell 0).trans rfl
  have c1 := (hs1.swap.cell 1).trans rfl
  have c2 := (hs1.swap.cell 2).trans rfl
  have HS1 := Aside0.mk hs1; clear hs1
  have e2 : ∀ o, (w1.alloc o).heap.size = w1.heap.size + 1 := fun o => by simp
  go_upto_region 3 with (fail)
  go_region_held3? (fun w' => w'.cell? ⟨gm, 0, none⟩ = some (.int .i64 w) ∧ w'.cell? ⟨gm, 1, none⟩ = some (.int .i64 h) ∧ w'.cell? ⟨gm, 2, none⟩ = some (.slice Am p.length cm)) (go_keep) (fail)
  · have hs5 := ((HS1.out.allocRow 35 .u32 (List.replicate p.length 0) (by simp; omega)).alloc #[.int .i64 w, .int .i64 h, .slice (some ⟨w1.heap.size, 0, none⟩) p.length p.length] 24).drew
    rw [e2, ← made_nums, List.length_replicate] at hs5
    generalize hwx : w1.heap.size + 1 = GA at *
    generalize w1.heap.size = GB at *
    clear hwx e2 HS1 c0 c1 c2
    generalize World.drew _ = w5 at hs5 ⊢
    have c0 := (hs5.rot4.cell 0).trans rfl
    have c2 := (hs5.rot4.cell 2).trans rfl
    have d2 := (hs5.cell 2).trans rfl
    have hax := (hs5.alloc #[.int .i64 w, .int .i64 b, .slice Al l.length cl] 42)
    have a0 := (hax.drop.rot4.cell 0).trans rfl
    have a2 := (hax.swap.cell 2).trans rfl
    clear hax
    have e3 : ∀ o, (w5.alloc o).heap.size = w5.heap.size + 1 := fun o => by simp
    have hs6 := ((hs5.alloc #[.int .i64 w, .int .i64 b, .slice Al l.length cl] 42).alloc #[.int .i64 w, .slice (some ⟨GB, 0, none⟩) p.length p.length] 44).imp (perm13 _ _ _ _ _ _ _)
    rw [e3] at hs6
    clear e3
    have b0 := (hs6.rot3.cell 0).trans rfl
    have b1 := (hs6.rot3.cell 1).trans rfl
    have b2 := (hs6.rot3.cell 2).trans rfl
    have HS6 := Aside0.mk hs6; clear hs6
    go_wp2_with fail
    refine (lean_each 25 (px_run _ Try.f25 (by kernel_rfl) (by kernel_rfl) (by kernel_rfl)) _ _ _ _ w h Am p.length cm (fun k r => four13 gm (w5.heap.size + 1) w5.heap.size GA w h b Am p.length cm (some ⟨GB, 0, none⟩) p.length Al l.length cl (some ⟨GB, 0, none⟩) p.length (lean13 true w b l p k) r) _ W _ ⟨hgw.1, hgw.2.1⟩ (by omega) (fun k b r => push5 _ _ _ _ _ _ _) (fun k b r => pull5 _ _ _ _ _ _ _)
      (fun k r W' hk hsk => back1 gm (w5.heap.size + 1) w5.heap.size GA w h b Am cm Al cl (some ⟨GB, 0, none⟩) p.length p l (lean13 true w b l p k) k r W W' HRP.out hcm HRL.out hcl (Nat.le_refl _) (lean13_u32 _ _ _ _ _ _) HSO.out HP.out hk (lean13_len _ _ _ _ _ _) hsk) HS6.out).mono ?_; rintro e w6 ⟨rfl, hs7⟩
    have hs8 := hs7.swap
    have d0 := (hs8.cell 0).trans rfl
    have d1 := (hs8.cell 1).trans rfl
    have d2 := (hs8.cell 2).trans rfl
    have hs9 := hs7.imp (pull5 _ _ _ _ _ _ _)
    have g0 := (hs9.cell 0).trans rfl
    have g1 := (hs9.cell 1).trans rfl
    have g2 := (hs9.cell 2).trans rfl
    have f0 := hs9.frozen 0
    have f1 := hs9.frozen 1
    have f2 := hs9.frozen 2
    have hsr := ((hs9.set 0 (.int .i64 w)).set 1 (.int .i64 h)).set 2 (.slice (some ⟨GB, 0, none⟩) p.length p.length)
    have HRB := Aside0.mk (hsr.blk.trans rfl)
    have hs10 := hsr.drop.swap.drop.swap.drop.swap.drop.swap.drop
    have HS10 := Aside0.mk hs10; clear hs10 hsr hs9 hs8 hs7 a0 a2 b0 b1 b2 c0 c2 HS6 hs5
    go_wp2_with fail
    refine bodyPost_ret (results_ct rfl _ _ gout 24 #[.int .i64 w, .int .i64 h, .slice (some ⟨GB, 0, none⟩) p.length p.length] (0, 0) _ rfl HRB.out Try.underlying24 rfl (by kernel_rfl)) rfl ?_
    exact ⟨_, _, rfl, Nat.le_refl _, HS10.out⟩
  · have hs5 := ((HS1.out.alloc #[.int .i64 w, .int .i64 h, .slice (some ⟨w1.heap.size + 1, 0, none⟩) p.length p.length] 24).allocRow 35 .u32 (List.replicate p.length 0) (by simp; omega)).swap.drew
    rw [e2, ← made_nums, List.length_replicate] at hs5
    generalize hwx : w1.heap.size + 1 = GA at *
    generalize w1.heap.size = GB at *
    clear hwx e2 HS1 c0 c1 c2
    generalize World.drew _ = w5 at hs5 ⊢
    have c0 := (hs5.rot4.cell 0).trans rfl
    have c2 := (hs5.rot4.cell 2).trans rfl
    have d2 := (hs5.cell 2).trans rfl
    have hax := (hs5.alloc #[.int .i64 w, .int .i64 b, .slice Al l.length cl] 42)
    have a0 := (hax.drop.rot4.cell 0).trans rfl
    have a2 := (hax.swap.cell 2).trans rfl
    clear hax
    have e3 : ∀ o, (w5.alloc o).heap.size = w5.heap.size + 1 := fun o => by simp
    have hs6 := ((hs5.alloc #[.int .i64 w, .int .i64 b, .slice Al l.length cl] 42).alloc #[.int .i64 w, .slice (some ⟨GA, 0, none⟩) p.length p.length] 44).imp (perm13 _ _ _ _ _ _ _)
    rw [e3] at hs6
    clear e3
    have b0 := (hs6.rot3.cell 0).trans rfl
    have b1 := (hs6.rot3.cell 1).trans rfl
    have b2 := (hs6.rot3.cell 2).trans rfl
    have HS6 := Aside0.mk hs6; clear hs6
    go_wp2_with fail
    refine (lean_each 25 (px_run _ Try.f25 (by kernel_rfl) (by kernel_rfl) (by kernel_rfl)) _ _ _ _ w h Am p.length cm (fun k r => four13 gm (w5.heap.size + 1) w5.heap.size GB w h b Am p.length cm (some ⟨GA, 0, none⟩) p.length Al l.length cl (some ⟨GA, 0, none⟩) p.length (lean13 true w b l p k) r) _ W _ ⟨hgw.1, hgw.2.1⟩ (by omega) (fun k b r => push5 _ _ _ _ _ _ _) (fun k b r => pull5 _ _ _ _ _ _ _)
      (fun k r W' hk hsk => back1 gm (w5.heap.size + 1) w5.heap.size GB w h b Am cm Al cl (some ⟨GA, 0, none⟩) p.length p l (lean13 true w b l p k) k r W W' HRP.out hcm HRL.out hcl (Nat.le_refl _) (lean13_u32 _ _ _ _ _ _) HSO.out HP.out hk (lean13_len _ _ _ _ _ _) hsk) HS6.out).mono ?_; rintro e w6 ⟨rfl, hs7⟩
    have hs8 := hs7.swap
    have d0 := (hs8.cell 0).trans rfl
    have d1 := (hs8.cell 1).trans rfl
    have d2 := (hs8.cell 2).trans rfl
    have hs9 := hs7.imp (pull5 _ _ _ _ _ _ _)
    have g0 := (hs9.cell 0).trans rfl
    have g1 := (hs9.cell 1).trans rfl
    have g2 := (hs9.cell 2).trans rfl
    have f0 := hs9.frozen 0
    have f1 := hs9.frozen 1
    have f2 := hs9.frozen 2
    have hsr := ((hs9.set 0 (.int .i64 w)).set 1 (.int .i64 h)).set 2 (.slice (some ⟨GA, 0, none⟩) p.length p.length)
    have HRB := Aside0.mk (hsr.blk.trans rfl)
    have hs10 := hsr.drop.swap.drop.swap.drop.swap.drop.swap.drop
    have HS10 := Aside0.mk hs10; clear hs10 hsr hs9 hs8 hs7 a0 a2 b0 b1 b2 c0 c2 HS6 hs5
    go_wp2_with fail
    refine bodyPost_ret (results_ct rfl _ _ gout 24 #[.int .i64 w, .int .i64 h, .slice (some ⟨GA, 0, none⟩) p.length p.length] (0, 0) _ rfl HRB.out Try.underlying24 rfl (by kernel_rfl)) rfl ?_
    exact ⟨_, _, rfl, Nat.le_refl _, HS10.out⟩
set_option maxHeartbeats 4000000 in
set_option maxRecDepth 100000 in
theorem lean_Forth_no (w h b : Int) (Am : Option Addr) (cm : Nat) (Al : Option Addr) (cl : Nat) (p l : List Int) (W : World)
    (hrp : Kd.C (Kd.int .u32) W Am p.length p) (hcm : p.length ≤ cm) (hrl : Kd.C (Kd.int .i64) W Al l.length l) (hcl : l.length ≤ cl) (hll : l.length ≤ 140737488355328) (hso : ¬ sound w h p b l) :
    Calls Try.prog 10 #[.agg #[.int .i64 w, .int .i64 h, .slice Am p.length cm], .int .i64 b, .slice Al l.length cl] W fun e W' =>
      e = .returned (.tuple #[.agg #[.int .i64 0, .int .i64 0, .slice none 0 0], .int .i64 1]) ∧ Below W.heap.size W W' := by
  obtain ⟨ks, es⟩ := (Sound_ev (w := w) (h := h) (b := b) (p := p) (l := l) hll).rounds
  rw [decide_eq_false hso] at es
  have HES := Aside0.mk es; clear es hso
  have HRP := Aside0.mk hrp; clear hrp
  have HRL := Aside0.mk hrl; clear hrl
  have hs := ((((St.refl W).alloc #[.int .i64 w, .int .i64 h, .slice Am p.length cm] 24).alloc #[.int .i64 0, .int .i64 0, .slice none 0 0] 24))
  have e1 : ∀ o, (W.alloc o).heap.size = W.heap.size + 1 := fun o => by simp
  rw [e1] at hs
  clear e1
  have HS := Aside0.mk hs; clear hs
  go_enter Try.func10, Try.ntmps10
  go_wp2_with fail
  refine (lean_Sound.calls ks w h Am cm p b Al cl l false _ (Kd.C_below HRP.out HS.out.below) hcm (Kd.C_below HRL.out HS.out.below) hcl HES.out).mono ?_; rintro e w1 ⟨rfl, hb1⟩
  have hs1 := HS.out.belowR hb1
  clear hb1 HS
  generalize W.heap.size + 1 = gout at *
  have g0 := (hs1.cell 0).trans rfl
  have g1 := (hs1.cell 1).trans rfl
  have g2 := (hs1.cell 2).trans rfl
  have f0 := hs1.frozen 0
  have f1 := hs1.frozen 1
  have f2 := hs1.frozen 2
  have hsr := ((hs1.set 0 (.int .i64 0)).set 1 (.int .i64 0)).set 2 (.slice none 0 0)
  have HRB := Aside0.mk (hsr.blk.trans rfl)
  have HB := Aside0.mk hsr.below; clear hsr hs1
  go_wp2_with fail
  refine bodyPost_ret (results_ct rfl _ _ gout 24 #[.int .i64 0, .int .i64 0, .slice none 0 0] (0, 0) _ rfl HRB.out Try.underlying24 rfl (by kernel_rfl)) rfl ?_
  exact ⟨rfl, HB.out⟩
set_option maxHeartbeats 4000000 in
set_option maxRecDepth 100000 in
theorem lean_Back_no (w h b : Int) (Am : Option Addr) (cm : Nat) (Al : Option Addr) (cl : Nat) (p l : List Int) (W : World)
    (hrp : Kd.C (Kd.int .u32) W Am p.length p) (hcm : p.length ≤ cm) (hrl : Kd.C (Kd.int .i64) W Al l.length l) (hcl : l.length ≤ cl) (hll : l.length ≤ 140737488355328) (hso : ¬ sound w h p b l) :
    Calls Try.prog 13 #[.agg #[.int .i64 w, .int .i64 h, .slice Am p.length cm], .int .i64 b, .slice Al l.length cl] W fun e W' =>
      e = .returned (.tuple #[.agg #[.int .i64 0, .int .i64 0, .slice none 0 0], .int .i64 1]) ∧ Below W.heap.size W W' := by
  obtain ⟨ks, es⟩ := (Sound_ev (w := w) (h := h) (b := b) (p := p) (l := l) hll).rounds
  rw [decide_eq_false hso] at es
  have HES := Aside0.mk es; clear es hso
  have HRP := Aside0.mk hrp; clear hrp
  have HRL := Aside0.mk hrl; clear hrl
  have hs := ((((St.refl W).alloc #[.int .i64 w, .int .i64 h, .slice Am p.length cm] 24).alloc #[.int .i64 0, .int .i64 0, .slice none 0 0] 24))
  have e1 : ∀ o, (W.alloc o).heap.size = W.heap.size + 1 := fun o => by simp
  rw [e1] at hs
  clear e1
  have HS := Aside0.mk hs; clear hs
  go_enter Try.func13, Try.ntmps13
  go_wp2_with fail
  refine (lean_Sound.calls ks w h Am cm p b Al cl l false _ (Kd.C_below HRP.out HS.out.below) hcm (Kd.C_below HRL.out HS.out.below) hcl HES.out).mono ?_; rintro e w1 ⟨rfl, hb1⟩
  have hs1 := HS.out.belowR hb1
  clear hb1 HS
  generalize W.heap.size + 1 = gout at *
  have g0 := (hs1.cell 0).trans rfl
  have g1 := (hs1.cell 1).trans rfl
  have g2 := (hs1.cell 2).trans rfl
  have f0 := hs1.frozen 0
  have f1 := hs1.frozen 1
  have f2 := hs1.frozen 2
  have hsr := ((hs1.set 0 (.int .i64 0)).set 1 (.int .i64 0)).set 2 (.slice none 0 0)
  have HRB := Aside0.mk (hsr.blk.trans rfl)
  have HB := Aside0.mk hsr.below; clear hsr hs1
  go_wp2_with fail
  refine bodyPost_ret (results_ct rfl _ _ gout 24 #[.int .i64 0, .int .i64 0, .slice none 0 0] (0, 0) _ rfl HRB.out Try.underlying24 rfl (by kernel_rfl)) rfl ?_
  exact ⟨rfl, HB.out⟩
end Go.Proofs.Ytnbocgmlcdcahaa.P
