/- The part of our texts, and of the print's, that these laws' proofs use. -/
import Derived.Test.YthkocpcjcpohcaaZD10
import Derived.Test.YthkocpcjcpohcaaProg
import Derived.Below
import Derived.Deep.Draws
import Derived.Deep.AppendLies
import Derived.Maps.AppendAt
import Derived.OwnWalk
import Derived.Laws.BytesArg
import Derived.Laws.MakeOwn
import Derived.Laws.OwnMore
import Derived.Deep.OwnRows
import Derived.Tactics
import Derived.Lib.ConvBytes
import Derived.Laws.Slices
import Derived.WalkKit
import Derived.KernelRfl
import Derived.RowKit3
import Derived.Deep.LoopGhost
import Derived.Deep.QuietTactic
import Derived.BigQuiet
import Derived.WideLaws
import Derived.Deep.DeepCutAuto
import Derived.Deep.CutBlock
import Derived.Deep.RegionHeld3
import Derived.Laws.Rows
import Derived.Lib.AppendStr
import Derived.ArgAppend
import Derived.Laws.IdiomCopy
import Derived.OrdersHeld
import Derived.Laws.BitsLemmas
import Derived.RowKit
import Derived.LoopN
import Derived.Handy
import Derived.Lib.Hide
import Derived.StillTailTactics
import Derived.Deep.RegionLaw
import Derived.Deep.RegionWith
import Derived.Lib.SliceRun
set_option linter.unusedVariables false
set_option linter.unusedSimpArgs false
section
namespace Go.Proofs.Ythkocpcjcpohcaa.P
open Go Go.RowKit Go.Proofs.YthkocpcjcpohcaaW.PrintWords Go.Proofs.YthkocpcjcpohcaaW.PrintLast Go.Proofs.YthkocpcjcpohcaaW.PrintMore Go.Proofs.Ythkocpcjcpohcaa.U Go.Proofs.Ythkocpcjcpohcaa.Pure
attribute [local go_sem] max2_int min2_int max_two min_two max_three min_three max_four min_four
def names : List ByteArray := [⟨#[86, 80, 56, 88]⟩, ⟨#[73, 67, 67, 80]⟩, ⟨#[65, 78, 73, 77]⟩, ⟨#[65, 78, 77, 70]⟩, ⟨#[65, 76, 80, 72]⟩, ⟨#[86, 80, 56, 76]⟩, ⟨#[86, 80, 56, 32]⟩, ⟨#[69, 88, 73, 70]⟩, ⟨#[88, 77, 80, 32]⟩]
def ownB (s : ByteArray) : Bool := okName s && !(names.any fun x => decide (s.toList = x.toList))
theorem rdOf_nat {l : List ByteArray} {i : Nat} (h : i < l.length) : rdOf ByteArray.empty l (i : Int) = l[i] := by
  unfold rdOf
  rw [show ((i : Int)).toNat = i by omega, List.getD_eq_getElem?_getD, List.getElem?_eq_getElem h]
  rfl
theorem any_drop {l : List ByteArray} {i : Nat} {p : ByteArray → Bool} (h : i < l.length) : (l.drop i).any p = (p l[i] || (l.drop (i + 1)).any p) := by
  rw [List.drop_eq_getElem_cons h]; rfl
theorem Index_loop (l : List ByteArray) (s : ByteArray) (hl : l.length ≤ 9223372036854775806) (d : Nat) : ∀ i : Nat, i + d = l.length → ∃ r : Int, (decide (r ≥ 0) = (l.drop i).any fun x => decide (s.toList = x.toList)) ∧ Ev (fun k => slices_Index_string_string.l0 k l s l.length i) r := by
  induction d with
  | zero =>
    intro i hi
    refine ⟨-1, ?_, Ev.succ ?_⟩
    · rw [List.drop_of_length_le (by omega)]; rfl
    · simp only [slices_Index_string_string.l0]
      exact Ev.ite_neg (by omega) (Ev.now _)
  | succ d ih =>
    intro i hi
    obtain ⟨r, hr, he⟩ := ih (i + 1) (by omega)
    by_cases c : s.toList = (l[i]'(by omega)).toList
    · refine ⟨i, ?_, Ev.succ ?_⟩
      · rw [any_drop (by omega), decide_eq_true c, decide_eq_true (by omega)]; rfl
      · simp only [slices_Index_string_string.l0]
        exact Ev.ite_pos (by omega) (Ev.ite_pos (by omega) (Ev.ite_pos (by omega) (Ev.ite_pos (by rw [rdOf_nat (by omega)]; exact c) (Ev.now _))))
    · refine ⟨r, ?_, Ev.succ ?_⟩
      · rw [any_drop (by omega), decide_eq_false c, hr]; rfl
      · simp only [slices_Index_string_string.l0]
        refine Ev.ite_pos (by omega) (Ev.ite_pos (by omega) (Ev.ite_pos (by omega) (Ev.ite_neg (by rw [rdOf_nat (by omega)]; exact c) ?_)))
        rw [w64 (by omega) (by omega)]
        exact he
theorem own_ev (s : ByteArray) : Ev (fun k => box_own.f k s) (ownB s) := by
  unfold box_own.f
  refine Ev.bindo (chunk_Name_eq s) ?_
  by_cases c : okName s = true
  · refine Ev.ite_pos c ?_
    obtain ⟨r, hr, he⟩ := Index_loop names s (by decide) names.length 0 (Nat.zero_add _)
    have hc : Ev (fun k => slices_Contains_string_string.f k names s) (decide (r ≥ 0)) := by
      unfold slices_Contains_string_string.f
      exact Ev.bind (by unfold slices_Index_string_string.f; exact he) (Ev.now _)
    have e : ownB s = !decide (r ≥ 0) := by unfold ownB; rw [c, hr]; rfl
    rw [e]
    exact Ev.bind hc (Ev.now _)
  · refine Ev.ite_neg c (Ev.fin ?_)
    unfold ownB
    rw [Bool.not_eq_true] at c
    rw [c]; rfl
theorem own_calls (s : ByteArray) (w : World) : Calls Try.prog 65 #[.string s] w fun e w' => e = .returned (.bool (ownB s)) ∧ Below w.heap.size w w' := by
  obtain ⟨k, hk⟩ := (own_ev s).rounds
  exact box_own.calls k s _ w hk
def moreB (l : List Ch) : Bool := l.all fun c => ownB c.f0
set_option maxHeartbeats 4000000 in
set_option maxRecDepth 100000 in
theorem more1_calls (x : Ch) (cs : List Value) (w : World) (hx : k42.K w x cs) : Calls Try.prog 64 #[.agg cs.toArray] w fun e w' => e = .returned (.bool (!ownB x.f0)) ∧ Below w.heap.size w w' := by
  obtain ⟨A1, c1, rfl, l1, g1⟩ := k42_open hx
  have HE := asiD fun W : World => own_calls x.f0 W
  clear hx g1
  go_enter Try.func64, Try.ntmps64
  go_wp2_with (go_at_call 65; refine (HE.out _).mono ?_; rintro e w1 ⟨rfl, hd⟩; have HB := asiD (bthen (show Below w.heap.size w _ by repeat (first | exact Below.refl _ _ | apply pw_below_drewN | apply below_alloc)) hd); clear hd)
  go_ret
  exact ⟨rfl, HB.out⟩
theorem getD_cut {α : Type} {l : List α} {k : Nat} (d : α) (h : k < l.length) : l.take (k + 1) = l.take k ++ [l.getD k d] := by
  rw [List.take_succ_eq_append_getElem h, List.getD_eq_getElem?_getD, List.getElem?_eq_getElem h]; rfl
theorem any_cut {α : Type} {l : List α} {k : Nat} {p : α → Bool} (d : α) (h : k < l.length) (hp : p (l.getD k d) = true) : l.any p = true := List.any_eq_true.2 ⟨_, getD_in d h, hp⟩
set_option maxHeartbeats 4000000 in
set_option maxRecDepth 100000 in
theorem IndexMore_calls (A1 : Option Addr) (c1 : Nat) (l : List Ch) (w : World) (h1 : k42.C w A1 l.length l) :
    Calls Try.prog 82 #[.slice A1 l.length c1, .func (.func 64) #[] #[]] w fun e w' => ∃ r : Int, e = .returned (.int .i64 r) ∧ decide (0 ≤ r) = (l.any fun c => !ownB c.f0) ∧ Below w.heap.size w w' := by
  have hm := h1.2.1
  have H1 := asiD h1
  clear h1
  go_enter Try.func82, Try.ntmps82
  go_wp2_with fail
  go_loopw [4, 8] (fun r i wr => ∃ k : Nat, k ≤ l.length ∧ r = .int .i64 0 ∧ i = .int .i64 k ∧ (l.take k).any (fun c => !ownB c.f0) = false ∧ Below w.heap.size w wr) (fun _ i _ => l.length - (intOf i).toNat)
  case atStart => exact ⟨0, Nat.zero_le _, rfl, rfl, rfl, Below.refl _ _⟩
  case round =>
    obtain ⟨k, hk, rfl, rfl, ht, hb⟩ := hrel
    by_cases hlt : k < l.length
    · have y1 : decide ((k : Int) < l.length) = true := decide_eq_true (by omega)
      have y2 : decide (k < l.length) = true := decide_eq_true hlt
      have y3 : (k < l.length) = True := eq_true hlt
      have y4 : ((k : Int) < l.length) = True := eq_true (by omega)
      have k16 : k ≤ 9223372036854775806 := by omega
      obtain ⟨ad1, B, e, rfl, d0, d1, m1, g1⟩ := at_T42 (Kd.C_below H1.out hb) (k : Int) (by omega) (by omega)
      simp only [Int.toNat_natCast] at d0 d1
      have hcut := getD_cut z42 hlt
      have hany := any_cut (p := fun c => !ownB c.f0) z42 hlt
      rw [show l.getD k z42 = rd_T42 l k from rfl] at hcut hany
      generalize rd_T42 l k = x at *
      have HE := asiD (more1_calls x _ _ (k42_mk _ x m1 g1))
      have HC := asiD hcut
      have HA := asiD hany
      have HT := asiD ht
      have HLT := asiD hlt
      have HBB := asiD hb
      clear hcut hany ht hb hlt hk g1
      obtain ⟨o, ho⟩ : ∃ o, o = ownB x.f0 := ⟨_, rfl⟩
      rw [← ho] at HE
      cases o with
      | true =>
        have HO := asiD ho
        clear ho
        go_wp2_with (go_at_call 64; refine HE.out.mono ?_; rintro e w1 ⟨rfl, hd⟩; have HD := asiD hd; clear hd)
        go_roundw
        case rel => exact ⟨k + 1, HLT.out, rfl, by go_num, by rw [HC.out, List.any_append, HT.out]; simp [← HO.out], bthen HBB.out HD.out⟩
        case measure => have := HLT.out; simp [intOf]; omega
      | false =>
        have HN : Aside0 ((l.any fun c => !ownB c.f0) = true) := ⟨HA.out (by rw [← ho]; rfl)⟩
        clear ho
        go_wp2_with (go_at_call 64; refine HE.out.mono ?_; rintro e w1 ⟨rfl, hd⟩; have HD := asiD hd; clear hd)
        go_ret
        exact ⟨k, rfl, by rw [HN.out]; simp, bthen HBB.out HD.out⟩
    · have y1 : decide ((k : Int) < l.length) = false := decide_eq_false (by omega)
      have y2 : decide (k < l.length) = false := decide_eq_false hlt
      obtain rfl : k = l.length := by omega
      rw [List.take_length] at ht
      have HT := asiD ht
      have HBB := asiD hb
      clear ht hb hlt hk
      go_wp2_with fail
      go_ret
      exact ⟨-1, rfl, by rw [HT.out]; rfl, HBB.out⟩
set_option maxHeartbeats 4000000 in
set_option maxRecDepth 100000 in
theorem more_calls (A1 : Option Addr) (c1 : Nat) (l : List Ch) (w : World) (h1 : k42.C w A1 l.length l) :
    Calls Try.prog 27 #[.slice A1 l.length c1] w fun e w' => e = .returned (.bool (moreB l)) ∧ Below w.heap.size w w' := by
  have HE := asiD (IndexMore_calls A1 c1 l w h1)
  have HC : Aside0 (Calls Try.prog 63 #[.slice A1 l.length c1, .func (.func 64) #[] #[]] w fun e w' => e = .returned (.bool (l.any fun c => !ownB c.f0)) ∧ Below w.heap.size w w') := ⟨by
    go_enter Try.func63, Try.ntmps63
    go_wp2_with (go_at_call 82; refine HE.out.mono ?_; rintro e w1 ⟨r, rfl, hr, hd⟩; have HR := asiD hr; have HD := asiD hd; clear hd hr)
    go_ret
    exact ⟨by rw [← HR.out]; rfl, HD.out⟩⟩
  clear HE h1
  go_enter Try.func27, Try.ntmps27
  go_wp2_with (go_at_call 63; refine HC.out.mono ?_; rintro e w1 ⟨rfl, hd⟩; have HD := asiD hd; clear hd)
  go_ret
  refine ⟨congrArg (fun b => Ending.returned (.bool b)) ?_, HD.out⟩
  unfold moreB
  rw [List.not_any_eq_all_not]
  simp
def kindB (f : Fr) : Bool := decide (f.f7 = 2 ∨ f.f7 = 1 ∧ f.f8.length = 0)
theorem kind_calls (x : Fr) (cs : List Value) (w : World) (hx : k44.K w x cs) : Calls Try.prog 61 #[.agg cs.toArray] w fun e w' => e = .returned (.bool (kindB x)) ∧ Below w.heap.size w w' := by
  obtain ⟨A1, c1, A2, c2, A3, c3, rfl, l1, g1, l2, g2, l3, g3⟩ := k44_open hx
  refine box_kind.calls x.f0 x.f1 x.f2 x.f3 x.f4 x.f5 x.f6 x.f7 A1 c1 x.f8 A2 c2 x.f9 A3 c3 x.f10 (kindB x) w g1 l1 g2 l2 g3 l3 ?_
  unfold box_kind.f kindB
  by_cases c : x.f7 = 2
  · rw [if_pos c, decide_eq_true (.inl c)]
  · rw [if_neg c]
    by_cases d : x.f7 = 1
    · rw [if_pos d]; exact congrArg some (by rw [Bool.eq_iff_iff, decide_eq_true_iff, beq_iff_eq]; simp only [c, d, false_or, true_and]; omega)
    · rw [if_neg d]; simp [c, d]
def sidesP (f : Fr) (w h : Int) : Prop := (0 ≤ f.f0 ∧ 0 ≤ f.f1 ∧ 1 ≤ f.f2 ∧ 1 ≤ f.f3 ∧ f.f0 ≤ w - f.f2 ∧ f.f1 ≤ h - f.f3) ∧ f.f0 % 2 = 0 ∧ f.f1 % 2 = 0
instance (f : Fr) (w h : Int) : Decidable (sidesP f w h) := by unfold sidesP; infer_instance
set_option maxHeartbeats 4000000 in
set_option maxRecDepth 100000 in
theorem sides_calls (x : Fr) (cs : List Value) (W H : Int) (w : World) (hx : k44.K w x cs) (ho : okFr x) (hW : 0 ≤ W ∧ W ≤ 16777216) (hH : 0 ≤ H ∧ H ≤ 16777216) :
    Calls Try.prog 62 #[.agg cs.toArray, .int .i64 W, .int .i64 H] w fun e w' => e = .returned (.bool (decide (sidesP x W H))) ∧ Below w.heap.size w w' := by
  obtain ⟨A1, c1, A2, c2, A3, c3, rfl, l1, g1, l2, g2, l3, g3⟩ := k44_open hx
  have h2 := ho.i2
  have h3 := ho.i3
  unfold i64r at h2 h3
  clear hx g1 g2 g3 ho
  go_enter Try.func62, Try.ntmps62
  go_wp2_with fail
  all_goals go_ret
  all_goals refine ⟨congrArg (fun b => Ending.returned (.bool b)) ?_, by repeat (first | exact Below.refl _ _ | apply pw_below_drewN | apply below_alloc)⟩
  all_goals first
    | exact (decide_eq_false (by unfold sidesP; omega)).symm
    | (rw [Bool.eq_iff_iff, decide_eq_true_iff, beq_iff_eq]; unfold sidesP; omega)
def frameP (f : Fr) (d : Dc) : Prop := sidesP f d.f1 d.f2 ∧ kindB f = true ∧ 0 ≤ f.f4 ∧ f.f4 < 16777216 ∧
  (if d.f4 = true then moreB f.f10 = true else f.f0 = 0 ∧ f.f1 = 0 ∧ f.f2 = d.f1 ∧ f.f3 = d.f2 ∧ f.f4 = 0 ∧ f.f5 = false ∧ f.f6 = false ∧ f.f10.length = 0)
instance (f : Fr) (d : Dc) : Decidable (frameP f d) := by unfold frameP; infer_instance
set_option maxHeartbeats 8000000 in
set_option maxRecDepth 100000 in
theorem frame_calls (x : Fr) (y : Dc) (cs ds : List Value) (w : World) (hx : k44.K w x cs) (hy : k27.K w y ds) (ho : okFr x) (hW : 0 ≤ y.f1 ∧ y.f1 ≤ 16777216) (hH : 0 ≤ y.f2 ∧ y.f2 ≤ 16777216) :
    Calls Try.prog 26 #[.agg cs.toArray, .agg ds.toArray] w fun e w' => e = .returned (.bool (decide (frameP x y))) ∧ Below w.heap.size w w' := by
  have HE1 := asiD fun (W : World) (hb : Below w.heap.size w W) => sides_calls x cs y.f1 y.f2 W (k44.K_below hb hx) ho hW hH
  have HE2 := asiD fun (W : World) (hb : Below w.heap.size w W) => kind_calls x cs W (k44.K_below hb hx)
  obtain ⟨A1, c1, A2, c2, A3, c3, rfl, l1, g1, l2, g2, l3, g3⟩ := k44_open hx
  obtain ⟨B1, d1, B2, d2, B3, d3, B4, d4, B5, d5, rfl, m1, h1, m2, h2, m3, h3, m4, h4, m5, h5⟩ := k27_open hy
  have HE3 := asiD fun (W : World) (hb : Below w.heap.size w W) => more_calls A3 c3 x.f10 W (Kd.C_below g3 hb)
  clear hx hy g1 g2 g3 h1 h2 h3 h4 h5 ho
  go_enter Try.func26, Try.ntmps26
  go_wp2_with (first
    | (go_at_call 62; with_reducible refine (HE1.out _ (by repeat (first | exact Below.refl _ _ | apply pw_below_drewN | apply below_alloc))).mono ?_; rintro e w1 ⟨rfl, hd⟩; have HX := asiD hd; have z1 := fun i => (cells2 hd i).1; have z2 := fun i => (cells2 hd i).2; have HB := asiD (bthen (show Below w.heap.size w _ by repeat (first | exact Below.refl _ _ | apply pw_below_drewN | apply below_alloc)) hd); clear hd)
    | (go_at_call 61; with_reducible refine (HE2.out _ HB.out).mono ?_; clear z1 z2; rintro e w2 ⟨rfl, hd⟩; have z1 := fun i => (cells2 (bthen HX.out hd) i).1; have z2 := fun i => (cells2 (bthen HX.out hd) i).2; have HB2 := asiD (bthen HB.out hd); clear hd)
    | (go_at_call 27; with_reducible refine (HE3.out _ HB2.out).mono ?_; clear z1 z2; rintro e w3 ⟨rfl, hd⟩; have HB3 := asiD (bthen HB2.out hd); clear hd))
  all_goals go_ret
  all_goals refine ⟨congrArg (fun b => Ending.returned (.bool b)) ?_, by first | exact HB3.out | exact HB2.out | exact HB.out⟩
  all_goals first
    | (simp [frameP, *]; done)
    | (simp [frameP, *]; omega)
    | (rw [Bool.eq_iff_iff]; simp [frameP, *]; done)
def boxd (w : World) (g : Nat) (ds : List Value) : Prop := ∀ (i : Nat) (v : Value), ds[i]? = some v → w.cell? ⟨g, i, none⟩ = some v
theorem boxd_below {w w1 : World} {g : Nat} {ds : List Value} (h : boxd w g ds) (hb : Below w.heap.size w w1) : boxd w1 g ds := fun i v hv => (hb.cell (World.block_lt_of_cell? _ _ (h i v hv))).trans (h i v hv)
theorem boxd_new {w : World} {t : TypeId} {ds : List Value} : boxd (w.alloc (.cells ds.toArray t)) w.heap.size ds := fun i v hv => ((((St.refl w).alloc ds.toArray t).cell i).trans (by simp)).trans hv
set_option maxHeartbeats 4000000 in
set_option maxRecDepth 100000 in
theorem bad_calls (x : Fr) (y : Dc) (cs ds : List Value) (g : Nat) (w : World) (hx : k44.K w x cs) (hy : k27.K w y ds) (hg : boxd w g ds) (ho : okFr x) (hW : 0 ≤ y.f1 ∧ y.f1 ≤ 16777216) (hH : 0 ≤ y.f2 ∧ y.f2 ≤ 16777216) :
    Calls Try.prog 25 #[.agg cs.toArray, .pointer (some ⟨g, 0, none⟩)] w fun e w' => e = .returned (.bool (!decide (frameP x y))) ∧ Below w.heap.size w w' := by
  have HE := asiD fun (W : World) (hb : Below w.heap.size w W) => frame_calls x y cs ds W (k44.K_below hb hx) (k27.K_below hb hy) ho hW hH
  have hgb := (boxd_below hg (below_alloc (Below.refl w.heap.size w) (.cells cs.toArray 44)))
  obtain ⟨A1, c1, A2, c2, A3, c3, rfl, l1, g1, l2, g2, l3, g3⟩ := k44_open hx
  obtain ⟨B1, d1, B2, d2, B3, d3, B4, d4, B5, d5, rfl, m1, h1, m2, h2, m3, h3, m4, h4, m5, h5⟩ := k27_open hy
  have q0 := hgb 0 _ rfl
  have q1 := hgb 1 _ rfl
  have q2 := hgb 2 _ rfl
  have q3 := hgb 3 _ rfl
  have q4 := hgb 4 _ rfl
  have q5 := hgb 5 _ rfl
  have q6 := hgb 6 _ rfl
  have q7 := hgb 7 _ rfl
  have q8 := hgb 8 _ rfl
  have q9 := hgb 9 _ rfl
  have q10 := hgb 10 _ rfl
  have q11 := hgb 11 _ rfl
  have q12 := hgb 12 _ rfl
  have q13 := hgb 13 _ rfl
  have q14 := hgb 14 _ rfl
  clear hx hy hg g1 g2 g3 h1 h2 h3 h4 h5 ho hgb
  go_enter Try.func25, Try.ntmps25
  go_wp2_with (go_at_call 26; with_reducible refine (HE.out _ (by repeat (first | exact Below.refl _ _ | apply pw_below_drewN | apply below_alloc))).mono ?_; rintro e w1 ⟨rfl, hd⟩; have HB := asiD (bthen (show Below w.heap.size w _ by repeat (first | exact Below.refl _ _ | apply pw_below_drewN | apply below_alloc)) hd); clear hd)
  go_ret
  exact ⟨by simp, HB.out⟩
set_option maxHeartbeats 4000000 in
set_option maxRecDepth 100000 in
theorem IndexBad_calls (y : Dc) (ds : List Value) (g : Nat) (A1 : Option Addr) (c1 : Nat) (l : List Fr) (w : World) (h1 : k44.C w A1 l.length l) (hy : k27.K w y ds) (hg : boxd w g ds) (ho : ∀ f ∈ l, okFr f) (hW : 0 ≤ y.f1 ∧ y.f1 ≤ 16777216) (hH : 0 ≤ y.f2 ∧ y.f2 ≤ 16777216) :
    Calls Try.prog 66 #[.slice A1 l.length c1, .func (.func 25) #[] #[.pointer (some ⟨g, 0, none⟩)]] w fun e w' => ∃ r : Int, e = .returned (.int .i64 r) ∧ decide (0 ≤ r) = (l.any fun f => !decide (frameP f y)) ∧ Below w.heap.size w w' := by
  have hm := h1.2.1
  have H1 := asiD h1
  have HY := asiD hy
  have HG := asiD hg
  have HO := asiD ho
  have HWH := asiD (And.intro hW hH)
  clear h1 hy hg ho hW hH
  go_enter Try.func66, Try.ntmps66
  go_wp2_with fail
  go_loopw [4, 8] (fun r i wr => ∃ k : Nat, k ≤ l.length ∧ r = .int .i64 0 ∧ i = .int .i64 k ∧ (l.take k).any (fun f => !decide (frameP f y)) = false ∧ Below w.heap.size w wr) (fun _ i _ => l.length - (intOf i).toNat)
  case atStart => exact ⟨0, Nat.zero_le _, rfl, rfl, rfl, Below.refl _ _⟩
  case round =>
    obtain ⟨k, hk, rfl, rfl, ht, hb⟩ := hrel
    by_cases hlt : k < l.length
    · have y1 : decide ((k : Int) < l.length) = true := decide_eq_true (by omega)
      have y2 : decide (k < l.length) = true := decide_eq_true hlt
      have y3 : (k < l.length) = True := eq_true hlt
      have y4 : ((k : Int) < l.length) = True := eq_true (by omega)
      have k16 : k ≤ 9223372036854775806 := by omega
      obtain ⟨ad1, A8, c8, A9, c9, A10, c10, rfl, d0, d1, d2, d3, d4, d5, d6, d7, d8, d9, d10, m8, g8, m9, g9, m10, g10⟩ := at_T44 (Kd.C_below H1.out hb) (k : Int) (by omega) (by omega)
      simp only [Int.toNat_natCast] at d0 d1 d2 d3 d4 d5 d6 d7 d8 d9 d10
      have hcut := getD_cut z44 hlt
      have hany := any_cut (p := fun f => !decide (frameP f y)) z44 hlt
      have hin := getD_in z44 hlt
      rw [show l.getD k z44 = rd_T44 l k from rfl] at hcut hany hin
      generalize rd_T44 l k = x at *
      have HE := asiD (bad_calls x y _ ds g _ (k44_mk _ x m8 g8 m9 g9 m10 g10) (k27.K_below hb HY.out) (boxd_below HG.out hb) (HO.out _ hin) HWH.out.1 HWH.out.2)
      have HC := asiD hcut
      have HA := asiD hany
      have HT := asiD ht
      have HLT := asiD hlt
      have HBB := asiD hb
      clear hcut hany hin ht hb hlt hk g8 g9 g10
      obtain ⟨o, ho⟩ : ∃ o, o = decide (frameP x y) := ⟨_, rfl⟩
      rw [← ho] at HE
      cases o with
      | true =>
        have HO := asiD ho
        clear ho
        go_wp2_with (go_at_call 25; refine HE.out.mono ?_; rintro e w1 ⟨rfl, hd⟩; have HD := asiD hd; clear hd)
        go_roundw
        case rel => exact ⟨k + 1, HLT.out, rfl, by go_num, by rw [HC.out, List.any_append, HT.out]; simp only [List.any_cons, List.any_nil, ← HO.out]; rfl, bthen HBB.out HD.out⟩
        case measure => have := HLT.out; simp [intOf]; omega
      | false =>
        have HN : Aside0 ((l.any fun f => !decide (frameP f y)) = true) := ⟨HA.out (by rw [← ho]; rfl)⟩
        clear ho
        go_wp2_with (go_at_call 25; refine HE.out.mono ?_; rintro e w1 ⟨rfl, hd⟩; have HD := asiD hd; clear hd)
        go_ret
        exact ⟨k, rfl, by rw [HN.out]; simp, bthen HBB.out HD.out⟩
    · have y1 : decide ((k : Int) < l.length) = false := decide_eq_false (by omega)
      have y2 : decide (k < l.length) = false := decide_eq_false hlt
      obtain rfl : k = l.length := by omega
      rw [List.take_length] at ht
      have HT := asiD ht
      have HBB := asiD hb
      clear ht hb hlt hk
      go_wp2_with fail
      go_ret
      exact ⟨-1, rfl, by rw [HT.out]; rfl, HBB.out⟩
set_option maxHeartbeats 4000000 in
set_option maxRecDepth 100000 in
theorem ContainsBad_calls (y : Dc) (ds : List Value) (g : Nat) (A1 : Option Addr) (c1 : Nat) (l : List Fr) (w : World) (h1 : k44.C w A1 l.length l) (hy : k27.K w y ds) (hg : boxd w g ds) (ho : ∀ f ∈ l, okFr f) (hW : 0 ≤ y.f1 ∧ y.f1 ≤ 16777216) (hH : 0 ≤ y.f2 ∧ y.f2 ≤ 16777216) :
    Calls Try.prog 29 #[.slice A1 l.length c1, .func (.func 25) #[] #[.pointer (some ⟨g, 0, none⟩)]] w fun e w' => e = .returned (.bool (l.any fun f => !decide (frameP f y))) ∧ Below w.heap.size w w' := by
  have HE := asiD (IndexBad_calls y ds g A1 c1 l w h1 hy hg ho hW hH)
  clear h1 hy hg ho hW hH
  go_enter Try.func29, Try.ntmps29
  go_wp2_with (go_at_call 66; refine HE.out.mono ?_; rintro e w1 ⟨r, rfl, hr, hd⟩; have HR := asiD hr; have HD := asiD hd; clear hd hr)
  go_ret
  exact ⟨by rw [← HR.out]; rfl, HD.out⟩
end Go.Proofs.Ythkocpcjcpohcaa.P
end
section
namespace Go.Proofs.Ythkocpcjcpohcaa.P
open Go Go.RowKit Go.Proofs.YthkocpcjcpohcaaW.PrintWords Go.Proofs.YthkocpcjcpohcaaW.PrintLast Go.Proofs.YthkocpcjcpohcaaW.PrintMore
open Asrt
def ReadsCells (w : World) (size : Nat) (A : Option Addr) (n : Nat) (xs : List Value) : Prop :=
  xs.length = n * size ∧ (∀ u ∈ xs, u.oneCell' = true) ∧ (0 < n → ∃ ad, A = some ad ∧ ∀ j u, xs[j]? = some u → w.cell? (ad.add j) = some u)
theorem ReadsCells.below {w w1 : World} {size : Nat} {A : Option Addr} {n : Nat} {xs : List Value} (h : ReadsCells w size A n xs) (hb : Below w.heap.size w w1) : ReadsCells w1 size A n xs := by
  refine ⟨h.1, h.2.1, fun hn => ?_⟩
  obtain ⟨ad, rfl, hc⟩ := h.2.2 hn
  exact ⟨ad, rfl, fun j u hu => (hb.cell (World.block_lt_of_cell? w _ (hc j u hu))).trans (hc j u hu)⟩
section
variable {P : Program} {w0 W : World} {R : Asrt}
theorem run_append_cells (t ty e : TypeId) (z : Value) (size bytes : Nat)
    (ht : P.underlying t = some (.slice e)) (hinfo : (P.info? e).map (fun i => (i.zero, i.size, i.bytes)) = some (some z, size, bytes)) (hz : z.cells.size = size) (hs0 : 0 < size) (hb0 : 0 < bytes)
    (v : Value) (n : Nat) (xs ys : List Value) (A : Option Addr) (m c : Nat)
    (HS : St w0 W (Asrt.row e size v n xs * R)) (HR : ReadsCells W size A m ys) (hl : (n + m) * bytes ≤ 140737488355328) :
    ∃ A1 c1 w1, (Builtin.append_ #[t, t] ty #[v, .slice A m c]).run P W = .ok (.slice A1 (n + m) c1) w1 ∧ St w0 w1 (Asrt.row e size (.slice A1 (n + m) c1) (n + m) (xs ++ ys) * R) := by
  obtain ⟨i0, hi, hzz⟩ := Option.map_eq_some_iff.1 hinfo
  simp only [Prod.mk.injEq] at hzz
  obtain ⟨hz0, hz1, hz2⟩ := hzz
  have hown := own_zero HS.row
  have hlen : n + m ≤ 140737488355328 := Nat.le_trans (Nat.le_mul_of_pos_right _ hb0) hl
  have h63 : n + m ≤ maxLen := by simp only [maxLen]; omega
  rcases A with _ | ad
  · have h0 : m = 0 := by
      rcases Nat.eq_zero_or_pos m with h0 | h0
      · exact h0
      · obtain ⟨ad, h, _⟩ := HR.2.2 h0
        cases h
    subst h0
    obtain rfl : ys = [] := List.eq_nil_of_length_eq_zero (by simpa using HR.1)
    rcases hown.2 with ⟨rfl, hn⟩ | ⟨g, cap, cur, rfl, _, _, hnc, _⟩
    · subst hn
      exact ⟨none, 0, W, by simp [Builtin.append_, run_underlying ht, sizeOf, typeInfo, hi, Builtin.lenOf, Builtin.firstCells], by simpa using HS⟩
    · exact ⟨some ⟨g, 0, none⟩, cap, W, by simp [Builtin.append_, run_underlying ht, sizeOf, typeInfo, hi, Builtin.lenOf, Builtin.firstCells, hnc, storeCells], by simpa using HS⟩
  · have hcells : ∀ j u, ys[j]? = some u → W.cell? (ad.add j) = some u := by
      intro j u hu
      rcases Nat.eq_zero_or_pos m with h0 | h0
      · obtain rfl : ys = [] := List.eq_nil_of_length_eq_zero (by rw [HR.1, h0, Nat.zero_mul])
        simp at hu
      · obtain ⟨ad', h, hc⟩ := HR.2.2 h0
        injection h with h
        subst h
        exact hc j u hu
    obtain ⟨v', w', hr, h2, h3, _, h4⟩ := run_append_own_at (P := P) W 0 t ty e i0 z size bytes ht hi hz0 hz1 hz2 hz hs0 v n xs hown ad m c ys HR.1 hcells HR.2.1 h63 hl (Nat.zero_le _)
    obtain ⟨A1, c1, rfl⟩ := own_slice h2
    exact ⟨A1, c1, w', hr, HS.grown h3 h2 (h4.imp id fun e => ⟨_, e, Nat.le_refl _⟩)⟩
variable {ops : Array Oper} {rest : List Oper} {o : Oper} {a : Act} {Q : Exit → Act → World → Prop} {Kc : Act → World → Prop}
theorem St.append_cells (hgd : o.guard = none) (s x : Operand) (t e : TypeId) (z : Value) (size bytes : Nat)
    (ho : o.op = .call { callee := .builtin .append, args := #[s, x], argTypes := #[t, t] })
    (ht : P.underlying t = some (.slice e)) (hinfo : (P.info? e).map (fun i => (i.zero, i.size, i.bytes)) = some (some z, size, bytes)) (hz : z.cells.size = size) (hs0 : 0 < size) (hb0 : 0 < bytes)
    (v : Value) (n : Nat) (xs ys : List Value) (A : Option Addr) (m c : Nat) (hs : a.eval s = v) (hx : a.eval x = .slice A m c)
    (HS : St w0 W (Asrt.row e size v n xs * R)) (HR : ReadsCells W size A m ys) (hl : (n + m) * bytes ≤ 140737488355328)
    (h : ∀ A1 c1 w1, St w0 w1 (Asrt.row e size (.slice A1 (n + m) c1) (n + m) (xs ++ ys) * R) → wpList P ops Q rest (a.put o.dst (.slice A1 (n + m) c1)) w1) :
    wpList P ops Q (o :: rest) a W := by
  obtain ⟨A1, c1, w1, hr, h1⟩ := run_append_cells (P := P) t o.type e z size bytes ht hinfo hz hs0 hb0 v n xs ys A m c HS HR hl
  refine wpList_plain hgd fun K hK => ?_
  unfold Oper.wp execOp
  simp only [ho, resolve, invoke, builtin, Sem.run_bind, Sem.run_pure, Result.andThen_ok, List.map_toArray, List.map_cons, List.map_nil, hs, hx, hr]
  exact hK _ _ (h A1 c1 w1 h1)
theorem St.append_cells_step (hw : Region.wanted o (yielded ops a.tmps) = true) (s x : Operand) (t e : TypeId) (z : Value) (size bytes : Nat)
    (ho : o.op = .call { callee := .builtin .append, args := #[s, x], argTypes := #[t, t] })
    (ht : P.underlying t = some (.slice e)) (hinfo : (P.info? e).map (fun i => (i.zero, i.size, i.bytes)) = some (some z, size, bytes)) (hz : z.cells.size = size) (hs0 : 0 < size) (hb0 : 0 < bytes)
    (v : Value) (n : Nat) (xs ys : List Value) (A : Option Addr) (m c : Nat) (hs : a.eval s = v) (hx : a.eval x = .slice A m c)
    (HS : St w0 W (Asrt.row e size v n xs * R)) (HR : ReadsCells W size A m ys) (hl : (n + m) * bytes ≤ 140737488355328)
    (h : ∀ A1 c1 w1, St w0 w1 (Asrt.row e size (.slice A1 (n + m) c1) (n + m) (xs ++ ys) * R) → Kc (a.put o.dst (.slice A1 (n + m) c1)) w1) :
    if Region.wanted o (yielded ops a.tmps) = true then Oper.wp P o a W Kc Q else Kc (a.put o.dst undef) W := by
  obtain ⟨A1, c1, w1, hr, h1⟩ := run_append_cells (P := P) t o.type e z size bytes ht hinfo hz hs0 hb0 v n xs ys A m c HS HR hl
  refine event_step hw (v := .slice A1 (n + m) c1) (w1 := w1) ?_ (h A1 c1 w1 h1)
  unfold execOp
  simp only [ho, resolve, invoke, builtin, Sem.run_bind, Sem.run_pure, Result.andThen_ok, List.map_toArray, List.map_cons, List.map_nil, hs, hx, hr]
end
theorem rowReadsC {w0 w : World} {r : Asrt} {e : TypeId} {size n c : Nat} {B : Option Addr} {xs : List Value} (h : St w0 w (Asrt.row e size (.slice B n c) n xs * r)) (h1 : ∀ u ∈ xs, u.oneCell' = true) : ReadsCells w size B n xs := by
  refine ⟨h.row.1, h1, fun hn => ?_⟩
  obtain ⟨g, rfl⟩ := h.rowForm hn
  exact ⟨_, rfl, h.row.cells (g := g) rfl⟩
theorem St.allocCells {w0 w : World} {A : Asrt} (h : St w0 w A) (e : TypeId) (size n : Nat) (xs : List Value) (hx : xs.length = n * size) (hm : n ≤ 9223372036854775807) : St w0 (w.alloc (.cells xs.toArray e)) (Asrt.row e size (.slice (some ⟨w.heap.size, 0, none⟩) n n) n xs * A) := by
  refine h.newRow (base := w.heap.size) (below_alloc (Below.refl _ _) _) ⟨hx, .inr ⟨w.heap.size, n, xs.toArray, rfl, Nat.le_refl _, heap_alloc_new w _, Nat.le_refl _, by simp only [maxLen]; omega, by simp [hx], by rw [← hx]; simp⟩⟩ (Nat.le_refl _)
section
variable {α : Type} {d : Kd α} {w w1 : World}
def KL (d : Kd α) (w : World) : List α → List Value → Prop
  | [], xs => xs = []
  | p :: l, xs => ∃ cs r, xs = cs ++ r ∧ cs.length = d.sz ∧ d.K w p cs ∧ KL d w l r
theorem KL_app : ∀ {l l' : List α} {xs xs' : List Value}, KL d w l xs → KL d w l' xs' → KL d w (l ++ l') (xs ++ xs')
  | [], _, _, _, h, h' => by obtain rfl : _ = [] := h; exact h'
  | p :: l, l', xs, xs', h, h' => by
    obtain ⟨cs, r, rfl, h1, h2, h3⟩ := h
    exact ⟨cs, r ++ xs', by rw [List.append_assoc], h1, h2, KL_app h3 h'⟩
theorem KL_below (hb : Below w.heap.size w w1) : ∀ {l : List α} {xs : List Value}, KL d w l xs → KL d w1 l xs
  | [], _, h => h
  | p :: l, _, h => by
    obtain ⟨cs, r, rfl, h1, h2, h3⟩ := h
    exact ⟨cs, r, rfl, h1, d.K_below hb h2, KL_below hb h3⟩
theorem KL_one : ∀ {l : List α} {xs : List Value}, KL d w l xs → ∀ u ∈ xs, u.oneCell' = true
  | [], _, h => by obtain rfl : _ = [] := h; intro u hu; cases hu
  | p :: l, _, h => by
    obtain ⟨cs, r, rfl, h1, h2, h3⟩ := h
    intro u hu
    rcases List.mem_append.1 hu with hu | hu
    · exact d.K_one h2 u hu
    · exact KL_one h3 u hu
theorem KL_len : ∀ {l : List α} {xs : List Value}, KL d w l xs → xs.length = l.length * d.sz
  | [], _, h => by obtain rfl : _ = [] := h; simp
  | p :: l, _, h => by
    obtain ⟨cs, r, rfl, h1, h2, h3⟩ := h
    rw [List.length_append, h1, KL_len h3, List.length_cons, Nat.add_mul, Nat.one_mul, Nat.add_comm]
theorem KL_get : ∀ {l : List α} {xs : List Value}, KL d w l xs → ∀ (j : Nat) (p : α), l[j]? = some p → ∃ cs, cs.length = d.sz ∧ d.K w p cs ∧ ∀ i u, cs[i]? = some u → xs[j * d.sz + i]? = some u
  | [], _, h, j, p, hp => by simp at hp
  | q :: l, _, h, j, p, hp => by
    obtain ⟨cs, r, rfl, h1, h2, h3⟩ := h
    cases j with
    | zero =>
      obtain rfl : q = p := by simpa using hp
      refine ⟨cs, h1, h2, fun i u hu => ?_⟩
      have hi : i < cs.length := (List.getElem?_eq_some_iff.1 hu).1
      rw [Nat.zero_mul, Nat.zero_add, List.getElem?_append_left hi]
      exact hu
    | succ j =>
      obtain ⟨cs', g1, g2, g3⟩ := KL_get h3 j p (by simpa using hp)
      refine ⟨cs', g1, g2, fun i u hu => ?_⟩
      rw [List.getElem?_append_right (by rw [h1, Nat.add_mul]; omega)]
      have e : (j + 1) * d.sz + i - cs.length = j * d.sz + i := by rw [h1, Nat.add_mul]; omega
      rw [e]
      exact g3 i u hu
theorem C_of_KL {A : Option Addr} {n : Nat} {l : List α} {xs : List Value} (hk : KL d w l xs) (hn : l.length = n) (hm : n ≤ 9223372036854775807) (hr : ReadsCells w d.sz A n xs) : d.C w A n l := by
  refine ⟨hn, hm, fun h0 => ?_⟩
  obtain ⟨ad, rfl, hc⟩ := hr.2.2 h0
  refine ⟨ad, rfl, fun j p hp => ?_⟩
  obtain ⟨cs, g1, g2, g3⟩ := KL_get hk j p hp
  exact ⟨cs, g1, g2, fun i u hu => hc _ u (g3 i u hu)⟩
theorem KL_of : ∀ (l : List α) (f : Nat → Nat → Option Value), (∀ j p, l[j]? = some p → ∃ c, c.length = d.sz ∧ d.K w p c ∧ ∀ i u, c[i]? = some u → f j i = some u) →
    ∃ xs, KL d w l xs ∧ ∀ j i u, j < l.length → i < d.sz → xs[j * d.sz + i]? = some u → f j i = some u
  | [], f, _ => ⟨[], rfl, fun j i u hj => absurd hj (Nat.not_lt_zero _)⟩
  | p :: l, f, h => by
    obtain ⟨cs, h1, h2, h3⟩ := h 0 p rfl
    obtain ⟨xs, g1, g2⟩ := KL_of l (fun j i => f (j + 1) i) fun j q hq => h (j + 1) q (by simpa using hq)
    refine ⟨cs ++ xs, ⟨cs, xs, rfl, h1, h2, g1⟩, fun j i u hj hi hu => ?_⟩
    cases j with
    | zero =>
      rw [Nat.zero_mul, Nat.zero_add, List.getElem?_append_left (by omega)] at hu
      exact h3 i u hu
    | succ j =>
      rw [List.getElem?_append_right (by rw [h1, Nat.add_mul]; omega)] at hu
      have e : (j + 1) * d.sz + i - cs.length = j * d.sz + i := by rw [h1, Nat.add_mul]; omega
      rw [e] at hu
      exact g2 j i u (by simpa using hj) hi hu
theorem C_cells {A : Option Addr} {n : Nat} {l : List α} (h : d.C w A n l) (hs : 0 < d.sz) : ∃ xs, KL d w l xs ∧ ReadsCells w d.sz A n xs := by
  obtain ⟨h1, h2, h3⟩ := h
  rcases Nat.eq_zero_or_pos n with h0 | h0
  · obtain rfl : l = [] := List.eq_nil_of_length_eq_zero (by omega)
    exact ⟨[], rfl, by simp [h0], by simp, fun hh => absurd hh (by omega)⟩
  · obtain ⟨ad, rfl, hc⟩ := h3 h0
    obtain ⟨xs, g1, g2⟩ := KL_of (d := d) (w := w) l (fun j i => w.cell? (ad.add (j * d.sz + i))) hc
    refine ⟨xs, g1, by rw [KL_len g1, h1], KL_one g1, fun _ => ⟨ad, rfl, fun k u hu => ?_⟩⟩
    have hk : k < xs.length := (List.getElem?_eq_some_iff.1 hu).1
    rw [KL_len g1] at hk
    have e : k / d.sz * d.sz + k % d.sz = k := Nat.div_add_mod' _ _
    have := g2 (k / d.sz) (k % d.sz) u (Nat.div_lt_of_lt_mul (by rw [Nat.mul_comm]; exact hk)) (Nat.mod_lt _ hs) (by rw [e]; exact hu)
    rw [e] at this
    exact this
end
end Go.Proofs.Ythkocpcjcpohcaa.P
end
section
namespace Go.Proofs.Ythkocpcjcpohcaa.P
open Go Go.RowKit Go.Proofs.YthkocpcjcpohcaaW.PrintWords Go.Proofs.YthkocpcjcpohcaaW.PrintLast Go.Proofs.YthkocpcjcpohcaaW.PrintMore Go.Proofs.Ythkocpcjcpohcaa.U Go.Proofs.Ythkocpcjcpohcaa.Pure
attribute [local go_sem] max2_int min2_int max_two min_two max_three min_three max_four min_four
theorem boxd_at {w : World} {g : Nat} {ds : List Value} (h : boxd w g ds) (i : Nat) {v : Value} (hv : ds[i]? = some v) : w.cell? ⟨g, i, none⟩ = some v := h i v hv
set_option maxHeartbeats 4000000 in
set_option maxRecDepth 100000 in
theorem Clone_calls (A : Option Addr) (c n : Nat) (xs : List Value) (w : World) (hr : ReadsCells w 2 A n xs) (hl : n * 40 ≤ 140737488355328) :
    Calls Try.prog 60 #[.slice A n c] w fun e w' => ∃ (B : Option Addr) (c' : Nat), e = .returned (.slice B n c') ∧ St w w' (Asrt.row 42 2 (.slice B n c') n xs * Asrt.emp) := by
  have hnil := fun (w : World) (n : Nat) => Lib.run_eql_slice_nil (P := Try.prog) w 25 42 A n c 0 0 Try.underlying25
  have HSL := asiD (((St.refl w).allocCells 42 2 0 [] rfl (by decide)))
  have HRC := asiD (hr.below HSL.out.below)
  have hbytes : (0 + n) * 40 ≤ 140737488355328 := by omega
  cases A with
  | none =>
    have hl0 : n = 0 := by
      rcases Nat.eq_zero_or_pos n with h | h
      · exact h
      · obtain ⟨ad, h, _⟩ := hr.2.2 h; cases h
    subst hl0
    have hx : xs = [] := List.eq_nil_of_length_eq_zero (by have := hr.1; omega)
    subst hx
    clear hr
    go_enter Try.func60, Try.ntmps60
    go_wp2_with fail
    go_ret
    exact ⟨none, 0, rfl, (St.refl w).rowNil _ _⟩
  | some ad =>
    clear hr
    go_enter Try.func60, Try.ntmps60
    go_wp2_with (at_builtin; refine St.append_cells (w0 := w) rfl (.tmp 5) (.tmp 6) 25 42 (.agg #[.string ⟨#[]⟩, .slice none 0 0]) 2 40 rfl Try.underlying25 (by kernel_rfl) rfl (by decide) (by decide) _ 0 [] xs (some ad) n c rfl rfl HSL.out HRC.out hbytes ?_; intro B1 cB1 w5 hs; have HSP := asiD hs; clear hs)
    go_ret
    exact ⟨B1, cB1, rfl, by have h := HSP.out; rw [Nat.zero_add] at h; exact h⟩
def wCh (c : Ch) : Int := (c.f1.length : Int) + 2 * (c.f0.size : Int)
def wFr (f : Fr) : Int := (f.f8.length : Int) + (f.f9.length : Int) + 32
def sumW {α : Type} (g : α → Int) : List α → Int
  | [] => 0
  | a :: l => g a + sumW g l
theorem sumW_app {α : Type} {g : α → Int} : ∀ {a b : List α}, sumW g (a ++ b) = sumW g a + sumW g b
  | [], b => by show sumW g b = 0 + sumW g b; omega
  | x :: a, b => by show g x + sumW g (a ++ b) = (g x + sumW g a) + sumW g b; rw [sumW_app]; omega
theorem sumW_pos {α : Type} {g : α → Int} (h : ∀ a, 0 ≤ g a) : ∀ l : List α, 0 ≤ sumW g l
  | [] => Int.le_refl 0
  | x :: l => by show 0 ≤ g x + sumW g l; have := h x; have := sumW_pos h l; omega
theorem sumW_take {α : Type} {g : α → Int} (h : ∀ a, 0 ≤ g a) (l : List α) (k : Nat) : sumW g (l.take k) ≤ sumW g l := by
  have e : sumW g l = sumW g (l.take k) + sumW g (l.drop k) := by rw [← sumW_app, List.take_append_drop]
  have := sumW_pos h (l.drop k)
  omega
theorem wCh_pos (c : Ch) : 0 ≤ wCh c := by unfold wCh; omega
theorem wFr_pos (f : Fr) : 0 ≤ wFr f := by unfold wFr; omega
def allCh (d : Dc) : List Ch := d.f14 ++ d.f13.flatMap (·.f10)
def weightI (d : Dc) : Int := (d.f7.length : Int) + (d.f8.length : Int) + (d.f9.length : Int) + sumW wFr d.f13 + sumW wCh (allCh d)
set_option maxHeartbeats 8000000 in
set_option maxRecDepth 100000 in
theorem weight_calls (y : Dc) (ds : List Value) (w : World) (hy : k27.K w y ds) (ho : okDc y) (hw : weightI y ≤ 4611686018427387904) (hn : (allCh y).length * 40 ≤ 140737488355328) :
    Calls Try.prog 23 #[.agg ds.toArray] w fun e w' => e = .returned (.int .i64 (weightI y)) ∧ Below w.heap.size w w' := by
  obtain ⟨B1, d1, B2, d2, B3, d3, B4, d4, B5, d5, rfl, m1, h1, m2, h2, m3, h3, m4, h4, m5, h5⟩ := k27_open hy
  have hfl := h4.2.1
  have hb0 : y.f14.length * 40 ≤ 140737488355328 := by unfold allCh at hn; rw [List.length_append] at hn; omega
  obtain ⟨xs, hk, hr⟩ := C_cells h5 (by decide)
  have HC := asiD fun (W : World) (hb : Below w.heap.size w W) => Clone_calls B5 d5 y.f14.length xs W (hr.below hb) hb0
  have HK := asiD hk
  have H4 := asiD h4
  have HW := asiD hw
  have HN := asiD hn
  have HO := asiD ho
  have p1 : (y.f7.length : Int) + y.f8.length ≤ 9223372036854775807 := by have := ho.pr.2; have := ho.ex.2; omega
  have p2 : (y.f7.length : Int) + y.f8.length + y.f9.length ≤ 9223372036854775807 := by have := ho.pr.2; have := ho.ex.2; have := ho.xm.2; omega
  clear hy h1 h2 h3 h4 h5 hw hn ho hb0 hk hr
  go_enter Try.func23, Try.ntmps23
  go_wp2_with (go_at_call 60; with_reducible refine (HC.out _ (by repeat (first | exact Below.refl _ _ | apply pw_below_drewN | apply below_alloc))).mono ?_; rintro e w1 ⟨B, c', rfl, hs⟩; have q13 := boxd_at (boxd_below boxd_new hs.below) 13 rfl; have HX := asiD (bthen (show Below w.heap.size w _ by repeat (first | exact Below.refl _ _ | apply pw_below_drewN | apply below_alloc)) hs.below); have HS := asiD hs; clear hs)
  have HS1 : Aside0 (St w w1 (Asrt.row 42 2 (.slice B y.f14.length c') y.f14.length xs * Asrt.emp)) := ⟨HX.out, let ⟨F, hF, hb⟩ := HS.out.own; ⟨F, hF, fun k h => Nat.le_trans (by simp) (hb k h)⟩⟩
  clear HS HC
  obtain ⟨S0, hS0⟩ : ∃ S0 : Int, S0 = (y.f7.length : Int) + (y.f8.length : Int) + (y.f9.length : Int) := ⟨_, rfl⟩
  have HSZ := asiD hS0
  rw [← hS0]
  have s0 : 0 ≤ S0 := by omega
  clear hS0 p1 p2
  go_loopw [3, 4, 26] (fun s v i wr => ∃ (k n : Nat) (A : Option Addr) (c : Nat) (ys : List Value) (S : Int), k ≤ y.f13.length ∧ s = .int .i64 S ∧ S = S0 + sumW wFr (y.f13.take k) ∧ v = .slice A n c ∧ i = .int .i64 k ∧
    n = (y.f14 ++ (y.f13.take k).flatMap (·.f10)).length ∧ KL k42 w (y.f14 ++ (y.f13.take k).flatMap (·.f10)) ys ∧ St w wr (Asrt.row 42 2 (.slice A n c) n ys * Asrt.emp)) (fun _ _ i _ => y.f13.length - (intOf i).toNat)
  case atStart => exact ⟨0, y.f14.length, B, c', xs, S0, Nat.zero_le _, rfl, by simp [sumW], rfl, rfl, by simp, by simpa using HK.out, HS1.out⟩
  case round =>
    obtain ⟨k, n, A, c, ys, S, hk, rfl, hS, rfl, rfl, hn, hkl, hs⟩ := hrel
    by_cases hlt : k < y.f13.length
    · have y1 : decide ((k : Int) < y.f13.length) = true := decide_eq_true (by omega)
      have y2 : decide (k < y.f13.length) = true := decide_eq_true hlt
      have y3 : (k < y.f13.length) = True := eq_true hlt
      have y4 : ((k : Int) < y.f13.length) = True := eq_true (by omega)
      have k16 : k ≤ 9223372036854775806 := by omega
      obtain ⟨ad1, A8, c8, A9, c9, A10, c10, rfl, d0, d1, d2, d3, d4, d5, d6, d7, d8, d9, d10, m8, g8, m9, g9, m10, g10⟩ := at_T44 H4.out (k : Int) (by omega) (by omega)
      simp only [Int.toNat_natCast] at d0 d1 d2 d3 d4 d5 d6 d7 d8 d9 d10
      have hcut := getD_cut z44 hlt
      have hin := getD_in z44 hlt
      rw [show y.f13.getD k z44 = rd_T44 y.f13 k from rfl] at hcut hin
      generalize rd_T44 y.f13 k = x at *
      obtain ⟨zs, hzk, hzr⟩ := C_cells g10 (by decide)
      have hfr := HO.out.fr.2 x hin
      have e0 := (cellL hs.below d0)
      have e1 := (cellL hs.below d1)
      have e2 := (cellL hs.below d2)
      have e3 := (cellL hs.below d3)
      have e4 := (cellL hs.below d4)
      have e5 := (cellL hs.below d5)
      have e6 := (cellL hs.below d6)
      have e7 := (cellL hs.below d7)
      have e8 := (cellL hs.below d8)
      have e9 := (cellL hs.below d9)
      have e10 := (cellL hs.below d10)
      have hS2 : S + wFr x = S0 + sumW wFr (y.f13.take (k + 1)) := by rw [hcut, sumW_app, hS]; simp only [sumW]; omega
      have hle : S + wFr x ≤ 4611686018427387904 := by
        have h1 := sumW_take wFr_pos y.f13 (k + 1)
        have h2 := HW.out
        have h3 := sumW_pos wCh_pos (allCh y)
        unfold weightI at h2
        have h4 := HSZ.out
        omega
      have hS0' : 0 ≤ S := by have := sumW_pos wFr_pos (y.f13.take k); omega
      unfold wFr at hle
      have b1 : (x.f8.length : Int) + x.f9.length ≤ 9223372036854775807 := by omega
      have b2 : (x.f8.length : Int) + x.f9.length + 32 ≤ 9223372036854775807 := by omega
      have b3 : S + ((x.f8.length : Int) + x.f9.length + 32) ≤ 9223372036854775807 := by omega
      have hcnt : (n + x.f10.length) * 40 ≤ 140737488355328 := by
        have h1 := HN.out
        unfold allCh at h1
        have e : (y.f13.flatMap (·.f10)).length = ((y.f13.take (k + 1)).flatMap (·.f10)).length + ((y.f13.drop (k + 1)).flatMap (·.f10)).length := by rw [← List.length_append, ← List.flatMap_append, List.take_append_drop]
        rw [List.length_append, e, hcut, List.flatMap_append, List.length_append] at h1
        rw [hn, List.length_append]
        simp only [List.flatMap_cons, List.flatMap_nil, List.append_nil] at h1
        omega
      have HSL := asiD (hs.alloc #[.int .i64 x.f0, .int .i64 x.f1, .int .i64 x.f2, .int .i64 x.f3, .int .i64 x.f4, .bool x.f5, .bool x.f6, .int .i64 x.f7, .slice A8 x.f8.length c8, .slice A9 x.f9.length c9, .slice A10 x.f10.length c10] 44).swap
      have HRC := asiD (hzr.below HSL.out.below)
      have HKL := asiD hkl
      have HZK := asiD hzk
      have HS2 := asiD hS2
      have HCUT := asiD hcut
      have HNN := asiD hn
      have HLT := asiD hlt
      clear hkl hzk hzr hS2 hcut hn hlt hk hS hs d0 d1 d2 d3 d4 d5 d6 d7 d8 d9 d10 g8 g9 g10 hin hfr hle q13
      go_wp2_with (at_builtin; refine St.append_cells (w0 := w) rfl (.tmp 40) (.tmp 42) 25 42 (.agg #[.string ⟨#[]⟩, .slice none 0 0]) 2 40 rfl Try.underlying25 (by kernel_rfl) rfl (by decide) (by decide) _ n ys zs A10 x.f10.length c10 rfl rfl HSL.out HRC.out hcnt ?_; intro B1 cB1 w5 hs; have HSP := asiD hs; clear hs)
      go_roundw
      case rel =>
        refine ⟨k + 1, n + x.f10.length, B1, cB1, ys ++ zs, _, HLT.out, rfl, HS2.out, rfl, by go_num, ?_, ?_, ?_⟩
        · rw [HCUT.out, List.flatMap_append, ← List.append_assoc, List.length_append, ← HNN.out]; simp
        · rw [HCUT.out, List.flatMap_append, ← List.append_assoc]
          exact KL_app HKL.out (by simpa using HZK.out)
        · exact HSP.out.swap.drop
      case measure => have := HLT.out; simp [intOf]; omega
    · have y1 : decide ((k : Int) < y.f13.length) = false := decide_eq_false (by omega)
      have y2 : decide (k < y.f13.length) = false := decide_eq_false hlt
      obtain rfl : k = y.f13.length := by omega
      rw [List.take_length] at hS hn hkl
      rw [show y.f14 ++ y.f13.flatMap (·.f10) = allCh y from rfl] at hn hkl
      have hn2 : n ≤ 9223372036854775807 := by have := HN.out; omega
      have HNN := asiD hn
      have HKL := asiD hkl
      have HSS := asiD hS
      have HS2 := asiD hs
      have t0 : 0 ≤ S := by have := sumW_pos wFr_pos y.f13; omega
      clear hn hkl hS hs hlt hk q13
      go_wp2_with fail
      go_loopw [3, 47] (fun s i wr => ∃ (j : Nat) (T : Int), j ≤ n ∧ s = .int .i64 T ∧ T = S + sumW wCh ((allCh y).take j) ∧ i = .int .i64 j ∧ St w wr (Asrt.row 42 2 (.slice A n c) n ys * Asrt.emp)) (fun _ i _ => n - (intOf i).toNat)
      case atStart => exact ⟨0, S, Nat.zero_le _, rfl, by simp [sumW], rfl, HS2.out⟩
      case round =>
        obtain ⟨j, T, hj, rfl, hT, rfl, hs⟩ := hrel
        by_cases hlt : j < n
        · have y1 : decide ((j : Int) < n) = true := decide_eq_true (by omega)
          have y2 : decide (j < n) = true := decide_eq_true hlt
          have y3 : (j < n) = True := eq_true hlt
          have y4 : ((j : Int) < n) = True := eq_true (by omega)
          have k16 : j ≤ 9223372036854775806 := by omega
          have hC := C_of_KL (KL_below hs.below HKL.out) HNN.out.symm hn2 (rowReadsC hs (KL_one HKL.out))
          obtain ⟨ad1, B, e, rfl, d0, d1, m1, g1⟩ := at_T42 hC (j : Int) (by omega) (by omega)
          simp only [Int.toNat_natCast] at d0 d1
          have hlt2 : j < (allCh y).length := by rw [← HNN.out]; exact hlt
          have hcut := getD_cut z42 hlt2
          rw [show (allCh y).getD j z42 = rd_T42 (allCh y) j from rfl] at hcut
          generalize rd_T42 (allCh y) j = x at *
          have hT2 : T + wCh x = S + sumW wCh ((allCh y).take (j + 1)) := by rw [hcut, sumW_app, hT]; simp only [sumW]; omega
          have hle : T + wCh x ≤ 4611686018427387904 := by
            have h1 := sumW_take wCh_pos (allCh y) (j + 1)
            have h2 := HW.out
            unfold weightI at h2
            have h3 := HSZ.out
            have h4 := HSS.out
            omega
          have hT0 : 0 ≤ T := by have := sumW_pos wCh_pos ((allCh y).take j); omega
          unfold wCh at hle hT2
          have b1 : 2 * (x.f0.size : Int) ≤ 9223372036854775807 := by omega
          have b2 : (x.f1.length : Int) + 2 * (x.f0.size : Int) ≤ 9223372036854775807 := by omega
          have b3 : T + ((x.f1.length : Int) + 2 * (x.f0.size : Int)) ≤ 9223372036854775807 := by omega
          have HSL := asiD (hs.alloc #[.string x.f0, .slice B x.f1.length e] 42).swap
          have HT2 := asiD hT2
          have HLT := asiD hlt
          clear hcut hT hs hC hlt hlt2 hj hle hT2 g1
          go_wp2_with fail
          go_roundw
          case rel => exact ⟨j + 1, _, HLT.out, rfl, HT2.out, by go_num, HSL.out.swap.drop⟩
          case measure => have := HLT.out; simp [intOf]; omega
        · have y1 : decide ((j : Int) < n) = false := decide_eq_false (by omega)
          have y2 : decide (j < n) = false := decide_eq_false hlt
          obtain rfl : j = n := by omega
          have HR : Aside0 (weightI y = T) := ⟨by
            rw [hT, HSS.out, HNN.out, List.take_length, HSZ.out]; rfl⟩
          have HB := asiD hs.below
          clear hT hs hlt hj
          go_wp2_with fail
          go_ret
          exact ⟨by rw [HR.out]; rfl, HB.out⟩
theorem cells1 {w w1 : World} {P : Array Value} {T : TypeId} (hx : Below (w.alloc (.cells P T)).heap.size (w.alloc (.cells P T)) w1) (i : Nat) : w1.cell? ⟨w.heap.size, i, none⟩ = P[i]? := (((St.refl w).alloc P T).belowR hx).cell i
def plainD (kind : Int) (data : List Int) : Dc := ⟨true, 0, 0, false, false, 0, 0, [], [], [], false, false, false, [⟨0, 0, 0, 0, 0, false, false, kind, [], data, []⟩], []⟩
def plainP (d : Dc) : Prop := ∃ f, d.f13 = [f] ∧ kindB f = true ∧ d = plainD f.f7 f.f9
theorem C_one {w : World} {f : Fr} {cs : List Value} {g : Nat} (hc : w.heap[g]? = some (.cells cs.toArray 44 (0, 0))) (hk : k44.K w f cs) : k44.C w (some ⟨g, 0, none⟩) 1 [f] := by
  refine ⟨rfl, by decide, fun _ => ⟨_, rfl, fun j p hp => ?_⟩⟩
  have hj : j = 0 := by
    rcases j with _ | j
    · rfl
    · simp at hp
  subst hj
  have hpf : f = p := by simpa using hp
  subst hpf
  refine ⟨cs, k44.K_len hk, hk, fun i u hu => ?_⟩
  have e : (Addr.add ⟨g, 0, none⟩ (0 * k44.sz + i)) = ⟨g, i, none⟩ := by rw [Addr.add_lit]; congr 1; omega
  rw [e, blk_cell hc]
  simpa using hu
theorem plain_K {w1 : World} {o : Obj} {k : Int} {d : List Int} {A : Option Addr} {c : Nat} (hc : d.length ≤ c) (hd : (Kd.int .u8).C w1 A d.length d) :
    k27.K ((w1.alloc o).alloc (.cells #[.int .i64 0, .int .i64 0, .int .i64 0, .int .i64 0, .int .i64 0, .bool false, .bool false, .int .i64 k, .slice none 0 0, .slice A d.length c, .slice none 0 0] 44)) (plainD k d)
      [.bool true, .int .i64 0, .int .i64 0, .bool false, .bool false, .int .u32 0, .int .i64 0, .slice none 0 0, .slice none 0 0, .slice none 0 0, .bool false, .bool false, .bool false, .slice (some ⟨w1.heap.size + 1, 0, none⟩) 1 1, .slice none 0 0] := by
  have e : (w1.alloc o).heap.size = w1.heap.size + 1 := by simp
  have hh := heap_alloc_new (w1.alloc o) (.cells #[.int .i64 0, .int .i64 0, .int .i64 0, .int .i64 0, .int .i64 0, .bool false, .bool false, .int .i64 k, .slice none 0 0, .slice A d.length c, .slice none 0 0] 44)
  rw [e] at hh
  refine k27_mk _ (plainD k d) (A7 := none) (c7 := 0) (Nat.le_refl 0) (Kd.C_nil _ _) (A8 := none) (c8 := 0) (Nat.le_refl 0) (Kd.C_nil _ _) (A9 := none) (c9 := 0) (Nat.le_refl 0) (Kd.C_nil _ _) (Nat.le_refl 1) (C_one (cs := [.int .i64 0, .int .i64 0, .int .i64 0, .int .i64 0, .int .i64 0, .bool false, .bool false, .int .i64 k, .slice none 0 0, .slice A d.length c, .slice none 0 0]) hh ?_) (A14 := none) (c14 := 0) (Nat.le_refl 0) (Kd.C_nil _ _)
  exact k44_mk _ ⟨0, 0, 0, 0, 0, false, false, k, [], d, []⟩ (A8 := none) (c8 := 0) (Nat.le_refl 0) (Kd.C_nil _ _) hc (Kd.C_below hd (below_alloc (below_alloc (Below.refl _ _) _) _)) (A10 := none) (c10 := 0) (Nat.le_refl 0) (Kd.C_nil _ _)
theorem plain_ok {k : Int} {d : List Int} (hk : i64r k) (hd : datL d) : okDc (plainD k d) := by
  have z : i64r 0 := ⟨by decide, by decide⟩
  have nl : datL [] := ⟨(fun b hb => absurd hb (by simp)), by decide⟩
  have nc : chsL [] := ⟨by decide, (fun b hb => absurd hb (by simp))⟩
  refine ⟨z, z, ⟨Int.le_refl 0, (by decide : (0 : Int) ≤ 4294967295)⟩, z, nl, nl, nl, ⟨(by decide : 1 * 128 ≤ 140737488351232), fun f hf => ?_⟩, nc⟩
  rw [List.mem_singleton.1 hf]
  exact ⟨z, z, z, z, z, hk, nl, hd, nc⟩
set_option maxHeartbeats 8000000 in
set_option maxRecDepth 100000 in
theorem plain_calls (y : Dc) (ds : List Value) (w : World) (hy : k27.K w y ds) (ho : okDc y) (b : Bool) (hb : b = true ↔ plainP y) :
    Calls Try.prog 24 #[.agg ds.toArray] w fun e w' => e = .returned (.bool b) ∧ Below w.heap.size w w' := by
  have HBB := asiD hb
  clear hb
  have HY := asiD hy
  obtain ⟨B1, d1, B2, d2, B3, d3, B4, d4, B5, d5, rfl, m1, h1, m2, h2, m3, h3, m4, h4, m5, h5⟩ := k27_open hy
  have HO := asiD ho
  by_cases hl : y.f13.length = 1
  case neg =>
    have HN : Aside0 (¬ plainP y) := ⟨fun ⟨f, hf, _⟩ => hl (by rw [hf]; rfl)⟩
    have z : ((y.f13.length : Int) != 1) = true := by simp; omega
    clear hl hy h1 h2 h3 h4 h5 ho
    go_enter Try.func24, Try.ntmps24
    go_wp2_with fail
    go_ret
    exact ⟨congrArg (fun b => Ending.returned (.bool b)) (Bool.eq_iff_iff.2 (by rw [HBB.out]; simp [HN.out])), by repeat (first | exact Below.refl _ _ | apply pw_below_drewN | apply below_alloc)⟩
  have z : ((y.f13.length : Int) != 1) = false := by simp [hl]
  obtain ⟨f, hf⟩ : ∃ f, y.f13 = [f] := List.length_eq_one_iff.1 hl
  obtain ⟨ad1, A8, c8, A9, c9, A10, c10, rfl, q0, q1, q2, q3, q4, q5, q6, q7, q8, q9, q10, n8, g8, n9, g9, n10, g10⟩ := at_T44 h4 0 (by omega) (by omega)
  rw [show rd_T44 y.f13 0 = f by rw [hf]; rfl] at q0 q1 q2 q3 q4 q5 q6 q7 q8 q9 q10 n8 g8 n9 g9 n10 g10
  have hof : okFr f := ho.fr.2 f (by rw [hf]; exact List.mem_singleton.2 rfl)
  have y1 : (0 < y.f13.length) = True := eq_true (by omega)
  have y2 : ((0 : Int) < (y.f13.length : Int)) = True := eq_true (by omega)
  have HF := asiD hf
  have HP : Aside0 (plainP y ↔ kindB f = true ∧ y = plainD f.f7 f.f9) := ⟨⟨fun ⟨g, hg, h⟩ => by rw [hf] at hg; injection hg with hg _; subst hg; exact h, fun h => ⟨f, hf, h⟩⟩⟩
  have HKK := asiD (k44_mk w f n8 g8 n9 g9 n10 g10)
  have HK1 := asiD fun (W : World) (hb : Below w.heap.size w W) => kind_calls f _ W (k44.K_below hb HKK.out)
  have HSM := asiD fun (w1 W : World) (o : Obj) (hb : Below w.heap.size w w1) (hW : W = ((w1.alloc o).alloc (.cells #[.int .i64 0, .int .i64 0, .int .i64 0, .int .i64 0, .int .i64 0, .bool false, .bool false, .int .i64 f.f7, .slice none 0 0, .slice A9 f.f9.length c9, .slice none 0 0] 44))) =>
    Same_calls y (plainD f.f7 f.f9) _ _ W (k27.K_below (show Below w.heap.size w W by rw [hW]; exact below_alloc (below_alloc hb _) _) hy) (hW ▸ plain_K n9 (Kd.C_below g9 hb)) ho (plain_ok hof.i7 hof.da)
  have HOF := asiD hof
  simp only [Int.toNat_zero, Nat.zero_mul, Addr.add_zero'] at q0 q1 q2 q3 q4 q5 q6 q7 q8 q9 q10
  have hsa := ((St.refl w).alloc #[.bool y.f0, .int .i64 y.f1, .int .i64 y.f2, .bool y.f3, .bool y.f4, .int .u32 y.f5, .int .i64 y.f6, .slice B1 y.f7.length d1, .slice B2 y.f8.length d2, .slice B3 y.f9.length d3, .bool y.f10, .bool y.f11, .bool y.f12, .slice (some ad1) y.f13.length d4, .slice B5 y.f14.length d5] 27).below
  have e0 := (cellL hsa q0)
  have e1 := (cellL hsa q1)
  have e2 := (cellL hsa q2)
  have e3 := (cellL hsa q3)
  have e4 := (cellL hsa q4)
  have e5 := (cellL hsa q5)
  have e6 := (cellL hsa q6)
  have e7 := (cellL hsa q7)
  have e8 := (cellL hsa q8)
  have e9 := (cellL hsa q9)
  have e10 := (cellL hsa q10)
  clear hy h1 h2 h3 h4 h5 ho g8 g9 g10 hl hf hof hsa
  go_enter Try.func24, Try.ntmps24
  go_wp2_with (first
    | (go_at_call 61; with_reducible refine (HK1.out _ (by repeat (first | exact Below.refl _ _ | apply pw_below_drewN | apply below_alloc))).mono ?_; rintro e w1 ⟨rfl, hd⟩; have z1 := cells1 hd; have z2 := cells1 (bthen hd (below_alloc (Below.refl _ _) (.cells #[.int .i64 f.f0, .int .i64 f.f1, .int .i64 f.f2, .int .i64 f.f3, .int .i64 f.f4, .bool f.f5, .bool f.f6, .int .i64 f.f7, .slice A8 f.f8.length c8, .slice A9 f.f9.length c9, .slice A10 f.f10.length c10] 44))); have HB := asiD (bthen (show Below w.heap.size w _ by repeat (first | exact Below.refl _ _ | apply pw_below_drewN | apply below_alloc)) hd); (have hB := HB.out); (have r0 := (cellL hB q0)); (have r1 := (cellL hB q1)); (have r2 := (cellL hB q2)); (have r3 := (cellL hB q3)); (have r4 := (cellL hB q4)); (have r5 := (cellL hB q5)); (have r6 := (cellL hB q6)); (have r7 := (cellL hB q7)); (have r8 := (cellL hB q8)); (have r9 := (cellL hB q9)); (have r10 := (cellL hB q10)); clear hd hB)
    | (go_at_call 19; with_reducible refine (HSM.out w1 _ _ HB.out rfl).mono ?_; rintro e w2 ⟨rfl, hd⟩; have HB2 := asiD (bthen (show Below w.heap.size w _ from bthen HB.out (by repeat (first | exact Below.refl _ _ | apply pw_below_drewN | apply below_alloc))) hd); clear hd))
  · have hk : (!kindB f) = true := by assumption
    go_ret
    exact ⟨congrArg (fun b => Ending.returned (.bool b)) (Bool.eq_iff_iff.2 (by rw [HBB.out, HP.out]; simp at hk; simp [hk])), HB.out⟩
  · have hk : (!kindB f) = false := by assumption
    go_ret
    exact ⟨congrArg (fun b => Ending.returned (.bool b)) (Bool.eq_iff_iff.2 (by rw [HBB.out, HP.out]; simp at hk; simp [hk])), HB2.out⟩
abbrev nALPH : ByteArray := ⟨#[65, 76, 80, 72]⟩
def payS (k : Int) : ByteArray := if k = 2 then ⟨#[86, 80, 56, 32]⟩ else ⟨#[86, 80, 56, 76]⟩
def alphaV (f : Fr) : List Ch := if 0 < f.f8.length then [⟨nALPH, f.f8⟩] else []
def picV (f : Fr) : List Ch := alphaV f ++ [⟨payS f.f7, f.f9⟩] ++ f.f10
theorem payload_calls (k : Int) (w : World) : Calls Try.prog 81 #[.int .i64 k] w fun e w' => e = .returned (.string (payS k)) ∧ Drawn0 w w' := by
  refine box_payload.calls k _ w ?_
  unfold box_payload.f payS
  by_cases c : k = 2
  · rw [if_pos c, if_pos c]
  · rw [if_neg c, if_neg c]
theorem KL_ch1 {w : World} {s : ByteArray} {l : List Int} {A : Option Addr} {c : Nat} (hc : l.length ≤ c) (h : (Kd.int .u8).C w A l.length l) : KL k42 w [⟨s, l⟩] [.string s, .slice A l.length c] :=
  ⟨[.string s, .slice A l.length c], [], rfl, rfl, k42_mk w ⟨s, l⟩ hc h, rfl⟩
set_option maxHeartbeats 8000000 in
set_option maxRecDepth 100000 in
theorem picture_calls_at (x : Fr) (cs : List Value) (u0 w : World) (hvw : Below u0.heap.size u0 w) (hx : k44.K u0 x cs) (ho : okFr x) (hn : (2 + x.f10.length) * 40 ≤ 140737488355328) :
    Calls Try.prog 55 #[.agg cs.toArray] w fun e w' => ∃ (B : Option Addr) (c : Nat) (xs : List Value), e = .returned (.slice B (picV x).length c) ∧ KL k42 u0 (picV x) xs ∧ St w w' (Asrt.row 42 2 (.slice B (picV x).length c) (picV x).length xs * Asrt.emp) := by
  obtain ⟨A1, c1, A2, c2, A3, c3, rfl, l1, g1, l2, g2, l3, g3⟩ := k44_open hx
  obtain ⟨zs, hzk, hzr⟩ := C_cells g3 (by decide)
  have HS0 := asiD (((St.refl w).alloc #[.int .i64 x.f0, .int .i64 x.f1, .int .i64 x.f2, .int .i64 x.f3, .int .i64 x.f4, .bool x.f5, .bool x.f6, .int .i64 x.f7, .slice A1 x.f8.length c1, .slice A2 x.f9.length c2, .slice A3 x.f10.length c3] 44).rowNil 42 2)
  have HZK := asiD hzk
  have HZR := asiD (hzr.below hvw)
  have HG1 := asiD (KL_ch1 (s := nALPH) l1 g1)
  have HG2 := asiD (KL_ch1 (s := payS x.f7) l2 g2)
  have HPS := asiD (fun W => payload_calls x.f7 W)
  have HN := asiD hn
  clear hx hzk hzr g1 g2 g3 ho hn hvw
  go_enter Try.func55, Try.ntmps55
  go_upto_if 7 with (fail)
  obtain ⟨W0, hW0⟩ : ∃ W0, W0 = w.alloc (.cells #[.int .i64 x.f0, .int .i64 x.f1, .int .i64 x.f2, .int .i64 x.f3, .int .i64 x.f4, .bool x.f5, .bool x.f6, .int .i64 x.f7, .slice A1 x.f8.length c1, .slice A2 x.f9.length c2, .slice A3 x.f10.length c3] 44) := ⟨_, rfl⟩
  obtain ⟨g, hg⟩ : ∃ g, g = w.heap.size := ⟨_, rfl⟩
  rw [← hW0, ← hg] at HS0 ⊢
  clear hW0 hg
  have m8 : W0.cell? ⟨g, 8, none⟩ = some (.slice A1 x.f8.length c1) := (HS0.out.swap.cell 8).trans rfl
  go_cut [3] from 7 to 13 (fun v wc => ∃ (B : Option Addr) (c : Nat) (xs : List Value), v = .slice B (alphaV x).length c ∧ KL k42 u0 (alphaV x) xs ∧ St w wc (Asrt.row 42 2 (.slice B (alphaV x).length c) (alphaV x).length xs * (Asrt.blk g 44 #[.int .i64 x.f0, .int .i64 x.f1, .int .i64 x.f2, .int .i64 x.f3, .int .i64 x.f4, .bool x.f5, .bool x.f6, .int .i64 x.f7, .slice A1 x.f8.length c1, .slice A2 x.f9.length c2, .slice A3 x.f10.length c3] * Asrt.emp)))
  case first =>
    have HA1 : Aside0 (0 < x.f8.length → alphaV x = [⟨nALPH, x.f8⟩]) := ⟨fun hp => by unfold alphaV; rw [if_pos hp]⟩
    have HA0 : Aside0 (¬ 0 < x.f8.length → alphaV x = []) := ⟨fun hp => by unfold alphaV; rw [if_neg hp]⟩
    have HSL := asiD ((HS0.out.allocCells 42 2 1 [.string nALPH, .slice A1 x.f8.length c1] rfl (by decide)).swap)
    go_wp2_with (at_builtin; refine St.append_cells (w0 := w) rfl (.tmp 8) (.tmp 12) 25 42 (.agg #[.string ⟨#[]⟩, .slice none 0 0]) 2 40 rfl Try.underlying25 (by kernel_rfl) rfl (by decide) (by decide) _ 0 [] [.string nALPH, .slice A1 x.f8.length c1] (some ⟨_, 0, none⟩) 1 1 rfl rfl HSL.out (rowReadsC HSL.out.swap (by simp [Value.oneCell'])) (by decide) ?_; intro B1 cB1 w5 hs; have HSP := asiD hs; clear hs)
    · go_meet
      case rel =>
        rw [HA1.out (by assumption)]
        exact ⟨B1, cB1, [.string nALPH, .slice A1 x.f8.length c1], rfl, HG1.out, HSP.out.swap.drop⟩
    · go_meet
      case rel =>
        rw [HA0.out (by assumption)]
        exact ⟨none, 0, [], rfl, rfl, HS0.out⟩
  case rest =>
    obtain ⟨B, c, xs, rfl, hk, hs⟩ := hcut
    clear HS0 m8
    have m7 : wc.cell? ⟨g, 7, none⟩ = some (.int .i64 x.f7) := (hs.swap.cell 7).trans rfl
    have m9 : wc.cell? ⟨g, 9, none⟩ = some (.slice A2 x.f9.length c2) := (hs.swap.cell 9).trans rfl
    have m10 : wc.cell? ⟨g, 10, none⟩ = some (.slice A3 x.f10.length c3) := (hs.swap.cell 10).trans rfl
    have HS := asiD hs
    have HK := asiD hk
    clear hs hk
    go_wp2_with fail
    have hb1 : ((alphaV x).length + 1) * 40 ≤ 140737488355328 := by have := HN.out; unfold alphaV; split <;> simp <;> omega
    have hb2 : ((alphaV x).length + 1 + x.f10.length) * 40 ≤ 140737488355328 := by have := HN.out; unfold alphaV; split <;> simp <;> omega
    have HB1 := asiD hb1
    have HB2 := asiD hb2
    clear hb1 hb2
    go_region_held3 (fun w' => w'.cell? ⟨g, 7, none⟩ = some (.int .i64 x.f7) ∧ w'.cell? ⟨g, 9, none⟩ = some (.slice A2 x.f9.length c2) ∧ w'.cell? ⟨g, 10, none⟩ = some (.slice A3 x.f10.length c3)) (go_keep) (first
      | (go_at_call 81; with_reducible refine (HPS.out _).mono ?_; rintro e w1 ⟨rfl, ⟨n1, rfl⟩⟩)
      | (refine St.append_cells_step (w0 := w) (by rfl) (.tmp 14) (.tmp 21) 25 42 (.agg #[.string ⟨#[]⟩, .slice none 0 0]) 2 40 rfl Try.underlying25 (by kernel_rfl) rfl (by decide) (by decide) _ (alphaV x).length xs [.string (payS x.f7), .slice A2 x.f9.length c2] (some ⟨_, 0, none⟩) 1 1 rfl rfl (((HS.out.drewN (1 + n1)).allocCells 42 2 1 [.string (payS x.f7), .slice A2 x.f9.length c2] rfl (by decide)).swap) (rowReadsC ((HS.out.drewN (1 + n1)).allocCells 42 2 1 [.string (payS x.f7), .slice A2 x.f9.length c2] rfl (by decide)) (by simp [Value.oneCell'])) HB1.out ?_; intro B1 cB1 w5 hs; have HS5 := asiD hs; have q7 := (hs.swap.drop.swap.cell 7).trans rfl; have q9 := (hs.swap.drop.swap.cell 9).trans rfl; have q10 := (hs.swap.drop.swap.cell 10).trans rfl; clear hs)
      | (refine St.append_cells_step (w0 := w) (by rfl) (.tmp 22) (.tmp 24) 25 42 (.agg #[.string ⟨#[]⟩, .slice none 0 0]) 2 40 rfl Try.underlying25 (by kernel_rfl) rfl (by decide) (by decide) _ ((alphaV x).length + 1) (xs ++ [.string (payS x.f7), .slice A2 x.f9.length c2]) zs A3 x.f10.length c3 rfl rfl HS5.out (HZR.out.below HS5.out.below) HB2.out ?_; intro B2 cB2 w6 hs; have HS6 := asiD hs; have r7 := (hs.swap.drop.swap.cell 7).trans rfl; have r9 := (hs.swap.drop.swap.cell 9).trans rfl; have r10 := (hs.swap.drop.swap.cell 10).trans rfl; clear hs))
    go_wp2_with fail
    go_ret
    have hl : (picV x).length = (alphaV x).length + 1 + x.f10.length := by unfold picV; simp only [List.length_append, List.length_singleton]
    rw [hl]
    refine ⟨B2, cB2, xs ++ [.string (payS x.f7), .slice A2 x.f9.length c2] ++ zs, rfl, KL_app (KL_app HK.out HG2.out) HZK.out, ?_⟩
    exact HS6.out.swap.drop.swap.drop
theorem picture_calls (x : Fr) (cs : List Value) (w : World) (hx : k44.K w x cs) (ho : okFr x) (hn : (2 + x.f10.length) * 40 ≤ 140737488355328) :
    Calls Try.prog 55 #[.agg cs.toArray] w fun e w' => ∃ (B : Option Addr) (c : Nat) (xs : List Value), e = .returned (.slice B (picV x).length c) ∧ KL k42 w (picV x) xs ∧ St w w' (Asrt.row 42 2 (.slice B (picV x).length c) (picV x).length xs * Asrt.emp) :=
  picture_calls_at x cs w w (Below.refl _ _) hx ho hn
def pin (w0 : World) (Q : World → Prop) : Asrt where
  holds w F := (∀ k, F k → k < w.heap.size) ∧ ∀ w', Below w0.heap.size w0 w' → (∀ k, F k → w'.heap[k]? = w.heap[k]?) → Q w'
  loc := fun ⟨h1, h2⟩ hm => ⟨fun k hk => by
      have := h1 k hk
      have e := hm k hk
      rw [Array.getElem?_eq_getElem this] at e
      exact (Array.getElem?_eq_some_iff.1 e).1, fun w' hb ha => h2 w' hb fun k hk => (ha k hk).trans (hm k hk)⟩
  lt := fun ⟨h1, _⟩ hk => h1 _ hk
section
variable {w0 w w' : World} {r A : Asrt} {Q Q1 Q2 : World → Prop}
theorem St.pin0 (h : St w0 w r) (hq : ∀ W, Below w0.heap.size w0 W → Q W) : St w0 w (pin w0 Q * r) :=
  h.imp (Asrt.le_trans (Asrt.emp_l' r) (Asrt.mono_l (a := Asrt.emp) (b := pin w0 Q) fun he => ⟨fun k hk => (he k hk).elim, fun W hb _ => hq W hb⟩))
theorem St.pinGet (h : St w0 w (pin w0 Q * r)) : Q w := by
  obtain ⟨hb, F, ⟨G, H, ha, hr, hd, hF⟩, hw⟩ := h
  exact ha.2 w hb fun _ _ => rfl
theorem St.pinImp (h : St w0 w (pin w0 Q * r)) (hi : ∀ W, Below w0.heap.size w0 W → Q W → Q1 W) : St w0 w (pin w0 Q1 * r) :=
  h.imp (Asrt.mono_l (a := pin w0 Q) (b := pin w0 Q1) fun hq => ⟨hq.1, fun W hb ha => hi W hb (hq.2 W hb ha)⟩)
theorem St.pinAnd (h : St w0 w (pin w0 Q1 * (pin w0 Q2 * r))) : St w0 w (pin w0 (fun W => Q1 W ∧ Q2 W) * r) :=
  (h.assoc').imp (Asrt.mono_l (a := pin w0 Q1 * pin w0 Q2) (b := pin w0 fun W => Q1 W ∧ Q2 W) fun ⟨G, H, ha, hb, hd, hF⟩ =>
    ⟨fun k hk => ((hF k).1 hk).elim (ha.1 k) (hb.1 k), fun W hB hm => ⟨ha.2 W hB fun k hk => hm k ((hF k).2 (.inl hk)), hb.2 W hB fun k hk => hm k ((hF k).2 (.inr hk))⟩⟩)
theorem St.pinR {α : Type} {d : Kd α} {e : Nat} {v : Value} {xs : List α} (h : St w0 w A) (hb : Below w.heap.size w w') (hr : Kd.R d e w' w.heap.size (fun _ => True) v xs) :
    ∃ B c, v = .slice B xs.length c ∧ xs.length ≤ c ∧ St w0 w' (pin w0 (fun W => d.C W B xs.length xs) * A) := by
  obtain ⟨B, c, hv, hc, hC⟩ := Kd.R_reads hr
  refine ⟨B, c, hv, hc, ?_⟩
  refine St.move (a := Asrt.emp) (h.imp (Asrt.emp_l' A)) fun F hF _ => ⟨fun k => w.heap.size ≤ k ∧ k < w'.heap.size, ⟨fun k hk => hk.2, fun W hB hm => ?_⟩, hb.os, hb.tape, hb.output, hb.size, fun k hk _ => hb.block k hk, fun k hk => .inr hk.1⟩
  have h2 := Kd.R_move (w1 := W) (Kd.R_bound hr) fun k hk => hm k ⟨hk.2.1, hk.2.2.1⟩
  obtain ⟨B', c', hv', hc', hC'⟩ := Kd.R_reads h2
  rw [hv] at hv'
  injection hv' with e1 e2 e3
  rw [e1]
  exact hC'
theorem St.pinRow {e : TypeId} {k : IntKind} {B : Option Addr} {n c : Nat} {xs : List Int} (h : St w0 w (Asrt.row e 1 (.slice B n c) n (nums k xs) * A)) : St w0 w (pin w0 (fun W => (Kd.int k).C W B n xs) * A) :=
  h.imp (Asrt.mono_l (a := Asrt.row e 1 (.slice B n c) n (nums k xs)) (b := pin w0 fun W => (Kd.int k).C W B n xs) fun {u F} hr =>
    ⟨fun k hk => own_lt hr.1 k ((hr.2 k).1 hk), fun W hB hm => Kd.C_of_reads (readsInt_of.1 (own_reads' (own_move hr.1 fun k hk => hm k ((hr.2 k).2 hk))))⟩)
end
abbrev Nm := S85
def fitN (x : Nm) : Prop := 0 ≤ x.f0 ∧ 1 ≤ x.f1 ∧ x.f1 ≤ 4 ∧ x.f0 < 256 ^ x.f1.toNat
def putV (l : List Nm) : List Int := l.flatMap fun x => Pure.bytes x.f1.toNat x.f0
theorem putV_len {l : List Nm} (h : ∀ x ∈ l, fitN x) : (putV l).length ≤ 4 * l.length := by
  induction l with
  | nil => simp [putV]
  | cons x l ih =>
    have h1 := h x List.mem_cons_self
    have h2 := ih fun y hy => h y (List.mem_cons_of_mem _ hy)
    unfold fitN at h1
    unfold putV at h2 ⊢
    rw [List.flatMap_cons, List.length_append, bytes_len, List.length_cons]
    omega
theorem put_loop {l : List Nm} (hl : l.length ≤ 1000) (h : ∀ x ∈ l, fitN x) (d : Nat) : ∀ (i : Nat) (acc : List Int), i + d = l.length → acc.length ≤ 100000 + 4 * i → Ev (fun k => box_put.l0 k acc l l.length i) (acc ++ putV (l.drop i)) := by
  induction d with
  | zero =>
    intro i acc hi ha
    refine Ev.succ ?_
    simp only [box_put.l0]
    refine Ev.ite_neg (by omega) (Ev.fin ?_)
    rw [List.drop_of_length_le (by omega)]
    simp [putV]
  | succ d ih =>
    intro i acc hi ha
    have hlt : i < l.length := by omega
    refine Ev.succ ?_
    simp only [box_put.l0]
    refine Ev.ite_pos (by omega) (Ev.ite_pos (by omega) (Ev.ite_pos (by omega) ?_))
    have hx : rd_T85 l (i : Int) = l[i] := by
      unfold rd_T85
      rw [show ((i : Int)).toNat = i by omega, List.getD_eq_getElem?_getD, List.getElem?_eq_getElem hlt]
      rfl
    have hf := h _ (List.getElem_mem hlt)
    rw [hx]
    unfold fitN at hf
    have hp : (256 : Int) ^ (l[i].f1).toNat ≤ 4294967296 := by
      have := (pow256 (i := (l[i].f1).toNat) (by omega)).2
      rw [this]
      exact Int.le_trans (pow_le (show 8 * (l[i].f1).toNat ≤ 32 by omega)) (by decide)
    rw [wu64 (by omega) (by omega)]
    refine Ev.bind (le_Put_ev _ _ hf.1 (by omega)) ?_
    rw [put_good ⟨by omega, by omega, hf.2.2.2⟩]
    have hbl := bytes_len (l[i].f1).toNat l[i].f0
    refine Ev.ite_pos (by show acc.length + (Pure.bytes _ _).length < _; omega) ?_
    rw [w64 (by omega) (by omega)]
    have := ih (i + 1) (acc ++ Pure.bytes (l[i].f1).toNat l[i].f0) (by omega) (by rw [List.length_append, hbl]; omega)
    rw [List.drop_eq_getElem_cons hlt]
    unfold putV at this ⊢
    rw [List.flatMap_cons, ← List.append_assoc]
    exact this
theorem put_calls (A : Option Addr) (c : Nat) (l : List Nm) (w : World) (hr : k85.C w A l.length l) (hc : l.length ≤ c) (hl : l.length ≤ 1000) (h : ∀ x ∈ l, fitN x) :
    Calls Try.prog 57 #[.slice A l.length c] w fun e w' => ∃ v, e = .returned v ∧ Kd.R (Kd.int .u8) 5 w' w.heap.size (fun _ => True) v (putV l) ∧ Below w.heap.size w w' := by
  have he : Ev (fun k => box_put.f k l) (putV l) := by
    unfold box_put.f
    have := put_loop hl h l.length 0 [] (Nat.zero_add _) (by simp)
    simpa using this
  obtain ⟨k, hk⟩ := he.rounds
  exact box_put.calls k A c l _ w hr hc hk
abbrev nANMF : ByteArray := ⟨#[65, 78, 77, 70]⟩
def bitI (b : Bool) (n : Int) : Int := if b = true then n else 0
theorem bit_calls (b : Bool) (n : Int) (w : World) : Calls Try.prog 56 #[.bool b, .int .i64 n] w fun e w' => e = .returned (.int .i64 (bitI b n)) ∧ Drawn0 w w' := by
  refine box_bit.calls b n _ w ?_
  unfold box_bit.f bitI
  cases b <;> rfl
def wayI (f : Fr) : Int := Go.bits .or .i64 (bitI f.f5 2) (bitI f.f6 1)
theorem way_eq (f : Fr) : wayI f = bitI f.f5 2 + bitI f.f6 1 := by
  unfold wayI bitI
  cases f.f5 <;> cases f.f6 <;> decide
theorem way_bd (f : Fr) : 0 ≤ wayI f ∧ wayI f ≤ 3 := by
  rw [way_eq]
  unfold bitI
  cases f.f5 <;> cases f.f6 <;> decide
def headV (f : Fr) : List Nm := [⟨f.f0.tdiv 2, 3⟩, ⟨f.f1.tdiv 2, 3⟩, ⟨f.f2 - 1, 3⟩, ⟨f.f3 - 1, 3⟩, ⟨f.f4, 3⟩, ⟨wayI f, 1⟩]
def movedV (f : Fr) : Ch := ⟨nANMF, putV (headV f) ++ lay (picV f)⟩
structure mayP (f : Fr) : Prop where
  x0 : 0 ≤ f.f0 ∧ f.f0 ≤ 16777216
  x1 : 0 ≤ f.f1 ∧ f.f1 ≤ 16777216
  x2 : 1 ≤ f.f2 ∧ f.f2 ≤ 16777216
  x3 : 1 ≤ f.f3 ∧ f.f3 ≤ 16777216
  x4 : 0 ≤ f.f4 ∧ f.f4 < 16777216
  mo : moreB f.f10 = true
  sz : (picV f).length + Pure.weight (picV f) < 10000000
theorem fit3 {x : Int} (h0 : 0 ≤ x) (h1 : x < 16777216) : fitN ⟨x, 3⟩ := ⟨h0, (by decide : (1 : Int) ≤ 3), (by decide : (3 : Int) ≤ 4), h1⟩
theorem fit1 {x : Int} (h0 : 0 ≤ x) (h1 : x < 256) : fitN ⟨x, 1⟩ := ⟨h0, (by decide : (1 : Int) ≤ 1), (by decide : (1 : Int) ≤ 4), h1⟩
theorem head_fit {f : Fr} (h : mayP f) : ∀ x ∈ headV f, fitN x := by
  obtain ⟨x0, x1, x2, x3, x4, _, _⟩ := h
  have hw := way_bd f
  have e0 : f.f0.tdiv 2 = f.f0 / 2 := Int.tdiv_eq_ediv_of_nonneg x0.1
  have e1 : f.f1.tdiv 2 = f.f1 / 2 := Int.tdiv_eq_ediv_of_nonneg x1.1
  intro x hx
  simp only [headV, List.mem_cons, List.not_mem_nil, or_false] at hx
  rcases hx with rfl | rfl | rfl | rfl | rfl | rfl
  · exact fit3 (by omega) (by omega)
  · exact fit3 (by omega) (by omega)
  · exact fit3 (by omega) (by omega)
  · exact fit3 (by omega) (by omega)
  · exact fit3 (by omega) (by omega)
  · exact fit1 (by omega) (by omega)
theorem own_name {s : ByteArray} (h : ownB s = true) : okName s = true := by
  unfold ownB at h
  rw [Bool.and_eq_true] at h
  exact h.1
theorem pic_ok {f : Fr} (h : moreB f.f10 = true) : Pure.ok (picV f) := by
  intro x hx
  unfold picV alphaV at hx
  rcases List.mem_append.1 hx with hx | hx
  · rcases List.mem_append.1 hx with hx | hx
    · split at hx
      · rw [List.mem_singleton.1 hx]; show okName nALPH = true; decide
      · exact absurd hx (by simp)
    · rw [List.mem_singleton.1 hx]
      show okName (payS f.f7) = true
      unfold payS
      split <;> decide
  · exact own_name (List.all_eq_true.1 h x hx)
theorem LayB_calls (A : Option Addr) (c : Nat) (l : List Ch) (w : World) (hr : k42.C w A l.length l) (hc : l.length ≤ c) (hs : l.length + Pure.weight l < 10000000) (hok : Pure.ok l) :
    Calls Try.prog 53 #[.slice A l.length c] w fun e w' => ∃ v : Value, e = .returned (.tuple #[v, .int .i64 0]) ∧ Kd.R (Kd.int .u8) 5 w' w.heap.size (fun _ => True) v (lay l) ∧ Below w.heap.size w w' := by
  obtain ⟨k, hk⟩ := (chunk_Lay_ev hs).rounds
  unfold laid at hk
  rw [if_pos hok] at hk
  exact chunk_Lay.calls k A c l _ _ w hr hc hk
theorem lay_sz {l : List Ch} (h : l.length + Pure.weight l < 10000000) : (lay l).length < 60000000 := by
  have := lay_len l; omega
theorem KL_nums {w : World} : ∀ l : List Nm, KL k85 w l (l.flatMap fun x => [.int .i64 x.f0, .int .i64 x.f1])
  | [] => rfl
  | x :: l => ⟨[.int .i64 x.f0, .int .i64 x.f1], _, rfl, rfl, k85_mk w x, KL_nums l⟩
def litsN (l : List Nm) : List Value := l.flatMap fun x => [.int .i64 x.f0, .int .i64 x.f1]
theorem putLit_calls (X : World) (l : List Nm) (hl : l.length ≤ 1000) (h : ∀ x ∈ l, fitN x) :
    Calls Try.prog 57 #[.slice (some ⟨X.heap.size, 0, none⟩) l.length l.length] (X.alloc (.cells (litsN l).toArray 85)) fun e w' => ∃ v, e = .returned v ∧ Kd.R (Kd.int .u8) 5 w' (X.alloc (.cells (litsN l).toArray 85)).heap.size (fun _ => True) v (putV l) ∧ Below (X.alloc (.cells (litsN l).toArray 85)).heap.size (X.alloc (.cells (litsN l).toArray 85)) w' :=
  put_calls _ _ l _ (C_of_KL (KL_nums l) rfl (by omega) (rowReadsC ((St.refl X).allocCells 85 2 l.length (litsN l) (KL_len (KL_nums (w := X) l)) (by omega)) (KL_one (KL_nums (w := X) l)))) (Nat.le_refl _) hl h
theorem St.put2 {w0 w : World} {r : Asrt} {tb : Nat} {T : TypeId} {a0 a1 : Value} (h : St w0 w (Asrt.blk tb T #[a0, a1] * r)) (v0 v1 : Value) :
    (w.cell? ⟨tb, 0, none⟩ = some a0 ∧ w.frozen? ⟨tb, 0, none⟩ = false) ∧ ((w.setCell ⟨tb, 0, none⟩ v0).cell? ⟨tb, 1, none⟩ = some a1 ∧ (w.setCell ⟨tb, 0, none⟩ v0).frozen? ⟨tb, 1, none⟩ = false) ∧
    St w0 ((w.setCell ⟨tb, 0, none⟩ v0).setCell ⟨tb, 1, none⟩ v1) (Asrt.blk tb T #[v0, v1] * r) := by
  have h1 := h.set 0 v0
  exact ⟨⟨(h.cell 0).trans rfl, h.frozen 0⟩, ⟨(h1.cell 1).trans rfl, h1.frozen 1⟩, h1.set 1 v1⟩
set_option maxHeartbeats 8000000 in
set_option maxRecDepth 100000 in
theorem moved_calls (x : Fr) (cs : List Value) (w : World) (hx : k44.K w x cs) (ho : okFr x) (hm : mayP x) :
    Calls Try.prog 59 #[.agg cs.toArray] w fun e w' => ∃ (B : Option Addr) (c : Nat), e = .returned (.agg #[.string nANMF, .slice B (movedV x).f1.length c]) ∧ (movedV x).f1.length ≤ c ∧ St w w' (Asrt.row 5 1 (.slice B (movedV x).f1.length c) (movedV x).f1.length (nums .u8 (movedV x).f1) * Asrt.emp) := by
  have HX := asiD hx
  obtain ⟨A1, c1, A2, c2, A3, c3, rfl, l1, g1, l2, g2, l3, g3⟩ := k44_open hx
  have hpl : (picV x).length < 10000000 := by have := hm.sz; omega
  have hsz := lay_sz hm.sz
  have hcnt : (2 + x.f10.length) * 40 ≤ 140737488355328 := by
    have h2 := hm.sz
    unfold picV at h2
    simp only [List.length_append, List.length_singleton] at h2
    omega
  have HP := asiD fun (W : World) (hb : Below w.heap.size w W) => picture_calls x _ W (k44.K_below hb hx) ho hcnt
  have HS0 := asiD (((St.refl w).alloc #[.int .i64 x.f0, .int .i64 x.f1, .int .i64 x.f2, .int .i64 x.f3, .int .i64 x.f4, .bool x.f5, .bool x.f6, .int .i64 x.f7, .slice A1 x.f8.length c1, .slice A2 x.f9.length c2, .slice A3 x.f10.length c3] 44).alloc #[.string ⟨#[]⟩, .slice none 0 0] 42)
  have HM := asiD hm
  have HBT := asiD (fun b n W => bit_calls b n W)
  clear hx g1 g2 g3 ho hcnt
  go_enter Try.func59, Try.ntmps59
  go_upto_region 1 with (fail)
  obtain ⟨W0, hW0⟩ : ∃ W0, W0 = (w.alloc (.cells #[.int .i64 x.f0, .int .i64 x.f1, .int .i64 x.f2, .int .i64 x.f3, .int .i64 x.f4, .bool x.f5, .bool x.f6, .int .i64 x.f7, .slice A1 x.f8.length c1, .slice A2 x.f9.length c2, .slice A3 x.f10.length c3] 44)).alloc (.cells #[.string ⟨#[]⟩, .slice none 0 0] 42) := ⟨_, rfl⟩
  obtain ⟨g, hg⟩ : ∃ g, g = w.heap.size := ⟨_, rfl⟩
  rw [← hW0, show (w.alloc (.cells #[.int .i64 x.f0, .int .i64 x.f1, .int .i64 x.f2, .int .i64 x.f3, .int .i64 x.f4, .bool x.f5, .bool x.f6, .int .i64 x.f7, .slice A1 x.f8.length c1, .slice A2 x.f9.length c2, .slice A3 x.f10.length c3] 44)).heap.size = g + 1 by rw [hg]; simp, ← hg] at HS0
  rw [← hW0, ← hg]
  clear hW0 hg
  have z0 := fun i => HS0.out.swap.cell i
  go_wp2_with (first
    | (go_at_call 55; with_reducible refine (HP.out _ HS0.out.below).mono ?_; rintro e w1 ⟨B, c, xs, rfl, hk, hs⟩; have HS1 := asiD (HS0.out.frame hs); have HK1 := asiD (C_of_KL (KL_below hs.below hk) rfl (by omega) (rowReadsC hs (KL_one (KL_below hs.below hk)))); have HC1 := asiD (own_le hs.row); clear hk hs z0)
    | (go_at_call 53; refine (LayB_calls B c (picV x) w1 HK1.out HC1.out HM.out.sz (pic_ok HM.out.mo)).mono ?_; rintro e w2 ⟨v, rfl, hr, hb⟩; obtain ⟨B2, cc2, rfl, hc2, hs2⟩ := HS1.out.pinR hb hr; have HS2 := asiD hs2.swap.drop; have HC2 := asiD hc2; clear hs2 hr hb hc2))
  have hm := HM.out
  have hxx := hm.x0
  have hxy := hm.x1
  have hxw := hm.x2
  have hxh := hm.x3
  have HFIT := asiD (head_fit hm)
  have e0 : IntKind.i64.wrap (x.f0.tdiv 2) = x.f0.tdiv 2 := wi64 (by rw [Int.tdiv_eq_ediv_of_nonneg hxx.1]; omega) (by rw [Int.tdiv_eq_ediv_of_nonneg hxx.1]; omega)
  have e1 : IntKind.i64.wrap (x.f1.tdiv 2) = x.f1.tdiv 2 := wi64 (by rw [Int.tdiv_eq_ediv_of_nonneg hxy.1]; omega) (by rw [Int.tdiv_eq_ediv_of_nonneg hxy.1]; omega)
  have e2 : IntKind.i64.wrap (x.f2 - 1) = x.f2 - 1 := wi64 (by omega) (by omega)
  have e3 : IntKind.i64.wrap (x.f3 - 1) = x.f3 - 1 := wi64 (by omega) (by omega)
  clear hm hxx hxy hxw hxh
  have m0 : w2.cell? ⟨g, 0, none⟩ = some (.int .i64 x.f0) := (HS2.out.rot3.cell 0).trans rfl
  have m1 : w2.cell? ⟨g, 1, none⟩ = some (.int .i64 x.f1) := (HS2.out.rot3.cell 1).trans rfl
  have m2 : w2.cell? ⟨g, 2, none⟩ = some (.int .i64 x.f2) := (HS2.out.rot3.cell 2).trans rfl
  have m3 : w2.cell? ⟨g, 3, none⟩ = some (.int .i64 x.f3) := (HS2.out.rot3.cell 3).trans rfl
  have m4 : w2.cell? ⟨g, 4, none⟩ = some (.int .i64 x.f4) := (HS2.out.rot3.cell 4).trans rfl
  have m5 : w2.cell? ⟨g, 5, none⟩ = some (.bool x.f5) := (HS2.out.rot3.cell 5).trans rfl
  have m6 : w2.cell? ⟨g, 6, none⟩ = some (.bool x.f6) := (HS2.out.rot3.cell 6).trans rfl
  have HBT2 := HBT
  go_region_held3 (fun w' => w'.cell? ⟨g, 0, none⟩ = some (.int .i64 x.f0) ∧ w'.cell? ⟨g, 1, none⟩ = some (.int .i64 x.f1) ∧ w'.cell? ⟨g, 2, none⟩ = some (.int .i64 x.f2) ∧ w'.cell? ⟨g, 3, none⟩ = some (.int .i64 x.f3) ∧ w'.cell? ⟨g, 4, none⟩ = some (.int .i64 x.f4) ∧ w'.cell? ⟨g, 5, none⟩ = some (.bool x.f5) ∧ w'.cell? ⟨g, 6, none⟩ = some (.bool x.f6)) (go_keep) (first
    | (go_at_call 56; with_reducible refine (HBT.out _ _ _).mono ?_; clear HBT; rintro e w1 ⟨rfl, ⟨n1, rfl⟩⟩)
    | (go_at_call 56; with_reducible refine (HBT2.out _ _ _).mono ?_; clear HBT2; rintro e w1 ⟨rfl, ⟨n2, rfl⟩⟩)
    | (go_at_call 57; refine (putLit_calls (w2.drewN (1 + n1 + n2)) (headV x) (by simp [headV]) HFIT.out).mono ?_; rintro e w4 ⟨v4, rfl, hr, hb⟩; have h4 := (((HS2.out.drewN (1 + n1 + n2)).alloc (litsN (headV x)).toArray 85)).newRow hb (Kd.own_of_R hr) (Nat.le_refl _); obtain ⟨B4, c4, rfl⟩ := Kd.R_slice hr; have HS4 := asiD h4; have q0 := (h4.drop.drop.rot3.cell 0).trans rfl; have q1 := (h4.drop.drop.rot3.cell 1).trans rfl; have q2 := (h4.drop.drop.rot3.cell 2).trans rfl; have q3 := (h4.drop.drop.rot3.cell 3).trans rfl; have q4 := (h4.drop.drop.rot3.cell 4).trans rfl; have q5 := (h4.drop.drop.rot3.cell 5).trans rfl; have q6 := (h4.drop.drop.rot3.cell 6).trans rfl; clear h4 hr hb))
  have hpn := putV_len HFIT.out
  have hbytes : ((putV (headV x)).length + (lay (picV x)).length) * 1 ≤ 140737488355328 := by
    have h6 : (headV x).length = 6 := rfl
    omega
  have HRI := asiD (C_reads HS4.out.drop.drop.pinGet)
  have HV : Aside0 ((movedV x).f1 = putV (headV x) ++ lay (picV x)) := ⟨rfl⟩
  have HVL : Aside0 ((movedV x).f1.length = (putV (headV x)).length + (lay (picV x)).length) := ⟨by rw [HV.out, List.length_append]⟩
  clear m0 m1 m2 m3 m4 m5 m6 e0 e1 e2 e3 hpn hsz
  go_wp2_with (at_builtin; refine St.append_row (w0 := w) rfl (.tmp 41) (.tmp 42) 23 5 .u8 1 rfl Try.underlying23 (by kernel_rfl) (by decide) _ (putV (headV x)).length (putV (headV x)) (lay (picV x)) B2 (lay (picV x)).length cc2 rfl rfl HS4.out HRI.out hbytes ?_; intro B5 c5 w5 hs; obtain ⟨⟨n0, p0⟩, ⟨n1, p1⟩, hs7⟩ := (hs.swap.drop.swap.drop.swap).put2 (.string nANMF) (.slice B5 ((putV (headV x)).length + (lay (picV x)).length) c5); have HLE := asiD (own_le hs.row); have HS7 := asiD hs7; clear hs hs7)
  refine bodyPost_ret (results_cell_row rfl _ _ (g + 1) 42 #[.string nANMF, .slice B5 ((putV (headV x)).length + (lay (picV x)).length) c5] (0, 0) _ rfl HS7.out.blk Try.underlying42 rfl (by kernel_rfl)) rfl ?_
  rw [HVL.out]
  exact ⟨B5, c5, rfl, HLE.out, HS7.out.drop.swap.drop⟩
def addL (has : Bool) (nm : ByteArray) (b : List Int) (l : List Ch) : List Ch := if has = true then l ++ [⟨nm, b⟩] else l
def outA (w : World) (tb : Nat) (l : List Ch) (B : Option Addr) (c : Nat) (xs : List Value) (r : Asrt) : Asrt :=
  Asrt.blk tb 25 #[.slice B l.length c] * (Asrt.row 42 2 (.slice B l.length c) l.length xs * (pin w (fun W => KL k42 W l xs) * r))
set_option maxHeartbeats 8000000 in
set_option maxRecDepth 100000 in
theorem add_calls (has : Bool) (nm : ByteArray) (A : Option Addr) (b : List Int) (c tb : Nat) (l : List Ch) (B : Option Addr) (cB : Nat) (xs : List Value) (r : Asrt) (w W : World) (hc : b.length ≤ c) (hl : (l.length + 1) * 40 ≤ 140737488355328)
    (hS : St w W (outA w tb l B cB xs (pin w (fun W => (Kd.int .u8).C W A b.length b) * r))) :
    Calls Try.prog 58 #[.bool has, .string nm, .slice A b.length c, .pointer (some ⟨tb, 0, none⟩)] W fun e w' => e = .returned (.tuple #[]) ∧ ∃ B' c' xs', St w w' (outA w tb (addL has nm b l) B' c' xs' r) := by
  unfold outA at hS
  have m0 : W.cell? ⟨tb, 0, none⟩ = some (.slice B l.length cB) := (hS.cell 0).trans rfl
  cases has with
  | false =>
    have HS := asiD hS
    clear hS
    go_enter Try.func58, Try.ntmps58
    go_wp2_with fail
    go_end0
    exact ⟨rfl, B, cB, xs, HS.out.rot4.drop⟩
  | true =>
    have HS := asiD hS.swap
    clear hS
    go_enter Try.func58, Try.ntmps58
    go_upto_region 1 with (fail)
    have HSL := asiD ((HS.out.allocCells 42 2 1 [.string nm, .slice A b.length c] rfl (by decide)).swap)
    go_wp2_with (at_builtin; refine St.append_cells (w0 := w) rfl (.tmp 8) (.tmp 12) 25 42 (.agg #[.string ⟨#[]⟩, .slice none 0 0]) 2 40 rfl Try.underlying25 (by kernel_rfl) rfl (by decide) (by decide) _ l.length xs [.string nm, .slice A b.length c] (some ⟨_, 0, none⟩) 1 1 rfl rfl HSL.out (rowReadsC HSL.out.swap (by simp [Value.oneCell'])) hl ?_; intro B1 cB1 w5 hs; have HSP := asiD hs.rot3; have p0 := (hs.rot3.cell 0).trans rfl; have q0 := hs.rot3.frozen 0; clear hs)
    go_end0
    have h := (HSP.out.set 0 (.slice B1 (l.length + 1) cB1)).rot3.drop.rot4.rot4.pinAnd
    have h2 := (h.pinImp (Q1 := fun W => KL k42 W (l ++ [⟨nm, b⟩]) (xs ++ [.string nm, .slice A b.length c])) fun W _ hq => KL_app hq.1 (KL_ch1 hc hq.2)).rot3.rot3
    refine ⟨rfl, B1, cB1, xs ++ [.string nm, .slice A b.length c], ?_⟩
    unfold outA addL
    rw [if_pos rfl, List.length_append]
    exact h2
end Go.Proofs.Ythkocpcjcpohcaa.P
end
