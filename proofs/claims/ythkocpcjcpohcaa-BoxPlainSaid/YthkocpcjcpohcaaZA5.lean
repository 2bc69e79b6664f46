/- The part of our texts, and of the print's, that these laws' proofs use. -/
import Derived.Test.YthkocpcjcpohcaaZA4
import Derived.RegionTactic
import Derived.ChangeAlike
import Derived.BigRegion
section
namespace Go.Proofs.Ythkocpcjcpohcaa.P
open Go Go.RowKit Go.Proofs.YthkocpcjcpohcaaW.PrintWords Go.Proofs.YthkocpcjcpohcaaW.PrintLast Go.Proofs.YthkocpcjcpohcaaW.PrintMore Go.Proofs.Ythkocpcjcpohcaa.U Go.Proofs.Ythkocpcjcpohcaa.Pure
set_option linter.unusedVariables false
set_option linter.unusedSimpArgs false
attribute [local go_sem] max2_int min2_int max_two min_two max_three min_three max_four min_four
abbrev nANMF : ByteArray := ⟨#[65, 78, 77, 70]⟩
def bitI (b : Bool) (n : Int) : Int := if b = true then n else 0
theorem bit_calls (b : Bool) (n : Int) (w : World) : Calls Try.prog 56 #[.bool b, .int .i64 n] w fun e w' => e = .returned (.int .i64 (bitI b n)) ∧ Drawn0 w w' := by
  refine box_bit.calls b n _ w ?_
  unfold box_bit.f bitI
  cases b <;> rfl
def wayI (f : Fr) : Int := Go.bits .or .i64 (bitI f.f5 2) (bitI f.f6 1)
theorem way_eq (f : Fr) : wayI f = bitI f.f5 2 + bitI f.f6 1 := by
  unfold wayI bitI
  cases f.f5 <;> cases f.f6 <;> decide
theorem way_bd (f : Fr) : 0 ≤ wayI f ∧ wayI f ≤ 3 := by
  rw [way_eq]
  unfold bitI
  cases f.f5 <;> cases f.f6 <;> decide
def headV (f : Fr) : List Nm := [⟨f.f0.tdiv 2, 3⟩, ⟨f.f1.tdiv 2, 3⟩, ⟨f.f2 - 1, 3⟩, ⟨f.f3 - 1, 3⟩, ⟨f.f4, 3⟩, ⟨wayI f, 1⟩]
def movedV (f : Fr) : Ch := ⟨nANMF, putV (headV f) ++ lay (picV f)⟩
structure mayP (f : Fr) : Prop where
  x0 : 0 ≤ f.f0 ∧ f.f0 ≤ 16777216
  x1 : 0 ≤ f.f1 ∧ f.f1 ≤ 16777216
  x2 : 1 ≤ f.f2 ∧ f.f2 ≤ 16777216
  x3 : 1 ≤ f.f3 ∧ f.f3 ≤ 16777216
  x4 : 0 ≤ f.f4 ∧ f.f4 < 16777216
  mo : moreB f.f10 = true
  sz : (picV f).length + Pure.weight (picV f) < 10000000
theorem fit3 {x : Int} (h0 : 0 ≤ x) (h1 : x < 16777216) : fitN ⟨x, 3⟩ := ⟨h0, (by decide : (1 : Int) ≤ 3), (by decide : (3 : Int) ≤ 4), h1⟩
theorem fit1 {x : Int} (h0 : 0 ≤ x) (h1 : x < 256) : fitN ⟨x, 1⟩ := ⟨h0, (by decide : (1 : Int) ≤ 1), (by decide : (1 : Int) ≤ 4), h1⟩
theorem head_fit {f : Fr} (h : mayP f) : ∀ x ∈ headV f, fitN x := by
  obtain ⟨x0, x1, x2, x3, x4, _, _⟩ := h
  have hw := way_bd f
  have e0 : f.f0.tdiv 2 = f.f0 / 2 := Int.tdiv_eq_ediv_of_nonneg x0.1
  have e1 : f.f1.tdiv 2 = f.f1 / 2 := Int.tdiv_eq_ediv_of_nonneg x1.1
  intro x hx
  simp only [headV, List.mem_cons, List.not_mem_nil, or_false] at hx
  rcases hx with rfl | rfl | rfl | rfl | rfl | rfl
  · exact fit3 (by omega) (by omega)
  · exact fit3 (by omega) (by omega)
  · exact fit3 (by omega) (by omega)
  · exact fit3 (by omega) (by omega)
  · exact fit3 (by omega) (by omega)
  · exact fit1 (by omega) (by omega)
theorem own_name {s : ByteArray} (h : ownB s = true) : okName s = true := by
  unfold ownB at h
  rw [Bool.and_eq_true] at h
  exact h.1
theorem pic_ok {f : Fr} (h : moreB f.f10 = true) : Pure.ok (picV f) := by
  intro x hx
  unfold picV alphaV at hx
  rcases List.mem_append.1 hx with hx | hx
  · rcases List.mem_append.1 hx with hx | hx
    · split at hx
      · rw [List.mem_singleton.1 hx]; show okName nALPH = true; decide
      · exact absurd hx (by simp)
    · rw [List.mem_singleton.1 hx]
      show okName (payS f.f7) = true
      unfold payS
      split <;> decide
  · exact own_name (List.all_eq_true.1 h x hx)
theorem LayB_calls (A : Option Addr) (c : Nat) (l : List Ch) (w : World) (hr : k42.C w A l.length l) (hc : l.length ≤ c) (hs : l.length + Pure.weight l < 10000000) (hok : Pure.ok l) :
    Calls Try.prog 53 #[.slice A l.length c] w fun e w' => ∃ v : Value, e = .returned (.tuple #[v, .int .i64 0]) ∧ Kd.R (Kd.int .u8) 5 w' w.heap.size (fun _ => True) v (lay l) ∧ Below w.heap.size w w' := by
  obtain ⟨k, hk⟩ := (chunk_Lay_ev hs).rounds
  unfold laid at hk
  rw [if_pos hok] at hk
  exact chunk_Lay.calls k A c l _ _ w hr hc hk
theorem lay_sz {l : List Ch} (h : l.length + Pure.weight l < 10000000) : (lay l).length < 60000000 := by
  have := lay_len l; omega
theorem KL_nums {w : World} : ∀ l : List Nm, KL k85 w l (l.flatMap fun x => [.int .i64 x.f0, .int .i64 x.f1])
  | [] => rfl
  | x :: l => ⟨[.int .i64 x.f0, .int .i64 x.f1], _, rfl, rfl, k85_mk w x, KL_nums l⟩
def litsN (l : List Nm) : List Value := l.flatMap fun x => [.int .i64 x.f0, .int .i64 x.f1]
theorem putLit_calls (X : World) (l : List Nm) (hl : l.length ≤ 1000) (h : ∀ x ∈ l, fitN x) :
    Calls Try.prog 57 #[.slice (some ⟨X.heap.size, 0, none⟩) l.length l.length] (X.alloc (.cells (litsN l).toArray 85)) fun e w' => ∃ v, e = .returned v ∧ Kd.R (Kd.int .u8) 5 w' (X.alloc (.cells (litsN l).toArray 85)).heap.size (fun _ => True) v (putV l) ∧ Below (X.alloc (.cells (litsN l).toArray 85)).heap.size (X.alloc (.cells (litsN l).toArray 85)) w' :=
  put_calls _ _ l _ (C_of_KL (KL_nums l) rfl (by omega) (rowReadsC ((St.refl X).allocCells 85 2 l.length (litsN l) (KL_len (KL_nums (w := X) l)) (by omega)) (KL_one (KL_nums (w := X) l)))) (Nat.le_refl _) hl h
theorem St.put2 {w0 w : World} {r : Asrt} {tb : Nat} {T : TypeId} {a0 a1 : Value} (h : St w0 w (Asrt.blk tb T #[a0, a1] * r)) (v0 v1 : Value) :
    (w.cell? ⟨tb, 0, none⟩ = some a0 ∧ w.frozen? ⟨tb, 0, none⟩ = false) ∧ ((w.setCell ⟨tb, 0, none⟩ v0).cell? ⟨tb, 1, none⟩ = some a1 ∧ (w.setCell ⟨tb, 0, none⟩ v0).frozen? ⟨tb, 1, none⟩ = false) ∧
    St w0 ((w.setCell ⟨tb, 0, none⟩ v0).setCell ⟨tb, 1, none⟩ v1) (Asrt.blk tb T #[v0, v1] * r) := by
  have h1 := h.set 0 v0
  exact ⟨⟨(h.cell 0).trans rfl, h.frozen 0⟩, ⟨(h1.cell 1).trans rfl, h1.frozen 1⟩, h1.set 1 v1⟩
set_option maxHeartbeats 8000000 in
set_option maxRecDepth 100000 in
theorem moved_calls (x : Fr) (cs : List Value) (w : World) (hx : k44.K w x cs) (ho : okFr x) (hm : mayP x) :
    Calls Try.prog 59 #[.agg cs.toArray] w fun e w' => ∃ (B : Option Addr) (c : Nat), e = .returned (.agg #[.string nANMF, .slice B (movedV x).f1.length c]) ∧ (movedV x).f1.length ≤ c ∧ St w w' (Asrt.row 5 1 (.slice B (movedV x).f1.length c) (movedV x).f1.length (nums .u8 (movedV x).f1) * Asrt.emp) := by
  have HX := Aside0.mk hx
  obtain ⟨A1, c1, A2, c2, A3, c3, rfl, l1, g1, l2, g2, l3, g3⟩ := k44_open hx
  have hpl : (picV x).length < 10000000 := by have := hm.sz; omega
  have hsz := lay_sz hm.sz
  have hcnt : (2 + x.f10.length) * 40 ≤ 140737488355328 := by
    have h2 := hm.sz
    unfold picV at h2
    simp only [List.length_append, List.length_singleton] at h2
    omega
  have HP := Aside0.mk fun (W : World) (hb : Below w.heap.size w W) => picture_calls x _ W (k44.K_below hb hx) ho hcnt
  have HS0 := Aside0.mk (((St.refl w).alloc #[.int .i64 x.f0, .int .i64 x.f1, .int .i64 x.f2, .int .i64 x.f3, .int .i64 x.f4, .bool x.f5, .bool x.f6, .int .i64 x.f7, .slice A1 x.f8.length c1, .slice A2 x.f9.length c2, .slice A3 x.f10.length c3] 44).alloc #[.string ⟨#[]⟩, .slice none 0 0] 42)
  have HM := Aside0.mk hm
  have HBT := Aside0.mk (fun b n W => bit_calls b n W)
  clear hx g1 g2 g3 ho hcnt
  go_enter Try.func59, Try.ntmps59
  go_upto_region 1 with (fail)
  obtain ⟨W0, hW0⟩ : ∃ W0, W0 = (w.alloc (.cells #[.int .i64 x.f0, .int .i64 x.f1, .int .i64 x.f2, .int .i64 x.f3, .int .i64 x.f4, .bool x.f5, .bool x.f6, .int .i64 x.f7, .slice A1 x.f8.length c1, .slice A2 x.f9.length c2, .slice A3 x.f10.length c3] 44)).alloc (.cells #[.string ⟨#[]⟩, .slice none 0 0] 42) := ⟨_, rfl⟩
  obtain ⟨g, hg⟩ : ∃ g, g = w.heap.size := ⟨_, rfl⟩
  rw [← hW0, show (w.alloc (.cells #[.int .i64 x.f0, .int .i64 x.f1, .int .i64 x.f2, .int .i64 x.f3, .int .i64 x.f4, .bool x.f5, .bool x.f6, .int .i64 x.f7, .slice A1 x.f8.length c1, .slice A2 x.f9.length c2, .slice A3 x.f10.length c3] 44)).heap.size = g + 1 by rw [hg]; simp, ← hg] at HS0
  rw [← hW0, ← hg]
  clear hW0 hg
  have z0 := fun i => HS0.out.swap.cell i
  go_wp2_with (first
    | (go_at_call 55; with_reducible refine (HP.out _ HS0.out.below).mono ?_; rintro e w1 ⟨B, c, xs, rfl, hk, hs⟩; have HS1 := Aside0.mk (HS0.out.frame hs); have HK1 := Aside0.mk (C_of_KL (KL_below hs.below hk) rfl (by omega) (rowReadsC hs (KL_one (KL_below hs.below hk)))); have HC1 := Aside0.mk (own_le hs.row); clear hk hs z0)
    | (go_at_call 53; refine (LayB_calls B c (picV x) w1 HK1.out HC1.out HM.out.sz (pic_ok HM.out.mo)).mono ?_; rintro e w2 ⟨v, rfl, hr, hb⟩; obtain ⟨B2, cc2, rfl, hc2, hs2⟩ := HS1.out.pinR hb hr; have HS2 := Aside0.mk hs2.swap.drop; have HC2 := Aside0.mk hc2; clear hs2 hr hb hc2))
  have hm := HM.out
  have hxx := hm.x0
  have hxy := hm.x1
  have hxw := hm.x2
  have hxh := hm.x3
  have HFIT := Aside0.mk (head_fit hm)
  have e0 : IntKind.i64.wrap (x.f0.tdiv 2) = x.f0.tdiv 2 := wi64 (by rw [Int.tdiv_eq_ediv_of_nonneg hxx.1]; omega) (by rw [Int.tdiv_eq_ediv_of_nonneg hxx.1]; omega)
  have e1 : IntKind.i64.wrap (x.f1.tdiv 2) = x.f1.tdiv 2 := wi64 (by rw [Int.tdiv_eq_ediv_of_nonneg hxy.1]; omega) (by rw [Int.tdiv_eq_ediv_of_nonneg hxy.1]; omega)
  have e2 : IntKind.i64.wrap (x.f2 - 1) = x.f2 - 1 := wi64 (by omega) (by omega)
  have e3 : IntKind.i64.wrap (x.f3 - 1) = x.f3 - 1 := wi64 (by omega) (by omega)
  clear hm hxx hxy hxw hxh
  have m0 : w2.cell? ⟨g, 0, none⟩ = some (.int .i64 x.f0) := (HS2.out.rot3.cell 0).trans rfl
  have m1 : w2.cell? ⟨g, 1, none⟩ = some (.int .i64 x.f1) := (HS2.out.rot3.cell 1).trans rfl
  have m2 : w2.cell? ⟨g, 2, none⟩ = some (.int .i64 x.f2) := (HS2.out.rot3.cell 2).trans rfl
  have m3 : w2.cell? ⟨g, 3, none⟩ = some (.int .i64 x.f3) := (HS2.out.rot3.cell 3).trans rfl
  have m4 : w2.cell? ⟨g, 4, none⟩ = some (.int .i64 x.f4) := (HS2.out.rot3.cell 4).trans rfl
  have m5 : w2.cell? ⟨g, 5, none⟩ = some (.bool x.f5) := (HS2.out.rot3.cell 5).trans rfl
  have m6 : w2.cell? ⟨g, 6, none⟩ = some (.bool x.f6) := (HS2.out.rot3.cell 6).trans rfl
  have HBT2 := HBT
  go_region_held3 (fun w' => w'.cell? ⟨g, 0, none⟩ = some (.int .i64 x.f0) ∧ w'.cell? ⟨g, 1, none⟩ = some (.int .i64 x.f1) ∧ w'.cell? ⟨g, 2, none⟩ = some (.int .i64 x.f2) ∧ w'.cell? ⟨g, 3, none⟩ = some (.int .i64 x.f3) ∧ w'.cell? ⟨g, 4, none⟩ = some (.int .i64 x.f4) ∧ w'.cell? ⟨g, 5, none⟩ = some (.bool x.f5) ∧ w'.cell? ⟨g, 6, none⟩ = some (.bool x.f6)) (go_keep) (first
    | (go_at_call 56; with_reducible refine (HBT.out _ _ _).mono ?_; clear HBT; rintro e w1 ⟨rfl, ⟨n1, rfl⟩⟩)
    | (go_at_call 56; with_reducible refine (HBT2.out _ _ _).mono ?_; clear HBT2; rintro e w1 ⟨rfl, ⟨n2, rfl⟩⟩)
    | (go_at_call 57; refine (putLit_calls (w2.drewN (1 + n1 + n2)) (headV x) (by simp [headV]) HFIT.out).mono ?_; rintro e w4 ⟨v4, rfl, hr, hb⟩; have h4 := (((HS2.out.drewN (1 + n1 + n2)).alloc (litsN (headV x)).toArray 85)).newRow hb (Kd.own_of_R hr) (Nat.le_refl _); obtain ⟨B4, c4, rfl⟩ := Kd.R_slice hr; have HS4 := Aside0.mk h4; have q0 := (h4.drop.drop.rot3.cell 0).trans rfl; have q1 := (h4.drop.drop.rot3.cell 1).trans rfl; have q2 := (h4.drop.drop.rot3.cell 2).trans rfl; have q3 := (h4.drop.drop.rot3.cell 3).trans rfl; have q4 := (h4.drop.drop.rot3.cell 4).trans rfl; have q5 := (h4.drop.drop.rot3.cell 5).trans rfl; have q6 := (h4.drop.drop.rot3.cell 6).trans rfl; clear h4 hr hb))
  have hpn := putV_len HFIT.out
  have hbytes : ((putV (headV x)).length + (lay (picV x)).length) * 1 ≤ 140737488355328 := by
    have h6 : (headV x).length = 6 := rfl
    omega
  have HRI := Aside0.mk (C_reads HS4.out.drop.drop.pinGet)
  have HV : Aside0 ((movedV x).f1 = putV (headV x) ++ lay (picV x)) := ⟨rfl⟩
  have HVL : Aside0 ((movedV x).f1.length = (putV (headV x)).length + (lay (picV x)).length) := ⟨by rw [HV.out, List.length_append]⟩
  clear m0 m1 m2 m3 m4 m5 m6 e0 e1 e2 e3 hpn hsz
  go_wp2_with (at_builtin; refine St.append_row (w0 := w) rfl (.tmp 41) (.tmp 42) 23 5 .u8 1 rfl Try.underlying23 (by kernel_rfl) (by decide) _ (putV (headV x)).length (putV (headV x)) (lay (picV x)) B2 (lay (picV x)).length cc2 rfl rfl HS4.out HRI.out hbytes ?_; intro B5 c5 w5 hs; obtain ⟨⟨n0, p0⟩, ⟨n1, p1⟩, hs7⟩ := (hs.swap.drop.swap.drop.swap).put2 (.string nANMF) (.slice B5 ((putV (headV x)).length + (lay (picV x)).length) c5); have HLE := Aside0.mk (own_le hs.row); have HS7 := Aside0.mk hs7; clear hs hs7)
  refine bodyPost_ret (results_cell_row rfl _ _ (g + 1) 42 #[.string nANMF, .slice B5 ((putV (headV x)).length + (lay (picV x)).length) c5] (0, 0) _ rfl HS7.out.blk Try.underlying42 rfl (by kernel_rfl)) rfl ?_
  rw [HVL.out]
  exact ⟨B5, c5, rfl, HLE.out, HS7.out.drop.swap.drop⟩
end Go.Proofs.Ythkocpcjcpohcaa.P
end
section
namespace Go.Proofs.Ythkocpcjcpohcaa.P
open Go Go.RowKit Go.Proofs.YthkocpcjcpohcaaW.PrintWords Go.Proofs.YthkocpcjcpohcaaW.PrintLast Go.Proofs.YthkocpcjcpohcaaW.PrintMore Go.Proofs.Ythkocpcjcpohcaa.U Go.Proofs.Ythkocpcjcpohcaa.Pure
set_option linter.unusedVariables false
set_option linter.unusedSimpArgs false
attribute [local go_sem] max2_int min2_int max_two min_two max_three min_three max_four min_four
def addL (has : Bool) (nm : ByteArray) (b : List Int) (l : List Ch) : List Ch := if has = true then l ++ [⟨nm, b⟩] else l
def outA (w : World) (tb : Nat) (l : List Ch) (B : Option Addr) (c : Nat) (xs : List Value) (r : Asrt) : Asrt :=
  Asrt.blk tb 25 #[.slice B l.length c] * (Asrt.row 42 2 (.slice B l.length c) l.length xs * (pin w (fun W => KL k42 W l xs) * r))
set_option maxHeartbeats 8000000 in
set_option maxRecDepth 100000 in
theorem add_calls (has : Bool) (nm : ByteArray) (A : Option Addr) (b : List Int) (c tb : Nat) (l : List Ch) (B : Option Addr) (cB : Nat) (xs : List Value) (r : Asrt) (w W : World) (hc : b.length ≤ c) (hl : (l.length + 1) * 40 ≤ 140737488355328)
    (hS : St w W (outA w tb l B cB xs (pin w (fun W => (Kd.int .u8).C W A b.length b) * r))) :
    Calls Try.prog 58 #[.bool has, .string nm, .slice A b.length c, .pointer (some ⟨tb, 0, none⟩)] W fun e w' => e = .returned (.tuple #[]) ∧ ∃ B' c' xs', St w w' (outA w tb (addL has nm b l) B' c' xs' r) := by
  unfold outA at hS
  have m0 : W.cell? ⟨tb, 0, none⟩ = some (.slice B l.length cB) := (hS.cell 0).trans rfl
  cases has with
  | false =>
    have HS := Aside0.mk hS
    clear hS
    go_enter Try.func58, Try.ntmps58
    go_wp2_with fail
    go_end0
    exact ⟨rfl, B, cB, xs, HS.out.rot4.drop⟩
  | true =>
    have HS := Aside0.mk hS.swap
    clear hS
    go_enter Try.func58, Try.ntmps58
    go_upto_region 1 with (fail)
    have HSL := Aside0.mk ((HS.out.allocCells 42 2 1 [.string nm, .slice A b.length c] rfl (by decide)).swap)
    go_wp2_with (at_builtin; refine St.append_cells (w0 := w) rfl (.tmp 8) (.tmp 12) 25 42 (.agg #[.string ⟨#[]⟩, .slice none 0 0]) 2 40 rfl Try.underlying25 (by kernel_rfl) rfl (by decide) (by decide) _ l.length xs [.string nm, .slice A b.length c] (some ⟨_, 0, none⟩) 1 1 rfl rfl HSL.out (rowReadsC HSL.out.swap (by simp [Value.oneCell'])) hl ?_; intro B1 cB1 w5 hs; have HSP := Aside0.mk hs.rot3; have p0 := (hs.rot3.cell 0).trans rfl; have q0 := hs.rot3.frozen 0; clear hs)
    go_end0
    have h := (HSP.out.set 0 (.slice B1 (l.length + 1) cB1)).rot3.drop.rot4.rot4.pinAnd
    have h2 := (h.pinImp (Q1 := fun W => KL k42 W (l ++ [⟨nm, b⟩]) (xs ++ [.string nm, .slice A b.length c])) fun W _ hq => KL_app hq.1 (KL_ch1 hc hq.2)).rot3.rot3
    refine ⟨rfl, B1, cB1, xs ++ [.string nm, .slice A b.length c], ?_⟩
    unfold outA addL
    rw [if_pos rfl, List.length_append]
    exact h2
end Go.Proofs.Ythkocpcjcpohcaa.P
end
section
namespace Go.Proofs.Ythkocpcjcpohcaa.P
open Go Go.RowKit Go.Proofs.YthkocpcjcpohcaaW.PrintWords Go.Proofs.YthkocpcjcpohcaaW.PrintLast Go.Proofs.YthkocpcjcpohcaaW.PrintMore Go.Proofs.Ythkocpcjcpohcaa.U Go.Proofs.Ythkocpcjcpohcaa.Pure
set_option linter.unusedVariables false
set_option linter.unusedSimpArgs false
attribute [local go_sem] max2_int min2_int max_two min_two max_three min_three max_four min_four
abbrev nVP8X : ByteArray := ⟨#[86, 80, 56, 88]⟩
abbrev nICCP : ByteArray := ⟨#[73, 67, 67, 80]⟩
abbrev nANIM : ByteArray := ⟨#[65, 78, 73, 77]⟩
abbrev nEXIF : ByteArray := ⟨#[69, 88, 73, 70]⟩
abbrev nXMP : ByteArray := ⟨#[88, 77, 80, 32]⟩
def flagsI (y : Dc) : Int := Go.bits .or .i64 (Go.bits .or .i64 (Go.bits .or .i64 (Go.bits .or .i64 (bitI y.f10 32) (bitI y.f3 16)) (bitI y.f11 8)) (bitI y.f12 4)) (bitI y.f4 2)
theorem flags_eq (y : Dc) : flagsI y = bitI y.f10 32 + bitI y.f3 16 + bitI y.f11 8 + bitI y.f12 4 + bitI y.f4 2 := by
  unfold flagsI bitI
  cases y.f10 <;> cases y.f3 <;> cases y.f11 <;> cases y.f12 <;> cases y.f4 <;> decide
theorem flags_bd (y : Dc) : 0 ≤ flagsI y ∧ flagsI y ≤ 62 := by
  rw [flags_eq]
  unfold bitI
  cases y.f10 <;> cases y.f3 <;> cases y.f11 <;> cases y.f12 <;> cases y.f4 <;> decide
def topV (y : Dc) : List Nm := [⟨flagsI y, 4⟩, ⟨y.f1 - 1, 3⟩, ⟨y.f2 - 1, 3⟩]
def aniV (y : Dc) : List Nm := [⟨y.f5, 4⟩, ⟨y.f6, 2⟩]
def partV (m : Bool) (f : Fr) : List Ch := if m = true then [movedV f] else picV f
def c1V (y : Dc) : List Ch := [⟨nVP8X, putV (topV y)⟩]
def c2V (y : Dc) : List Ch := addL y.f10 nICCP y.f7 (c1V y)
def c3V (y : Dc) : List Ch := addL y.f4 nANIM (putV (aniV y)) (c2V y)
def c4V (y : Dc) (k : Nat) : List Ch := c3V y ++ (y.f13.take k).flatMap (partV y.f4)
def c5V (y : Dc) : List Ch := addL y.f11 nEXIF y.f8 (c4V y y.f13.length)
def c6V (y : Dc) : List Ch := addL y.f12 nXMP y.f9 (c5V y)
def chunksV (y : Dc) : List Ch := if y.f0 = true then picV (y.f13.getD 0 z44) else c6V y ++ y.f14
structure mayD (y : Dc) : Prop where
  no : y.f0 = false
  ok : okDc y
  x1 : 1 ≤ y.f1 ∧ y.f1 ≤ 16777216
  x2 : 1 ≤ y.f2 ∧ y.f2 ≤ 16777216
  x5 : 0 ≤ y.f5 ∧ y.f5 < 4294967296
  x6 : 0 ≤ y.f6 ∧ y.f6 < 65536
  fr : y.f4 = true → ∀ f ∈ y.f13, mayP f
  pn : ∀ f ∈ y.f13, f.f10.length ≤ 1000000
  sz : (c6V y ++ y.f14).length ≤ 1000000
theorem top_fit {y : Dc} (h : mayD y) : ∀ x ∈ topV y, fitN x := by
  have hb := flags_bd y
  have h1 := h.x1
  have h2 := h.x2
  intro x hx
  simp only [topV, List.mem_cons, List.not_mem_nil, or_false] at hx
  rcases hx with rfl | rfl | rfl
  · exact ⟨hb.1, (by decide : (1 : Int) ≤ 4), (by decide : (4 : Int) ≤ 4), (by show flagsI y < 4294967296; omega)⟩
  · exact fit3 (by omega) (by omega)
  · exact fit3 (by omega) (by omega)
theorem ani_fit {y : Dc} (h : mayD y) : ∀ x ∈ aniV y, fitN x := by
  have h1 := h.x5
  have h2 := h.x6
  intro x hx
  simp only [aniV, List.mem_cons, List.not_mem_nil, or_false] at hx
  rcases hx with rfl | rfl
  · exact ⟨h1.1, (by decide : (1 : Int) ≤ 4), (by decide : (4 : Int) ≤ 4), (by show y.f5 < 4294967296; omega)⟩
  · exact ⟨h2.1, (by decide : (1 : Int) ≤ 2), (by decide : (2 : Int) ≤ 4), (by show y.f6 < 65536; omega)⟩
theorem addL_len {h : Bool} {n : ByteArray} {b : List Int} {l : List Ch} : l.length ≤ (addL h n b l).length := by
  unfold addL
  split <;> simp
theorem cap_c5 {y : Dc} (h : mayD y) : (c5V y).length ≤ 1000000 := by
  have := h.sz
  have h1 : (c5V y).length ≤ (c6V y).length := addL_len
  rw [List.length_append] at this
  omega
theorem cap_c4 {y : Dc} (h : mayD y) : (c4V y y.f13.length).length ≤ 1000000 := Nat.le_trans addL_len (cap_c5 h)
theorem cap_c4k {y : Dc} (h : mayD y) (k : Nat) : (c4V y k).length ≤ 1000000 := by
  refine Nat.le_trans ?_ (cap_c4 h)
  unfold c4V
  rw [List.length_append, List.length_append, List.take_length]
  have e : (y.f13.flatMap (partV y.f4)).length = ((y.f13.take k).flatMap (partV y.f4)).length + ((y.f13.drop k).flatMap (partV y.f4)).length := by rw [← List.length_append, ← List.flatMap_append, List.take_append_drop]
  omega
theorem cap_c3 {y : Dc} (h : mayD y) : (c3V y).length ≤ 1000000 := by
  have := cap_c4 h
  unfold c4V at this
  rw [List.length_append] at this
  omega
theorem cap_c2 {y : Dc} (h : mayD y) : (c2V y).length ≤ 1000000 := Nat.le_trans addL_len (cap_c3 h)
theorem c4V_zero (y : Dc) : c4V y 0 = c3V y := by simp [c4V]
theorem c4V_succ {y : Dc} {k : Nat} {x : Fr} (h : y.f13.take (k + 1) = y.f13.take k ++ [x]) : c4V y (k + 1) = c4V y k ++ partV y.f4 x := by
  unfold c4V
  rw [h, List.flatMap_append, ← List.append_assoc]
  simp
section
variable {w W : World} {r : Asrt} {tb c : Nat} {l : List Ch} {B : Option Addr} {xs : List Value} {Q : World → Prop}
theorem outA_pin (h : St w W (outA w tb l B c xs r)) (hq : ∀ W, Below w.heap.size w W → Q W) : St w W (outA w tb l B c xs (pin w Q * r)) := h.pin0 hq |>.swap.swap2.swap3
theorem outA_rest {cs : Array Value} {g t : Nat} (h : St w W (outA w tb l B c xs (Asrt.blk g t cs * r))) : St w W (Asrt.blk g t cs * outA w tb l B c xs r) := h.rot4
theorem outA_pin' (h : St w W (pin w Q * outA w tb l B c xs r)) : St w W (outA w tb l B c xs (pin w Q * r)) := h.swap.swap2.swap3
theorem outA_first {n : Nat} {cs : List Value} (hh : St w W (Asrt.row 42 2 (.slice B n c) n cs * (pin w Q * r))) (hn : n = l.length) (hq : ∀ W, Q W → KL k42 W l cs) : St w (W.alloc (.cells #[.slice B l.length c] 25)) (outA w W.heap.size l B c cs r) := by
  subst hn
  have h := hh.alloc #[.slice B l.length c] 25
  exact ((h.rot3.pinImp fun W _ h => hq W h).rot3).rot3
theorem outA_put {A1 R : Asrt} {g7 n : Nat} {l2 : List Ch} {ys : List Value} {v0 : Value} {frs : Array Value} (hn : n = (l ++ l2).length)
    (h : St w W (Asrt.row 42 2 (.slice B n c) n (xs ++ ys) * (A1 * (pin w Q * (Asrt.blk tb 25 #[v0] * (pin w (fun W => KL k42 W l xs) * (Asrt.blk g7 44 frs * R)))))))
    (hq : ∀ W, Q W → KL k42 W l2 ys) : St w (W.setCell ⟨tb, 0, none⟩ (.slice B n c)) (outA w tb (l ++ l2) B c (xs ++ ys) R) := by
  subst hn
  have h2 := (h.rot4.set 0 (.slice B (l ++ l2).length c)).rot3.drop.rot3.rot4.pinAnd
  exact (h2.pinImp (Q1 := fun W => KL k42 W (l ++ l2) (xs ++ ys)) fun W _ h => KL_app h.1 (hq W h.2)).rot4.drop.rot3.rot3
end
set_option maxHeartbeats 16000000 in
set_option maxRecDepth 100000 in
theorem chunksW_calls (y : Dc) (ds : List Value) (w : World) (hy : k27.K w y ds) (hm : mayD y) :
    Calls Try.prog 22 #[.agg ds.toArray] w fun e w' => ∃ (B : Option Addr) (c : Nat), e = .returned (.slice B (c6V y ++ y.f14).length c) ∧ (c6V y ++ y.f14).length ≤ c ∧ k42.C w' B (c6V y ++ y.f14).length (c6V y ++ y.f14) ∧ Below w.heap.size w w' := by
  obtain ⟨B1, d1, B2, d2, B3, d3, B4, d4, B5, d5, rfl, m1, h1, m2, h2, m3, h3, m4, h4, m5, h5⟩ := k27_open hy
  rw [hm.no]
  obtain ⟨ys, hyk, hyr⟩ := C_cells h5 (by decide)
  have H1 := Aside0.mk h1
  have H2 := Aside0.mk h2
  have H3 := Aside0.mk h3
  have H4 := Aside0.mk h4
  have HYK := Aside0.mk hyk
  have HYR := Aside0.mk hyr
  have HM := Aside0.mk hm
  have HLM := Aside0.mk h4.2.1
  have HBT := Aside0.mk (fun b n W => bit_calls b n W)
  have HBT2 := HBT
  have HBT3 := HBT
  have HBT4 := HBT
  have HBT5 := HBT
  have HS0 := Aside0.mk ((St.refl w).alloc #[.bool false, .int .i64 y.f1, .int .i64 y.f2, .bool y.f3, .bool y.f4, .int .u32 y.f5, .int .i64 y.f6, .slice B1 y.f7.length d1, .slice B2 y.f8.length d2, .slice B3 y.f9.length d3, .bool y.f10, .bool y.f11, .bool y.f12, .slice B4 y.f13.length d4, .slice B5 y.f14.length d5] 27)
  have e1 : IntKind.i64.wrap (y.f1 - 1) = y.f1 - 1 := wi64 (by have := hm.x1; omega) (by have := hm.x1; omega)
  have e2 : IntKind.i64.wrap (y.f2 - 1) = y.f2 - 1 := wi64 (by have := hm.x2; omega) (by have := hm.x2; omega)
  have HFT := Aside0.mk (top_fit hm)
  clear hy h1 h2 h3 h4 h5 hm hyk hyr
  go_enter Try.func22, Try.ntmps22
  go_upto_if 9 with (fail)
  obtain ⟨W0, hW0⟩ : ∃ W0, W0 = w.alloc (.cells #[.bool false, .int .i64 y.f1, .int .i64 y.f2, .bool y.f3, .bool y.f4, .int .u32 y.f5, .int .i64 y.f6, .slice B1 y.f7.length d1, .slice B2 y.f8.length d2, .slice B3 y.f9.length d3, .bool y.f10, .bool y.f11, .bool y.f12, .slice B4 y.f13.length d4, .slice B5 y.f14.length d5] 27) := ⟨_, rfl⟩
  obtain ⟨g, hg⟩ : ∃ g, g = w.heap.size := ⟨_, rfl⟩
  rw [← hW0, ← hg] at HS0 ⊢
  clear hW0 hg
  have m0 : W0.cell? ⟨g, 0, none⟩ = some (.bool false) := (HS0.out.cell 0).trans rfl
  have m1' : W0.cell? ⟨g, 1, none⟩ = some (.int .i64 y.f1) := (HS0.out.cell 1).trans rfl
  have m2' : W0.cell? ⟨g, 2, none⟩ = some (.int .i64 y.f2) := (HS0.out.cell 2).trans rfl
  have m3' : W0.cell? ⟨g, 3, none⟩ = some (.bool y.f3) := (HS0.out.cell 3).trans rfl
  have m4' : W0.cell? ⟨g, 4, none⟩ = some (.bool y.f4) := (HS0.out.cell 4).trans rfl
  have m10 : W0.cell? ⟨g, 10, none⟩ = some (.bool y.f10) := (HS0.out.cell 10).trans rfl
  have m11 : W0.cell? ⟨g, 11, none⟩ = some (.bool y.f11) := (HS0.out.cell 11).trans rfl
  have m12 : W0.cell? ⟨g, 12, none⟩ = some (.bool y.f12) := (HS0.out.cell 12).trans rfl
  go_upto_region 3 with (fail)
  go_region_held3 (fun w' => w'.cell? ⟨g, 10, none⟩ = some (.bool y.f10) ∧ w'.cell? ⟨g, 3, none⟩ = some (.bool y.f3) ∧ w'.cell? ⟨g, 11, none⟩ = some (.bool y.f11) ∧ w'.cell? ⟨g, 12, none⟩ = some (.bool y.f12) ∧ w'.cell? ⟨g, 4, none⟩ = some (.bool y.f4)) (go_keep) (first
    | (go_at_call 56; with_reducible refine (HBT.out _ _ _).mono ?_; clear HBT; rintro e w1 ⟨rfl, ⟨n1, rfl⟩⟩)
    | (go_at_call 56; with_reducible refine (HBT2.out _ _ _).mono ?_; clear HBT2; rintro e w1 ⟨rfl, ⟨n2, rfl⟩⟩)
    | (go_at_call 56; with_reducible refine (HBT3.out _ _ _).mono ?_; clear HBT3; rintro e w1 ⟨rfl, ⟨n3, rfl⟩⟩)
    | (go_at_call 56; with_reducible refine (HBT4.out _ _ _).mono ?_; clear HBT4; rintro e w1 ⟨rfl, ⟨n4, rfl⟩⟩)
    | (go_at_call 56; with_reducible refine (HBT5.out _ _ _).mono ?_; clear HBT5; rintro e w1 ⟨rfl, ⟨n5, rfl⟩⟩))
  rw [show Go.bits .or .i64 (Go.bits .or .i64 (Go.bits .or .i64 (Go.bits .or .i64 (bitI y.f10 32) (bitI y.f3 16)) (bitI y.f11 8)) (bitI y.f12 4)) (bitI y.f4 2) = flagsI y from rfl]
  obtain ⟨W1, hW1⟩ : ∃ W1, W1 = W0.drewN (1 + n1 + n2 + n3 + n4 + n5) := ⟨_, rfl⟩
  have HS1 := Aside0.mk (HS0.out.drewN (1 + n1 + n2 + n3 + n4 + n5))
  rw [← hW1] at HS1 ⊢
  clear hW1 m0 m1' m2' m3' m4' m10 m11 m12 HS0
  have m1' : W1.cell? ⟨g, 1, none⟩ = some (.int .i64 y.f1) := (HS1.out.cell 1).trans rfl
  have m2' : W1.cell? ⟨g, 2, none⟩ = some (.int .i64 y.f2) := (HS1.out.cell 2).trans rfl
  go_upto_region 5 with (go_at_call 57; refine (putLit_calls W1 (topV y) (by simp [topV]) HFT.out).mono ?_; rintro e w2 ⟨v2, rfl, hr, hb⟩; obtain ⟨B0, c0, rfl, hc0, hs0⟩ := (HS1.out.alloc (litsN (topV y)).toArray 85).pinR hb hr; have HS2 := Aside0.mk hs0.swap.drop; have HC0 := Aside0.mk hc0; clear hs0 hc0 hr hb)
  have hq := outA_first (l := c1V y) (c := 1) (HS2.out.allocCells 42 2 1 [.string nVP8X, .slice B0 (putV (topV y)).length c0] rfl (by decide)) rfl (fun W hq => KL_ch1 HC0.out hq)
  obtain ⟨tb, htb⟩ : ∃ tb, tb = w2.heap.size + 1 := ⟨_, rfl⟩
  rw [show (w2.alloc (.cells [Value.string nVP8X, .slice B0 (putV (topV y)).length c0].toArray 42)).heap.size = tb by rw [htb]; simp] at hq
  rw [← htb]
  change St w ((w2.alloc (.cells #[Value.string nVP8X, .slice B0 (putV (topV y)).length c0] 42)).alloc (.cells #[.slice (some ⟨w2.heap.size, 0, none⟩) 1 1] 25)) _ at hq
  obtain ⟨W3, hW3⟩ : ∃ W3, W3 = (w2.alloc (.cells #[Value.string nVP8X, .slice B0 (putV (topV y)).length c0] 42)).alloc (.cells #[.slice (some ⟨w2.heap.size, 0, none⟩) 1 1] 25) := ⟨_, rfl⟩
  rw [← hW3] at hq ⊢
  have HS3 := Aside0.mk hq
  clear hq hW3 htb HC0 HS2 HS1 m1' m2'
  have k2 : ((c1V y).length + 1) * 40 ≤ 140737488355328 := by show (1 + 1) * 40 ≤ _; decide
  have k3 : ((c2V y).length + 1) * 40 ≤ 140737488355328 := by have := cap_c2 HM.out; omega
  have HFA := Aside0.mk (ani_fit HM.out)
  have e5 : IntKind.i64.wrap y.f5 = y.f5 := wi64 (by have := HM.out.x5; omega) (by have := HM.out.x5; omega)
  have m4' : W3.cell? ⟨g, 10, none⟩ = some (.bool y.f10) := ((outA_rest HS3.out).cell 10).trans rfl
  have m7' : W3.cell? ⟨g, 7, none⟩ = some (.slice B1 y.f7.length d1) := ((outA_rest HS3.out).cell 7).trans rfl
  go_upto_region 7 with (go_at_call 58; refine (add_calls y.f10 nICCP B1 y.f7 d1 tb (c1V y) _ _ _ _ w _ m1 k2 (outA_pin HS3.out fun W hb => Kd.C_below H1.out hb)).mono ?_; rintro e w4 ⟨rfl, B4', c4', xs4, hs⟩; have HS4 : Aside0 (St w w4 (outA w tb (c2V y) _ _ _ _)) := Aside0.mk hs; clear hs)
  clear HS3 m4' m7'
  have m4' : w4.cell? ⟨g, 4, none⟩ = some (.bool y.f4) := ((outA_rest HS4.out).cell 4).trans rfl
  have m5' : w4.cell? ⟨g, 5, none⟩ = some (.int .u32 y.f5) := ((outA_rest HS4.out).cell 5).trans rfl
  have m6' : w4.cell? ⟨g, 6, none⟩ = some (.int .i64 y.f6) := ((outA_rest HS4.out).cell 6).trans rfl
  go_region_held3 (fun w' => w'.cell? ⟨g, 4, none⟩ = some (.bool y.f4) ∧ w'.cell? ⟨g, 5, none⟩ = some (.int .u32 y.f5) ∧ w'.cell? ⟨g, 6, none⟩ = some (.int .i64 y.f6)) (go_keep) (first
    | (go_at_call 57; refine (putLit_calls w4.drew (aniV y) (by simp [aniV]) HFA.out).mono ?_; rintro e w5 ⟨v5, rfl, hr, hb⟩; obtain ⟨B6, c6, rfl, hc6, hs6⟩ := (HS4.out.drew.alloc (litsN (aniV y)).toArray 85).pinR hb hr; have hs7 := outA_pin' hs6.swap.drop; have q4 := ((outA_rest hs6.swap.drop.drop).cell 4).trans rfl; have q5 := ((outA_rest hs6.swap.drop.drop).cell 5).trans rfl; have q6 := ((outA_rest hs6.swap.drop.drop).cell 6).trans rfl; have HS5 := Aside0.mk hs7; have HC5 := Aside0.mk hc6; clear hs6 hs7 hc6 hr hb)
    | (go_at_call 58; refine (add_calls y.f4 nANIM B6 (putV (aniV y)) c6 tb (c2V y) _ _ _ _ w _ HC5.out k3 HS5.out).mono ?_; rintro e w6 ⟨rfl, B7, c7, xs7, hs⟩; have HS6 : Aside0 (St w w6 (outA w tb (c3V y) _ _ _ _)) := Aside0.mk hs; have r4 := ((outA_rest hs).cell 4).trans rfl; have r5 := ((outA_rest hs).cell 5).trans rfl; have r6 := ((outA_rest hs).cell 6).trans rfl; clear hs))
  clear m4' m5' m6' HS4 HC5 HS5 q4 q5 q6 HFA k2 k3 e1 e2 e5 HFT r4 r5 r6
  have m13 : w6.cell? ⟨g, 13, none⟩ = some (.slice B4 y.f13.length d4) := ((outA_rest HS6.out).cell 13).trans rfl
  go_wp2_with fail
  clear m13
  go_loopw [71] (fun i wr => ∃ (k : Nat) (B : Option Addr) (c : Nat) (xs : List Value), k ≤ y.f13.length ∧ i = .int .i64 k ∧ St w wr (outA w tb (c4V y k) B c xs (Asrt.blk g 27 #[.bool false, .int .i64 y.f1, .int .i64 y.f2, .bool y.f3, .bool y.f4, .int .u32 y.f5, .int .i64 y.f6, .slice B1 y.f7.length d1, .slice B2 y.f8.length d2, .slice B3 y.f9.length d3, .bool y.f10, .bool y.f11, .bool y.f12, .slice B4 y.f13.length d4, .slice B5 y.f14.length d5] * Asrt.emp))) (fun i _ => y.f13.length - (intOf i).toNat)
  case atStart => exact ⟨0, B7, c7, xs7, Nat.zero_le _, rfl, by rw [c4V_zero]; exact HS6.out⟩
  case round =>
    obtain ⟨k, B, c, xs, hk, rfl, hs⟩ := hrel
    clear HS6
    by_cases hlt : k < y.f13.length
    · have y1 : decide ((k : Int) < y.f13.length) = true := decide_eq_true (by omega)
      have y2 : decide (k < y.f13.length) = true := decide_eq_true hlt
      have y3 : (k < y.f13.length) = True := eq_true hlt
      have y4 : ((k : Int) < y.f13.length) = True := eq_true (by omega)
      have k16 : k ≤ 9223372036854775806 := by have := HLM.out; omega
      obtain ⟨ad1, A8, c8, A9, c9, A10, c10, rfl, d0, d1', d2', d3', d4', d5', d6, d7, d8, d9, d10, m8, g8, m9, g9, m10, g10⟩ := at_T44 H4.out (k : Int) (by omega) (by omega)
      simp only [Int.toNat_natCast] at d0 d1' d2' d3' d4' d5' d6 d7 d8 d9 d10
      have hcut := getD_cut z44 hlt
      have hin := getD_in z44 hlt
      rw [show y.f13.getD k z44 = rd_T44 y.f13 k from rfl] at hcut hin
      generalize rd_T44 y.f13 k = x at *
      have HFO := Aside0.mk (HM.out.ok.fr.2 x hin)
      have HPN := Aside0.mk (HM.out.pn x hin)
      have HMF := Aside0.mk (fun h => HM.out.fr h x hin)
      have e0 := (hs.below.cell (World.block_lt_of_cell? _ _ d0)).trans d0
      have e1 := (hs.below.cell (World.block_lt_of_cell? _ _ d1')).trans d1'
      have e2 := (hs.below.cell (World.block_lt_of_cell? _ _ d2')).trans d2'
      have e3 := (hs.below.cell (World.block_lt_of_cell? _ _ d3')).trans d3'
      have e4 := (hs.below.cell (World.block_lt_of_cell? _ _ d4')).trans d4'
      have e5 := (hs.below.cell (World.block_lt_of_cell? _ _ d5')).trans d5'
      have e6 := (hs.below.cell (World.block_lt_of_cell? _ _ d6)).trans d6
      have e7 := (hs.below.cell (World.block_lt_of_cell? _ _ d7)).trans d7
      have e8 := (hs.below.cell (World.block_lt_of_cell? _ _ d8)).trans d8
      have e9 := (hs.below.cell (World.block_lt_of_cell? _ _ d9)).trans d9
      have e10 := (hs.below.cell (World.block_lt_of_cell? _ _ d10)).trans d10
      have HK := Aside0.mk (k44_mk w x m8 g8 m9 g9 m10 g10)
      have HLT := Aside0.mk hlt
      have HC4 := Aside0.mk (c4V_succ hcut)
      have HCK := Aside0.mk (cap_c4k HM.out (k + 1))
      have HS7 := Aside0.mk (hs.alloc #[.int .i64 x.f0, .int .i64 x.f1, .int .i64 x.f2, .int .i64 x.f3, .int .i64 x.f4, .bool x.f5, .bool x.f6, .int .i64 x.f7, .slice A8 x.f8.length c8, .slice A9 x.f9.length c9, .slice A10 x.f10.length c10] 44)
      have q4 : (wr.alloc (.cells #[.int .i64 x.f0, .int .i64 x.f1, .int .i64 x.f2, .int .i64 x.f3, .int .i64 x.f4, .bool x.f5, .bool x.f6, .int .i64 x.f7, .slice A8 x.f8.length c8, .slice A9 x.f9.length c9, .slice A10 x.f10.length c10] 44)).cell? ⟨g, 4, none⟩ = some (.bool y.f4) := ((outA_rest HS7.out.drop).cell 4).trans rfl
      clear hs hlt hk hcut hin g8 g9 g10 d0 d1' d2' d3' d4' d5' d6 d7 d8 d9 d10
      go_upto_region 11 with (fail)
      obtain ⟨W8, hW8⟩ : ∃ W8, W8 = wr.alloc (.cells #[.int .i64 x.f0, .int .i64 x.f1, .int .i64 x.f2, .int .i64 x.f3, .int .i64 x.f4, .bool x.f5, .bool x.f6, .int .i64 x.f7, .slice A8 x.f8.length c8, .slice A9 x.f9.length c9, .slice A10 x.f10.length c10] 44) := ⟨_, rfl⟩
      obtain ⟨g7, hg7⟩ : ∃ g7, g7 = wr.heap.size := ⟨_, rfl⟩
      rw [← hW8, ← hg7] at HS7
      rw [← hW8] at q4
      rw [← hW8, ← hg7]
      have HS8 := Aside0.mk (show St w W8 (Asrt.row 42 2 (.slice B (c4V y k).length c) (c4V y k).length xs * (Asrt.blk tb 25 #[.slice B (c4V y k).length c] * (pin w (fun W => KL k42 W (c4V y k) xs) * (Asrt.blk g7 44 #[.int .i64 x.f0, .int .i64 x.f1, .int .i64 x.f2, .int .i64 x.f3, .int .i64 x.f4, .bool x.f5, .bool x.f6, .int .i64 x.f7, .slice A8 x.f8.length c8, .slice A9 x.f9.length c9, .slice A10 x.f10.length c10] * (Asrt.blk g 27 #[.bool false, .int .i64 y.f1, .int .i64 y.f2, .bool y.f3, .bool y.f4, .int .u32 y.f5, .int .i64 y.f6, .slice B1 y.f7.length d1, .slice B2 y.f8.length d2, .slice B3 y.f9.length d3, .bool y.f10, .bool y.f11, .bool y.f12, .slice (some ad1) y.f13.length d4, .slice B5 y.f14.length d5] * Asrt.emp))))) from by have h := HS7.out; unfold outA at h; exact h.swap.swap2.swap3.swap)
      clear HS7 hW8 hg7 e0 e1 e2 e3 e4 e5 e6 e7 e8 e9 e10
      have f0 : W8.cell? ⟨g7, 0, none⟩ = some (.int .i64 x.f0) := (HS8.out.rot4.cell 0).trans rfl
      have f1 : W8.cell? ⟨g7, 1, none⟩ = some (.int .i64 x.f1) := (HS8.out.rot4.cell 1).trans rfl
      have f2 : W8.cell? ⟨g7, 2, none⟩ = some (.int .i64 x.f2) := (HS8.out.rot4.cell 2).trans rfl
      have f3 : W8.cell? ⟨g7, 3, none⟩ = some (.int .i64 x.f3) := (HS8.out.rot4.cell 3).trans rfl
      have f4 : W8.cell? ⟨g7, 4, none⟩ = some (.int .i64 x.f4) := (HS8.out.rot4.cell 4).trans rfl
      have f5 : W8.cell? ⟨g7, 5, none⟩ = some (.bool x.f5) := (HS8.out.rot4.cell 5).trans rfl
      have f6 : W8.cell? ⟨g7, 6, none⟩ = some (.bool x.f6) := (HS8.out.rot4.cell 6).trans rfl
      have f7 : W8.cell? ⟨g7, 7, none⟩ = some (.int .i64 x.f7) := (HS8.out.rot4.cell 7).trans rfl
      have f8 : W8.cell? ⟨g7, 8, none⟩ = some (.slice A8 x.f8.length c8) := (HS8.out.rot4.cell 8).trans rfl
      have f9 : W8.cell? ⟨g7, 9, none⟩ = some (.slice A9 x.f9.length c9) := (HS8.out.rot4.cell 9).trans rfl
      have f10 : W8.cell? ⟨g7, 10, none⟩ = some (.slice A10 x.f10.length c10) := (HS8.out.rot4.cell 10).trans rfl
      have ft : W8.cell? ⟨tb, 0, none⟩ = some (.slice B (c4V y k).length c) := (HS8.out.swap.cell 0).trans rfl
      have HB8 := Aside0.mk (show Below w.heap.size w W8.drew from HS8.out.drew.below)
      by_cases hf4 : y.f4 = true
      · have q4' : W8.cell? ⟨g, 4, none⟩ = some (.bool true) := by rw [← hf4]; exact q4
        clear q4
        have hck : ((c4V y k).length + 1) * 40 ≤ 140737488355328 := by
          have h1 := HCK.out
          rw [HC4.out, hf4, List.length_append] at h1
          have : (partV true x).length = 1 := rfl
          omega
        have HCK2 := Aside0.mk hck
        have HE4 := Aside0.mk (show c4V y (k + 1) = c4V y k ++ [movedV x] by rw [HC4.out, hf4]; rfl)
        have HP := Aside0.mk (moved_calls x _ W8.drew (k44.K_below HB8.out HK.out) HFO.out (HMF.out hf4))
        clear hf4 hck
        go_upto_region 12 with (fail)
        go_region_law (first
          | (go_simp; go_at_call 59; refine HP.out.mono ?_; rintro e w9 ⟨Bm, cm, rfl, hc9, hs9⟩; have HS9 := Aside0.mk (HS8.out.drew.frame hs9).assoc.pinRow.swap.drop; have HC9 := Aside0.mk hc9; have p0 : w9.cell? ⟨g7, 0, none⟩ = some (.int .i64 x.f0) := (HS9.out.drop.rot4.cell 0).trans rfl; have p1 : w9.cell? ⟨g7, 1, none⟩ = some (.int .i64 x.f1) := (HS9.out.drop.rot4.cell 1).trans rfl; have p2 : w9.cell? ⟨g7, 2, none⟩ = some (.int .i64 x.f2) := (HS9.out.drop.rot4.cell 2).trans rfl; have p3 : w9.cell? ⟨g7, 3, none⟩ = some (.int .i64 x.f3) := (HS9.out.drop.rot4.cell 3).trans rfl; have p4 : w9.cell? ⟨g7, 4, none⟩ = some (.int .i64 x.f4) := (HS9.out.drop.rot4.cell 4).trans rfl; have p5 : w9.cell? ⟨g7, 5, none⟩ = some (.bool x.f5) := (HS9.out.drop.rot4.cell 5).trans rfl; have p6 : w9.cell? ⟨g7, 6, none⟩ = some (.bool x.f6) := (HS9.out.drop.rot4.cell 6).trans rfl; have p7 : w9.cell? ⟨g7, 7, none⟩ = some (.int .i64 x.f7) := (HS9.out.drop.rot4.cell 7).trans rfl; have p8 : w9.cell? ⟨g7, 8, none⟩ = some (.slice A8 x.f8.length c8) := (HS9.out.drop.rot4.cell 8).trans rfl; have p9 : w9.cell? ⟨g7, 9, none⟩ = some (.slice A9 x.f9.length c9) := (HS9.out.drop.rot4.cell 9).trans rfl; have p10 : w9.cell? ⟨g7, 10, none⟩ = some (.slice A10 x.f10.length c10) := (HS9.out.drop.rot4.cell 10).trans rfl; have pt : w9.cell? ⟨tb, 0, none⟩ = some (.slice B (c4V y k).length c) := (HS9.out.drop.swap.cell 0).trans rfl; have pu : (w9.alloc (.cells #[.string nANMF, .slice Bm (movedV x).f1.length cm] 42)).cell? ⟨tb, 0, none⟩ = some (.slice B (c4V y k).length c) := ((HS9.out.alloc #[.string nANMF, .slice Bm (movedV x).f1.length cm] 42).drop.drop.swap.cell 0).trans rfl; clear hs9 hc9)
          | (refine St.append_cells_step (w0 := w) (by rfl) (.tmp 77) (.tmp 80) 25 42 (.agg #[.string ⟨#[]⟩, .slice none 0 0]) 2 40 rfl Try.underlying25 (by kernel_rfl) rfl (by decide) (by decide) _ (c4V y k).length xs [.string nANMF, .slice Bm (movedV x).f1.length cm] (some ⟨_, 0, none⟩) 1 1 rfl rfl ((HS9.out.swap.allocCells 42 2 1 [.string nANMF, .slice Bm (movedV x).f1.length cm] rfl (by decide)).swap) (rowReadsC (HS9.out.swap.allocCells 42 2 1 [.string nANMF, .slice Bm (movedV x).f1.length cm] rfl (by decide)) (by simp [Value.oneCell'])) HCK2.out ?_; intro B10 c10' w10 hs; have HS10 := Aside0.mk hs; have r0 := (hs.rot4.cell 0).trans rfl; have r1 := hs.rot4.frozen 0; clear hs))
        all_goals (go_wp2_with fail)
        all_goals go_roundw
        all_goals first
          | (have := HLT.out; simp [intOf]; omega)
          | skip
        all_goals (refine ⟨k + 1, B10, c10', xs ++ [.string nANMF, .slice Bm (movedV x).f1.length cm], HLT.out, by go_num, ?_⟩; rw [HE4.out]; exact outA_put (by simp) HS10.out fun W hq => KL_ch1 HC9.out hq)
      · have q4' : W8.cell? ⟨g, 4, none⟩ = some (.bool false) := by rw [← Bool.eq_false_iff.2 hf4]; exact q4
        clear q4
        have hf0 : y.f4 = false := Bool.eq_false_iff.2 hf4
        have hck : ((c4V y k).length + (picV x).length) * 40 ≤ 140737488355328 := by
          have h1 := HCK.out
          rw [HC4.out, hf0, List.length_append] at h1
          have h2 : (partV false x) = picV x := rfl
          rw [h2] at h1
          omega
        have HCK2 := Aside0.mk hck
        have HE4 := Aside0.mk (show c4V y (k + 1) = c4V y k ++ picV x by rw [HC4.out, hf0]; rfl)
        have HP := Aside0.mk (picture_calls_at x _ w W8.drew HB8.out HK.out HFO.out (by have := HPN.out; omega))
        clear hf4 hf0 hck
        go_upto_region 13 with (fail)
        go_region_law (first
          | (go_simp; go_at_call 55; refine HP.out.mono ?_; rintro e w9 ⟨Bm, cm, zs, rfl, hk9, hs9⟩; have HS9 := Aside0.mk (((HS8.out.drew.frame hs9).assoc.imp (Asrt.mono_r (Asrt.emp_l _))).pin0 (fun W hb => KL_below hb hk9)).swap; have p0 : w9.cell? ⟨g7, 0, none⟩ = some (.int .i64 x.f0) := (HS9.out.drop.drop.rot4.cell 0).trans rfl; have p1 : w9.cell? ⟨g7, 1, none⟩ = some (.int .i64 x.f1) := (HS9.out.drop.drop.rot4.cell 1).trans rfl; have p2 : w9.cell? ⟨g7, 2, none⟩ = some (.int .i64 x.f2) := (HS9.out.drop.drop.rot4.cell 2).trans rfl; have p3 : w9.cell? ⟨g7, 3, none⟩ = some (.int .i64 x.f3) := (HS9.out.drop.drop.rot4.cell 3).trans rfl; have p4 : w9.cell? ⟨g7, 4, none⟩ = some (.int .i64 x.f4) := (HS9.out.drop.drop.rot4.cell 4).trans rfl; have p5 : w9.cell? ⟨g7, 5, none⟩ = some (.bool x.f5) := (HS9.out.drop.drop.rot4.cell 5).trans rfl; have p6 : w9.cell? ⟨g7, 6, none⟩ = some (.bool x.f6) := (HS9.out.drop.drop.rot4.cell 6).trans rfl; have p7 : w9.cell? ⟨g7, 7, none⟩ = some (.int .i64 x.f7) := (HS9.out.drop.drop.rot4.cell 7).trans rfl; have p8 : w9.cell? ⟨g7, 8, none⟩ = some (.slice A8 x.f8.length c8) := (HS9.out.drop.drop.rot4.cell 8).trans rfl; have p9 : w9.cell? ⟨g7, 9, none⟩ = some (.slice A9 x.f9.length c9) := (HS9.out.drop.drop.rot4.cell 9).trans rfl; have p10 : w9.cell? ⟨g7, 10, none⟩ = some (.slice A10 x.f10.length c10) := (HS9.out.drop.drop.rot4.cell 10).trans rfl; have pt : w9.cell? ⟨tb, 0, none⟩ = some (.slice B (c4V y k).length c) := (HS9.out.drop.drop.swap.cell 0).trans rfl; have HK9 := Aside0.mk hk9; clear hs9 hk9)
          | (refine St.append_cells_step (w0 := w) (by rfl) (.tmp 82) (.tmp 84) 25 42 (.agg #[.string ⟨#[]⟩, .slice none 0 0]) 2 40 rfl Try.underlying25 (by kernel_rfl) rfl (by decide) (by decide) _ (c4V y k).length xs zs Bm (picV x).length cm rfl rfl HS9.out.rot3 (rowReadsC HS9.out (KL_one HK9.out)) HCK2.out ?_; intro B10 c10' w10 hs; have HS10 := Aside0.mk hs; have r0 := (hs.rot4.cell 0).trans rfl; have r1 := hs.rot4.frozen 0; clear hs))
        all_goals (go_wp2_with fail)
        all_goals go_roundw
        all_goals first
          | (have := HLT.out; simp [intOf]; omega)
          | skip
        all_goals (refine ⟨k + 1, B10, c10', xs ++ zs, HLT.out, by go_num, ?_⟩; rw [HE4.out]; exact outA_put (by rw [List.length_append]) HS10.out fun W hq => hq)
    · have y1 : decide ((k : Int) < y.f13.length) = false := decide_eq_false (by omega)
      have y2 : decide (k < y.f13.length) = false := decide_eq_false hlt
      obtain rfl : k = y.f13.length := by omega
      have k5 : ((c4V y y.f13.length).length + 1) * 40 ≤ 140737488355328 := by have := cap_c4 HM.out; omega
      have k6 : ((c5V y).length + 1) * 40 ≤ 140737488355328 := by have := cap_c5 HM.out; omega
      have k7 : ((c6V y).length + y.f14.length) * 40 ≤ 140737488355328 := by have := HM.out.sz; rw [List.length_append] at this; omega
      have q11 : wr.cell? ⟨g, 11, none⟩ = some (.bool y.f11) := ((outA_rest hs).cell 11).trans rfl
      have q8 : wr.cell? ⟨g, 8, none⟩ = some (.slice B2 y.f8.length d2) := ((outA_rest hs).cell 8).trans rfl
      have HS8 := Aside0.mk hs
      clear hs hlt hk
      go_wp2_with (first
        | (go_at_call 58; refine (add_calls y.f11 nEXIF B2 y.f8 d2 tb (c4V y y.f13.length) _ _ _ _ w _ m2 k5 (outA_pin HS8.out fun W hb => Kd.C_below H2.out hb)).mono ?_; rintro e w4 ⟨rfl, Be, ce, xe, hs⟩; have HS9 : Aside0 (St w w4 (outA w tb (c5V y) _ _ _ _)) := Aside0.mk hs; have q12 : w4.cell? ⟨g, 12, none⟩ = some (.bool y.f12) := ((outA_rest hs).cell 12).trans rfl; have q9 : w4.cell? ⟨g, 9, none⟩ = some (.slice B3 y.f9.length d3) := ((outA_rest hs).cell 9).trans rfl; clear hs HS8)
        | (go_at_call 58; refine (add_calls y.f12 nXMP B3 y.f9 d3 tb (c5V y) _ _ _ _ w _ m3 k6 (outA_pin HS9.out fun W hb => Kd.C_below H3.out hb)).mono ?_; rintro e w5 ⟨rfl, Bx, cx, xx, hs⟩; have HS10 : Aside0 (St w w5 (outA w tb (c6V y) _ _ _ _)) := Aside0.mk hs; have q14 : w5.cell? ⟨g, 14, none⟩ = some (.slice B5 y.f14.length d5) := ((outA_rest hs).cell 14).trans rfl; have qt : w5.cell? ⟨tb, 0, none⟩ = some (.slice Bx (c6V y).length cx) := (by have h := hs; unfold outA at h; exact (h.cell 0).trans rfl); have HS11 := Aside0.mk (show St w w5 (Asrt.row 42 2 (.slice Bx (c6V y).length cx) (c6V y).length xx * _) from (by have h := hs; unfold outA at h; exact h.swap)); clear hs)
        | (at_builtin; refine St.append_cells (w0 := w) rfl (.tmp 99) (.tmp 101) 25 42 (.agg #[.string ⟨#[]⟩, .slice none 0 0]) 2 40 rfl Try.underlying25 (by kernel_rfl) rfl (by decide) (by decide) _ (c6V y).length xx ys B5 y.f14.length d5 rfl rfl HS11.out (HYR.out.below HS11.out.below) k7 ?_; intro B12 c12 w12 hs; have HS12 := Aside0.mk hs; clear hs))
      go_ret
      have hs := HS12.out
      have hk := KL_app hs.rot3.pinGet (KL_below hs.below HYK.out)
      have hl : (c6V y ++ y.f14).length = (c6V y).length + y.f14.length := List.length_append
      rw [hl]
      exact ⟨B12, c12, rfl, own_le hs.row, C_of_KL hk hl (by omega) (rowReadsC hs (KL_one hk)), hs.below⟩
end Go.Proofs.Ythkocpcjcpohcaa.P
end
section
namespace Go.Proofs.Ythkocpcjcpohcaa.P
open Go Go.RowKit Go.Proofs.YthkocpcjcpohcaaW.PrintWords Go.Proofs.YthkocpcjcpohcaaW.PrintLast Go.Proofs.YthkocpcjcpohcaaW.PrintMore Go.Proofs.Ythkocpcjcpohcaa.U Go.Proofs.Ythkocpcjcpohcaa.Pure
set_option linter.unusedVariables false
set_option linter.unusedSimpArgs false
attribute [local go_sem] max2_int min2_int max_two min_two max_three min_three max_four min_four
def toldP (has : Bool) (b : List Int) : Prop := has = true ∨ b.length = 0
instance (h : Bool) (b : List Int) : Decidable (toldP h b) := by unfold toldP; infer_instance
theorem told_calls (has : Bool) (A : Option Addr) (c : Nat) (l : List Int) (w : World) (h : (Kd.int .u8).C w A l.length l) (hc : l.length ≤ c) :
    Calls Try.prog 28 #[.bool has, .slice A l.length c] w fun e w' => e = .returned (.bool (decide (toldP has l))) ∧ Drawn0 w w' := by
  refine box_told.calls has A c l _ w h hc ?_
  unfold box_told.f toldP
  cases has
  · simp only [Bool.false_eq_true, if_false, false_or]
    exact congrArg some (by rw [Bool.eq_iff_iff, decide_eq_true_iff, beq_iff_eq]; omega)
  · simp
def wideP (d : Dc) : Prop := (1 ≤ d.f1 ∧ d.f1 ≤ 16777216) ∧ 1 ≤ d.f2 ∧ d.f2 ≤ 16777216
def soundP (d : Dc) : Prop := (weightI d ≤ 67108864 ∧ (d.f13.length : Int) ≤ 4096) ∧ (if d.f0 = true then plainP d else
  wideP d ∧ d.f1 * d.f2 < 4294967296 ∧ 0 ≤ d.f6 ∧ d.f6 < 65536 ∧ (d.f4 = false → (d.f13.length : Int) = 1 ∧ d.f5 = 0 ∧ d.f6 = 0) ∧
  moreB d.f14 = true ∧ toldP d.f10 d.f7 ∧ toldP d.f11 d.f8 ∧ toldP d.f12 d.f9 ∧ ∀ f ∈ d.f13, frameP f d)
theorem any_frames {l : List Fr} {d : Dc} : (l.any fun f => !decide (frameP f d)) = false ↔ ∀ f ∈ l, frameP f d := by
  rw [List.any_eq_false]
  simp
set_option maxHeartbeats 8000000 in
set_option maxRecDepth 100000 in
theorem Sound_calls (y : Dc) (ds : List Value) (w : World) (hy : k27.K w y ds) (ho : okDc y) (hw : weightI y ≤ 4611686018427387904) (hn : (allCh y).length * 40 ≤ 140737488355328) (b : Bool) (hb : b = true ↔ soundP y) :
    Calls Try.prog 12 #[.agg ds.toArray] w fun e w' => e = .returned (.bool b) ∧ Below w.heap.size w w' := by
  have HE1 := Aside0.mk fun (W : World) (hb : Below w.heap.size w W) => weight_calls y ds W (k27.K_below hb hy) ho hw hn
  obtain ⟨bp, hbp⟩ : ∃ bp : Bool, bp = true ↔ plainP y := by
    by_cases hp : plainP y
    · exact ⟨true, by simp [hp]⟩
    · exact ⟨false, by simp [hp]⟩
  have HBP := Aside0.mk hbp
  have HBB := Aside0.mk hb
  have HE2 := Aside0.mk fun (W : World) (hb : Below w.heap.size w W) (es : Array Value) (he : es = ds.toArray) => (he ▸ plain_calls y ds W (k27.K_below hb hy) ho bp hbp : Calls Try.prog 24 #[.agg es] W fun e w' => e = .returned (.bool bp) ∧ Below W.heap.size W w')
  clear hb hbp
  have HY := Aside0.mk hy
  have HO := Aside0.mk ho
  obtain ⟨B1, d1, B2, d2, B3, d3, B4, d4, B5, d5, rfl, m1, h1, m2, h2, m3, h3, m4, h4, m5, h5⟩ := k27_open hy
  have HE3 := Aside0.mk fun (W : World) (hb : Below w.heap.size w W) => more_calls B5 d5 y.f14 W (Kd.C_below h5 hb)
  have HE4 := Aside0.mk fun (W : World) (hb : Below w.heap.size w W) => told_calls y.f10 B1 d1 y.f7 W (Kd.C_below h1 hb) m1
  have HE5 := Aside0.mk fun (W : World) (hb : Below w.heap.size w W) => told_calls y.f11 B2 d2 y.f8 W (Kd.C_below h2 hb) m2
  have HE6 := Aside0.mk fun (W : World) (hb : Below w.heap.size w W) => told_calls y.f12 B3 d3 y.f9 W (Kd.C_below h3 hb) m3
  have H4 := Aside0.mk h4
  clear hy h1 h2 h3 h4 h5 ho hw hn
  have HAF := Aside0.mk (@any_frames y.f13 y)
  by_cases hc : wideP y
  case neg =>
    have hc' : y.f1 < 1 ∨ 16777216 < y.f1 ∨ y.f2 < 1 ∨ 16777216 < y.f2 := by unfold wideP at hc; omega
    rcases hc' with hc' | hc' | hc' | hc'
    all_goals go_enter Try.func12, Try.ntmps12
    all_goals go_wp2_with (first
      | (go_at_call 23; with_reducible refine (HE1.out _ (by repeat (first | exact Below.refl _ _ | apply pw_below_drewN | apply below_alloc))).mono ?_; rintro e w1 ⟨rfl, hd⟩; have z1 := cells1 hd; have HX := Aside0.mk hd; have HB := Aside0.mk (bthen (show Below w.heap.size w _ by repeat (first | exact Below.refl _ _ | apply pw_below_drewN | apply below_alloc)) hd); clear hd)
      | (go_at_call 24; with_reducible refine (HE2.out _ HB.out _ (by first | rfl | simp [*])).mono ?_; rintro e w2 ⟨rfl, hd⟩; have HB2 := Aside0.mk (bthen HB.out hd); clear hd))
    all_goals go_ret
    all_goals refine ⟨congrArg (fun b => Ending.returned (.bool b)) (Bool.eq_iff_iff.2 (Iff.trans ?_ HBB.out.symm)), by first | exact HB2.out | exact HB.out⟩
    all_goals first
      | (simp [soundP, hc, *]; done)
      | (simp [soundP, hc, HBP.out, *]; done)
      | (simp [soundP, hc, *]; omega)
      | (trace_state; sorry)
  have hc' := hc
  unfold wideP at hc'
  have pp : 0 ≤ y.f1 * y.f2 := Int.mul_nonneg (by omega) (by omega)
  have pq : y.f1 * y.f2 ≤ 281474976710656 := Int.le_trans (Int.mul_le_mul hc'.1.2 hc'.2.2 (by omega) (by decide)) (by decide)
  have HE7 := Aside0.mk fun (g : Nat) (W : World) (hb : Below w.heap.size w W) (hg : boxd W g [.bool y.f0, .int .i64 y.f1, .int .i64 y.f2, .bool y.f3, .bool y.f4, .int .u32 y.f5, .int .i64 y.f6, .slice B1 y.f7.length d1, .slice B2 y.f8.length d2, .slice B3 y.f9.length d3, .bool y.f10, .bool y.f11, .bool y.f12, .slice B4 y.f13.length d4, .slice B5 y.f14.length d5]) =>
    ContainsBad_calls y _ g B4 d4 y.f13 W (Kd.C_below H4.out hb) (k27.K_below hb HY.out) hg HO.out.fr.2 (by omega) (by omega)
  have p1 : 0 ≤ y.f1 * y.f2 ∧ y.f1 * y.f2 ≤ 281474976710656 := ⟨pp, pq⟩
  clear pp pq
  go_enter Try.func12, Try.ntmps12
  go_wp2_with (first
    | (go_at_call 23; with_reducible refine (HE1.out _ (by repeat (first | exact Below.refl _ _ | apply pw_below_drewN | apply below_alloc))).mono ?_; rintro e w1 ⟨rfl, hd⟩; have z1 := cells1 hd; have HX := Aside0.mk hd; have HZ := Aside0.mk (boxd_below boxd_new hd); have HB := Aside0.mk (bthen (show Below w.heap.size w _ by repeat (first | exact Below.refl _ _ | apply pw_below_drewN | apply below_alloc)) hd); clear hd)
    | (go_at_call 24; with_reducible refine (HE2.out _ HB.out _ (by first | rfl | simp [*])).mono ?_; rintro e w2 ⟨rfl, hd⟩; have HB2 := Aside0.mk (bthen HB.out hd); clear hd)
    | (go_at_call 27; with_reducible refine (HE3.out _ HB.out).mono ?_; rintro e w2 ⟨rfl, hd⟩; clear z1; have z1 := cells1 (bthen HX.out hd); have HZ2 := Aside0.mk (boxd_below HZ.out hd); have HB2 := Aside0.mk (bthen HB.out hd); clear hd)
    | (go_at_call 28; with_reducible refine (HE4.out _ HB2.out).mono ?_; clear HE4; rintro e w1 ⟨rfl, ⟨n1, rfl⟩⟩)
    | (go_at_call 28; with_reducible refine (HE5.out _ (bthen HB2.out (by repeat (first | exact Below.refl _ _ | apply pw_below_drewN | apply below_alloc)))).mono ?_; clear HE5; rintro e w1 ⟨rfl, ⟨n2, rfl⟩⟩)
    | (go_at_call 28; with_reducible refine (HE6.out _ (bthen HB2.out (by repeat (first | exact Below.refl _ _ | apply pw_below_drewN | apply below_alloc)))).mono ?_; clear HE6; rintro e w1 ⟨rfl, ⟨n3, rfl⟩⟩)
    | (go_at_call 29; with_reducible refine (HE7.out _ _ (bthen HB2.out (by repeat (first | exact Below.refl _ _ | apply pw_below_drewN | apply below_alloc))) (boxd_below HZ2.out (by repeat (first | exact Below.refl _ _ | apply pw_below_drewN | apply below_alloc)))).mono ?_; rintro e w3 ⟨rfl, hd⟩; have HB3 := Aside0.mk (bthen (bthen HB2.out (show Below w2.heap.size w2 _ by repeat (first | exact Below.refl _ _ | apply pw_below_drewN | apply below_alloc))) hd); clear hd))
  all_goals go_ret
  all_goals refine ⟨congrArg (fun b => Ending.returned (.bool b)) (Bool.eq_iff_iff.2 (Iff.trans ?_ HBB.out.symm)), by first | exact HB3.out | exact HB2.out | exact HB.out | exact bthen HB2.out (by repeat (first | exact Below.refl _ _ | apply pw_below_drewN | apply below_alloc))⟩
  all_goals first
    | (simp [soundP, hc, *]; done)
    | (simp [soundP, hc, HBP.out, *]; done)
    | (have hz : y.f6 ≠ 0 := (by have h : (y.f6 != 0) = true := by assumption
                                 simpa using h)
       simp [soundP, hc, *]; done)
    | (have hz : y.f6 = 0 := (by have h : (y.f6 != 0) = false := by assumption
                                 simpa using h)
       rw [Bool.not_eq_true', HAF.out]; simp [soundP, hc, hz, *]; done)
    | (have hz : y.f6 = 0 := (by have h : (y.f6 != 0) = false := by assumption
                                 simpa using h)
       rw [Bool.not_eq_true', HAF.out, hz] at *; simp [soundP, hc, *]; done)
    | (rw [Bool.not_eq_true', HAF.out]; simp [soundP, hc, *]; done)
    | (simp [soundP, hc, *]; omega)
    | (trace_state; sorry)
end Go.Proofs.Ythkocpcjcpohcaa.P
end
section
namespace Go.Proofs.Ythkocpcjcpohcaa.P
open Go Go.RowKit Go.Proofs.YthkocpcjcpohcaaW.PrintWords Go.Proofs.YthkocpcjcpohcaaW.PrintLast Go.Proofs.YthkocpcjcpohcaaW.PrintMore Go.Proofs.Ythkocpcjcpohcaa.U Go.Proofs.Ythkocpcjcpohcaa.Pure
set_option linter.unusedVariables false
set_option linter.unusedSimpArgs false
attribute [local go_sem] max2_int min2_int max_two min_two max_three min_three max_four min_four
set_option maxHeartbeats 8000000 in
set_option maxRecDepth 100000 in
theorem chunksP_calls (y : Dc) (ds : List Value) (w : World) (x : Fr) (hx : x = rd_T44 y.f13 0) (hy : k27.K w y ds) (h0 : y.f0 = true) (hl : 0 < y.f13.length) (ho : okFr x) (hn : (2 + x.f10.length) * 40 ≤ 140737488355328) :
    Calls Try.prog 22 #[.agg ds.toArray] w fun e w' => ∃ (B : Option Addr) (c : Nat), e = .returned (.slice B (picV x).length c) ∧ (picV x).length ≤ c ∧ k42.C w' B (picV x).length (picV x) ∧ Below w.heap.size w w' := by
  have hlen : (picV x).length ≤ 9223372036854775807 := by unfold picV alphaV; split <;> simp <;> omega
  obtain ⟨B1, d1, B2, d2, B3, d3, B4, d4, B5, d5, rfl, m1, h1, m2, h2, m3, h3, m4, h4, m5, h5⟩ := k27_open hy
  rw [h0]
  obtain ⟨ad1, A8, c8, A9, c9, A10, c10, rfl, e0, e1, e2, e3, e4, e5, e6, e7, e8, e9, e10, m8, g8, m9, g9, m10, g10⟩ := at_T44 h4 (0 : Int) (by omega) (by omega)
  simp only [Int.toNat_zero, Nat.zero_mul] at e0 e1 e2 e3 e4 e5 e6 e7 e8 e9 e10
  rw [← hx] at e0 e1 e2 e3 e4 e5 e6 e7 e8 e9 e10 m8 g8 m9 g9 m10 g10
  have HP := Aside0.mk fun (W : World) (hb : Below w.heap.size w W) => picture_calls_at x _ w W hb (k44_mk w x m8 g8 m9 g9 m10 g10) ho hn
  have h0' : ad1.add 0 = ad1 := by cases ad1; unfold Addr.add; split <;> simp_all
  rw [h0'] at e0 e1 e2 e3 e4 e5 e6 e7 e8 e9 e10
  have hb0 : Below w.heap.size w (w.alloc (.cells #[.bool true, .int .i64 y.f1, .int .i64 y.f2, .bool y.f3, .bool y.f4, .int .u32 y.f5, .int .i64 y.f6, .slice B1 y.f7.length d1, .slice B2 y.f8.length d2, .slice B3 y.f9.length d3, .bool y.f10, .bool y.f11, .bool y.f12, .slice (some ad1) y.f13.length d4, .slice B5 y.f14.length d5] 27)) := below_alloc (Below.refl _ _) _
  have e0' := (hb0.cell (World.block_lt_of_cell? _ _ e0)).trans e0
  have e1' := (hb0.cell (World.block_lt_of_cell? _ _ e1)).trans e1
  have e2' := (hb0.cell (World.block_lt_of_cell? _ _ e2)).trans e2
  have e3' := (hb0.cell (World.block_lt_of_cell? _ _ e3)).trans e3
  have e4' := (hb0.cell (World.block_lt_of_cell? _ _ e4)).trans e4
  have e5' := (hb0.cell (World.block_lt_of_cell? _ _ e5)).trans e5
  have e6' := (hb0.cell (World.block_lt_of_cell? _ _ e6)).trans e6
  have e7' := (hb0.cell (World.block_lt_of_cell? _ _ e7)).trans e7
  have e8' := (hb0.cell (World.block_lt_of_cell? _ _ e8)).trans e8
  have e9' := (hb0.cell (World.block_lt_of_cell? _ _ e9)).trans e9
  have e10' := (hb0.cell (World.block_lt_of_cell? _ _ e10)).trans e10
  have y1 : decide ((0 : Int) < y.f13.length) = true := decide_eq_true (by omega)
  have y2 : decide (0 < y.f13.length) = true := decide_eq_true hl
  have HLN := Aside0.mk hlen
  clear hy h1 h2 h3 h4 h5 g8 g9 g10 ho hn hx h0 hlen
  go_enter Try.func22, Try.ntmps22
  go_wp2_with (go_at_call 55; refine (HP.out _ hb0).mono ?_; rintro e w1 ⟨B, c, xs, rfl, hk, hs⟩; have HS := Aside0.mk hs; have HK := Aside0.mk hk; clear hk hs)
  go_ret
  have hs := HS.out
  exact ⟨B, c, rfl, own_le hs.row, C_of_KL (KL_below (bthen hb0 hs.below) HK.out) rfl HLN.out (rowReadsC hs (KL_one HK.out)), bthen hb0 hs.below⟩
end Go.Proofs.Ythkocpcjcpohcaa.P
end
section
namespace Go.Proofs.Ythkocpcjcpohcaa.P
open Go Go.RowKit Go.Proofs.YthkocpcjcpohcaaW.PrintWords Go.Proofs.YthkocpcjcpohcaaW.PrintLast Go.Proofs.YthkocpcjcpohcaaW.PrintMore Go.Proofs.Ythkocpcjcpohcaa.U Go.Proofs.Ythkocpcjcpohcaa.Pure
set_option linter.unusedVariables false
set_option linter.unusedSimpArgs false
attribute [local go_sem] max2_int min2_int max_two min_two max_three min_three max_four min_four
def printV (b : Bool) (l : List Ch) : List Int := if b = true then file l else []
def printE (b : Bool) : Int := if b = true then 0 else 7
set_option maxHeartbeats 8000000 in
set_option maxRecDepth 100000 in
theorem Print_calls (y : Dc) (ds : List Value) (l : List Ch) (w : World) (hy : k27.K w y ds) (ho : okDc y) (hw : weightI y ≤ 4611686018427387904) (hn : (allCh y).length * 40 ≤ 140737488355328) (b : Bool) (hb : b = true ↔ soundP y)
    (hc : b = true → ∀ W, Below w.heap.size w W → Calls Try.prog 22 #[.agg ds.toArray] W fun e w' => ∃ (B : Option Addr) (c : Nat), e = .returned (.slice B l.length c) ∧ l.length ≤ c ∧ k42.C w' B l.length l ∧ Below W.heap.size W w')
    (hl : b = true → l.length + Pure.weight l < 9000000 ∧ Pure.ok l) :
    Calls Try.prog 11 #[.agg ds.toArray] w fun e w' => ∃ v : Value, e = .returned (.tuple #[v, .int .i64 (printE b)]) ∧ Kd.R (Kd.int .u8) 5 w' w.heap.size (fun _ => True) v (printV b l) ∧ Below w.heap.size w w' := by
  have HE1 := Aside0.mk fun (W : World) (hw1 : Below w.heap.size w W) => Sound_calls y ds W (k27.K_below hw1 hy) ho hw hn b hb
  have HCC := Aside0.mk hc
  have HL := Aside0.mk hl
  clear hc hl hb hw hn ho
  obtain ⟨B1, d1, B2, d2, B3, d3, B4, d4, B5, d5, rfl, m1, h1, m2, h2, m3, h3, m4, h4, m5, h5⟩ := k27_open hy
  clear hy h1 h2 h3 h4 h5
  cases b with
  | false =>
    go_enter Try.func11, Try.ntmps11
    go_wp2_with (go_at_call 12; with_reducible refine (HE1.out _ (by repeat (first | exact Below.refl _ _ | apply pw_below_drewN | apply below_alloc))).mono ?_; rintro e w1 ⟨rfl, hd⟩; have HB := Aside0.mk (bthen (show Below w.heap.size w _ by repeat (first | exact Below.refl _ _ | apply pw_below_drewN | apply below_alloc)) hd); clear hd)
    go_ret2
    exact ⟨_, rfl, Kd.R_nil _ _ _ _ _, HB.out⟩
  | true =>
    have HP := Aside0.mk fun (A : Option Addr) (c : Nat) (W : World) (hr : k42.C W A l.length l) (hcl : l.length ≤ c) => (by
      obtain ⟨k, hk⟩ := (chunk_Print_ev (HL.out rfl).1).rounds
      rw [if_pos (HL.out rfl).2] at hk
      exact chunk_Print.calls k A c l _ _ W hr hcl hk : Calls Try.prog 21 #[.slice A l.length c] W fun e w' => ∃ v0_ : Value, e = .returned (.tuple #[v0_, .int .i64 0]) ∧ Kd.R (Kd.int .u8) 5 w' W.heap.size (fun _ => True) v0_ (file l) ∧ Below W.heap.size W w')
    have HC2 := Aside0.mk fun (W : World) (hw1 : Below w.heap.size w W) (es : Array Value) (he : es = _) => (he ▸ HCC.out rfl W hw1 : Calls Try.prog 22 #[.agg es] W fun e w' => ∃ (B : Option Addr) (c : Nat), e = .returned (.slice B l.length c) ∧ l.length ≤ c ∧ k42.C w' B l.length l ∧ Below W.heap.size W w')
    go_enter Try.func11, Try.ntmps11
    go_wp2_with (first
      | (go_at_call 12; with_reducible refine (HE1.out _ (by repeat (first | exact Below.refl _ _ | apply pw_below_drewN | apply below_alloc))).mono ?_; rintro e w1 ⟨rfl, hd⟩; have z1 := cells1 hd; have HB := Aside0.mk (bthen (show Below w.heap.size w _ by repeat (first | exact Below.refl _ _ | apply pw_below_drewN | apply below_alloc)) hd); clear hd)
      | (go_at_call 22; with_reducible refine (HC2.out _ HB.out _ rfl).mono ?_; rintro e w2 ⟨B, c, rfl, hcl, hr, hd⟩; have HB2 := Aside0.mk (bthen HB.out hd); have HR2 := Aside0.mk hr; have HL2 := Aside0.mk hcl; clear hd hr hcl)
      | (go_at_call 21; with_reducible refine (HP.out _ _ _ HR2.out HL2.out).mono ?_; rintro e w3 ⟨v, rfl, hr, hd⟩; have HB3 := Aside0.mk (bthen HB2.out hd); have HR3 := Aside0.mk (Kd.R_lower hr HB2.out.size); clear hr hd))
    go_ret2
    exact ⟨_, rfl, HR3.out, HB3.out⟩
end Go.Proofs.Ythkocpcjcpohcaa.P
end
section
namespace Go.Proofs.Ythkocpcjcpohcaa.P
open Go Go.RowKit Go.Proofs.YthkocpcjcpohcaaW.PrintWords Go.Proofs.YthkocpcjcpohcaaW.PrintLast Go.Proofs.YthkocpcjcpohcaaW.PrintMore Go.Proofs.Ythkocpcjcpohcaa.U Go.Proofs.Ythkocpcjcpohcaa.Pure
set_option linter.unusedVariables false
set_option linter.unusedSimpArgs false
attribute [local go_sem] max2_int min2_int max_two min_two max_three min_three max_four min_four
theorem KL_of_reps {α : Type} {d : Kd α} {w : World} : ∀ {l : List α} {cs : List Value}, Reps (d.K w) d.sz l cs → KL d w l cs
  | [], cs, h => by
    have := h.1
    simp at this
    exact this
  | p :: l, cs, h => by
    have h1 := h.1
    rw [List.length_cons, Nat.add_mul, Nat.one_mul] at h1
    refine ⟨cs.take d.sz, cs.drop d.sz, (List.take_append_drop _ _).symm, by rw [List.length_take]; omega, by simpa using h.2 0 p rfl, KL_of_reps ⟨by rw [List.length_drop]; omega, fun j q hq => ?_⟩⟩
    have := h.2 (j + 1) q (by simpa using hq)
    rw [List.drop_drop]
    rwa [Nat.add_mul, Nat.one_mul, Nat.add_comm] at this
theorem St.pinRX {α : Type} {w0 w w' : World} {A : Asrt} {d : Kd α} {e : Nat} {v : Value} {xs : List α} (h : St w0 w A) (hb : Below w.heap.size w w') (hr : Kd.R d e w' w.heap.size (fun _ => True) v xs) :
    ∃ B c inner, v = .slice B xs.length c ∧ xs.length ≤ c ∧ St w0 w' (pin w0 (fun W => ReadsCells W d.sz B xs.length inner ∧ KL d W xs inner) * A) := by
  obtain ⟨B, c, hv, hc, hC⟩ := Kd.R_reads hr
  obtain ⟨h0, inner, ho, hrep⟩ := Kd.R_bound hr
  refine ⟨B, c, inner, hv, hc, ?_⟩
  have hle := h.below.size
  refine St.move (a := Asrt.emp) (h.imp (Asrt.emp_l' A)) fun F hF _ => ⟨fun k => w.heap.size ≤ k ∧ k < w'.heap.size, ⟨fun k hk => hk.2, fun W hB hm => ?_⟩, hb.os, hb.tape, hb.output, hb.size, fun k hk _ => hb.block k hk, fun k hk => .inr hk.1⟩
  have ho' := own_move ho fun k hk => hm k ⟨(h0 k hk).2.1, (h0 k hk).2.2.1⟩
  have hk : KL d W xs inner := KL_of_reps (hrep.imp_ fun _ _ hp => d.K_of_M (d.M_move (fun k hk => hm k ⟨hk.1.2.1, hk.1.2.2.1⟩) hp))
  rw [hv] at ho'
  exact ⟨rowReadsC ((St.refl w0).newRow hB ho' hle) (KL_one hk), hk⟩
theorem ReadsCells.drop {w : World} {A : Option Addr} {n size c : Nat} {xs : List Value} (h : ReadsCells w size A (n + 1) xs) (hc : n + 1 ≤ c) : ReadsCells w size (if c = 1 then A else A.map (·.add size)) n (xs.drop size) := by
  obtain ⟨h1, h2, h3⟩ := h
  refine ⟨by rw [List.length_drop, h1, Nat.add_mul, Nat.one_mul]; omega, fun u hu => h2 u (List.mem_of_mem_drop hu), fun hn => ?_⟩
  obtain ⟨ad, rfl, hcell⟩ := h3 (by omega)
  rw [if_neg (by omega)]
  refine ⟨ad.add size, rfl, fun j u hj => ?_⟩
  rw [List.getElem?_drop] at hj
  rw [add_add]
  exact hcell _ u hj
structure poolQ (Q : World → Prop) (A : Option Addr) (c : Nat) (l : List Ch) (zs : List Value) : Prop where
  le : l.length ≤ c
  mx : l.length ≤ 9223372036854775807
  q : ∀ W, Q W → ReadsCells W 2 A l.length zs ∧ KL k42 W l zs
theorem poolQ.C {Q : World → Prop} {A : Option Addr} {c : Nat} {l : List Ch} {zs : List Value} (h : poolQ Q A c l zs) {W : World} (hW : Q W) : k42.C W A l.length l := C_of_KL (h.q W hW).2 rfl h.mx (h.q W hW).1
theorem poolQ.cons {Q : World → Prop} {A : Option Addr} {c : Nat} {x : Ch} {t : List Ch} {zs : List Value} (h : poolQ Q A c (x :: t) zs) {W0 : World} (hW0 : Q W0) :
    ∃ ad B c1, A = some ad ∧ W0.cell? ad = some (.string x.f0) ∧ W0.cell? ⟨ad.block, ad.off + 1, none⟩ = some (.slice B x.f1.length c1) ∧ x.f1.length ≤ c1 ∧ (∀ W, Q W → (Kd.int .u8).C W B x.f1.length x.f1) ∧
      poolQ Q (if c = 1 then A else A.map (·.add 2)) (c - 1) t (zs.drop 2) := by
  have hr := (h.q W0 hW0).1
  have hle := h.le
  rw [List.length_cons] at hle
  have hmx := h.mx
  rw [List.length_cons] at hmx
  have key : ∀ W, Q W → ∃ B c1, zs.take 2 = [.string x.f0, .slice B x.f1.length c1] ∧ x.f1.length ≤ c1 ∧ (Kd.int .u8).C W B x.f1.length x.f1 ∧ KL k42 W t (zs.drop 2) := fun W hW => by
    obtain ⟨cs, r, hzs, hl, hK, hr⟩ := (h.q W hW).2
    obtain ⟨B, c1, rfl, hcl, hC⟩ := k42_open hK
    rw [hzs]
    exact ⟨B, c1, by simp, hcl, hC, by simpa using hr⟩
  obtain ⟨B, c1, hz, hcl, hC, _⟩ := key W0 hW0
  have hz0 : zs[0]? = some (.string x.f0) := by
    have := congrArg (fun l : List Value => l[0]?) hz
    simpa [List.getElem?_take] using this
  have hz1 : zs[1]? = some (.slice B x.f1.length c1) := by
    have := congrArg (fun l : List Value => l[1]?) hz
    simpa [List.getElem?_take] using this
  obtain ⟨ad, hA, hcell⟩ := hr.2.2 (by simp)
  have w0 := hcell 0 _ hz0
  have w1 := hcell (0 + 1) _ hz1
  rw [add_field _ _ 1 (by omega)] at w1
  rw [Addr.add_zero'] at w0 w1
  refine ⟨ad, B, c1, hA, w0, w1, hcl, fun W hW => ?_, ⟨by omega, by omega, fun W hW => ⟨(h.q W hW).1.drop hle, ?_⟩⟩⟩
  · obtain ⟨B', c', hz', _, hC', _⟩ := key W hW
    rw [hz] at hz'
    injection hz' with _ h2
    injection h2 with h2 _
    injection h2 with h2 _ _
    rw [h2]
    exact hC'
  · obtain ⟨_, _, _, _, _, hk⟩ := key W hW
    exact hk
def parA (w : World) (g : Nat) (l : List Ch) (most e : Int) (A : Option Addr) (c : Nat) (Q : World → Prop) (r : Asrt) : Asrt :=
  Asrt.blk g 59 #[.slice A l.length c, .int .i64 most, .int .i64 e] * (pin w Q * r)
def headB (l : List Ch) (nm : ByteArray) : Bool := match l with
  | [] => false
  | x :: _ => decide (x.f0 = nm)
def isB (l : List Ch) (e : Int) (nm : ByteArray) : Bool := decide (e = 0) && headB l nm
def failE (e e1 : Int) : Int := if e = 0 then e1 else e
theorem ba_eq (a b : ByteArray) : (a.toList == b.toList) = decide (a = b) := by
  rw [Bool.eq_iff_iff, beq_iff_eq, decide_eq_true_iff, str_ext]
section
variable {w W : World} {g : Nat} {l : List Ch} {most e : Int} {A : Option Addr} {c : Nat} {Q : World → Prop} {r : Asrt}
set_option maxHeartbeats 8000000 in
set_option maxRecDepth 100000 in
theorem fail_calls (e1 : Int) (hS : St w W (parA w g l most e A c Q r)) :
    Calls Try.prog 37 #[.pointer (some ⟨g, 0, none⟩), .int .i64 e1] W fun x w' => x = .returned (.tuple #[]) ∧ St w w' (parA w g l most (failE e e1) A c Q r) := by
  unfold parA at hS
  have m2 : W.cell? ⟨g, 2, none⟩ = some (.int .i64 e) := (hS.cell 2).trans rfl
  have f2 := hS.frozen 2
  have HS := Aside0.mk hS
  clear hS
  by_cases he : e = 0
  · have y1 : (e == 0) = true := by simp [he]
    have HE : Aside0 (failE e e1 = e1) := ⟨if_pos he⟩
    clear he
    go_enter Try.func37, Try.ntmps37
    go_wp2_with fail
    go_end0
    rw [HE.out]
    exact ⟨rfl, HS.out.set 2 (.int .i64 e1)⟩
  · have y1 : (e == 0) = false := by simp [he]
    have HE : Aside0 (failE e e1 = e) := ⟨if_neg he⟩
    clear he
    go_enter Try.func37, Try.ntmps37
    go_wp2_with fail
    go_end0
    rw [HE.out]
    exact ⟨rfl, HS.out⟩
set_option maxHeartbeats 8000000 in
set_option maxRecDepth 100000 in
theorem is_calls (nm : ByteArray) {zs : List Value} (hq : poolQ Q A c l zs) (hS : St w W (parA w g l most e A c Q r)) :
    Calls Try.prog 34 #[.pointer (some ⟨g, 0, none⟩), .string nm] W fun x w' => x = .returned (.bool (isB l e nm)) ∧ St w w' (parA w g l most e A c Q r) := by
  unfold parA at hS
  have m0 : W.cell? ⟨g, 0, none⟩ = some (.slice A l.length c) := (hS.cell 0).trans rfl
  have m2 : W.cell? ⟨g, 2, none⟩ = some (.int .i64 e) := (hS.cell 2).trans rfl
  have hC := hq.C hS.swap.pinGet
  have HS := Aside0.mk hS
  clear hS
  cases l with
  | nil =>
    clear hC
    go_enter Try.func34, Try.ntmps34
    go_wp2_with fail
    all_goals go_ret
    all_goals exact ⟨by simp [isB, headB], HS.out⟩
  | cons x t =>
    obtain ⟨ad1, B, c1, rfl, d0, d1, m1, g1⟩ := at_T42 hC (0 : Int) (by omega) (by simp)
    simp only [Int.toNat_zero, Nat.zero_mul, Addr.add_zero'] at d0 d1
    rw [show rd_T42 (x :: t) 0 = x from rfl] at d0 d1 m1 g1
    clear hC g1
    obtain ⟨n, hn⟩ : ∃ n, n = (x :: t).length := ⟨_, rfl⟩
    have y1 : (0 < n) = True := eq_true (by rw [hn]; simp)
    have y2 : ((0 : Int) < (n : Int)) = True := eq_true (by rw [hn]; simp)
    rw [← hn] at m0 HS
    have HN := Aside0.mk hn
    have hsb := ba_eq x.f0 nm
    clear hn
    go_enter Try.func34, Try.ntmps34
    go_wp2_with fail
    all_goals go_ret
    all_goals refine ⟨?_, by unfold parA; rw [← HN.out]; first | exact HS.out | exact HS.out.drew⟩
    all_goals (unfold isB headB; simp [*])
    all_goals trace_state
def nextV (l : List Ch) (e : Int) (nm : ByteArray) (wanted : Bool) : List Int × Bool × List Ch × Int :=
  if wanted = true ∧ e = 0 then (if headB l nm = true then ((l.getD 0 z42).f1, true, l.drop 1, 0) else ([], false, l, 3)) else ([], false, l, e)
end
end Go.Proofs.Ythkocpcjcpohcaa.P
end
section
namespace Go.Proofs.Ythkocpcjcpohcaa.P
open Go Go.RowKit Go.Proofs.YthkocpcjcpohcaaW.PrintWords Go.Proofs.YthkocpcjcpohcaaW.PrintLast Go.Proofs.YthkocpcjcpohcaaW.PrintMore Go.Proofs.Ythkocpcjcpohcaa.U Go.Proofs.Ythkocpcjcpohcaa.Pure
set_option linter.unusedVariables false
set_option linter.unusedSimpArgs false
attribute [local go_sem] max2_int min2_int max_two min_two max_three min_three max_four min_four
section
variable {w W : World} {g : Nat} {l : List Ch} {most e : Int} {A : Option Addr} {c : Nat} {Q : World → Prop} {r : Asrt}
set_option maxHeartbeats 8000000 in
set_option maxRecDepth 100000 in
theorem next_calls (nm : ByteArray) (wanted : Bool) {zs : List Value} (hq : poolQ Q A c l zs) (hS : St w W (parA w g l most e A c Q r)) :
    Calls Try.prog 71 #[.pointer (some ⟨g, 0, none⟩), .string nm, .bool wanted] W fun x w' => ∃ (B : Option Addr) (cB : Nat) (A' : Option Addr) (c' : Nat) (zs' : List Value), x = .returned (.tuple #[.slice B (nextV l e nm wanted).1.length cB, .bool (nextV l e nm wanted).2.1]) ∧
      (nextV l e nm wanted).1.length ≤ cB ∧ (∀ W, Q W → (Kd.int .u8).C W B (nextV l e nm wanted).1.length (nextV l e nm wanted).1) ∧ poolQ Q A' c' (nextV l e nm wanted).2.2.1 zs' ∧
      St w w' (parA w g (nextV l e nm wanted).2.2.1 most (nextV l e nm wanted).2.2.2 A' c' Q r) := by
  by_cases hwe : wanted = true ∧ e = 0
  case neg =>
    have hV : nextV l e nm wanted = ([], false, l, e) := if_neg hwe
    rw [hV]
    have HQ := Aside0.mk hq
    have HS := Aside0.mk hS
    have m2 : W.cell? ⟨g, 2, none⟩ = some (.int .i64 e) := (hS.cell 2).trans rfl
    have y1 : wanted = true → (e != 0) = true := fun h => by simp; exact fun h2 => hwe ⟨h, h2⟩
    clear hS hq hV hwe
    cases wanted with
    | false =>
      clear y1
      go_enter Try.func71, Try.ntmps71
      go_wp2_with fail
      all_goals go_ret2
      all_goals exact ⟨none, 0, A, c, zs, rfl, Nat.le_refl _, fun W _ => Kd.C_nil _ W, HQ.out, by first | exact HS.out | exact HS.out.drew⟩
    | true =>
      have y2 := y1 rfl
      clear y1
      go_enter Try.func71, Try.ntmps71
      go_wp2_with fail
      all_goals go_ret2
      all_goals exact ⟨none, 0, A, c, zs, rfl, Nat.le_refl _, fun W _ => Kd.C_nil _ W, HQ.out, by first | exact HS.out | exact HS.out.drew⟩
  case pos =>
    obtain ⟨rfl, rfl⟩ := hwe
    have m0 : W.cell? ⟨g, 0, none⟩ = some (.slice A l.length c) := (hS.cell 0).trans rfl
    have f0 := hS.frozen 0
    have m2 : W.cell? ⟨g, 2, none⟩ = some (.int .i64 0) := (hS.cell 2).trans rfl
    have hQW := hS.swap.pinGet
    have HQ := Aside0.mk hq
    have HF : Aside0 (Calls Try.prog 37 #[.pointer (some ⟨g, 0, none⟩), .int .i64 3] W fun x w' => x = .returned (.tuple #[]) ∧ St w w' (parA w g l most 3 A c Q r)) := ⟨fail_calls 3 hS⟩
    have HS := Aside0.mk hS
    clear hS
    cases l with
    | nil =>
      have hV : nextV [] 0 nm true = ([], false, [], 3) := rfl
      rw [hV]
      clear hV hq hQW
      go_enter Try.func71, Try.ntmps71
      go_wp2_with (go_at_call 37; refine HF.out.mono ?_; rintro e w1 ⟨rfl, hs⟩; have HS1 := Aside0.mk hs; clear hs)
      all_goals go_ret2
      all_goals exact ⟨none, 0, A, c, zs, rfl, Nat.le_refl _, fun W _ => Kd.C_nil _ W, HQ.out, HS1.out⟩
    | cons x t =>
      obtain ⟨ad1, B, c1, rfl, d0, d1, m1, g1, hp⟩ := hq.cons hQW
      have HP := Aside0.mk hp
      have HG := Aside0.mk g1
      have hle := hq.le
      clear hp g1 hq hQW
      obtain ⟨n, hn⟩ : ∃ n, n = (x :: t).length := ⟨_, rfl⟩
      have y1 : (0 < n) = True := eq_true (by rw [hn]; simp)
      have y2 : ((0 : Int) < (n : Int)) = True := eq_true (by rw [hn]; simp)
      have y3 : ((n : Int) == 0) = false := by rw [hn]; simp; omega
      have y5 : (1 ≤ n) = True := eq_true (by rw [hn]; simp)
      have y4 : ((1 : Int) ≤ (n : Int)) = True := eq_true (by have := of_eq_true y5; omega)
      have y6 : (n ≤ c) = True := eq_true (by rw [hn]; exact hle)
      have y7 : ((n : Int) ≤ (c : Int)) = True := eq_true (by rw [hn]; exact Int.ofNat_le.2 hle)
      rw [← hn] at m0
      have HN := Aside0.mk hn
      by_cases hx : x.f0 = nm
      · have hsb : (x.f0.toList != nm.toList) = false := by rw [hx]; simp
        have hsb2 : (x.f0.toList == nm.toList) = true := by rw [hx]; simp
        have hV : nextV (x :: t) 0 nm true = (x.f1, true, t, 0) := by simp [nextV, headB, hx]
        have hn1 : n - 1 = t.length := by rw [hn]; simp
        rw [hV]
        clear hn hx hV hle
        go_enter Try.func71, Try.ntmps71
        by_cases hc1 : c = 1
        · rw [if_pos hc1] at HP
          have HC1 := Aside0.mk hc1
          go_wp2_with fail
          go_ret2
          have hs := HS.out
          exact ⟨B, c1, some ad1, 0, zs.drop 2, rfl, m1, HG.out, by have h := HP.out; rw [HC1.out] at h; exact h, by unfold parA at hs ⊢; rw [← hn1]; exact hs.set 0 _⟩
        · have hadd : ad1.add 2 = ⟨ad1.block, ad1.off + 2, none⟩ := by rw [show 2 = 0 + 2 from rfl, add_field _ _ 2 (by omega), Addr.add_zero']
          have HP2 : Aside0 (poolQ Q (some ⟨ad1.block, ad1.off + 2, none⟩) (c - 1) t (zs.drop 2)) := ⟨by have h := HP.out; rw [if_neg hc1] at h; rw [← hadd]; exact h⟩
          clear hadd
          go_wp2_with fail
          go_ret2
          have hs := HS.out
          exact ⟨B, c1, some ⟨ad1.block, ad1.off + 2, none⟩, c - 1, zs.drop 2, rfl, m1, HG.out, HP2.out, by unfold parA at hs ⊢; rw [← hn1]; exact hs.set 0 _⟩
      · have hsb : (x.f0.toList != nm.toList) = true := by rw [bne, ba_eq, decide_eq_false hx]; rfl
        have hsb2 : (x.f0.toList == nm.toList) = false := by rw [ba_eq, decide_eq_false hx]
        have hV : nextV (x :: t) 0 nm true = ([], false, x :: t, 3) := by simp [nextV, headB, hx]
        rw [hV]
        clear hn hx hV hle
        go_enter Try.func71, Try.ntmps71
        go_wp2_with (go_at_call 37; refine HF.out.mono ?_; rintro e w1 ⟨rfl, hs⟩; have HS1 := Aside0.mk hs; clear hs)
        all_goals go_ret2
        all_goals exact ⟨none, 0, _, c, zs, rfl, Nat.le_refl _, fun W _ => Kd.C_nil _ W, HQ.out, HS1.out⟩
end
end Go.Proofs.Ythkocpcjcpohcaa.P
end
section
namespace Go.Proofs.Ythkocpcjcpohcaa.P
open Go Go.RowKit Go.Proofs.YthkocpcjcpohcaaW.PrintWords Go.Proofs.YthkocpcjcpohcaaW.PrintLast Go.Proofs.YthkocpcjcpohcaaW.PrintMore Go.Proofs.Ythkocpcjcpohcaa.U Go.Proofs.Ythkocpcjcpohcaa.Pure
set_option linter.unusedVariables false
set_option linter.unusedSimpArgs false
attribute [local go_sem] max2_int min2_int max_two min_two max_three min_three max_four min_four
def restE (l : List Ch) (e : Int) : Int := if e = 0 ∧ moreB l = false then 3 else e
section
variable {w W : World} {g : Nat} {l : List Ch} {most e : Int} {A : Option Addr} {c : Nat} {Q : World → Prop} {r : Asrt}
set_option maxHeartbeats 8000000 in
set_option maxRecDepth 100000 in
theorem rest_calls {zs : List Value} (hq : poolQ Q A c l zs) (hS : St w W (parA w g l most e A c Q r)) :
    Calls Try.prog 73 #[.pointer (some ⟨g, 0, none⟩)] W fun x w' => x = .returned (.slice A l.length c) ∧ St w w' (parA w g l most (restE l e) A c Q r) := by
  have m0 : W.cell? ⟨g, 0, none⟩ = some (.slice A l.length c) := (hS.cell 0).trans rfl
  have m2 : W.cell? ⟨g, 2, none⟩ = some (.int .i64 e) := (hS.cell 2).trans rfl
  have HM := Aside0.mk (more_calls A c l W (hq.C hS.swap.pinGet))
  have HS := Aside0.mk hS
  clear hS hq
  by_cases he : e = 0
  case neg =>
    have y1 : (e == 0) = false := by simp [he]
    have HE : Aside0 (restE l e = e) := ⟨if_neg fun h => he h.1⟩
    clear he
    go_enter Try.func73, Try.ntmps73
    go_wp2_with fail
    all_goals go_ret
    all_goals exact ⟨rfl, by rw [HE.out]; first | exact HS.out | exact HS.out.drew⟩
  case pos =>
    subst he
    cases hm : moreB l with
    | true =>
      rw [hm] at HM
      have HE : Aside0 (restE l 0 = 0) := ⟨if_neg fun h => by simp [hm] at h⟩
      clear hm
      go_enter Try.func73, Try.ntmps73
      go_wp2_with (go_at_call 27; refine HM.out.mono ?_; rintro e w1 ⟨rfl, hd⟩; have HS1 := Aside0.mk (HS.out.belowR hd); have z0 : w1.cell? ⟨g, 0, none⟩ = some (.slice A l.length c) := (HS1.out.cell 0).trans rfl; clear hd)
      all_goals go_ret
      all_goals exact ⟨rfl, by rw [HE.out]; exact HS1.out⟩
    | false =>
      rw [hm] at HM
      have HE : Aside0 (restE l 0 = 3) := ⟨if_pos ⟨rfl, hm⟩⟩
      clear hm
      go_enter Try.func73, Try.ntmps73
      go_wp2_with (first
        | (go_at_call 27; refine HM.out.mono ?_; rintro e w1 ⟨rfl, hd⟩; have HS1 := Aside0.mk (HS.out.belowR hd); clear hd)
        | (go_at_call 37; refine (fail_calls 3 HS1.out).mono ?_; rintro e w2 ⟨rfl, hs⟩; have HS2 := Aside0.mk hs; have z0 : w2.cell? ⟨g, 0, none⟩ = some (.slice A l.length c) := (hs.cell 0).trans rfl; clear hs))
      all_goals go_ret
      all_goals exact ⟨rfl, by rw [HE.out]; exact HS2.out⟩
end
end Go.Proofs.Ythkocpcjcpohcaa.P
end
section
namespace Go.Proofs.Ythkocpcjcpohcaa.P
open Go Go.RowKit Go.Proofs.YthkocpcjcpohcaaW.PrintWords Go.Proofs.YthkocpcjcpohcaaW.PrintLast Go.Proofs.YthkocpcjcpohcaaW.PrintMore Go.Proofs.Ythkocpcjcpohcaa.U Go.Proofs.Ythkocpcjcpohcaa.Pure
set_option linter.unusedVariables false
set_option linter.unusedSimpArgs false
attribute [local go_sem] max2_int min2_int max_two min_two max_three min_three max_four min_four
def numV (l : List Int) (a n : Int) : Int := (Pure.get l a n).1
theorem numV_bd {l : List Int} (hl : Bytes l) (a n : Int) (hn : n ≤ 4) : 0 ≤ numV l a n ∧ numV l a n < 4294967296 := by
  unfold numV Pure.get
  split
  · have h := num_bd ((hl.drop a.toNat).take n.toNat)
    refine ⟨h.1, Int.lt_of_lt_of_le h.2 ?_⟩
    have hle : ((l.drop a.toNat).take n.toNat).length ≤ 4 := by rw [List.length_take]; omega
    have h4 : (256 : Int) ^ ((l.drop a.toNat).take n.toNat).length ≤ 4294967296 := by
      generalize ((l.drop a.toNat).take n.toNat).length = m at hle
      have : m = 0 ∨ m = 1 ∨ m = 2 ∨ m = 3 ∨ m = 4 := by omega
      rcases this with rfl | rfl | rfl | rfl | rfl <;> decide
    exact h4
  · exact ⟨Int.le_refl _, by decide⟩
theorem num_calls (A : Option Addr) (c : Nat) (l : List Int) (w : World) (hr : (Kd.int .u8).C w A l.length l) (hc : l.length ≤ c) (hl : Bytes l) (hlen : l.length ≤ 140737488351232) (a n : Int) (ha : 0 ≤ a) (hn : n ≤ 4) :
    Calls Try.prog 85 #[.slice A l.length c, .int .i64 a, .int .i64 n] w fun e w' => e = .returned (.int .i64 (numV l a n)) ∧ Drawn0 w w' := by
  obtain ⟨k, hk⟩ := (le_Get_ev hl hlen a n (by omega)).rounds
  have hb := numV_bd hl a n hn
  refine box_num.calls k A c l a n _ w hr hc ?_
  unfold box_num.f
  rw [hk]
  show some (wrap64 (numV l a n)) = _
  rw [w64 (by omega) (by omega)]
end Go.Proofs.Ythkocpcjcpohcaa.P
end
section
namespace Go.Proofs.Ythkocpcjcpohcaa.P
open Go Go.RowKit Go.Proofs.YthkocpcjcpohcaaW.PrintWords Go.Proofs.YthkocpcjcpohcaaW.PrintLast Go.Proofs.YthkocpcjcpohcaaW.PrintMore Go.Proofs.Ythkocpcjcpohcaa.U Go.Proofs.Ythkocpcjcpohcaa.Pure
set_option linter.unusedVariables false
set_option linter.unusedSimpArgs false
attribute [local go_sem] max2_int min2_int max_two min_two max_three min_three max_four min_four
abbrev nLOSS : ByteArray := ⟨#[86, 80, 56, 32]⟩
def alphaP (l : List Ch) (e : Int) : List Int × List Ch × Int :=
  if isB l e nALPH = true then ((nextV l e nALPH true).1, (nextV l e nALPH true).2.2.1, if (nextV l e nALPH true).1.length = 0 ∨ isB (nextV l e nALPH true).2.2.1 (nextV l e nALPH true).2.2.2 nLOSS = false then failE (nextV l e nALPH true).2.2.2 3 else (nextV l e nALPH true).2.2.2) else ([], l, e)
def kindP (l : List Ch) (e : Int) : Int := if isB l e nLOSS = true then 2 else 1
def dataP (l : List Ch) (e : Int) : List Int × Bool × List Ch × Int := nextV (alphaP l e).2.1 (alphaP l e).2.2 (payS (kindP (alphaP l e).2.1 (alphaP l e).2.2)) true
section
variable {w W : World} {g gf : Nat} {l : List Ch} {most e : Int} {A : Option Addr} {c : Nat} {Q : World → Prop} {r : Asrt}
set_option maxHeartbeats 8000000 in
set_option maxRecDepth 100000 in
theorem pictureP_calls (a0 a1 a2 a3 a4 a5 a6 a7 a9 a10 : Value) {zs : List Value} (hq : poolQ Q A c l zs)
    (hS : St w W (parA w g l most e A c Q (Asrt.blk gf 44 #[a0, a1, a2, a3, a4, a5, a6, a7, .slice none 0 0, a9, a10] * r))) :
    Calls Try.prog 74 #[.pointer (some ⟨g, 0, none⟩), .pointer (some ⟨gf, 0, none⟩)] W fun x w' => ∃ (B8 : Option Addr) (c8 : Nat) (B9 : Option Addr) (c9 : Nat) (A' : Option Addr) (c' : Nat) (zs' : List Value), x = .returned (.tuple #[]) ∧
      (alphaP l e).1.length ≤ c8 ∧ (∀ W, Q W → (Kd.int .u8).C W B8 (alphaP l e).1.length (alphaP l e).1) ∧ (dataP l e).1.length ≤ c9 ∧ (∀ W, Q W → (Kd.int .u8).C W B9 (dataP l e).1.length (dataP l e).1) ∧ poolQ Q A' c' (dataP l e).2.2.1 zs' ∧
      St w w' (parA w g (dataP l e).2.2.1 most (dataP l e).2.2.2 A' c' Q (Asrt.blk gf 44 #[a0, a1, a2, a3, a4, a5, a6, .int .i64 (kindP (alphaP l e).2.1 (alphaP l e).2.2), .slice B8 (alphaP l e).1.length c8, .slice B9 (dataP l e).1.length c9, a10] * r)) := by
  have HQ := Aside0.mk hq
  have HI := Aside0.mk (is_calls nALPH hq hS)
  have HS := Aside0.mk hS
  clear hS hq
  go_enter Try.func74, Try.ntmps74
  go_upto_if 5 with (go_at_call 34; refine HI.out.mono ?_; rintro e w1 ⟨rfl, hs⟩; have HS1 := Aside0.mk hs; clear hs)
  clear HS HI
  go_cut [] from 5 to 26 (fun wc => ∃ (B8 : Option Addr) (c8 : Nat) (A' : Option Addr) (c' : Nat) (zs' : List Value), (alphaP l e).1.length ≤ c8 ∧ (∀ W, Q W → (Kd.int .u8).C W B8 (alphaP l e).1.length (alphaP l e).1) ∧ poolQ Q A' c' (alphaP l e).2.1 zs' ∧
    St w wc (parA w g (alphaP l e).2.1 most (alphaP l e).2.2 A' c' Q (Asrt.blk gf 44 #[a0, a1, a2, a3, a4, a5, a6, a7, .slice B8 (alphaP l e).1.length c8, a9, a10] * r)))
  case first =>
    cases hA : isB l e nALPH with
    | false =>
      have HV : Aside0 (alphaP l e = ([], l, e)) := ⟨by unfold alphaP; rw [if_neg (by rw [hA]; simp)]⟩
      clear hA
      go_wp2_with fail
      go_meet
      case rel =>
        rw [HV.out]
        exact ⟨none, 0, A, c, zs, Nat.le_refl _, fun W _ => Kd.C_nil _ W, HQ.out, HS1.out⟩
    | true =>
      have HN := Aside0.mk (next_calls nALPH true HQ.out HS1.out)
      have HV : Aside0 (alphaP l e = ((nextV l e nALPH true).1, (nextV l e nALPH true).2.2.1, if (nextV l e nALPH true).1.length = 0 ∨ isB (nextV l e nALPH true).2.2.1 (nextV l e nALPH true).2.2.2 nLOSS = false then failE (nextV l e nALPH true).2.2.2 3 else (nextV l e nALPH true).2.2.2)) := ⟨by unfold alphaP; rw [if_pos hA]⟩
      clear hA
      generalize nextV l e nALPH true = n at HN HV
      obtain ⟨al, ok, l1, e1⟩ := n
      have HV2 : Aside0 (alphaP l e = (al, l1, if al.length = 0 ∨ isB l1 e1 nLOSS = false then failE e1 3 else e1)) := ⟨HV.out⟩
      clear HV
      go_upto_region 2 with (go_at_call 71; refine HN.out.mono ?_; rintro e w2 ⟨B8, c8, A', c', zs', rfl, hc8, hC8, hq2, hs⟩; have h2 := (show St w w2 (Asrt.blk g 59 _ * (pin w Q * (Asrt.blk gf 44 _ * r))) from hs).rot3; have q8 := (h2.cell 8).trans rfl; have f8 := h2.frozen 8; have HQ2 := Aside0.mk hq2; have HC8 := Aside0.mk hC8; have HL8 := Aside0.mk hc8; have HS2 := Aside0.mk h2; clear hs h2 hq2 hC8 hc8)
      have HS3 : Aside0 (St w (w2.setCell ⟨gf, 8, none⟩ (.slice B8 al.length c8)) (parA w g l1 most e1 A' c' Q (Asrt.blk gf 44 #[a0, a1, a2, a3, a4, a5, a6, a7, .slice B8 al.length c8, a9, a10] * r))) := ⟨(HS2.out.set 8 (.slice B8 al.length c8)).rot3.rot3⟩
      have p8 : (w2.setCell ⟨gf, 8, none⟩ (.slice B8 al.length c8)).cell? ⟨gf, 8, none⟩ = some (.slice B8 al.length c8) := ((HS2.out.set 8 (.slice B8 al.length c8)).cell 8).trans rfl
      obtain ⟨W3, hW3⟩ : ∃ W3, W3 = w2.setCell ⟨gf, 8, none⟩ (.slice B8 al.length c8) := ⟨_, rfl⟩
      rw [← hW3] at HS3 p8 ⊢
      clear hW3 q8 f8 HS2 HS1 HN HQ
      have HF3 := Aside0.mk (fail_calls 3 HS3.out)
      have HI3 := Aside0.mk (is_calls nLOSS HQ2.out HS3.out)
      by_cases hz : al.length = 0
      · have y1 : ((al.length : Int) == 0) = true := by simp [hz]
        have HV3 : Aside0 (alphaP l e = (al, l1, failE e1 3)) := ⟨by rw [HV2.out, if_pos (Or.inl hz)]⟩
        clear hz HI3
        go_wp2_with (go_at_call 37; refine HF3.out.mono ?_; rintro e w4 ⟨rfl, hs⟩; have HS4 := Aside0.mk hs; clear hs)
        go_meet
        case rel =>
          rw [HV3.out]
          exact ⟨B8, c8, A', c', zs', HL8.out, HC8.out, HQ2.out, HS4.out⟩
      · have y1 : ((al.length : Int) == 0) = false := beq_eq_false_iff_ne.2 (by omega)
        cases hB : isB l1 e1 nLOSS with
        | true =>
          rw [hB] at HI3
          have HV3 : Aside0 (alphaP l e = (al, l1, e1)) := ⟨by rw [HV2.out, if_neg (by rw [hB]; simp [hz])]⟩
          clear hz hB HF3
          go_wp2_with (go_at_call 34; refine HI3.out.mono ?_; rintro e w4 ⟨rfl, hs⟩; have HS4 := Aside0.mk hs; clear hs)
          go_meet
          case rel =>
            rw [HV3.out]
            exact ⟨B8, c8, A', c', zs', HL8.out, HC8.out, HQ2.out, HS4.out⟩
        | false =>
          rw [hB] at HI3
          have HV3 : Aside0 (alphaP l e = (al, l1, failE e1 3)) := ⟨by rw [HV2.out, if_pos (Or.inr hB)]⟩
          clear hz hB HF3
          go_wp2_with (first
            | (go_at_call 34; refine HI3.out.mono ?_; rintro e w4 ⟨rfl, hs⟩; have HF4 := Aside0.mk (fail_calls 3 hs); clear hs)
            | (go_at_call 37; refine HF4.out.mono ?_; rintro e w5 ⟨rfl, hs⟩; have HS5 := Aside0.mk hs; clear hs))
          go_meet
          case rel =>
            rw [HV3.out]
            exact ⟨B8, c8, A', c', zs', HL8.out, HC8.out, HQ2.out, HS5.out⟩
  case rest =>
    obtain ⟨B8, c8, A', c', zs', hl8, hC8, hq2, hs⟩ := hcut
    have HD : Aside0 (dataP l e = nextV (alphaP l e).2.1 (alphaP l e).2.2 (payS (kindP (alphaP l e).2.1 (alphaP l e).2.2)) true) := ⟨rfl⟩
    obtain ⟨d, hd⟩ : ∃ d, dataP l e = d := ⟨_, rfl⟩
    obtain ⟨⟨al, l1, e1⟩, ha⟩ : ∃ a, alphaP l e = a := ⟨_, rfl⟩
    rw [hd, ha] at HD
    rw [ha] at hl8 hC8 hq2 hs
    have HAE := Aside0.mk ha
    have HDE := Aside0.mk hd
    clear ha hd
    dsimp only at hl8 hC8 hq2 hs HD
    have h2 := (show St w wc (Asrt.blk g 59 _ * (pin w Q * (Asrt.blk gf 44 _ * r))) from hs).rot3
    have q7 := (h2.cell 7).trans rfl
    have f7 := h2.frozen 7
    have HS2 := Aside0.mk h2
    have HQ2 := Aside0.mk hq2
    have HC8 := Aside0.mk hC8
    have HL8 := Aside0.mk hl8
    clear hs h2 hq2 hC8 hl8 HQ HS1
    go_upto_region 5 with (fail)
    have HS3 := Aside0.mk (HS2.out.set 7 (.int .i64 1))
    obtain ⟨W3, hW3⟩ : ∃ W3, W3 = wc.setCell ⟨gf, 7, none⟩ (.int .i64 1) := ⟨_, rfl⟩
    rw [← hW3] at HS3 ⊢
    clear hW3 q7 f7 HS2
    have HI3 := Aside0.mk (is_calls nLOSS HQ2.out (show St w W3 (parA w g l1 most e1 A' c' Q (Asrt.blk gf 44 #[a0, a1, a2, a3, a4, a5, a6, .int .i64 1, .slice B8 al.length c8, a9, a10] * r)) from HS3.out.rot3.rot3))
    go_upto_if 31 with (go_at_call 34; refine HI3.out.mono ?_; rintro e w4 ⟨rfl, hs⟩; have HS4 := Aside0.mk (show St w w4 (Asrt.blk g 59 _ * (pin w Q * (Asrt.blk gf 44 _ * r))) from hs).rot3; clear hs)
    clear HI3 HS3
    have q7 := (HS4.out.cell 7).trans rfl
    have f7 := HS4.out.frozen 7
    go_cut [] from 27 to 34 (fun wd => St w wd (parA w g l1 most e1 A' c' Q (Asrt.blk gf 44 #[a0, a1, a2, a3, a4, a5, a6, .int .i64 (kindP l1 e1), .slice B8 al.length c8, a9, a10] * r)))
    case first =>
      have HK2 : Aside0 (isB l1 e1 nLOSS = true → kindP l1 e1 = 2) := ⟨fun h => if_pos h⟩
      have HK1 : Aside0 (isB l1 e1 nLOSS = false → kindP l1 e1 = 1) := ⟨fun h => if_neg (by rw [h]; simp)⟩
      cases hB : isB l1 e1 nLOSS with
      | true =>
        have HKK := Aside0.mk (HK2.out hB)
        clear hB HK1 HK2
        go_wp2_with fail
        go_meet
        case rel => rw [HKK.out]; exact (HS4.out.set 7 (.int .i64 2)).rot3.rot3
      | false =>
        have HKK := Aside0.mk (HK1.out hB)
        clear hB HK1 HK2
        go_wp2_with fail
        go_meet
        case rel => rw [HKK.out]; exact HS4.out.rot3.rot3
    case rest =>
      clear HS4 q7 f7
      obtain ⟨k, hk⟩ : ∃ k, kindP l1 e1 = k := ⟨_, rfl⟩
      rw [hk] at hcut HD
      have HKE := Aside0.mk hk
      clear hk
      have h2 := (show St w wc (Asrt.blk g 59 _ * (pin w Q * (Asrt.blk gf 44 _ * r))) from hcut).rot3
      have q7 := (h2.cell 7).trans rfl
      have HPS := Aside0.mk (payload_calls k wc)
      have HC := Aside0.mk hcut
      clear hcut h2
      go_wp2_with (first
        | (go_at_call 81; refine HPS.out.mono ?_; rintro e w5 ⟨rfl, ⟨n1, rfl⟩⟩; have h5 := next_calls (payS k) true HQ2.out (HC.out.drewN n1); rw [← HD.out] at h5; have HN5 := Aside0.mk h5; clear h5)
        | (go_at_call 71; refine HN5.out.mono ?_; rintro e w6 ⟨B9, c9, A9, c9', zs9, rfl, hc9, hC9, hq9, hs⟩; have h6 := (show St w w6 (Asrt.blk g 59 _ * (pin w Q * (Asrt.blk gf 44 _ * r))) from hs).rot3; have q9 := (h6.cell 9).trans rfl; have f9 := h6.frozen 9; have HQ9 := Aside0.mk hq9; have HC9 := Aside0.mk hC9; have HL9 := Aside0.mk hc9; have HS6 := Aside0.mk h6; clear hs h6 hq9 hC9 hc9))
      go_end0
      rw [HAE.out, HDE.out]
      dsimp only
      rw [HKE.out]
      exact ⟨B8, c8, B9, c9, A9, c9', zs9, rfl, HL8.out, HC8.out, HL9.out, HC9.out, HQ9.out, (HS6.out.set 9 (.slice B9 d.1.length c9)).rot3.rot3⟩
end
end Go.Proofs.Ythkocpcjcpohcaa.P
end
section
namespace Go.Proofs.Ythkocpcjcpohcaa.P
open Go Go.RowKit Go.Proofs.YthkocpcjcpohcaaW.PrintWords Go.Proofs.YthkocpcjcpohcaaW.PrintLast Go.Proofs.YthkocpcjcpohcaaW.PrintMore Go.Proofs.Ythkocpcjcpohcaa.U Go.Proofs.Ythkocpcjcpohcaa.Pure
set_option linter.unusedVariables false
set_option linter.unusedSimpArgs false
attribute [local go_sem] max2_int min2_int max_two min_two max_three min_three max_four min_four
def okL (l : List Ch) : Prop := ∀ x ∈ l, Bytes x.f1 ∧ x.f1.length ≤ 1000000000
theorem next_ok {l : List Ch} {e : Int} {nm : ByteArray} {wt : Bool} (h : okL l) : (Bytes (nextV l e nm wt).1 ∧ (nextV l e nm wt).1.length ≤ 1000000000) ∧ okL (nextV l e nm wt).2.2.1 := by
  have h0 : Bytes ([] : List Int) := fun x hx => absurd hx (by simp)
  unfold nextV
  split
  · split
    · cases l with
      | nil => exact ⟨⟨h0, by decide⟩, fun x hx => absurd hx (by simp)⟩
      | cons x t => exact ⟨h x List.mem_cons_self, fun y hy => h y (List.mem_cons_of_mem _ hy)⟩
    · exact ⟨⟨h0, by simp⟩, h⟩
  · exact ⟨⟨h0, by simp⟩, h⟩
def headOK (b : List Int) (ok : Bool) : Prop := ok = true ∧ b.length = 10 ∧ Go.bits .andNot .i64 (numV b 0 4) 62 = 0
instance (b : List Int) (ok : Bool) : Decidable (headOK b ok) := by unfold headOK; infer_instance
def headN (b : List Int) (ok : Bool) : Int := if headOK b ok then numV b 0 4 else 0
def headW (b : List Int) (ok : Bool) (i : Int) : Int := if headOK b ok then numV b i 3 + 1 else 0
def headE (b : List Int) (ok : Bool) (e : Int) : Int := if headOK b ok then e else failE e 3
def flagB (n k : Int) : Bool := Go.bits .and .i64 n k != 0
def stillF (l : List Ch) (e Wd Hd : Int) : Fr := ⟨0, 0, Wd, Hd, 0, false, false, kindP (alphaP l e).2.1 (alphaP l e).2.2, (alphaP l e).1, (dataP l e).1, []⟩
def stillV (l : List Ch) (e most Wd Hd : Int) : List Fr × List Ch × Int := if e = 0 ∧ most < 1 then ([], l, 4) else ([stillF l e Wd Hd], (dataP l e).2.2.1, (dataP l e).2.2.2)
def partOK (b : List Int) : Prop := 16 ≤ b.length ∧ rd b 15 ≤ 3 ∧ (inner (b.drop 16).length (b.drop 16) []).2 = 0
instance (b : List Int) : Decidable (partOK b) := by unfold partOK; infer_instance
def bit8 (x k : Int) : Bool := Go.bits .and .u8 x k != 0
def frameQ (b : List Int) (a : List Int × List Ch × Int) (d : List Int × Bool × List Ch × Int) : Fr :=
  ⟨2 * numV b 0 3, 2 * numV b 3 3, numV b 6 3 + 1, numV b 9 3 + 1, numV b 12 3, bit8 (rd b 15) 2, bit8 (rd b 15) 1, kindP a.2.1 a.2.2, a.1, d.1, d.2.2.1⟩
def partF (b : List Int) : Fr := if partOK b then frameQ b (alphaP (inner (b.drop 16).length (b.drop 16) []).1 0) (dataP (inner (b.drop 16).length (b.drop 16) []).1 0) else z44
def partE (b : List Int) (e : Int) : Int := if partOK b then failE e (restE (dataP (inner (b.drop 16).length (b.drop 16) []).1 0).2.2.1 (dataP (inner (b.drop 16).length (b.drop 16) []).1 0).2.2.2) else failE e 3
def partsL : Nat → List Ch → Int → Int → List Fr → List Fr × List Ch × Int
  | 0, l, e, _, acc => (acc, l, e)
  | n + 1, l, e, most, acc => if isB l e nANMF = true then (if most ≤ (acc.length : Int) then (acc, l, failE e 4)
      else partsL n (nextV l e nANMF true).2.2.1 (partE (nextV l e nANMF true).1 (nextV l e nANMF true).2.2.2) most (acc ++ [partF (nextV l e nANMF true).1])) else (acc, l, e)
def aniOK (b : List Int) (ok : Bool) : Prop := ok = true ∧ b.length = 6
instance (b : List Int) (ok : Bool) : Decidable (aniOK b ok) := by unfold aniOK; infer_instance
def movesV (b : List Int) (ok : Bool) (l : List Ch) (e most : Int) : Int × Int × List Fr × List Ch × Int :=
  if aniOK b ok then (numV b 0 4, numV b 4 2, partsL l.length l e most []) else (0, 0, [], l, failE e 3)
def framesV (mv : Bool) (l : List Ch) (e most Wd Hd : Int) : Int × Int × List Fr × List Ch × Int :=
  if mv = true then movesV (nextV l e nANIM true).1 (nextV l e nANIM true).2.1 (nextV l e nANIM true).2.2.1 (nextV l e nANIM true).2.2.2 most else (0, 0, stillV l e most Wd Hd)
def tailV (n : Int) (l : List Ch) (e : Int) : List Int × List Int × List Ch × Int :=
  ((nextV l e nEXIF (flagB n 8)).1, (nextV (nextV l e nEXIF (flagB n 8)).2.2.1 (nextV l e nEXIF (flagB n 8)).2.2.2 nXMP (flagB n 4)).1,
    (nextV (nextV l e nEXIF (flagB n 8)).2.2.1 (nextV l e nEXIF (flagB n 8)).2.2.2 nXMP (flagB n 4)).2.2.1,
    restE (nextV (nextV l e nEXIF (flagB n 8)).2.2.1 (nextV l e nEXIF (flagB n 8)).2.2.2 nXMP (flagB n 4)).2.2.1 (nextV (nextV l e nEXIF (flagB n 8)).2.2.1 (nextV l e nEXIF (flagB n 8)).2.2.2 nXMP (flagB n 4)).2.2.2)
def docOf (n Wd Hd : Int) (pr : List Int) (f : Int × Int × List Fr × List Ch × Int) (t : List Int × List Int × List Ch × Int) : Dc :=
  ⟨false, Wd, Hd, flagB n 16, flagB n 2, f.1, f.2.1, pr, t.1, t.2.1, flagB n 32, flagB n 8, flagB n 4, f.2.2.1, t.2.2.1⟩
def bodyV (n Wd Hd : Int) (l : List Ch) (e most : Int) : Dc × Int :=
  (docOf n Wd Hd (nextV l e nICCP (flagB n 32)).1 (framesV (flagB n 2) (nextV l e nICCP (flagB n 32)).2.2.1 (nextV l e nICCP (flagB n 32)).2.2.2 most Wd Hd)
    (tailV n (framesV (flagB n 2) (nextV l e nICCP (flagB n 32)).2.2.1 (nextV l e nICCP (flagB n 32)).2.2.2 most Wd Hd).2.2.2.1 (framesV (flagB n 2) (nextV l e nICCP (flagB n 32)).2.2.1 (nextV l e nICCP (flagB n 32)).2.2.2 most Wd Hd).2.2.2.2),
    (tailV n (framesV (flagB n 2) (nextV l e nICCP (flagB n 32)).2.2.1 (nextV l e nICCP (flagB n 32)).2.2.2 most Wd Hd).2.2.2.1 (framesV (flagB n 2) (nextV l e nICCP (flagB n 32)).2.2.1 (nextV l e nICCP (flagB n 32)).2.2.2 most Wd Hd).2.2.2.2).2.2.2)
def docV (l : List Ch) (e most : Int) : Dc × Int :=
  bodyV (headN (nextV l e nVP8X true).1 (nextV l e nVP8X true).2.1) (headW (nextV l e nVP8X true).1 (nextV l e nVP8X true).2.1 4) (headW (nextV l e nVP8X true).1 (nextV l e nVP8X true).2.1 7) (nextV l e nVP8X true).2.2.1 (headE (nextV l e nVP8X true).1 (nextV l e nVP8X true).2.1 (nextV l e nVP8X true).2.2.2) most
def plainE (s : List Fr × List Ch × Int) : Int := if s.2.2 = 0 ∧ 0 < s.2.1.length then 3 else s.2.2
def plainY (s : List Fr × List Ch × Int) : Dc := ⟨true, 0, 0, false, false, 0, 0, [], [], [], false, false, false, s.1, []⟩
def readV (l : List Ch) (most : Int) : Dc × Int := if isB l 0 nVP8X = true then docV l 0 most else (plainY (stillV l 0 most 0 0), plainE (stillV l 0 most 0 0))
open Classical in
noncomputable def endV (y : Dc × Int) : Dc × Int := if y.2 = 0 then (if soundP y.1 then (y.1, 0) else (z27, 3)) else (z27, y.2)
noncomputable def parseV (b : List Int) (most : Int) : Dc × Int := if (scan b).2 = 0 then endV (readV (scan b).1 most) else (z27, (scan b).2)
end Go.Proofs.Ythkocpcjcpohcaa.P
end
section
namespace Go.Proofs.Ythkocpcjcpohcaa.P
open Go Go.RowKit Go.Proofs.YthkocpcjcpohcaaW.PrintWords Go.Proofs.YthkocpcjcpohcaaW.PrintLast Go.Proofs.YthkocpcjcpohcaaW.PrintMore Go.Proofs.Ythkocpcjcpohcaa.U Go.Proofs.Ythkocpcjcpohcaa.Pure
set_option linter.unusedVariables false
set_option linter.unusedSimpArgs false
attribute [local go_sem] max2_int min2_int max_two min_two max_three min_three max_four min_four
theorem KL_fr1 {w : World} {f : Fr} {cs : List Value} (h : k44.K w f cs) : KL k44 w [f] cs := ⟨cs, [], by simp, k44.K_len h, h, rfl⟩
section
variable {w W : World} {g gd : Nat} {l : List Ch} {most e : Int} {A : Option Addr} {c : Nat} {Q : World → Prop} {r : Asrt}
set_option maxHeartbeats 8000000 in
set_option maxRecDepth 100000 in
theorem still_calls (Wd Hd : Int) (a0 a3 a4 a5 a6 a7 a8 a9 a10 a11 a12 a14 : Value) {zs : List Value} (hq : poolQ Q A c l zs)
    (hS : St w W (parA w g l most e A c Q (Asrt.blk gd 27 #[a0, .int .i64 Wd, .int .i64 Hd, a3, a4, a5, a6, a7, a8, a9, a10, a11, a12, .slice none 0 0, a14] * r))) :
    Calls Try.prog 36 #[.pointer (some ⟨g, 0, none⟩), .pointer (some ⟨gd, 0, none⟩)] W fun x w' => ∃ (B : Option Addr) (cB : Nat) (xs : List Value) (A' : Option Addr) (c' : Nat) (zs' : List Value), x = .returned (.tuple #[]) ∧
      poolQ Q A' c' (stillV l e most Wd Hd).2.1 zs' ∧ (∀ W, Q W → KL k44 W (stillV l e most Wd Hd).1 xs) ∧
      St w w' (parA w g (stillV l e most Wd Hd).2.1 most (stillV l e most Wd Hd).2.2 A' c' Q (Asrt.blk gd 27 #[a0, .int .i64 Wd, .int .i64 Hd, a3, a4, a5, a6, a7, a8, a9, a10, a11, a12, .slice B (stillV l e most Wd Hd).1.length cB, a14] * (Asrt.row 44 11 (.slice B (stillV l e most Wd Hd).1.length cB) (stillV l e most Wd Hd).1.length xs * r))) := by
  have m1 : W.cell? ⟨g, 1, none⟩ = some (.int .i64 most) := (hS.cell 1).trans rfl
  have m2 : W.cell? ⟨g, 2, none⟩ = some (.int .i64 e) := (hS.cell 2).trans rfl
  by_cases hc : e = 0 ∧ most < 1
  · obtain ⟨rfl, hm⟩ := hc
    have y2 : decide (most < 1) = true := decide_eq_true hm
    have HV : Aside0 (stillV l 0 most Wd Hd = ([], l, 4)) := ⟨if_pos ⟨rfl, hm⟩⟩
    have HF := Aside0.mk (fail_calls 4 hS)
    have HQ := Aside0.mk hq
    clear hm hS hq
    go_enter Try.func36, Try.ntmps36
    go_wp2_with (go_at_call 37; refine HF.out.mono ?_; rintro e w1 ⟨rfl, hs⟩; have HS1 := Aside0.mk hs; clear hs)
    refine bodyPost_ret (results_none rfl _ _ _) rfl ?_
    rw [HV.out]
    exact ⟨none, 0, [], A, c, zs, rfl, HQ.out, fun _ _ => rfl, (HS1.out.rot3.rowNil 44 11).swap.rot4.rot4⟩
  · have HV : Aside0 (stillV l e most Wd Hd = ([stillF l e Wd Hd], (dataP l e).2.2.1, (dataP l e).2.2.2)) := ⟨if_neg hc⟩
    have m3 : W.cell? ⟨gd, 1, none⟩ = some (.int .i64 Wd) := (hS.rot3.cell 1).trans rfl
    have m4 : W.cell? ⟨gd, 2, none⟩ = some (.int .i64 Hd) := (hS.rot3.cell 2).trans rfl
    have hS' := (show St w W (Asrt.blk g 59 _ * (pin w Q * (Asrt.blk gd 27 _ * r))) from hS).rot3
    have hal := hS'.alloc #[.int .i64 0, .int .i64 0, .int .i64 0, .int .i64 0, .int .i64 0, .bool false, .bool false, .int .i64 0, .slice none 0 0, .slice none 0 0, .slice none 0 0] 44
    have n3 := (hal.swap.cell 1).trans (show _ = some (Value.int .i64 Wd) from rfl)
    have n4 := (hal.swap.cell 2).trans (show _ = some (Value.int .i64 Hd) from rfl)
    have HW := Aside0.mk ((((show St w W (Asrt.blk g 59 _ * (pin w Q * (Asrt.blk gd 27 _ * r))) from hS).alloc #[.int .i64 0, .int .i64 0, .int .i64 Wd, .int .i64 Hd, .int .i64 0, .bool false, .bool false, .int .i64 0, .slice none 0 0, .slice none 0 0, .slice none 0 0] 44).drew).unrot3)
    have HP := Aside0.mk (pictureP_calls (.int .i64 0) (.int .i64 0) (.int .i64 Wd) (.int .i64 Hd) (.int .i64 0) (.bool false) (.bool false) (.int .i64 0) (.slice none 0 0) (.slice none 0 0) hq HW.out)
    have hc' : ((e == 0) = true ∧ decide (most < 1) = false) ∨ (e == 0) = false := by
      by_cases he : e = 0
      · exact .inl ⟨by simp [he], decide_eq_false fun h => hc ⟨he, h⟩⟩
      · exact .inr (by simp [he])
    clear hS hq hS' hal hc HW
    rcases hc' with ⟨y1, y2⟩ | y1
    all_goals go_enter Try.func36, Try.ntmps36
    all_goals go_upto_region 2 with (fail)
    all_goals go_region
    all_goals clear n3 n4 m1 m2 m3 m4
    all_goals obtain ⟨gf, hgf⟩ : ∃ gf, gf = W.heap.size := ⟨_, rfl⟩
    all_goals rw [← hgf] at HP ⊢
    all_goals go_upto_region 3 with (fail)
    all_goals obtain ⟨W1, hW1⟩ : ∃ W1, W1 = (W.alloc (.cells #[.int .i64 0, .int .i64 0, .int .i64 Wd, .int .i64 Hd, .int .i64 0, .bool false, .bool false, .int .i64 0, .slice none 0 0, .slice none 0 0, .slice none 0 0] 44)).drew := ⟨_, rfl⟩
    all_goals rw [← hW1] at HP ⊢
    all_goals clear hW1 hgf
    all_goals go_upto_region 4 with (go_at_call 74; refine HP.out.mono ?_; rintro e w2 ⟨B8, c8, B9, c9, A', c', zs', rfl, hc8, hC8, hc9, hC9, hq2, hs⟩; have HS2 := Aside0.mk (show St w w2 (Asrt.blk g 59 _ * (pin w Q * (Asrt.blk gf 44 _ * (Asrt.blk gd 27 _ * r)))) from hs).rot3; have HQ2 := Aside0.mk hq2; have HC8 := Aside0.mk hC8; have HL8 := Aside0.mk hc8; have HC9 := Aside0.mk hC9; have HL9 := Aside0.mk hc9; clear hs hq2 hC8 hc8 hC9 hc9)
    all_goals clear HP
    all_goals have z := fun i => HS2.out.cell i
    all_goals have h4 := (HS2.out.drop.allocCells 44 11 1 [.int .i64 0, .int .i64 0, .int .i64 Wd, .int .i64 Hd, .int .i64 0, .bool false, .bool false, .int .i64 (kindP (alphaP l e).2.1 (alphaP l e).2.2), .slice B8 (alphaP l e).1.length c8, .slice B9 (dataP l e).1.length c9, .slice none 0 0] rfl (by decide)).rot4
    all_goals have p13 : (w2.alloc (.cells #[.int .i64 0, .int .i64 0, .int .i64 Wd, .int .i64 Hd, .int .i64 0, .bool false, .bool false, .int .i64 (kindP (alphaP l e).2.1 (alphaP l e).2.2), .slice B8 (alphaP l e).1.length c8, .slice B9 (dataP l e).1.length c9, .slice none 0 0] 44)).cell? ⟨gd, 13, none⟩ = some (.slice none 0 0) := (h4.cell 13).trans rfl
    all_goals have f13 : (w2.alloc (.cells #[.int .i64 0, .int .i64 0, .int .i64 Wd, .int .i64 Hd, .int .i64 0, .bool false, .bool false, .int .i64 (kindP (alphaP l e).2.1 (alphaP l e).2.2), .slice B8 (alphaP l e).1.length c8, .slice B9 (dataP l e).1.length c9, .slice none 0 0] 44)).frozen? ⟨gd, 13, none⟩ = false := h4.frozen 13
    all_goals have HS4 := Aside0.mk (h4.set 13 (.slice (some ⟨w2.heap.size, 0, none⟩) 1 1)).rot4.rot4
    all_goals clear h4 HS2
    all_goals go_wp2_with fail
    all_goals go_end0
    all_goals rw [HV.out]
    all_goals exact ⟨some ⟨w2.heap.size, 0, none⟩, 1, [.int .i64 0, .int .i64 0, .int .i64 Wd, .int .i64 Hd, .int .i64 0, .bool false, .bool false, .int .i64 (kindP (alphaP l e).2.1 (alphaP l e).2.2), .slice B8 (alphaP l e).1.length c8, .slice B9 (dataP l e).1.length c9, .slice none 0 0], A', c', zs', rfl, HQ2.out, fun W hW => KL_fr1 (k44_mk W (stillF l e Wd Hd) HL8.out (HC8.out W hW) HL9.out (HC9.out W hW) (A10 := none) (c10 := 0) (Nat.le_refl 0) (Kd.C_nil _ _)), HS4.out⟩
end
end Go.Proofs.Ythkocpcjcpohcaa.P
end
section
namespace Go.Proofs.Ythkocpcjcpohcaa.P
open Go Go.RowKit Go.Proofs.YthkocpcjcpohcaaW.PrintWords Go.Proofs.YthkocpcjcpohcaaW.PrintLast Go.Proofs.YthkocpcjcpohcaaW.PrintMore Go.Proofs.Ythkocpcjcpohcaa.U Go.Proofs.Ythkocpcjcpohcaa.Pure
set_option linter.unusedVariables false
set_option linter.unusedSimpArgs false
attribute [local go_sem] max2_int min2_int max_two min_two max_three min_three max_four min_four
section
variable {w W : World} {g gd : Nat} {l l1 : List Ch} {most e e1 : Int} {b : List Int} {ok : Bool} {A : Option Addr} {c : Nat} {Q : World → Prop} {r : Asrt}
set_option maxHeartbeats 8000000 in
set_option maxRecDepth 100000 in
theorem head_calls {zs : List Value} (hq : poolQ Q A c l zs) (hn : nextV l e nVP8X true = (b, ok, l1, e1)) (hB : Bytes b) (hlen : b.length ≤ 1000000000)
    (hS : St w W (parA w g l most e A c Q (Asrt.blk gd 27 #[.bool false, .int .i64 0, .int .i64 0, .bool false, .bool false, .int .u32 0, .int .i64 0, .slice none 0 0, .slice none 0 0, .slice none 0 0, .bool false, .bool false, .bool false, .slice none 0 0, .slice none 0 0] * r))) :
    Calls Try.prog 70 #[.pointer (some ⟨g, 0, none⟩), .pointer (some ⟨gd, 0, none⟩)] W fun x w' => ∃ (A' : Option Addr) (c' : Nat) (zs' : List Value), x = .returned (.tuple #[]) ∧ poolQ Q A' c' l1 zs' ∧
      St w w' (parA w g l1 most (headE b ok e1) A' c' Q (Asrt.blk gd 27 #[.bool false, .int .i64 (headW b ok 4), .int .i64 (headW b ok 7), .bool (flagB (headN b ok) 16), .bool (flagB (headN b ok) 2), .int .u32 0, .int .i64 0, .slice none 0 0, .slice none 0 0, .slice none 0 0, .bool (flagB (headN b ok) 32), .bool (flagB (headN b ok) 8), .bool (flagB (headN b ok) 4), .slice none 0 0, .slice none 0 0] * r)) := by
  have hN := next_calls nVP8X true hq hS
  rw [hn] at hN
  have HN := Aside0.mk hN
  clear hN hS hq hn
  have hfail : ¬ headOK b ok → headE b ok e1 = failE e1 3 ∧ headN b ok = 0 ∧ headW b ok 4 = 0 ∧ headW b ok 7 = 0 := fun h => ⟨if_neg h, if_neg h, if_neg h, if_neg h⟩
  have ef : flagB 0 16 = false ∧ flagB 0 2 = false ∧ flagB 0 32 = false ∧ flagB 0 8 = false ∧ flagB 0 4 = false := by decide
  have HNUM := Aside0.mk fun (B : Option Addr) (cB : Nat) (W : World) (h : (Kd.int .u8).C W B b.length b) (hc : b.length ≤ cB) (a n : Int) (ha : 0 ≤ a) (hn : n ≤ 4) => num_calls B cB b W h hc hB (by omega) a n ha hn
  by_cases hok : headOK b ok
  · have hg := hok
    unfold headOK at hg
    obtain ⟨rfl, hl, hz⟩ := hg
    have HG : Aside0 (headE b true e1 = e1 ∧ headN b true = numV b 0 4 ∧ headW b true 4 = numV b 4 3 + 1 ∧ headW b true 7 = numV b 7 3 + 1) := ⟨if_pos hok, if_pos hok, if_pos hok, if_pos hok⟩
    have y1 : ((b.length : Int) != 10) = false := by simp [hl]
    have y2 : (Go.bits .andNot .i64 (numV b 0 4) 62 != 0) = false := by rw [hz]; rfl
    have n1 := numV_bd hB 4 3 (by decide)
    have n2 := numV_bd hB 7 3 (by decide)
    have k1 : IntKind.i64.wrap (numV b 4 3 + 1) = numV b 4 3 + 1 := wi64 (by omega) (by omega)
    have k2 : IntKind.i64.wrap (numV b 7 3 + 1) = numV b 7 3 + 1 := wi64 (by omega) (by omega)
    clear hfail ef hok hl hz n1 n2
    go_enter Try.func70, Try.ntmps70
    go_upto_region 4 with (first
      | (go_at_call 71; refine HN.out.mono ?_; rintro e w2 ⟨B, cB, A', c', zs', rfl, hc8, hC8, hq2, hs⟩; have HQ2 := Aside0.mk hq2; have HC8 := Aside0.mk hC8; have HL8 := Aside0.mk hc8; have HS2 := Aside0.mk hs; clear hs hq2 hC8 hc8)
      | (go_at_call 85; refine (HNUM.out _ _ _ (HC8.out _ HS2.out.swap.pinGet) HL8.out 0 4 (by decide) (by decide)).mono ?_; rintro e w3 ⟨rfl, ⟨n1, hw⟩⟩; have hs := HS2.out.drewN n1; rw [← hw] at hs; clear HS2 hw; have HS2 := Aside0.mk hs; clear hs))
    have s0 := (show St w w3 (Asrt.blk g 59 _ * (pin w Q * (Asrt.blk gd 27 _ * r))) from HS2.out).rot3
    clear HS2
    obtain ⟨n, hn⟩ : ∃ n, n = numV b 0 4 := ⟨_, rfl⟩
    rw [← hn] at HG ⊢
    have c0 : w3.cell? ⟨gd, 10, none⟩ = some (.bool false) := (s0.cell 10).trans rfl
    have f0 := s0.frozen 10
    have s1 := s0.set 10 (.bool (Go.bits .and .i64 n 32 != 0))
    have c1 : (w3.setCell ⟨gd, 10, none⟩ (.bool (Go.bits .and .i64 n 32 != 0))).cell? ⟨gd, 3, none⟩ = some (.bool false) := (s1.cell 3).trans rfl
    have f1 := s1.frozen 3
    have s2 := s1.set 3 (.bool (Go.bits .and .i64 n 16 != 0))
    have c2 : ((w3.setCell ⟨gd, 10, none⟩ (.bool (Go.bits .and .i64 n 32 != 0))).setCell ⟨gd, 3, none⟩ (.bool (Go.bits .and .i64 n 16 != 0))).cell? ⟨gd, 11, none⟩ = some (.bool false) := (s2.cell 11).trans rfl
    have f2 := s2.frozen 11
    have s3 := s2.set 11 (.bool (Go.bits .and .i64 n 8 != 0))
    have c3 : (((w3.setCell ⟨gd, 10, none⟩ (.bool (Go.bits .and .i64 n 32 != 0))).setCell ⟨gd, 3, none⟩ (.bool (Go.bits .and .i64 n 16 != 0))).setCell ⟨gd, 11, none⟩ (.bool (Go.bits .and .i64 n 8 != 0))).cell? ⟨gd, 12, none⟩ = some (.bool false) := (s3.cell 12).trans rfl
    have f3 := s3.frozen 12
    have s4 := s3.set 12 (.bool (Go.bits .and .i64 n 4 != 0))
    have c4 : ((((w3.setCell ⟨gd, 10, none⟩ (.bool (Go.bits .and .i64 n 32 != 0))).setCell ⟨gd, 3, none⟩ (.bool (Go.bits .and .i64 n 16 != 0))).setCell ⟨gd, 11, none⟩ (.bool (Go.bits .and .i64 n 8 != 0))).setCell ⟨gd, 12, none⟩ (.bool (Go.bits .and .i64 n 4 != 0))).cell? ⟨gd, 4, none⟩ = some (.bool false) := (s4.cell 4).trans rfl
    have f4 := s4.frozen 4
    have s5 := s4.set 4 (.bool (Go.bits .and .i64 n 2 != 0))
    have HS5 := Aside0.mk s5.rot3.rot3
    clear s0 s1 s2 s3 s4 s5 hn
    go_upto_region 5 with fail
    obtain ⟨W5, hW5⟩ : ∃ W5, W5 = (((((w3.setCell ⟨gd, 10, none⟩ (.bool (Go.bits .and .i64 n 32 != 0))).setCell ⟨gd, 3, none⟩ (.bool (Go.bits .and .i64 n 16 != 0))).setCell ⟨gd, 11, none⟩ (.bool (Go.bits .and .i64 n 8 != 0))).setCell ⟨gd, 12, none⟩ (.bool (Go.bits .and .i64 n 4 != 0))).setCell ⟨gd, 4, none⟩ (.bool (Go.bits .and .i64 n 2 != 0))) := ⟨_, rfl⟩
    rw [← hW5] at HS5 ⊢
    clear hW5 c0 c1 c2 c3 c4 f0 f1 f2 f3 f4
    go_wp2_with (first
      | (go_at_call 85; with_reducible refine (HNUM.out _ _ W5 (HC8.out _ HS5.out.swap.pinGet) HL8.out 4 3 (by decide) (by decide)).mono ?_; rintro e w6 ⟨rfl, ⟨n1, hw⟩⟩; have hs := HS5.out.drewN n1; rw [← hw] at hs; clear hw; have HS6 := Aside0.mk hs; clear hs)
      | (go_at_call 85; with_reducible refine (HNUM.out _ _ w6 (HC8.out _ HS6.out.swap.pinGet) HL8.out 7 3 (by decide) (by decide)).mono ?_; rintro e w7 ⟨rfl, ⟨n2, hw⟩⟩; have hs := HS6.out.drewN n2; rw [← hw] at hs; clear hw; have s0 := hs.rot3; have c1 := (s0.cell 1).trans (show _ = some (Value.int .i64 0) from rfl); have f1 := s0.frozen 1; have s1 := s0.set 1 (.int .i64 (numV b 4 3 + 1)); have c2 := (s1.cell 2).trans (show _ = some (Value.int .i64 0) from rfl); have f2 := s1.frozen 2; have HS7 := Aside0.mk (s1.set 2 (.int .i64 (numV b 7 3 + 1))).rot3.rot3; clear hs s0 s1))
    go_end0
    rw [HG.out.1, HG.out.2.1, HG.out.2.2.1, HG.out.2.2.2]
    exact ⟨A', c', zs', rfl, HQ2.out, HS7.out⟩
  · have HF := Aside0.mk (hfail hok)
    have HE := Aside0.mk ef
    clear hfail ef
    cases ok with
    | false =>
      go_enter Try.func70, Try.ntmps70
      go_wp2_with (first
        | (go_at_call 71; refine HN.out.mono ?_; rintro e w2 ⟨B, cB, A', c', zs', rfl, hc8, hC8, hq2, hs⟩; have HQ2 := Aside0.mk hq2; have HF2 := Aside0.mk (fail_calls 3 hs); clear hs hq2 hC8 hc8)
        | (go_at_call 37; refine HF2.out.mono ?_; rintro e w3 ⟨rfl, hs⟩; have HS3 := Aside0.mk hs; clear hs))
      refine bodyPost_ret (results_none rfl _ _ _) rfl ?_
      rw [HF.out.1, HF.out.2.1, HF.out.2.2.1, HF.out.2.2.2, HE.out.1, HE.out.2.1, HE.out.2.2.1, HE.out.2.2.2.1, HE.out.2.2.2.2]
      exact ⟨A', c', zs', rfl, HQ2.out, HS3.out⟩
    | true =>
      by_cases hl : b.length = 10
      · have y1 : ((b.length : Int) != 10) = false := by simp [hl]
        have y2 : (Go.bits .andNot .i64 (numV b 0 4) 62 != 0) = true := by
          simp only [bne_iff_ne, ne_eq]
          exact fun h => hok ⟨rfl, hl, h⟩
        clear hok hl
        go_enter Try.func70, Try.ntmps70
        go_wp2_with (first
          | (go_at_call 71; refine HN.out.mono ?_; rintro e w2 ⟨B, cB, A', c', zs', rfl, hc8, hC8, hq2, hs⟩; have HQ2 := Aside0.mk hq2; have HC8 := Aside0.mk hC8; have HL8 := Aside0.mk hc8; have HS2 := Aside0.mk hs; clear hs hq2 hC8 hc8)
          | (go_at_call 85; refine (HNUM.out _ _ _ (HC8.out _ HS2.out.swap.pinGet) HL8.out 0 4 (by decide) (by decide)).mono ?_; rintro e w3 ⟨rfl, ⟨n1, rfl⟩⟩; have HF2 := Aside0.mk (fail_calls 3 (HS2.out.drewN n1)))
          | (go_at_call 37; refine HF2.out.mono ?_; rintro e w3 ⟨rfl, hs⟩; have HS3 := Aside0.mk hs; clear hs))
        refine bodyPost_ret (results_none rfl _ _ _) rfl ?_
        rw [HF.out.1, HF.out.2.1, HF.out.2.2.1, HF.out.2.2.2, HE.out.1, HE.out.2.1, HE.out.2.2.1, HE.out.2.2.2.1, HE.out.2.2.2.2]
        exact ⟨A', c', zs', rfl, HQ2.out, HS3.out⟩
      · have y1 : ((b.length : Int) != 10) = true := by simp; omega
        clear hok hl
        go_enter Try.func70, Try.ntmps70
        go_wp2_with (first
          | (go_at_call 71; refine HN.out.mono ?_; rintro e w2 ⟨B, cB, A', c', zs', rfl, hc8, hC8, hq2, hs⟩; have HQ2 := Aside0.mk hq2; have HF2 := Aside0.mk (fail_calls 3 hs); clear hs hq2 hC8 hc8)
          | (go_at_call 37; refine HF2.out.mono ?_; rintro e w3 ⟨rfl, hs⟩; have HS3 := Aside0.mk hs; clear hs))
        refine bodyPost_ret (results_none rfl _ _ _) rfl ?_
        rw [HF.out.1, HF.out.2.1, HF.out.2.2.1, HF.out.2.2.2, HE.out.1, HE.out.2.1, HE.out.2.2.1, HE.out.2.2.2.1, HE.out.2.2.2.2]
        exact ⟨A', c', zs', rfl, HQ2.out, HS3.out⟩
end
end Go.Proofs.Ythkocpcjcpohcaa.P
end
section
namespace Go.Proofs.Ythkocpcjcpohcaa.P
open Go Go.RowKit Go.Proofs.YthkocpcjcpohcaaW.PrintWords Go.Proofs.YthkocpcjcpohcaaW.PrintLast Go.Proofs.YthkocpcjcpohcaaW.PrintMore Go.Proofs.Ythkocpcjcpohcaa.U Go.Proofs.Ythkocpcjcpohcaa.Pure
set_option linter.unusedVariables false
set_option linter.unusedSimpArgs false
attribute [local go_sem] max2_int min2_int max_two min_two max_three min_three max_four min_four
theorem inner_calls {b : List Int} (hB : Bytes b) (hlen : b.length ≤ 1000000000) (A : Option Addr) (c n : Nat) (hn : n = b.length) (W : World) (h : (Kd.int .u8).C W A b.length b) (hc : b.length ≤ c) :
    Calls Try.prog 69 #[.slice A n c] W fun e w' => ∃ v : Value, e = .returned (.tuple #[v, .int .i64 (inner b.length b []).2]) ∧ Kd.R k42 42 w' W.heap.size (fun _ => True) v (inner b.length b []).1 ∧ Below W.heap.size W w' := by
  subst hn
  obtain ⟨k, hk⟩ := (chunk_Inner_ev hB hlen).rounds
  refine (chunk_Inner.calls k (fun k => k < W.heap.size) A c b _ _ W (Kd.V_mk hc (Kd.C_F (Kd.heap_int _) h)) hk).mono ?_
  rintro e w1 ⟨v, rfl, hs, hb⟩
  exact ⟨v, rfl, Kd.R_mono (Kd.S_R hs) fun _ _ => trivial, hb⟩
theorem St.qback {w0 w : World} {a b c d e r : Asrt} (h : St w0 w (a * (b * (c * (d * (e * r)))))) : St w0 w (d * (e * (a * (c * r)))) := h.swap.drop.rot3.rot4.swap
theorem St.put11 {w0 w : World} {r : Asrt} {g : Nat} {T : TypeId} {a0 a1 a2 a3 a4 a5 a6 a7 a8 a9 a10 : Value} (h : St w0 w (Asrt.blk g T #[a0, a1, a2, a3, a4, a5, a6, a7, a8, a9, a10] * r)) (v0 v1 v2 v3 v4 v5 v6 v7 v8 v9 v10 : Value) :
    St w0 (((((((((((w.setCell ⟨g, 0, none⟩ v0).setCell ⟨g, 1, none⟩ v1).setCell ⟨g, 2, none⟩ v2).setCell ⟨g, 3, none⟩ v3).setCell ⟨g, 4, none⟩ v4).setCell ⟨g, 5, none⟩ v5).setCell ⟨g, 6, none⟩ v6).setCell ⟨g, 7, none⟩ v7).setCell ⟨g, 8, none⟩ v8).setCell ⟨g, 9, none⟩ v9).setCell ⟨g, 10, none⟩ v10) (Asrt.blk g T #[v0, v1, v2, v3, v4, v5, v6, v7, v8, v9, v10] * r) := by
  have h0 : St w0 (w.setCell ⟨g, 0, none⟩ v0) (Asrt.blk g T #[v0, a1, a2, a3, a4, a5, a6, a7, a8, a9, a10] * r) := h.set 0 v0
  have h1 : St w0 ((w.setCell ⟨g, 0, none⟩ v0).setCell ⟨g, 1, none⟩ v1) (Asrt.blk g T #[v0, v1, a2, a3, a4, a5, a6, a7, a8, a9, a10] * r) := h0.set 1 v1
  have h2 : St w0 (((w.setCell ⟨g, 0, none⟩ v0).setCell ⟨g, 1, none⟩ v1).setCell ⟨g, 2, none⟩ v2) (Asrt.blk g T #[v0, v1, v2, a3, a4, a5, a6, a7, a8, a9, a10] * r) := h1.set 2 v2
  have h3 : St w0 ((((w.setCell ⟨g, 0, none⟩ v0).setCell ⟨g, 1, none⟩ v1).setCell ⟨g, 2, none⟩ v2).setCell ⟨g, 3, none⟩ v3) (Asrt.blk g T #[v0, v1, v2, v3, a4, a5, a6, a7, a8, a9, a10] * r) := h2.set 3 v3
  have h4 : St w0 (((((w.setCell ⟨g, 0, none⟩ v0).setCell ⟨g, 1, none⟩ v1).setCell ⟨g, 2, none⟩ v2).setCell ⟨g, 3, none⟩ v3).setCell ⟨g, 4, none⟩ v4) (Asrt.blk g T #[v0, v1, v2, v3, v4, a5, a6, a7, a8, a9, a10] * r) := h3.set 4 v4
  have h5 : St w0 ((((((w.setCell ⟨g, 0, none⟩ v0).setCell ⟨g, 1, none⟩ v1).setCell ⟨g, 2, none⟩ v2).setCell ⟨g, 3, none⟩ v3).setCell ⟨g, 4, none⟩ v4).setCell ⟨g, 5, none⟩ v5) (Asrt.blk g T #[v0, v1, v2, v3, v4, v5, a6, a7, a8, a9, a10] * r) := h4.set 5 v5
  have h6 : St w0 (((((((w.setCell ⟨g, 0, none⟩ v0).setCell ⟨g, 1, none⟩ v1).setCell ⟨g, 2, none⟩ v2).setCell ⟨g, 3, none⟩ v3).setCell ⟨g, 4, none⟩ v4).setCell ⟨g, 5, none⟩ v5).setCell ⟨g, 6, none⟩ v6) (Asrt.blk g T #[v0, v1, v2, v3, v4, v5, v6, a7, a8, a9, a10] * r) := h5.set 6 v6
  have h7 : St w0 ((((((((w.setCell ⟨g, 0, none⟩ v0).setCell ⟨g, 1, none⟩ v1).setCell ⟨g, 2, none⟩ v2).setCell ⟨g, 3, none⟩ v3).setCell ⟨g, 4, none⟩ v4).setCell ⟨g, 5, none⟩ v5).setCell ⟨g, 6, none⟩ v6).setCell ⟨g, 7, none⟩ v7) (Asrt.blk g T #[v0, v1, v2, v3, v4, v5, v6, v7, a8, a9, a10] * r) := h6.set 7 v7
  have h8 : St w0 (((((((((w.setCell ⟨g, 0, none⟩ v0).setCell ⟨g, 1, none⟩ v1).setCell ⟨g, 2, none⟩ v2).setCell ⟨g, 3, none⟩ v3).setCell ⟨g, 4, none⟩ v4).setCell ⟨g, 5, none⟩ v5).setCell ⟨g, 6, none⟩ v6).setCell ⟨g, 7, none⟩ v7).setCell ⟨g, 8, none⟩ v8) (Asrt.blk g T #[v0, v1, v2, v3, v4, v5, v6, v7, v8, a9, a10] * r) := h7.set 8 v8
  have h9 : St w0 ((((((((((w.setCell ⟨g, 0, none⟩ v0).setCell ⟨g, 1, none⟩ v1).setCell ⟨g, 2, none⟩ v2).setCell ⟨g, 3, none⟩ v3).setCell ⟨g, 4, none⟩ v4).setCell ⟨g, 5, none⟩ v5).setCell ⟨g, 6, none⟩ v6).setCell ⟨g, 7, none⟩ v7).setCell ⟨g, 8, none⟩ v8).setCell ⟨g, 9, none⟩ v9) (Asrt.blk g T #[v0, v1, v2, v3, v4, v5, v6, v7, v8, v9, a10] * r) := h8.set 9 v9
  have h10 : St w0 (((((((((((w.setCell ⟨g, 0, none⟩ v0).setCell ⟨g, 1, none⟩ v1).setCell ⟨g, 2, none⟩ v2).setCell ⟨g, 3, none⟩ v3).setCell ⟨g, 4, none⟩ v4).setCell ⟨g, 5, none⟩ v5).setCell ⟨g, 6, none⟩ v6).setCell ⟨g, 7, none⟩ v7).setCell ⟨g, 8, none⟩ v8).setCell ⟨g, 9, none⟩ v9).setCell ⟨g, 10, none⟩ v10) (Asrt.blk g T #[v0, v1, v2, v3, v4, v5, v6, v7, v8, v9, v10] * r) := h9.set 10 v10
  exact h10
theorem St.put15 {w0 w : World} {r : Asrt} {g : Nat} {T : TypeId} {a0 a1 a2 a3 a4 a5 a6 a7 a8 a9 a10 a11 a12 a13 a14 : Value} (h : St w0 w (Asrt.blk g T #[a0, a1, a2, a3, a4, a5, a6, a7, a8, a9, a10, a11, a12, a13, a14] * r)) (v0 v1 v2 v3 v4 v5 v6 v7 v8 v9 v10 v11 v12 v13 v14 : Value) :
    St w0 (((((((((((((((w.setCell ⟨g, 0, none⟩ v0).setCell ⟨g, 1, none⟩ v1).setCell ⟨g, 2, none⟩ v2).setCell ⟨g, 3, none⟩ v3).setCell ⟨g, 4, none⟩ v4).setCell ⟨g, 5, none⟩ v5).setCell ⟨g, 6, none⟩ v6).setCell ⟨g, 7, none⟩ v7).setCell ⟨g, 8, none⟩ v8).setCell ⟨g, 9, none⟩ v9).setCell ⟨g, 10, none⟩ v10).setCell ⟨g, 11, none⟩ v11).setCell ⟨g, 12, none⟩ v12).setCell ⟨g, 13, none⟩ v13).setCell ⟨g, 14, none⟩ v14) (Asrt.blk g T #[v0, v1, v2, v3, v4, v5, v6, v7, v8, v9, v10, v11, v12, v13, v14] * r) := by
  have h0 : St w0 (w.setCell ⟨g, 0, none⟩ v0) (Asrt.blk g T #[v0, a1, a2, a3, a4, a5, a6, a7, a8, a9, a10, a11, a12, a13, a14] * r) := h.set 0 v0
  have h1 : St w0 ((w.setCell ⟨g, 0, none⟩ v0).setCell ⟨g, 1, none⟩ v1) (Asrt.blk g T #[v0, v1, a2, a3, a4, a5, a6, a7, a8, a9, a10, a11, a12, a13, a14] * r) := h0.set 1 v1
  have h2 : St w0 (((w.setCell ⟨g, 0, none⟩ v0).setCell ⟨g, 1, none⟩ v1).setCell ⟨g, 2, none⟩ v2) (Asrt.blk g T #[v0, v1, v2, a3, a4, a5, a6, a7, a8, a9, a10, a11, a12, a13, a14] * r) := h1.set 2 v2
  have h3 : St w0 ((((w.setCell ⟨g, 0, none⟩ v0).setCell ⟨g, 1, none⟩ v1).setCell ⟨g, 2, none⟩ v2).setCell ⟨g, 3, none⟩ v3) (Asrt.blk g T #[v0, v1, v2, v3, a4, a5, a6, a7, a8, a9, a10, a11, a12, a13, a14] * r) := h2.set 3 v3
  have h4 : St w0 (((((w.setCell ⟨g, 0, none⟩ v0).setCell ⟨g, 1, none⟩ v1).setCell ⟨g, 2, none⟩ v2).setCell ⟨g, 3, none⟩ v3).setCell ⟨g, 4, none⟩ v4) (Asrt.blk g T #[v0, v1, v2, v3, v4, a5, a6, a7, a8, a9, a10, a11, a12, a13, a14] * r) := h3.set 4 v4
  have h5 : St w0 ((((((w.setCell ⟨g, 0, none⟩ v0).setCell ⟨g, 1, none⟩ v1).setCell ⟨g, 2, none⟩ v2).setCell ⟨g, 3, none⟩ v3).setCell ⟨g, 4, none⟩ v4).setCell ⟨g, 5, none⟩ v5) (Asrt.blk g T #[v0, v1, v2, v3, v4, v5, a6, a7, a8, a9, a10, a11, a12, a13, a14] * r) := h4.set 5 v5
  have h6 : St w0 (((((((w.setCell ⟨g, 0, none⟩ v0).setCell ⟨g, 1, none⟩ v1).setCell ⟨g, 2, none⟩ v2).setCell ⟨g, 3, none⟩ v3).setCell ⟨g, 4, none⟩ v4).setCell ⟨g, 5, none⟩ v5).setCell ⟨g, 6, none⟩ v6) (Asrt.blk g T #[v0, v1, v2, v3, v4, v5, v6, a7, a8, a9, a10, a11, a12, a13, a14] * r) := h5.set 6 v6
  have h7 : St w0 ((((((((w.setCell ⟨g, 0, none⟩ v0).setCell ⟨g, 1, none⟩ v1).setCell ⟨g, 2, none⟩ v2).setCell ⟨g, 3, none⟩ v3).setCell ⟨g, 4, none⟩ v4).setCell ⟨g, 5, none⟩ v5).setCell ⟨g, 6, none⟩ v6).setCell ⟨g, 7, none⟩ v7) (Asrt.blk g T #[v0, v1, v2, v3, v4, v5, v6, v7, a8, a9, a10, a11, a12, a13, a14] * r) := h6.set 7 v7
  have h8 : St w0 (((((((((w.setCell ⟨g, 0, none⟩ v0).setCell ⟨g, 1, none⟩ v1).setCell ⟨g, 2, none⟩ v2).setCell ⟨g, 3, none⟩ v3).setCell ⟨g, 4, none⟩ v4).setCell ⟨g, 5, none⟩ v5).setCell ⟨g, 6, none⟩ v6).setCell ⟨g, 7, none⟩ v7).setCell ⟨g, 8, none⟩ v8) (Asrt.blk g T #[v0, v1, v2, v3, v4, v5, v6, v7, v8, a9, a10, a11, a12, a13, a14] * r) := h7.set 8 v8
  have h9 : St w0 ((((((((((w.setCell ⟨g, 0, none⟩ v0).setCell ⟨g, 1, none⟩ v1).setCell ⟨g, 2, none⟩ v2).setCell ⟨g, 3, none⟩ v3).setCell ⟨g, 4, none⟩ v4).setCell ⟨g, 5, none⟩ v5).setCell ⟨g, 6, none⟩ v6).setCell ⟨g, 7, none⟩ v7).setCell ⟨g, 8, none⟩ v8).setCell ⟨g, 9, none⟩ v9) (Asrt.blk g T #[v0, v1, v2, v3, v4, v5, v6, v7, v8, v9, a10, a11, a12, a13, a14] * r) := h8.set 9 v9
  have h10 : St w0 (((((((((((w.setCell ⟨g, 0, none⟩ v0).setCell ⟨g, 1, none⟩ v1).setCell ⟨g, 2, none⟩ v2).setCell ⟨g, 3, none⟩ v3).setCell ⟨g, 4, none⟩ v4).setCell ⟨g, 5, none⟩ v5).setCell ⟨g, 6, none⟩ v6).setCell ⟨g, 7, none⟩ v7).setCell ⟨g, 8, none⟩ v8).setCell ⟨g, 9, none⟩ v9).setCell ⟨g, 10, none⟩ v10) (Asrt.blk g T #[v0, v1, v2, v3, v4, v5, v6, v7, v8, v9, v10, a11, a12, a13, a14] * r) := h9.set 10 v10
  have h11 : St w0 ((((((((((((w.setCell ⟨g, 0, none⟩ v0).setCell ⟨g, 1, none⟩ v1).setCell ⟨g, 2, none⟩ v2).setCell ⟨g, 3, none⟩ v3).setCell ⟨g, 4, none⟩ v4).setCell ⟨g, 5, none⟩ v5).setCell ⟨g, 6, none⟩ v6).setCell ⟨g, 7, none⟩ v7).setCell ⟨g, 8, none⟩ v8).setCell ⟨g, 9, none⟩ v9).setCell ⟨g, 10, none⟩ v10).setCell ⟨g, 11, none⟩ v11) (Asrt.blk g T #[v0, v1, v2, v3, v4, v5, v6, v7, v8, v9, v10, v11, a12, a13, a14] * r) := h10.set 11 v11
  have h12 : St w0 (((((((((((((w.setCell ⟨g, 0, none⟩ v0).setCell ⟨g, 1, none⟩ v1).setCell ⟨g, 2, none⟩ v2).setCell ⟨g, 3, none⟩ v3).setCell ⟨g, 4, none⟩ v4).setCell ⟨g, 5, none⟩ v5).setCell ⟨g, 6, none⟩ v6).setCell ⟨g, 7, none⟩ v7).setCell ⟨g, 8, none⟩ v8).setCell ⟨g, 9, none⟩ v9).setCell ⟨g, 10, none⟩ v10).setCell ⟨g, 11, none⟩ v11).setCell ⟨g, 12, none⟩ v12) (Asrt.blk g T #[v0, v1, v2, v3, v4, v5, v6, v7, v8, v9, v10, v11, v12, a13, a14] * r) := h11.set 12 v12
  have h13 : St w0 ((((((((((((((w.setCell ⟨g, 0, none⟩ v0).setCell ⟨g, 1, none⟩ v1).setCell ⟨g, 2, none⟩ v2).setCell ⟨g, 3, none⟩ v3).setCell ⟨g, 4, none⟩ v4).setCell ⟨g, 5, none⟩ v5).setCell ⟨g, 6, none⟩ v6).setCell ⟨g, 7, none⟩ v7).setCell ⟨g, 8, none⟩ v8).setCell ⟨g, 9, none⟩ v9).setCell ⟨g, 10, none⟩ v10).setCell ⟨g, 11, none⟩ v11).setCell ⟨g, 12, none⟩ v12).setCell ⟨g, 13, none⟩ v13) (Asrt.blk g T #[v0, v1, v2, v3, v4, v5, v6, v7, v8, v9, v10, v11, v12, v13, a14] * r) := h12.set 13 v13
  have h14 : St w0 (((((((((((((((w.setCell ⟨g, 0, none⟩ v0).setCell ⟨g, 1, none⟩ v1).setCell ⟨g, 2, none⟩ v2).setCell ⟨g, 3, none⟩ v3).setCell ⟨g, 4, none⟩ v4).setCell ⟨g, 5, none⟩ v5).setCell ⟨g, 6, none⟩ v6).setCell ⟨g, 7, none⟩ v7).setCell ⟨g, 8, none⟩ v8).setCell ⟨g, 9, none⟩ v9).setCell ⟨g, 10, none⟩ v10).setCell ⟨g, 11, none⟩ v11).setCell ⟨g, 12, none⟩ v12).setCell ⟨g, 13, none⟩ v13).setCell ⟨g, 14, none⟩ v14) (Asrt.blk g T #[v0, v1, v2, v3, v4, v5, v6, v7, v8, v9, v10, v11, v12, v13, v14] * r) := h13.set 14 v14
  exact h14
theorem poolQ.imp {Q Q' : World → Prop} {A : Option Addr} {c : Nat} {l : List Ch} {zs : List Value} (h : poolQ Q A c l zs) (hi : ∀ W, Q' W → Q W) : poolQ Q' A c l zs := ⟨h.le, h.mx, fun W hW => h.q W (hi W hW)⟩
section
variable {w W : World} {g : Nat} {l l1 : List Ch} {most e e1 : Int} {b : List Int} {ok : Bool} {A : Option Addr} {c : Nat} {Q : World → Prop} {r : Asrt}
set_option maxHeartbeats 8000000 in
set_option maxRecDepth 100000 in
theorem part_calls {zs : List Value} (hq : poolQ Q A c l zs) (hn : nextV l e nANMF true = (b, ok, l1, e1)) (hB : Bytes b) (hlen : b.length ≤ 1000000000) (hS : St w W (parA w g l most e A c Q r)) :
    Calls Try.prog 86 #[.pointer (some ⟨g, 0, none⟩)] W fun x w' => ∃ (cs : List Value) (Q' : World → Prop) (A' : Option Addr) (c' : Nat) (zs' : List Value), x = .returned (.agg cs.toArray) ∧
      (∀ W, Q' W → Q W) ∧ (∀ W, Q' W → k44.K W (partF b) cs) ∧ poolQ Q' A' c' l1 zs' ∧ St w w' (parA w g l1 most (partE b e1) A' c' Q' r) := by
  have HZ : Aside0 (∀ W, k44.K W z44 [.int .i64 0, .int .i64 0, .int .i64 0, .int .i64 0, .int .i64 0, .bool false, .bool false, .int .i64 0, .slice none 0 0, .slice none 0 0, .slice none 0 0]) :=
    ⟨fun W => k44_mk W z44 (A8 := none) (c8 := 0) (Nat.le_refl 0) (Kd.C_nil _ _) (A9 := none) (c9 := 0) (Nat.le_refl 0) (Kd.C_nil _ _) (A10 := none) (c10 := 0) (Nat.le_refl 0) (Kd.C_nil _ _)⟩
  have hS0 := (hS.alloc #[.int .i64 0, .int .i64 0, .int .i64 0, .int .i64 0, .int .i64 0, .bool false, .bool false, .int .i64 0, .slice none 0 0, .slice none 0 0, .slice none 0 0] 44).unrot3
  obtain ⟨gr, hgr⟩ : ∃ gr, gr = W.heap.size := ⟨_, rfl⟩
  obtain ⟨W0, hW0⟩ : ∃ W0, W0 = W.alloc (.cells #[.int .i64 0, .int .i64 0, .int .i64 0, .int .i64 0, .int .i64 0, .bool false, .bool false, .int .i64 0, .slice none 0 0, .slice none 0 0, .slice none 0 0] 44) := ⟨_, rfl⟩
  rw [← hW0, ← hgr] at hS0
  have HGR := Aside0.mk hgr
  have HW0 := Aside0.mk hW0
  have hN := next_calls nANMF true hq hS0
  rw [hn] at hN
  have HN := Aside0.mk hN
  clear hN hS hS0 hq hn hgr hW0
  by_cases h16 : 16 ≤ b.length
  case neg =>
    have HF : Aside0 (partF b = z44 ∧ partE b e1 = failE e1 3) := ⟨if_neg fun h => h16 h.1, if_neg fun h => h16 h.1⟩
    have y1 : decide ((b.length : Int) < 16) = true := decide_eq_true (by omega)
    have y2 : decide (b.length < 16) = true := decide_eq_true (by omega)
    clear h16
    go_enter Try.func86, Try.ntmps86
    go_upto_region 1 with (fail)
    rw [← HW0.out, ← HGR.out]
    go_upto_region 4 with (first
      | (go_at_call 71; refine HN.out.mono ?_; rintro e w2 ⟨B, cB, A', c', zs', rfl, hc8, hC8, hq2, hs⟩; have HQ2 := Aside0.mk hq2; have HF2 := Aside0.mk (fail_calls 3 hs); clear hs hq2 hC8 hc8)
      | (go_at_call 37; refine HF2.out.mono ?_; rintro e w3 ⟨rfl, hs⟩; have HS3 := Aside0.mk hs; clear hs))
    have h3 := (show St w w3 (Asrt.blk g 59 _ * (pin w Q * (Asrt.blk gr 44 _ * r))) from HS3.out).rot3
    have z := fun i => h3.cell i
    have zf := fun i => h3.frozen i
    have HS4 := Aside0.mk (h3.put11 (.int .i64 0) (.int .i64 0) (.int .i64 0) (.int .i64 0) (.int .i64 0) (.bool false) (.bool false) (.int .i64 0) (.slice none 0 0) (.slice none 0 0) (.slice none 0 0))
    clear h3 HS3
    go_wp2_with fail
    refine bodyPost_ret (results_cell_row rfl _ _ gr 44 #[.int .i64 0, .int .i64 0, .int .i64 0, .int .i64 0, .int .i64 0, .bool false, .bool false, .int .i64 0, .slice none 0 0, .slice none 0 0, .slice none 0 0] (0, 0) _ rfl HS4.out.blk Try.underlying44 rfl (by kernel_rfl)) rfl ?_
    rw [HF.out.1, HF.out.2]
    exact ⟨[.int .i64 0, .int .i64 0, .int .i64 0, .int .i64 0, .int .i64 0, .bool false, .bool false, .int .i64 0, .slice none 0 0, .slice none 0 0, .slice none 0 0], Q, A', c', zs', rfl, fun _ h => h, fun W _ => HZ.out W, HQ2.out, HS4.out.drop⟩
  have y1 : decide ((b.length : Int) < 16) = false := decide_eq_false (by omega)
  have y2 : decide (b.length < 16) = false := decide_eq_false (by omega)
  have x1 : ((15 : Int) < (b.length : Int)) = True := eq_true (by omega)
  have x2 : (15 < b.length) = True := eq_true (by omega)
  have H16 := Aside0.mk h16
  have HC15 := Aside0.mk fun (B : Option Addr) (W : World) (h : (Kd.int .u8).C W B b.length b) => (by
    obtain ⟨ad, rfl, hc⟩ := C_int_at h (by omega)
    refine ⟨ad, rfl, ?_⟩
    have e : ad.add 15 = ⟨ad.block, ad.off + 15, none⟩ := by rw [show 15 = 0 + 15 from rfl, add_field _ _ 15 (by omega), Addr.add_zero']
    rw [← e]
    exact hc 15 (by omega) : ∃ ad, B = some ad ∧ W.cell? ⟨ad.block, ad.off + 15, none⟩ = some (.int .u8 (rd b 15)))
  by_cases h3 : rd b 15 ≤ 3
  case neg =>
    have HF : Aside0 (partF b = z44 ∧ partE b e1 = failE e1 3) := ⟨if_neg fun h => h3 h.2.1, if_neg fun h => h3 h.2.1⟩
    have y3 : decide (3 < rd b 15) = true := decide_eq_true (by omega)
    clear h3 h16
    go_enter Try.func86, Try.ntmps86
    go_upto_region 1 with (fail)
    rw [← HW0.out, ← HGR.out]
    go_upto_region 4 with (first
      | (go_at_call 71; refine HN.out.mono ?_; rintro e w2 ⟨B, cB, A', c', zs', rfl, hc8, hC8, hq2, hs⟩; obtain ⟨ad, rfl, c15⟩ := HC15.out _ _ (hC8 _ hs.swap.pinGet); have HQ2 := Aside0.mk hq2; have HF2 := Aside0.mk (fail_calls 3 hs); clear hs hq2 hC8 hc8)
      | (go_at_call 37; refine HF2.out.mono ?_; rintro e w3 ⟨rfl, hs⟩; have HS3 := Aside0.mk hs; clear hs))
    clear c15
    have h3 := (show St w w3 (Asrt.blk g 59 _ * (pin w Q * (Asrt.blk gr 44 _ * r))) from HS3.out).rot3
    have z := fun i => h3.cell i
    have zf := fun i => h3.frozen i
    have HS4 := Aside0.mk (h3.put11 (.int .i64 0) (.int .i64 0) (.int .i64 0) (.int .i64 0) (.int .i64 0) (.bool false) (.bool false) (.int .i64 0) (.slice none 0 0) (.slice none 0 0) (.slice none 0 0))
    clear h3 HS3
    go_wp2_with fail
    refine bodyPost_ret (results_cell_row rfl _ _ gr 44 #[.int .i64 0, .int .i64 0, .int .i64 0, .int .i64 0, .int .i64 0, .bool false, .bool false, .int .i64 0, .slice none 0 0, .slice none 0 0, .slice none 0 0] (0, 0) _ rfl HS4.out.blk Try.underlying44 rfl (by kernel_rfl)) rfl ?_
    rw [HF.out.1, HF.out.2]
    exact ⟨[.int .i64 0, .int .i64 0, .int .i64 0, .int .i64 0, .int .i64 0, .bool false, .bool false, .int .i64 0, .slice none 0 0, .slice none 0 0, .slice none 0 0], Q, A', c', zs', rfl, fun _ h => h, fun W _ => HZ.out W, HQ2.out, HS4.out.drop⟩
  have y3 : decide (3 < rd b 15) = false := decide_eq_false (by omega)
  have HNUM := Aside0.mk fun (B : Option Addr) (cB : Nat) (W : World) (h : (Kd.int .u8).C W B b.length b) (hc : b.length ≤ cB) (a n : Int) (ha : 0 ≤ a) (hn : n ≤ 4) => num_calls B cB b W h hc hB (by omega) a n ha hn
  have HI := Aside0.mk fun (A : Option Addr) (c n : Nat) (hn : n = (b.drop 16).length) (W : World) (h : (Kd.int .u8).C W A (b.drop 16).length (b.drop 16)) (hc : (b.drop 16).length ≤ c) => inner_calls (hB.drop 16) (by rw [List.length_drop]; omega) A c n hn W h hc
  have HP : Aside0 (partOK b ↔ (inner (b.drop 16).length (b.drop 16) []).2 = 0) := ⟨⟨fun h => h.2.2, fun h => ⟨h16, h3, h⟩⟩⟩
  have HFF : Aside0 ((inner (b.drop 16).length (b.drop 16) []).2 = 0 → partF b = frameQ b (alphaP (inner (b.drop 16).length (b.drop 16) []).1 0) (dataP (inner (b.drop 16).length (b.drop 16) []).1 0) ∧ partE b e1 = failE e1 (restE (dataP (inner (b.drop 16).length (b.drop 16) []).1 0).2.2.1 (dataP (inner (b.drop 16).length (b.drop 16) []).1 0).2.2.2)) := ⟨fun h => ⟨if_pos (HP.out.2 h), if_pos (HP.out.2 h)⟩⟩
  have HFN : Aside0 ((inner (b.drop 16).length (b.drop 16) []).2 ≠ 0 → partF b = z44 ∧ partE b e1 = failE e1 3) := ⟨fun h => ⟨if_neg fun x => h (HP.out.1 x), if_neg fun x => h (HP.out.1 x)⟩⟩
  obtain ⟨⟨li, ei⟩, hin⟩ : ∃ p, inner (b.drop 16).length (b.drop 16) [] = p := ⟨_, rfl⟩
  rw [hin] at HI HFF HFN
  dsimp only at HI HFF HFN
  have b0 := numV_bd hB 0 3 (by decide)
  have b1 := numV_bd hB 3 3 (by decide)
  have b2 := numV_bd hB 6 3 (by decide)
  have b3 := numV_bd hB 9 3 (by decide)
  have k0 : IntKind.i64.wrap (2 * numV b 0 3) = 2 * numV b 0 3 := wi64 (by omega) (by omega)
  have k1 : IntKind.i64.wrap (2 * numV b 3 3) = 2 * numV b 3 3 := wi64 (by omega) (by omega)
  have k2 : IntKind.i64.wrap (numV b 6 3 + 1) = numV b 6 3 + 1 := wi64 (by omega) (by omega)
  have k3 : IntKind.i64.wrap (numV b 9 3 + 1) = numV b 9 3 + 1 := wi64 (by omega) (by omega)
  clear h3 h16 HP hin b0 b1 b2 b3
  go_enter Try.func86, Try.ntmps86
  go_upto_region 1 with (fail)
  rw [← HW0.out, ← HGR.out]
  go_upto_region 5 with (go_at_call 71; refine HN.out.mono ?_; rintro e w2 ⟨B, cB, A', c', zs', rfl, hc8, hC8, hq2, hs⟩; obtain ⟨ad, rfl, c15⟩ := HC15.out _ _ (hC8 _ hs.swap.pinGet); have HQ2 := Aside0.mk hq2; have HC8 := Aside0.mk hC8; have HL8 := Aside0.mk hc8; have HS2 := Aside0.mk hs; clear hs hq2 hC8 hc8)
  clear c15
  go_upto_region 6 with (go_at_call 85; with_reducible refine (HNUM.out _ _ _ (HC8.out _ HS2.out.swap.pinGet) HL8.out _ _ (by decide) (by decide)).mono ?_; rintro e w3 ⟨rfl, ⟨n1, hw⟩⟩; have hs := HS2.out.drewN n1; rw [← hw] at hs; clear HS2 hw; have HS2 := Aside0.mk hs; clear hs)
  have hal := HS2.out.alloc #[.int .i64 (2 * numV b 0 3), .int .i64 (2 * numV b 3 3), .int .i64 (numV b 6 3 + 1), .int .i64 (numV b 9 3 + 1), .int .i64 (numV b 12 3), .bool false, .bool false, .int .i64 0, .slice none 0 0, .slice none 0 0, .slice none 0 0] 44
  obtain ⟨gf, hgf⟩ : ∃ gf, gf = w3.heap.size := ⟨_, rfl⟩
  obtain ⟨W6, hW6⟩ : ∃ W6, W6 = w3.alloc (.cells #[.int .i64 (2 * numV b 0 3), .int .i64 (2 * numV b 3 3), .int .i64 (numV b 6 3 + 1), .int .i64 (numV b 9 3 + 1), .int .i64 (numV b 12 3), .bool false, .bool false, .int .i64 0, .slice none 0 0, .slice none 0 0, .slice none 0 0] 44) := ⟨_, rfl⟩
  rw [← hW6, ← hgf] at hal ⊢
  clear hW6 hgf HS2
  have hcc := fun (W : World) (h : Q W) => (by obtain ⟨ad2, h2, h3⟩ := HC15.out _ _ (HC8.out W h); obtain rfl : ad = ad2 := Option.some.inj h2; exact h3 : W.cell? ⟨ad.block, ad.off + 15, none⟩ = some (.int .u8 (rd b 15)))
  have c15 := hcc _ hal.rot3.pinGet
  have s5 := hal.set 5 (.bool (bit8 (rd b 15) 2))
  have s6 := hal.set 6 (.bool (bit8 (rd b 15) 1))
  unfold bit8 at s5 s6
  have c15a := hcc _ s5.rot3.pinGet
  have c15b := hcc _ s6.rot3.pinGet
  have q5 := (hal.cell 5).trans (show _ = some (Value.bool false) from rfl)
  have q6 := (hal.cell 6).trans (show _ = some (Value.bool false) from rfl)
  have f5 := hal.frozen 5
  have f6 := hal.frozen 6
  have q6a := (s5.cell 6).trans (show _ = some (Value.bool false) from rfl)
  have q5a := (s6.cell 5).trans (show _ = some (Value.bool false) from rfl)
  have f6a := s5.frozen 6
  have f5a := s6.frozen 5
  have HS6 := Aside0.mk (hal.set 5 (.bool (bit8 (rd b 15) 2)) |>.set 6 (.bool (bit8 (rd b 15) 1)))
  clear s5 s6 hcc hal
  go_region
  obtain ⟨W7, hW7⟩ : ∃ W7, W7 = ((W6.setCell ⟨gf, 5, none⟩ (.bool (bit8 (rd b 15) 2))).setCell ⟨gf, 6, none⟩ (.bool (bit8 (rd b 15) 1))).drew := ⟨_, rfl⟩
  have HS7 := Aside0.mk HS6.out.drew
  rw [← hW7] at HS7
  unfold bit8 at hW7
  rw [← hW7]
  clear hW7 HS6 c15 c15a c15b q5 q6 f5 f6 q6a q5a f6a f5a
  have HX : Aside0 (∀ W, Q W → (Kd.int .u8).C W (if cB = 16 then some ad else some ⟨ad.block, ad.off + 16, none⟩) (b.drop 16).length (b.drop 16)) := ⟨fun W hW => by
    have h := Kd.C_drop (m := 16) (c := cB) (HC8.out W hW) H16.out HL8.out
    have e : ad.add 16 = ⟨ad.block, ad.off + 16, none⟩ := by rw [show 16 = 0 + 16 from rfl, add_field _ _ 16 (by omega), Addr.add_zero']
    rw [show 16 * (Kd.int IntKind.u8).sz = 16 from rfl, Option.map_some, e] at h
    exact h⟩
  have u1 : (16 ≤ b.length) = True := eq_true H16.out
  have u2 : ((16 : Int) ≤ (b.length : Int)) = True := eq_true (by have := H16.out; omega)
  have u3 : (b.length ≤ cB) = True := eq_true HL8.out
  have u4 : ((b.length : Int) ≤ (cB : Int)) = True := eq_true (by have := HL8.out; omega)
  go_upto_region 7 with (fail)
  have HLD : Aside0 (b.length - 16 = (b.drop 16).length ∧ (b.drop 16).length ≤ cB - 16) := ⟨by rw [List.length_drop], by have := HL8.out; rw [List.length_drop]; omega⟩
  have hX : ∃ X, (X = if cB = 16 then some ad else some ⟨ad.block, ad.off + 16, none⟩) := ⟨_, rfl⟩
  obtain ⟨X, hX⟩ := hX
  rw [← hX] at HX
  have hX' : (cB = 16 ∧ X = some ad) ∨ (cB ≠ 16 ∧ X = some ⟨ad.block, ad.off + 16, none⟩) := by
    by_cases h : cB = 16
    · exact .inl ⟨h, by rw [hX, if_pos h]⟩
    · exact .inr ⟨h, by rw [hX, if_neg h]⟩
  clear hX x1 x2
  rcases hX' with ⟨hc1, rfl⟩ | ⟨hc1, rfl⟩
  all_goals by_cases he : ei = 0
  all_goals first
    | (have HF := Aside0.mk (HFN.out he)
       have y5 : (ei != 0) = true := by simp [he]
       clear he HFN HFF
       go_upto_region 10 with (first
         | (go_at_call 69; refine (HI.out _ _ _ HLD.out.1 _ (HX.out _ HS7.out.rot3.pinGet) (by have := HLD.out.2; omega)).mono ?_; rintro e w8 ⟨v, rfl, hr, hb⟩; have HMX := Aside0.mk (show li.length ≤ 9223372036854775807 from (by obtain ⟨_, _, _, _, h⟩ := Kd.R_reads hr; exact h.2.1)); obtain ⟨B3, c3, inn, rfl, hc3, hs⟩ := HS7.out.pinRX hb hr; have HS8 := Aside0.mk hs; have HC3 := Aside0.mk hc3; clear hr hb hs hc3)
         | (go_at_call 37; refine (fail_calls 3 HS8.out.drop.drop).mono ?_; rintro e w3 ⟨rfl, hs⟩; have HS3 := Aside0.mk hs; clear hs))
       have h3 := (show St w w3 (Asrt.blk g 59 _ * (pin w Q * (Asrt.blk gr 44 _ * r))) from HS3.out).rot3
       have z := fun i => h3.cell i
       have zf := fun i => h3.frozen i
       have HS4 := Aside0.mk (h3.put11 (.int .i64 0) (.int .i64 0) (.int .i64 0) (.int .i64 0) (.int .i64 0) (.bool false) (.bool false) (.int .i64 0) (.slice none 0 0) (.slice none 0 0) (.slice none 0 0))
       clear h3 HS3
       go_wp2_with fail
       refine bodyPost_ret (results_cell_row rfl _ _ gr 44 #[.int .i64 0, .int .i64 0, .int .i64 0, .int .i64 0, .int .i64 0, .bool false, .bool false, .int .i64 0, .slice none 0 0, .slice none 0 0, .slice none 0 0] (0, 0) _ rfl HS4.out.blk Try.underlying44 rfl (by kernel_rfl)) rfl ?_
       rw [HF.out.1, HF.out.2]
       exact ⟨[.int .i64 0, .int .i64 0, .int .i64 0, .int .i64 0, .int .i64 0, .bool false, .bool false, .int .i64 0, .slice none 0 0, .slice none 0 0, .slice none 0 0], Q, A', c', zs', rfl, fun _ h => h, fun W _ => HZ.out W, HQ2.out, HS4.out.drop⟩
       done)
    | skip
  all_goals have HF := Aside0.mk (HFF.out he)
  all_goals have y5 : (ei != 0) = false := by simp [he]
  all_goals clear he HFN HFF
  all_goals go_upto_region 12 with (go_at_call 69; refine (HI.out _ _ _ HLD.out.1 _ (HX.out _ HS7.out.rot3.pinGet) (by have := HLD.out.2; omega)).mono ?_; rintro e w8 ⟨v, rfl, hr, hb⟩; have HMX := Aside0.mk (show li.length ≤ 9223372036854775807 from (by obtain ⟨_, _, _, _, h⟩ := Kd.R_reads hr; exact h.2.1)); obtain ⟨B3, c3, inn, rfl, hc3, hs⟩ := HS7.out.pinRX hb hr; have HS8 := Aside0.mk hs; have HC3 := Aside0.mk hc3; clear hr hb hs hc3)
  all_goals have HS9 := Aside0.mk ((show St w w8 _ from HS8.out).alloc #[.slice B3 li.length c3, .int .i64 0, .int .i64 0] 59)
  all_goals obtain ⟨W9, hW9⟩ : ∃ W9, W9 = w8.alloc (.cells #[.slice B3 li.length c3, .int .i64 0, .int .i64 0] 59) := ⟨_, rfl⟩
  all_goals obtain ⟨gq, hgq⟩ : ∃ gq, gq = w8.heap.size := ⟨_, rfl⟩
  all_goals rw [← hW9, ← hgq] at HS9 ⊢
  all_goals clear hW9 hgq HS8 HS7 k0 k1 k2 k3 u1 u2 u3 u4 hc1
  all_goals have HQ3 : Aside0 (poolQ _ B3 c3 li inn) := ⟨HC3.out, HMX.out, fun W (hW : ReadsCells W _ B3 li.length inn ∧ KL k42 W li inn) => hW⟩
  all_goals have HP := Aside0.mk (pictureP_calls (.int .i64 (2 * numV b 0 3)) (.int .i64 (2 * numV b 3 3)) (.int .i64 (numV b 6 3 + 1)) (.int .i64 (numV b 9 3 + 1)) (.int .i64 (numV b 12 3)) (.bool (bit8 (rd b 15) 2)) (.bool (bit8 (rd b 15) 1)) (.int .i64 0) (.slice none 0 0) (.slice none 0 0) HQ3.out HS9.out)
  all_goals clear HS9
  all_goals go_upto_region 14 with (first
    | (go_at_call 74; refine HP.out.mono ?_; rintro e w10 ⟨B8, c8, B9, c9, A3, c3', zs3, rfl, hl8, hC8, hl9, hC9, hq3, hs⟩; have HR := Aside0.mk (rest_calls hq3 hs); have HA3 := Aside0.mk hC8; have HA4 := Aside0.mk hl8; have HA5 := Aside0.mk hC9; have HA6 := Aside0.mk hl9; have HA7 := Aside0.mk hq3; clear HP hs hq3 hl8 hC8 hl9 hC9)
    | (go_at_call 73; refine HR.out.mono ?_; rintro e w11 ⟨rfl, hs⟩; have h11 := (show St w w11 (Asrt.blk gq 59 _ * (pin w _ * (Asrt.blk gf 44 _ * (Asrt.blk g 59 _ * (pin w Q * (Asrt.blk gr 44 _ * r)))))) from hs).rot3; have q10 := (h11.cell 10).trans (show _ = some (Value.slice none 0 0) from rfl); have f10 := h11.frozen 10; have HS11 := Aside0.mk (h11.set 10 (.slice A3 (dataP li 0).2.2.1.length c3')); clear HR hs h11))
  all_goals clear q10 f10
  all_goals obtain ⟨W12, hW12⟩ : ∃ W12, W12 = w11.setCell ⟨gf, 10, none⟩ (.slice A3 (dataP li 0).2.2.1.length c3') := ⟨_, rfl⟩
  all_goals rw [← hW12] at HS11 ⊢
  all_goals clear hW12
  all_goals have m2 := (HS11.out.swap.cell 2).trans (show _ = some (Value.int .i64 (restE (dataP li 0).2.2.1 (dataP li 0).2.2.2)) from rfl)
  all_goals have HFC := Aside0.mk (fail_calls (restE (dataP li 0).2.2.1 (dataP li 0).2.2.2) HS11.out.qback)
  all_goals go_upto_region 15 with (go_at_call 37; refine HFC.out.mono ?_; rintro e w13 ⟨rfl, hs⟩; have HS13 := Aside0.mk (show St w w13 (Asrt.blk g 59 _ * (pin w Q * (Asrt.blk gf 44 #[.int .i64 (2 * numV b 0 3), .int .i64 (2 * numV b 3 3), .int .i64 (numV b 6 3 + 1), .int .i64 (numV b 9 3 + 1), .int .i64 (numV b 12 3), .bool (bit8 (rd b 15) 2), .bool (bit8 (rd b 15) 1), .int .i64 (kindP (alphaP li 0).2.1 (alphaP li 0).2.2), .slice B8 (alphaP li 0).1.length c8, .slice B9 (dataP li 0).1.length c9, .slice A3 (dataP li 0).2.2.1.length c3'] * (pin w _ * (Asrt.blk gr 44 _ * r))))) from hs); clear hs)
  all_goals clear m2 HFC HS11
  all_goals have z1 := fun i => HS13.out.rot3.cell i
  all_goals have z2 := fun i => HS13.out.drop.drop.rot3.cell i
  all_goals have z3 := fun i => HS13.out.drop.drop.rot3.frozen i
  all_goals have HS14 := Aside0.mk (HS13.out.rot3.drop.rot4.put11 (.int .i64 (2 * numV b 0 3)) (.int .i64 (2 * numV b 3 3)) (.int .i64 (numV b 6 3 + 1)) (.int .i64 (numV b 9 3 + 1)) (.int .i64 (numV b 12 3)) (.bool (bit8 (rd b 15) 2)) (.bool (bit8 (rd b 15) 1)) (.int .i64 (kindP (alphaP li 0).2.1 (alphaP li 0).2.2)) (.slice B8 (alphaP li 0).1.length c8) (.slice B9 (dataP li 0).1.length c9) (.slice A3 (dataP li 0).2.2.1.length c3'))
  all_goals clear HS13
  all_goals go_wp2_with fail
  all_goals refine bodyPost_ret (results_cell_row rfl _ _ gr 44 #[.int .i64 (2 * numV b 0 3), .int .i64 (2 * numV b 3 3), .int .i64 (numV b 6 3 + 1), .int .i64 (numV b 9 3 + 1), .int .i64 (numV b 12 3), .bool (bit8 (rd b 15) 2), .bool (bit8 (rd b 15) 1), .int .i64 (kindP (alphaP li 0).2.1 (alphaP li 0).2.2), .slice B8 (alphaP li 0).1.length c8, .slice B9 (dataP li 0).1.length c9, .slice A3 (dataP li 0).2.2.1.length c3'] (0, 0) _ rfl HS14.out.blk Try.underlying44 rfl (by kernel_rfl)) rfl ?_
  all_goals rw [HF.out.1, HF.out.2]
  all_goals exact ⟨[.int .i64 (2 * numV b 0 3), .int .i64 (2 * numV b 3 3), .int .i64 (numV b 6 3 + 1), .int .i64 (numV b 9 3 + 1), .int .i64 (numV b 12 3), .bool (bit8 (rd b 15) 2), .bool (bit8 (rd b 15) 1), .int .i64 (kindP (alphaP li 0).2.1 (alphaP li 0).2.2), .slice B8 (alphaP li 0).1.length c8, .slice B9 (dataP li 0).1.length c9, .slice A3 (dataP li 0).2.2.1.length c3'], _, A', c', zs', rfl, fun _ h => h.2, fun W hW => k44_mk W (frameQ b (alphaP li 0) (dataP li 0)) HA4.out (HA3.out W hW.1) HA6.out (HA5.out W hW.1) HA7.out.le (HA7.out.C hW.1), HQ2.out.imp fun _ h => h.2, HS14.out.drop.rot3.swap2.pinAnd.swap⟩
end
end Go.Proofs.Ythkocpcjcpohcaa.P
end
section
namespace Go.Proofs.Ythkocpcjcpohcaa.P
open Go Go.RowKit Go.Proofs.YthkocpcjcpohcaaW.PrintWords Go.Proofs.YthkocpcjcpohcaaW.PrintLast Go.Proofs.YthkocpcjcpohcaaW.PrintMore Go.Proofs.Ythkocpcjcpohcaa.U Go.Proofs.Ythkocpcjcpohcaa.Pure
set_option linter.unusedVariables false
set_option linter.unusedSimpArgs false
attribute [local go_sem] max2_int min2_int max_two min_two max_three min_three max_four min_four
theorem wu32 {n : Int} (h0 : 0 ≤ n) (h1 : n ≤ 4294967295) : IntKind.u32.wrap n = n := by simp [IntKind.wrap, IntKind.bits, IntKind.signed]; omega
def lenAt (w : World) (g : Nat) : Nat := match w.cell? ⟨g, 0, none⟩ with
  | some (.slice _ n _) => n
  | _ => 0
theorem okL_tail {x : Ch} {t : List Ch} (h : okL (x :: t)) : okL t := fun y hy => h y (List.mem_cons_of_mem _ hy)
theorem isB_true {l : List Ch} {e : Int} {nm : ByteArray} (h : isB l e nm = true) : ∃ b t, e = 0 ∧ l = ⟨nm, b⟩ :: t := by
  unfold isB headB at h
  rw [Bool.and_eq_true, decide_eq_true_iff] at h
  cases l with
  | nil => simp at h
  | cons x t =>
    have h2 : x.f0 = nm := of_decide_eq_true h.2
    exact ⟨x.f1, t, h.1, by rw [← h2]⟩
theorem next_take {nm : ByteArray} {b : List Int} {t : List Ch} : nextV (⟨nm, b⟩ :: t) 0 nm true = (b, true, t, 0) := by simp [nextV, headB]
theorem parts_go {b : List Int} {t : List Ch} {most : Int} {acc : List Fr} (hm : ¬ most ≤ (acc.length : Int)) : partsL (t.length + 1) (⟨nANMF, b⟩ :: t) 0 most acc = partsL t.length t (partE b 0) most (acc ++ [partF b]) := by
  rw [partsL, if_pos (by simp [isB, headB]), if_neg hm, next_take]
theorem parts_lim {b : List Int} {t : List Ch} {most : Int} {acc : List Fr} (hm : most ≤ (acc.length : Int)) : partsL (t.length + 1) (⟨nANMF, b⟩ :: t) 0 most acc = (acc, ⟨nANMF, b⟩ :: t, 4) := by
  rw [partsL, if_pos (by simp [isB, headB]), if_pos hm]
  rfl
theorem parts_end {l : List Ch} {e most : Int} {acc : List Fr} (h : isB l e nANMF = false) : partsL l.length l e most acc = (acc, l, e) := by
  cases l with
  | nil => rfl
  | cons x t => rw [List.length_cons, partsL, if_neg (by rw [h]; simp)]
section
variable {w W : World} {g gd : Nat} {l l1 : List Ch} {most e e1 : Int} {b : List Int} {ok : Bool} {A : Option Addr} {c : Nat} {Q : World → Prop} {r : Asrt}
set_option maxHeartbeats 8000000 in
set_option maxRecDepth 100000 in
theorem parts_calls (a0 a1 a2 a3 a4 a7 a8 a9 a10 a11 a12 a14 : Value) {zs : List Value} (hq : poolQ Q A c l zs) (hn : nextV l e nANIM true = (b, ok, l1, e1)) (hB : Bytes b) (hlen : b.length ≤ 1000000000) (hl1 : okL l1) (hll : l1.length ≤ 1000000000)
    (hS : St w W (parA w g l most e A c Q (Asrt.blk gd 27 #[a0, a1, a2, a3, a4, .int .u32 0, .int .i64 0, a7, a8, a9, a10, a11, a12, .slice none 0 0, a14] * r))) :
    Calls Try.prog 72 #[.pointer (some ⟨g, 0, none⟩), .pointer (some ⟨gd, 0, none⟩)] W fun x w' => ∃ (Q' : World → Prop) (B : Option Addr) (cB : Nat) (xs : List Value) (A' : Option Addr) (c' : Nat) (zs' : List Value), x = .returned (.tuple #[]) ∧
      (∀ W, Q' W → Q W) ∧ poolQ Q' A' c' (movesV b ok l1 e1 most).2.2.2.1 zs' ∧ (∀ W, Q' W → KL k44 W (movesV b ok l1 e1 most).2.2.1 xs) ∧
      St w w' (parA w g (movesV b ok l1 e1 most).2.2.2.1 most (movesV b ok l1 e1 most).2.2.2.2 A' c' Q' (Asrt.blk gd 27 #[a0, a1, a2, a3, a4, .int .u32 (movesV b ok l1 e1 most).1, .int .i64 (movesV b ok l1 e1 most).2.1, a7, a8, a9, a10, a11, a12, .slice B (movesV b ok l1 e1 most).2.2.1.length cB, a14] * (Asrt.row 44 11 (.slice B (movesV b ok l1 e1 most).2.2.1.length cB) (movesV b ok l1 e1 most).2.2.1.length xs * r))) := by
  have hN := next_calls nANIM true hq hS
  rw [hn] at hN
  have HN := Aside0.mk hN
  clear hN hS hq hn
  by_cases hok : aniOK b ok
  case neg =>
    have HF : Aside0 (movesV b ok l1 e1 most = (0, 0, [], l1, failE e1 3)) := ⟨if_neg hok⟩
    have hc : ok = false ∨ (ok = true ∧ ((b.length : Int) != 6) = true) := by
      cases ok with
      | false => exact .inl rfl
      | true => exact .inr ⟨rfl, by simp; intro h; exact hok ⟨rfl, by omega⟩⟩
    clear hok
    rcases hc with rfl | ⟨rfl, y1⟩
    all_goals go_enter Try.func72, Try.ntmps72
    all_goals go_wp2_with (first
      | (go_at_call 71; refine HN.out.mono ?_; rintro e w2 ⟨B, cB, A', c', zs', rfl, hc8, hC8, hq2, hs⟩; have HQ2 := Aside0.mk hq2; have HF2 := Aside0.mk (fail_calls 3 hs); clear hs hq2 hC8 hc8)
      | (go_at_call 37; refine HF2.out.mono ?_; rintro e w3 ⟨rfl, hs⟩; have HS3 := Aside0.mk hs; clear hs))
    all_goals refine bodyPost_ret (results_none rfl _ _ _) rfl ?_
    all_goals rw [HF.out]
    all_goals exact ⟨Q, none, 0, [], A', c', zs', rfl, fun _ h => h, HQ2.out, fun _ _ => rfl, (HS3.out.rot3.rowNil 44 11).swap.rot4.rot4⟩
  have HF : Aside0 (movesV b ok l1 e1 most = (numV b 0 4, numV b 4 2, partsL l1.length l1 e1 most [])) := ⟨if_pos hok⟩
  obtain ⟨rfl, h6⟩ := hok
  have y1 : ((b.length : Int) != 6) = false := by simp [h6]
  have HNUM := Aside0.mk fun (B : Option Addr) (cB : Nat) (W : World) (h : (Kd.int .u8).C W B b.length b) (hc : b.length ≤ cB) (a n : Int) (ha : 0 ≤ a) (hn : n ≤ 4) => num_calls B cB b W h hc hB (by omega) a n ha hn
  have b0 := numV_bd hB 0 4 (by decide)
  have k0 : IntKind.u32.wrap (numV b 0 4) = numV b 0 4 := wu32 (by omega) (by omega)
  clear b0 h6
  go_enter Try.func72, Try.ntmps72
  go_upto_region 3 with (go_at_call 71; refine HN.out.mono ?_; rintro e w2 ⟨B, cB, A', c', zs', rfl, hc8, hC8, hq2, hs⟩; have HQ2 := Aside0.mk hq2; have HC8 := Aside0.mk hC8; have HL8 := Aside0.mk hc8; have HS2 := Aside0.mk hs; clear hs hq2 hC8 hc8)
  go_upto_region 4 with (first
      | (go_at_call 85; with_reducible refine (HNUM.out _ _ w2 (HC8.out _ HS2.out.swap.pinGet) HL8.out 0 4 (by decide) (by decide)).mono ?_; rintro e w6 ⟨rfl, ⟨n1, hw⟩⟩; have hs := HS2.out.drewN n1; rw [← hw] at hs; clear hw; have HS6 := Aside0.mk hs; clear hs)
      | (go_at_call 85; with_reducible refine (HNUM.out _ _ w6 (HC8.out _ HS6.out.swap.pinGet) HL8.out 4 2 (by decide) (by decide)).mono ?_; rintro e w7 ⟨rfl, ⟨n2, hw⟩⟩; have hs := HS6.out.drewN n2; rw [← hw] at hs; clear hw; have s0 := hs.rot3; have c1 := (s0.cell 5).trans (show _ = some (Value.int .u32 0) from rfl); have f1 := s0.frozen 5; have s1 := s0.set 5 (.int .u32 (numV b 0 4)); have c2 := (s1.cell 6).trans (show _ = some (Value.int .i64 0) from rfl); have f2 := s1.frozen 6; have HS7 := Aside0.mk ((s1.set 6 (.int .i64 (numV b 4 2))).rowNil 44 11).swap.rot4.rot4; clear hs s0 s1))
  obtain ⟨W8, hW8⟩ : ∃ W8, W8 = (w7.setCell ⟨gd, 5, none⟩ (.int .u32 (numV b 0 4))).setCell ⟨gd, 6, none⟩ (.int .i64 (numV b 4 2)) := ⟨_, rfl⟩
  rw [← hW8] at HS7 ⊢
  clear hW8 HN HS2 HS6 HC8 HL8 HNUM c1 c2 f1 f2
  have HOL := Aside0.mk hl1
  go_loopw [] (fun wr => ∃ (Qk : World → Prop) (lk : List Ch) (ek : Int) (Ak : Option Addr) (ck : Nat) (zk : List Value) (acc : List Fr) (B : Option Addr) (cB : Nat) (xs : List Value),
    (∀ W, Qk W → Q W) ∧ poolQ Qk Ak ck lk zk ∧ okL lk ∧ (∀ W, Qk W → KL k44 W acc xs) ∧ partsL l1.length l1 e1 most [] = partsL lk.length lk ek most acc ∧ acc.length + lk.length ≤ 1000000000 ∧
    St w wr (parA w g lk most ek Ak ck Qk (Asrt.blk gd 27 #[a0, a1, a2, a3, a4, .int .u32 (numV b 0 4), .int .i64 (numV b 4 2), a7, a8, a9, a10, a11, a12, .slice B acc.length cB, a14] * (Asrt.row 44 11 (.slice B acc.length cB) acc.length xs * r)))) (fun wr => lenAt wr g)
  case atStart => exact ⟨Q, l1, e1, A', c', zs', [], none, 0, [], fun _ h => h, HQ2.out, HOL.out, fun _ _ => rfl, rfl, by simpa using hll, HS7.out⟩
  case round =>
    obtain ⟨Qk, lk, ek, Ak, ck, zk, acc, B, cB, xs, hQ, hq, hol, hk, hpl, hle, hs⟩ := hrel
    clear HS7
    have HI := Aside0.mk (is_calls nANMF hq hs)
    cases hB : isB lk ek nANMF with
    | false =>
      rw [hB] at HI
      have HE : Aside0 (movesV b true l1 e1 most = (numV b 0 4, numV b 4 2, acc, lk, ek)) := ⟨by rw [HF.out, hpl, parts_end hB]⟩
      have H1 := Aside0.mk hQ
      have H2 := Aside0.mk hq
      have H3 := Aside0.mk hk
      clear hQ hq hk hs hpl hB hle
      go_wp2_with (go_at_call 34; refine HI.out.mono ?_; rintro e w9 ⟨rfl, hs⟩; have HS9 := Aside0.mk hs; clear hs)
      go_end0
      rw [HE.out]
      exact ⟨Qk, B, cB, xs, Ak, ck, zk, rfl, H1.out, H2.out, H3.out, HS9.out⟩
    | true =>
      rw [hB] at HI
      obtain ⟨bx, t, rfl, rfl⟩ := isB_true hB
      have hbx := hol _ List.mem_cons_self
      by_cases hm : most ≤ (acc.length : Int)
      · have HE : Aside0 (movesV b true l1 e1 most = (numV b 0 4, numV b 4 2, acc, ⟨nANMF, bx⟩ :: t, 4)) := ⟨by rw [HF.out, hpl, List.length_cons, parts_lim hm]⟩
        have y2 : decide (most ≤ (acc.length : Int)) = true := decide_eq_true hm
        have H1 := Aside0.mk hQ
        have H2 := Aside0.mk hq
        have H3 := Aside0.mk hk
        clear hQ hq hk hs hpl hB hle hm
        go_upto_region 5 with (go_at_call 34; refine HI.out.mono ?_; rintro e w9 ⟨rfl, hs⟩; have HS9 := Aside0.mk (show St w w9 (Asrt.blk g 59 _ * (pin w Qk * (Asrt.blk gd 27 _ * _))) from hs); clear hs)
        have m1 := (HS9.out.cell 1).trans (show _ = some (Value.int .i64 most) from rfl)
        have m13 := (HS9.out.rot3.cell 13).trans (show _ = some (Value.slice B acc.length cB) from rfl)
        go_quiet (fail)
        have HFC := Aside0.mk (fail_calls 4 (HS9.out.drewN nq))
        clear m1 m13
        go_wp2_with (go_at_call 37; refine HFC.out.mono ?_; rintro e w10 ⟨rfl, hs⟩; have HS10 := Aside0.mk hs; clear hs)
        refine bodyPost_ret (results_none rfl _ _ _) rfl ?_
        rw [HE.out]
        exact ⟨Qk, B, cB, xs, Ak, ck, zk, rfl, H1.out, H2.out, H3.out, HS10.out⟩
      · have HE := Aside0.mk (hpl.trans (parts_go hm))
        have y2 : decide (most ≤ (acc.length : Int)) = false := decide_eq_false hm
        have HLW : Aside0 (lenAt wr g = t.length + 1) := ⟨by unfold lenAt; rw [hs.cell 0]; rfl⟩
        have HBD : Aside0 (acc.length + 1 + t.length ≤ 1000000000) := ⟨by rw [List.length_cons] at hle; omega⟩
        have hcap : (acc.length + 1) * 128 ≤ 140737488355328 := by have := HBD.out; omega
        have HCAP := Aside0.mk hcap
        have HT := Aside0.mk (okL_tail hol)
        have HBX := Aside0.mk hbx
        have H1 := Aside0.mk hQ
        have H2 := Aside0.mk hq
        have H3 := Aside0.mk hk
        clear hQ hq hk hs hpl hB hle hm hol hbx hcap
        go_upto_region 5 with (go_at_call 34; refine HI.out.mono ?_; rintro e w9 ⟨rfl, hs⟩; have HS9 := Aside0.mk (show St w w9 (Asrt.blk g 59 _ * (pin w Qk * (Asrt.blk gd 27 _ * _))) from hs); clear hs)
        have m1 := (HS9.out.cell 1).trans (show _ = some (Value.int .i64 most) from rfl)
        have m13 := (HS9.out.rot3.cell 13).trans (show _ = some (Value.slice B acc.length cB) from rfl)
        go_quiet (fail)
        have hs := HS9.out.drewN nq
        clear HI HS9 m1 m13
        generalize w9.drewN nq = W10 at hs ⊢
        have ft := (hs.rot3.cell 13).trans (show _ = some (Value.slice B acc.length cB) from rfl)
        have HP := Aside0.mk (part_calls H2.out next_take HBX.out.1 HBX.out.2 hs.drew)
        clear hs
        go_upto_region 7 with (fail)
        go_region_law (first
          | (go_simp; go_at_call 86; refine HP.out.mono ?_; rintro e w11 ⟨cs, Q2, A2, c2, zs2, rfl, hQ2, hK2, hq2, hs⟩; obtain ⟨A8, c8, A9, c9, A10, c10, rfl, l8, g8, l9, g9, l10, g10⟩ := k44_open (hK2 _ hs.swap.pinGet); clear g8 g9 g10; have pt := (hs.rot3.cell 13).trans (show _ = some (Value.slice B acc.length cB) from rfl); have pu := ((hs.rot3.alloc #[.int .i64 (partF bx).f0, .int .i64 (partF bx).f1, .int .i64 (partF bx).f2, .int .i64 (partF bx).f3, .int .i64 (partF bx).f4, .bool (partF bx).f5, .bool (partF bx).f6, .int .i64 (partF bx).f7, .slice A8 (partF bx).f8.length c8, .slice A9 (partF bx).f9.length c9, .slice A10 (partF bx).f10.length c10] 44).swap.cell 13).trans (show _ = some (Value.slice B acc.length cB) from rfl); have HS11 := Aside0.mk hs.rot4; have HQ2 := Aside0.mk hQ2; have HK2 := Aside0.mk hK2; have HP2 := Aside0.mk hq2; clear hs hQ2 hK2 hq2)
          | (refine St.append_cells_step (w0 := w) (by rfl) (.tmp 49) (.tmp 52) 24 44 (.agg #[.int .i64 0, .int .i64 0, .int .i64 0, .int .i64 0, .int .i64 0, .bool false, .bool false, .int .i64 0, .slice none 0 0, .slice none 0 0, .slice none 0 0]) 11 128 rfl Try.underlying24 (by kernel_rfl) rfl (by decide) (by decide) _ acc.length xs [.int .i64 (partF bx).f0, .int .i64 (partF bx).f1, .int .i64 (partF bx).f2, .int .i64 (partF bx).f3, .int .i64 (partF bx).f4, .bool (partF bx).f5, .bool (partF bx).f6, .int .i64 (partF bx).f7, .slice A8 (partF bx).f8.length c8, .slice A9 (partF bx).f9.length c9, .slice A10 (partF bx).f10.length c10] (some ⟨_, 0, none⟩) 1 1 rfl rfl ((HS11.out.allocCells 44 11 1 [.int .i64 (partF bx).f0, .int .i64 (partF bx).f1, .int .i64 (partF bx).f2, .int .i64 (partF bx).f3, .int .i64 (partF bx).f4, .bool (partF bx).f5, .bool (partF bx).f6, .int .i64 (partF bx).f7, .slice A8 (partF bx).f8.length c8, .slice A9 (partF bx).f9.length c9, .slice A10 (partF bx).f10.length c10] rfl (by decide)).swap) (rowReadsC (HS11.out.allocCells 44 11 1 [.int .i64 (partF bx).f0, .int .i64 (partF bx).f1, .int .i64 (partF bx).f2, .int .i64 (partF bx).f3, .int .i64 (partF bx).f4, .bool (partF bx).f5, .bool (partF bx).f6, .int .i64 (partF bx).f7, .slice A8 (partF bx).f8.length c8, .slice A9 (partF bx).f9.length c9, .slice A10 (partF bx).f10.length c10] rfl (by decide)) (by simp [Value.oneCell'])) HCAP.out ?_; intro B10 c10' w12 hs; have HS12 := Aside0.mk hs.swap.drop; have r0 := (hs.swap.drop.rot4.cell 13).trans (show _ = some (Value.slice B acc.length cB) from rfl); have r1 := hs.swap.drop.rot4.frozen 13; clear hs))
        all_goals have HS13 := Aside0.mk (HS12.out.rot4.set 13 (.slice B10 (acc.length + 1) c10')).rot4.rot4
        all_goals clear HS12 HS11 r0 r1 pt pu
        all_goals go_roundw
        all_goals first
          | (rw [HLW.out]; unfold lenAt; rw [HS13.out.cell 0]; exact Nat.lt_succ_self _)
          | (refine ⟨_, _, _, _, _, _, _, _, _, _, _, _, _, _, _, _, _, _, _, _, _, _, _, _, _, ⟨Q2, t, partE bx 0, A2, c2, zs2, acc ++ [partF bx], B10, c10', xs ++ [.int .i64 (partF bx).f0, .int .i64 (partF bx).f1, .int .i64 (partF bx).f2, .int .i64 (partF bx).f3, .int .i64 (partF bx).f4, .bool (partF bx).f5, .bool (partF bx).f6, .int .i64 (partF bx).f7, .slice A8 (partF bx).f8.length c8, .slice A9 (partF bx).f9.length c9, .slice A10 (partF bx).f10.length c10], fun W h => H1.out W (HQ2.out W h), HP2.out, HT.out, fun W h => KL_app (H3.out W (HQ2.out W h)) (KL_fr1 (HK2.out W h)), HE.out, (by rw [List.length_append]; exact HBD.out), by rw [List.length_append]; exact HS13.out⟩, rfl⟩)
end
end Go.Proofs.Ythkocpcjcpohcaa.P
end
section
namespace Go.Proofs.Ythkocpcjcpohcaa.P
open Go Go.RowKit Go.Proofs.YthkocpcjcpohcaaW.PrintWords Go.Proofs.YthkocpcjcpohcaaW.PrintLast Go.Proofs.YthkocpcjcpohcaaW.PrintMore Go.Proofs.Ythkocpcjcpohcaa.U Go.Proofs.Ythkocpcjcpohcaa.Pure
set_option linter.unusedVariables false
set_option linter.unusedSimpArgs false
attribute [local go_sem] max2_int min2_int max_two min_two max_three min_three max_four min_four
theorem St.pinRowC {w0 w : World} {A : Asrt} {e : TypeId} {size n c : Nat} {B : Option Addr} {xs : List Value} (h : St w0 w (Asrt.row e size (.slice B n c) n xs * A)) (h1 : ∀ u ∈ xs, u.oneCell' = true) : St w0 w (pin w0 (fun W => ReadsCells W size B n xs) * A) := by
  have ho := h.row
  exact St.move h fun F hF _ => ⟨F, ⟨fun k hk => own_lt hF.1 k ((hF.2 k).1 hk), fun W hB hm => rowReadsC ((St.refl w0).newRow hB (own_move ho fun k hk => hm k ((hF.2 k).2 hk)) (Nat.le_refl _)) h1⟩, ⟨rfl, rfl, rfl, Nat.le_refl _, fun _ _ _ => rfl, fun k hk => .inl hk⟩⟩
theorem next_len {l : List Ch} {e : Int} {nm : ByteArray} {wt : Bool} : (nextV l e nm wt).2.2.1.length ≤ l.length := by
  unfold nextV
  split
  · split
    · show (l.drop 1).length ≤ _
      rw [List.length_drop]; omega
    · exact Nat.le_refl _
  · exact Nat.le_refl _
section
variable {w W : World} {g : Nat} {l : List Ch} {most e : Int} {A : Option Addr} {c : Nat} {Q : World → Prop} {r : Asrt}
set_option maxHeartbeats 8000000 in
set_option maxRecDepth 100000 in
theorem doc_calls {zs : List Value} (hq : poolQ Q A c l zs) (hol : okL l) (hll : l.length ≤ 1000000000) (hS : St w W (parA w g l most e A c Q r)) :
    Calls Try.prog 35 #[.pointer (some ⟨g, 0, none⟩)] W fun x w' => ∃ (ds : List Value) (Q' : World → Prop) (A' : Option Addr) (c' : Nat) (zs' : List Value), x = .returned (.agg ds.toArray) ∧
      (∀ W, Q' W → Q W) ∧ (∀ W, Q' W → k27.K W (docV l e most).1 ds) ∧ poolQ Q' A' c' (docV l e most).1.f14 zs' ∧ St w w' (parA w g (docV l e most).1.f14 most (docV l e most).2 A' c' Q' r) := by
  have hS0 := ((hS.alloc #[.bool false, .int .i64 0, .int .i64 0, .bool false, .bool false, .int .u32 0, .int .i64 0, .slice none 0 0, .slice none 0 0, .slice none 0 0, .bool false, .bool false, .bool false, .slice none 0 0, .slice none 0 0] 27).unrot3.alloc #[.bool false, .int .i64 0, .int .i64 0, .bool false, .bool false, .int .u32 0, .int .i64 0, .slice none 0 0, .slice none 0 0, .slice none 0 0, .bool false, .bool false, .bool false, .slice none 0 0, .slice none 0 0] 27).unrot3
  obtain ⟨gr, hgr⟩ : ∃ gr, gr = W.heap.size := ⟨_, rfl⟩
  obtain ⟨W1, hW1⟩ : ∃ W1, W1 = W.alloc (.cells #[.bool false, .int .i64 0, .int .i64 0, .bool false, .bool false, .int .u32 0, .int .i64 0, .slice none 0 0, .slice none 0 0, .slice none 0 0, .bool false, .bool false, .bool false, .slice none 0 0, .slice none 0 0] 27) := ⟨_, rfl⟩
  rw [← hW1, ← hgr] at hS0
  obtain ⟨gd, hgd⟩ : ∃ gd, gd = W1.heap.size := ⟨_, rfl⟩
  obtain ⟨W2, hW2⟩ : ∃ W2, W2 = W1.alloc (.cells #[.bool false, .int .i64 0, .int .i64 0, .bool false, .bool false, .int .u32 0, .int .i64 0, .slice none 0 0, .slice none 0 0, .slice none 0 0, .bool false, .bool false, .bool false, .slice none 0 0, .slice none 0 0] 27) := ⟨_, rfl⟩
  rw [← hW2, ← hgd] at hS0
  have hgd' : gd = gr + 1 := by rw [hgd, hW1, hgr]; simp
  have HE := Aside0.mk (And.intro hgr (And.intro hW1 (And.intro hgd' hW2)))
  have o1 := @next_ok l e nVP8X true hol
  have n1 := @next_len l e nVP8X true
  have hd : docV l e most = bodyV (headN (nextV l e nVP8X true).1 (nextV l e nVP8X true).2.1) (headW (nextV l e nVP8X true).1 (nextV l e nVP8X true).2.1 4) (headW (nextV l e nVP8X true).1 (nextV l e nVP8X true).2.1 7) (nextV l e nVP8X true).2.2.1 (headE (nextV l e nVP8X true).1 (nextV l e nVP8X true).2.1 (nextV l e nVP8X true).2.2.2) most := rfl
  obtain ⟨⟨b, ok, l1, e0⟩, hn1⟩ : ∃ n, nextV l e nVP8X true = n := ⟨_, rfl⟩
  have HH := Aside0.mk (head_calls (gd := gd) hq hn1 (by rw [hn1] at o1; exact o1.1.1) (by rw [hn1] at o1; exact o1.1.2) hS0)
  rw [hn1] at o1 n1 hd
  dsimp only at o1 n1 hd HH
  generalize headN b ok = N at hd HH
  generalize headW b ok 4 = Wd at hd HH
  generalize headW b ok 7 = Hd at hd HH
  generalize headE b ok e0 = e1 at hd HH
  have o2 := @next_ok l1 e1 nICCP (flagB N 32) o1.2
  have n2 := @next_len l1 e1 nICCP (flagB N 32)
  unfold bodyV at hd
  obtain ⟨⟨pr, ok2, l2, e2⟩, hn2⟩ : ∃ n, nextV l1 e1 nICCP (flagB N 32) = n := ⟨_, rfl⟩
  rw [hn2] at o2 n2 hd
  dsimp only at o2 n2 hd
  obtain ⟨⟨bk, lp, fs, l3, e3⟩, hF⟩ : ∃ F, framesV (flagB N 2) l2 e2 most Wd Hd = F := ⟨_, rfl⟩
  rw [hF] at hd
  dsimp only at hd
  obtain ⟨⟨ex, xm, l5, e5⟩, hT⟩ : ∃ T, tailV N l3 e3 = T := ⟨_, rfl⟩
  rw [hT] at hd
  have HD : Aside0 (docV l e most = (⟨false, Wd, Hd, flagB N 16, flagB N 2, bk, lp, pr, ex, xm, flagB N 32, flagB N 8, flagB N 4, fs, l5⟩, e5)) := ⟨hd⟩
  have HFR := Aside0.mk hF
  have HTL := Aside0.mk hT
  have HN2 := Aside0.mk hn2
  have HO2 := Aside0.mk o2.2
  have HL2 : Aside0 (l2.length ≤ 1000000000) := ⟨by omega⟩
  clear hS hS0 hq hol hll hgr hW1 hgd hgd' hW2 o1 n1 o2 n2 hd hF hT hn1 hn2
  go_enter Try.func35, Try.ntmps35
  go_upto_region 2 with (fail)
  rw [← HE.out.1, ← HE.out.2.1, ← HE.out.2.2.1, ← HE.out.2.2.2]
  go_upto_region 3 with (go_at_call 70; refine HH.out.mono ?_; rintro e w3 ⟨A3, c3, z3, rfl, hq3, hs⟩; have HQ3 := Aside0.mk hq3; have HS3 := Aside0.mk hs; have m10 := ((show St w w3 (Asrt.blk g 59 _ * (pin w Q * (Asrt.blk gd 27 _ * _))) from hs).rot3.cell 10).trans (show _ = some (Value.bool (flagB N 32)) from rfl); clear hs hq3)
  clear HE HH
  have hx := next_calls nICCP (flagB N 32) HQ3.out HS3.out
  rw [HN2.out] at hx
  have HX := Aside0.mk hx
  clear hx
  go_upto_region 4 with (go_at_call 71; refine HX.out.mono ?_; rintro e w4 ⟨B7, c7, A4, c4, z4, rfl, hl7, hC7, hq4, hs⟩; have h4 := (show St w w4 (Asrt.blk g 59 _ * (pin w Q * (Asrt.blk gd 27 _ * _))) from hs).rot3; have m7 := (h4.cell 7).trans (show _ = some (Value.slice none 0 0) from rfl); have f7 := h4.frozen 7; have HS4 := Aside0.mk (h4.set 7 (.slice B7 pr.length c7)); have HQ4 := Aside0.mk hq4; have HC7 := Aside0.mk hC7; have HL7 := Aside0.mk hl7; clear hs h4 hq4 hC7 hl7)
  clear HX HS3 HQ3 m10 m7 f7
  obtain ⟨W4, hW4⟩ : ∃ W4, W4 = w4.setCell ⟨gd, 7, none⟩ (.slice B7 pr.length c7) := ⟨_, rfl⟩
  rw [← hW4] at HS4 ⊢
  clear hW4
  have m4 := (HS4.out.cell 4).trans (show _ = some (Value.bool (flagB N 2)) from rfl)
  go_upto_if 15 with (fail)
  go_cut [] from 15 to 19 (fun wc => ∃ (Q5 : World → Prop) (B : Option Addr) (cB : Nat) (xs : List Value) (A5 : Option Addr) (c5 : Nat) (z5 : List Value), (∀ W, Q5 W → Q W) ∧ poolQ Q5 A5 c5 l3 z5 ∧ (∀ W, Q5 W → KL k44 W fs xs) ∧
    St w wc (parA w g l3 most e3 A5 c5 Q5 (Asrt.blk gd 27 #[.bool false, .int .i64 Wd, .int .i64 Hd, .bool (flagB N 16), .bool (flagB N 2), .int .u32 bk, .int .i64 lp, .slice B7 pr.length c7, .slice none 0 0, .slice none 0 0, .bool (flagB N 32), .bool (flagB N 8), .bool (flagB N 4), .slice B fs.length cB, .slice none 0 0] * (Asrt.row 44 11 (.slice B fs.length cB) fs.length xs * (Asrt.blk gr 27 #[.bool false, .int .i64 0, .int .i64 0, .bool false, .bool false, .int .u32 0, .int .i64 0, .slice none 0 0, .slice none 0 0, .slice none 0 0, .bool false, .bool false, .bool false, .slice none 0 0, .slice none 0 0] * r)))))
  case first =>
    rcases Bool.eq_false_or_eq_true (flagB N 2) with hmv | hmv
    · rw [hmv] at m4
      have hF := HFR.out
      have o4 := @next_ok l2 e2 nANIM true HO2.out
      have n4 := @next_len l2 e2 nANIM true
      unfold framesV at hF
      rw [if_pos hmv] at hF
      obtain ⟨⟨b4, ok4, l4, e4⟩, hn4⟩ : ∃ n, nextV l2 e2 nANIM true = n := ⟨_, rfl⟩
      rw [hn4] at o4 n4 hF
      dsimp only at o4 n4 hF
      have hp := parts_calls _ _ _ _ _ _ _ _ _ _ _ _ HQ4.out hn4 o4.1.1 o4.1.2 o4.2 (by have := HL2.out; omega) HS4.out.rot3.rot3
      rw [hF] at hp
      have HP := Aside0.mk hp
      clear hp hF o4 n4 hn4
      rw [hmv]
      go_wp2_with (go_at_call 72; refine HP.out.mono ?_; rintro e w5 ⟨Q5, B, cB, xs, A5, c5, z5, rfl, h1, h2, h3, hs⟩; have H1 := Aside0.mk h1; have H2 := Aside0.mk h2; have H3 := Aside0.mk h3; have HS5 := Aside0.mk hs; clear h1 h2 h3 hs)
      go_meet
      case rel => exact ⟨Q5, B, cB, xs, A5, c5, z5, H1.out, H2.out, H3.out, HS5.out⟩
    · have hF := HFR.out
      unfold framesV at hF
      rw [if_neg (by rw [hmv]; simp)] at hF
      have hst : stillV l2 e2 most Wd Hd = (fs, l3, e3) ∧ bk = 0 ∧ lp = 0 := by
        injection hF with h1 h2
        injection h2 with h2 h3
        exact ⟨h3, h1.symm, h2.symm⟩
      have HB0 := Aside0.mk hst.2
      have hp := still_calls Wd Hd _ _ _ _ _ _ _ _ _ _ _ _ HQ4.out HS4.out.rot3.rot3
      rw [hst.1] at hp
      have HP := Aside0.mk hp
      clear hp hF hst
      rw [hmv]
      go_wp2_with (go_at_call 36; refine HP.out.mono ?_; rintro e w5 ⟨B, cB, xs, A5, c5, z5, rfl, h2, h3, hs⟩; have H2 := Aside0.mk h2; have H3 := Aside0.mk h3; have HS5 := Aside0.mk hs; clear h2 h3 hs)
      go_meet
      case rel => rw [HB0.out.1, HB0.out.2]; exact ⟨Q, B, cB, xs, A5, c5, z5, fun _ h => h, H2.out, H3.out, HS5.out⟩
  case rest =>
    clear HS4 HQ4 HFR HO2 HL2 m4
    obtain ⟨Q5, B, cB, xs, A5, c5, z5, h1, h2, h3, hs⟩ := hcut
    have H1 := Aside0.mk h1
    have H3 := Aside0.mk h3
    have m11 := ((show St w wc (Asrt.blk g 59 _ * (pin w Q5 * (Asrt.blk gd 27 _ * _))) from hs).rot3.cell 11).trans (show _ = some (Value.bool (flagB N 8)) from rfl)
    have hT := HTL.out
    unfold tailV at hT
    have hx := next_calls nEXIF (flagB N 8) h2 hs
    obtain ⟨⟨ex2, ok6, l6, e6⟩, hn6⟩ : ∃ n, nextV l3 e3 nEXIF (flagB N 8) = n := ⟨_, rfl⟩
    rw [hn6] at hx hT
    dsimp only at hx hT
    obtain ⟨⟨xm2, ok7, l7, e7⟩, hn7⟩ : ∃ n, nextV l6 e6 nXMP (flagB N 4) = n := ⟨_, rfl⟩
    rw [hn7] at hT
    dsimp only at hT
    injection hT with t1 t2
    injection t2 with t2 t3
    injection t3 with t3 t4
    subst t1 t2 t3
    have HE5 := Aside0.mk t4
    have HX := Aside0.mk hx
    have HN7 := Aside0.mk hn7
    clear h1 h2 h3 hs hx hn6 hn7 t4 HTL
    go_upto_region 8 with (go_at_call 71; refine HX.out.mono ?_; rintro e w6 ⟨B8, c8, A6, c6, z6, rfl, hl8, hC8, hq6, hs⟩; have h6 := (show St w w6 (Asrt.blk g 59 _ * (pin w Q5 * (Asrt.blk gd 27 _ * _))) from hs).rot3; have m8 := (h6.cell 8).trans (show _ = some (Value.slice none 0 0) from rfl); have f8 := h6.frozen 8; have HS6 := Aside0.mk (h6.set 8 (.slice B8 ex2.length c8)); have HQ6 := Aside0.mk hq6; have HC8 := Aside0.mk hC8; have HL8 := Aside0.mk hl8; clear hs h6 hq6 hC8 hl8)
    clear HX m8 f8 m11
    obtain ⟨W6, hW6⟩ : ∃ W6, W6 = w6.setCell ⟨gd, 8, none⟩ (.slice B8 ex2.length c8) := ⟨_, rfl⟩
    rw [← hW6] at HS6 ⊢
    clear hW6
    have m12 := (HS6.out.cell 12).trans (show _ = some (Value.bool (flagB N 4)) from rfl)
    have hx := next_calls nXMP (flagB N 4) HQ6.out HS6.out.rot3.rot3
    rw [HN7.out] at hx
    have HX := Aside0.mk hx
    clear hx
    go_upto_region 9 with (go_at_call 71; refine HX.out.mono ?_; rintro e w7 ⟨B9, c9, A7, c7', z7, rfl, hl9, hC9, hq7, hs⟩; have h7 := (show St w w7 (Asrt.blk g 59 _ * (pin w Q5 * (Asrt.blk gd 27 _ * _))) from hs).rot3; have m9 := (h7.cell 9).trans (show _ = some (Value.slice none 0 0) from rfl); have f9 := h7.frozen 9; have HS7 := Aside0.mk (h7.set 9 (.slice B9 xm2.length c9)); have HQ7 := Aside0.mk hq7; have HC9 := Aside0.mk hC9; have HL9 := Aside0.mk hl9; clear hs h7 hq7 hC9 hl9)
    clear HX m9 f9 m12 HS6 HQ6
    obtain ⟨W7, hW7⟩ : ∃ W7, W7 = w7.setCell ⟨gd, 9, none⟩ (.slice B9 xm2.length c9) := ⟨_, rfl⟩
    rw [← hW7] at HS7 ⊢
    clear hW7
    have hx := rest_calls HQ7.out HS7.out.rot3.rot3
    rw [HE5.out] at hx
    have HX := Aside0.mk hx
    clear hx
    go_upto_region 10 with (go_at_call 73; refine HX.out.mono ?_; rintro e w8 ⟨rfl, hs⟩; have h8 := (show St w w8 (Asrt.blk g 59 _ * (pin w Q5 * (Asrt.blk gd 27 _ * _))) from hs).rot3; have m14 := (h8.cell 14).trans (show _ = some (Value.slice none 0 0) from rfl); have f14 := h8.frozen 14; have HS8 := Aside0.mk (h8.set 14 (.slice A7 l7.length c7')); clear hs h8)
    clear HX m14 f14 HS7
    obtain ⟨W8, hW8⟩ : ∃ W8, W8 = w8.setCell ⟨gd, 14, none⟩ (.slice A7 l7.length c7') := ⟨_, rfl⟩
    rw [← hW8] at HS8 ⊢
    clear hW8
    have h8 := (show St w W8 (Asrt.blk gd 27 #[.bool false, .int .i64 Wd, .int .i64 Hd, .bool (flagB N 16), .bool (flagB N 2), .int .u32 bk, .int .i64 lp, .slice B7 pr.length c7, .slice B8 ex2.length c8, .slice B9 xm2.length c9, .bool (flagB N 32), .bool (flagB N 8), .bool (flagB N 4), .slice B fs.length cB, .slice A7 l7.length c7'] * (Asrt.blk g 59 _ * (pin w Q5 * (Asrt.row 44 11 _ _ xs * (Asrt.blk gr 27 _ * r))))) from HS8.out)
    have z1 := fun i => h8.cell i
    have h9 := h8.drop.rot4
    have z2 := fun i => h9.cell i
    have z3 := fun i => h9.frozen i
    have HS9 := Aside0.mk (h9.put15 (.bool false) (.int .i64 Wd) (.int .i64 Hd) (.bool (flagB N 16)) (.bool (flagB N 2)) (.int .u32 bk) (.int .i64 lp) (.slice B7 pr.length c7) (.slice B8 ex2.length c8) (.slice B9 xm2.length c9) (.bool (flagB N 32)) (.bool (flagB N 8)) (.bool (flagB N 4)) (.slice B fs.length cB) (.slice A7 l7.length c7'))
    clear h8 h9 HS8
    go_wp2_with fail
    refine bodyPost_ret (results_cell_row rfl _ _ gr 27 #[.bool false, .int .i64 Wd, .int .i64 Hd, .bool (flagB N 16), .bool (flagB N 2), .int .u32 bk, .int .i64 lp, .slice B7 pr.length c7, .slice B8 ex2.length c8, .slice B9 xm2.length c9, .bool (flagB N 32), .bool (flagB N 8), .bool (flagB N 4), .slice B fs.length cB, .slice A7 l7.length c7'] (0, 0) _ rfl HS9.out.blk Try.underlying27 rfl (by kernel_rfl)) rfl ?_
    rw [HD.out]
    dsimp only
    have h10 := HS9.out.drop.rot3
    have hle := own_le h10.row
    have hmx : fs.length ≤ 9223372036854775807 := by
      rcases h10.row.2 with ⟨_, h⟩ | ⟨_, cap, _, _, _, _, h1, h2, _⟩
      · omega
      · simp only [maxLen] at h2; omega
    have h11 := (h10.pinRowC (KL_one (H3.out _ h10.rot3.pinGet))).swap2.pinAnd.swap
    exact ⟨[.bool false, .int .i64 Wd, .int .i64 Hd, .bool (flagB N 16), .bool (flagB N 2), .int .u32 bk, .int .i64 lp, .slice B7 pr.length c7, .slice B8 ex2.length c8, .slice B9 xm2.length c9, .bool (flagB N 32), .bool (flagB N 8), .bool (flagB N 4), .slice B fs.length cB, .slice A7 l7.length c7'], _, A7, c7', z7, rfl, fun W h => H1.out W h.2, fun W h => k27_mk W ⟨false, Wd, Hd, flagB N 16, flagB N 2, bk, lp, pr, ex2, xm2, flagB N 32, flagB N 8, flagB N 4, fs, l7⟩ HL7.out (HC7.out W (H1.out W h.2)) HL8.out (HC8.out W h.2) HL9.out (HC9.out W h.2) hle (C_of_KL (H3.out W h.2) rfl hmx h.1) HQ7.out.le (HQ7.out.C h.2), HQ7.out.imp fun _ h => h.2, h11⟩
end
end Go.Proofs.Ythkocpcjcpohcaa.P
end
section
namespace Go.Proofs.Ythkocpcjcpohcaa.P
open Go Go.RowKit Go.Proofs.YthkocpcjcpohcaaW.PrintWords Go.Proofs.YthkocpcjcpohcaaW.PrintLast Go.Proofs.YthkocpcjcpohcaaW.PrintMore Go.Proofs.Ythkocpcjcpohcaa.U Go.Proofs.Ythkocpcjcpohcaa.Pure
set_option linter.unusedVariables false
set_option linter.unusedSimpArgs false
theorem one_good {b : List Int} (h : Bytes b) (h0 : (one b).2.2.2 = 0) : okName (one b).1 = true ∧ Bytes (one b).2.1 := by
  revert h0
  unfold one
  repeat' split
  all_goals first
    | (intro h0; exact absurd h0 (by decide))
    | (intro _; exact ⟨by simpa using ‹¬ okName _ = false›, (h.take _).drop _⟩)
theorem inner_good (d : Nat) : ∀ (b : List Int) (acc : List Ch), Bytes b → (∀ x ∈ acc, okName x.f0 = true ∧ Bytes x.f1) → ∀ x ∈ (inner d b acc).1, okName x.f0 = true ∧ Bytes x.f1 := by
  induction d with
  | zero => intro b acc _ ha; exact ha
  | succ d ih =>
    intro b acc hb ha
    rw [inner]
    by_cases c : b.length = 0
    · rw [if_pos c]; exact ha
    rw [if_neg c]
    by_cases c2 : (one b).2.2.2 = 0
    · rw [if_pos c2]
      refine ih _ _ (hb.drop _) fun x hx => ?_
      rcases List.mem_append.1 hx with h | h
      · exact ha x h
      · rw [List.mem_singleton.1 h]; exact one_good hb c2
    · rw [if_neg c2]
      exact fun x hx => by simp at hx
def datB (n : Nat) (l : List Int) : Prop := Bytes l ∧ l.length ≤ n
structure chB (n : Nat) (l : List Ch) : Prop where
  len : l.length ≤ n
  all : ∀ x ∈ l, okName x.f0 = true ∧ datB n x.f1
theorem chB_inner {n : Nat} {b : List Int} (hb : datB n b) : chB n (inner b.length b []).1 := by
  have h1 := inner_len b.length b [] b.length hb.1 (Nat.le_refl _) (fun x hx => by simp at hx)
  have h2 := inner_good b.length b [] hb.1 (fun x hx => by simp at hx)
  exact ⟨Nat.le_trans h1.1 (by simpa using hb.2), fun x hx => ⟨(h2 x hx).1, (h2 x hx).2, Nat.le_trans (h1.2 x hx) hb.2⟩⟩
theorem chB_nil (n : Nat) : chB n [] := ⟨Nat.zero_le _, fun x hx => by simp at hx⟩
theorem datB_nil (n : Nat) : datB n [] := ⟨fun x hx => by simp at hx, Nat.zero_le _⟩
theorem chB_scan {n : Nat} {b : List Int} (hb : datB n b) : chB n (scan b).1 := by
  have h1 := scan_len hb.1
  refine ⟨Nat.le_trans h1.1 hb.2, fun x hx => ?_⟩
  have h2 : okName x.f0 = true ∧ Bytes x.f1 := by
    revert hx
    unfold scan
    repeat' split
    all_goals first | (intro hx; simp at hx; done) | exact fun hx => inner_good _ _ [] ((hb.1.take _).drop _) (fun x hx => by simp at hx) x hx
  exact ⟨h2.1, h2.2, Nat.le_trans (h1.2 x hx) hb.2⟩
section
variable {n : Nat} {l : List Ch} {e most : Int}
theorem chB.okL (h : chB n l) (hn : n ≤ 1000000000) : okL l := fun x hx => ⟨(h.all x hx).2.1, Nat.le_trans (h.all x hx).2.2 hn⟩
theorem chB.next {nm : ByteArray} {wt : Bool} (h : chB n l) : datB n (nextV l e nm wt).1 ∧ chB n (nextV l e nm wt).2.2.1 := by
  unfold nextV
  split
  · split
    · cases l with
      | nil => exact ⟨datB_nil n, chB_nil n⟩
      | cons x t => exact ⟨(h.all x List.mem_cons_self).2, ⟨by have := h.len; simp at this; show t.length ≤ n; omega, fun y hy => h.all y (List.mem_cons_of_mem _ hy)⟩⟩
    · exact ⟨datB_nil n, h⟩
  · exact ⟨datB_nil n, h⟩
theorem chB.alpha (h : chB n l) : datB n (alphaP l e).1 ∧ chB n (alphaP l e).2.1 := by
  unfold alphaP
  split
  · exact h.next
  · exact ⟨datB_nil n, h⟩
theorem chB.data (h : chB n l) : datB n (dataP l e).1 ∧ chB n (dataP l e).2.2.1 := h.alpha.2.next
structure frB (n : Nat) (f : Fr) : Prop where
  i0 : 0 ≤ f.f0 ∧ f.f0 ≤ 10000000000
  i1 : 0 ≤ f.f1 ∧ f.f1 ≤ 10000000000
  i2 : 0 ≤ f.f2 ∧ f.f2 ≤ 10000000000
  i3 : 0 ≤ f.f3 ∧ f.f3 ≤ 10000000000
  i4 : 0 ≤ f.f4 ∧ f.f4 ≤ 10000000000
  i7 : 0 ≤ f.f7 ∧ f.f7 ≤ 2
  al : datB n f.f8
  da : datB n f.f9
  mo : chB n f.f10
theorem kind_bd : 0 ≤ kindP l e ∧ kindP l e ≤ 2 := by
  unfold kindP
  split <;> exact ⟨by decide, by decide⟩
theorem frB_zero : frB n z44 := by
  have z : (0 : Int) ≤ 0 ∧ (0 : Int) ≤ 10000000000 := by decide
  exact ⟨z, z, z, z, z, (by decide : (0 : Int) ≤ 0 ∧ (0 : Int) ≤ 2), datB_nil n, datB_nil n, chB_nil n⟩
theorem frB_part {b : List Int} (hb : datB n b) : frB n (partF b) := by
  unfold partF
  split
  · have hi := chB_inner (n := n) (b := b.drop 16) ⟨hb.1.drop 16, by have := hb.2; rw [List.length_drop]; omega⟩
    have h0 := numV_bd hb.1 0 3 (by decide)
    have h1 := numV_bd hb.1 3 3 (by decide)
    have h2 := numV_bd hb.1 6 3 (by decide)
    have h3 := numV_bd hb.1 9 3 (by decide)
    have h4 := numV_bd hb.1 12 3 (by decide)
    refine ⟨?_, ?_, ?_, ?_, ?_, kind_bd, hi.alpha.1, hi.data.1, hi.data.2⟩
    · show 0 ≤ 2 * numV b 0 3 ∧ 2 * numV b 0 3 ≤ _; omega
    · show 0 ≤ 2 * numV b 3 3 ∧ 2 * numV b 3 3 ≤ _; omega
    · show 0 ≤ numV b 6 3 + 1 ∧ numV b 6 3 + 1 ≤ _; omega
    · show 0 ≤ numV b 9 3 + 1 ∧ numV b 9 3 + 1 ≤ _; omega
    · show 0 ≤ numV b 12 3 ∧ numV b 12 3 ≤ _; omega
  · exact frB_zero
theorem parts_bd (d : Nat) : ∀ (l : List Ch) (e most : Int) (acc : List Fr), chB n l → (∀ f ∈ acc, frB n f) → acc.length + l.length ≤ n →
    (partsL d l e most acc).1.length ≤ n ∧ (∀ f ∈ (partsL d l e most acc).1, frB n f) ∧ chB n (partsL d l e most acc).2.1 := by
  induction d with
  | zero => intro l e most acc hl ha hn; exact ⟨by simp only [partsL]; omega, ha, hl⟩
  | succ d ih =>
    intro l e most acc hl ha hn
    rw [partsL]
    split
    · rename_i hB
      split
      · exact ⟨by simp only; omega, ha, hl⟩
      · have hx := hl.next (e := e) (nm := nANMF) (wt := true)
        refine ih _ _ _ _ hx.2 (fun f hf => ?_) ?_
        · rcases List.mem_append.1 hf with h | h
          · exact ha f h
          · rw [List.mem_singleton.1 h]; exact frB_part hx.1
        · unfold isB headB at hB
          rw [Bool.and_eq_true, decide_eq_true_iff] at hB
          cases l with
          | nil => simp at hB
          | cons x t =>
            have hh : headB (x :: t) nANMF = true := hB.2
            unfold nextV
            rw [if_pos ⟨rfl, hB.1⟩, if_pos hh]
            simp only [List.length_append, List.length_cons, List.length_nil, List.drop_succ_cons, List.drop_zero] at hn ⊢
            omega
    · exact ⟨by simp only; omega, ha, hl⟩
theorem still_bd {Wd Hd : Int} (h : chB n l) (hn : 1 ≤ n) (hW : 0 ≤ Wd ∧ Wd ≤ 10000000000) (hH : 0 ≤ Hd ∧ Hd ≤ 10000000000) : (stillV l e most Wd Hd).1.length ≤ n ∧ (∀ f ∈ (stillV l e most Wd Hd).1, frB n f) ∧ chB n (stillV l e most Wd Hd).2.1 := by
  have z : (0 : Int) ≤ 0 ∧ (0 : Int) ≤ 10000000000 := by decide
  unfold stillV
  split
  · exact ⟨by simp, fun f hf => by simp at hf, h⟩
  · refine ⟨by simpa using hn, fun f hf => ?_, h.data.2⟩
    rw [List.mem_singleton.1 hf]
    exact ⟨z, z, hW, hH, z, kind_bd, h.alpha.1, h.data.1, chB_nil n⟩
structure docB (n : Nat) (y : Dc) : Prop where
  i1 : 0 ≤ y.f1 ∧ y.f1 ≤ 10000000000
  i2 : 0 ≤ y.f2 ∧ y.f2 ≤ 10000000000
  i5 : 0 ≤ y.f5 ∧ y.f5 ≤ 4294967295
  i6 : 0 ≤ y.f6 ∧ y.f6 ≤ 10000000000
  pr : datB n y.f7
  ex : datB n y.f8
  xm : datB n y.f9
  fr : y.f13.length ≤ n ∧ ∀ f ∈ y.f13, frB n f
  mo : chB n y.f14
theorem headW_bd {b : List Int} {ok : Bool} {i : Int} (h : Bytes b) : 0 ≤ headW b ok i ∧ headW b ok i ≤ 10000000000 := by
  have := numV_bd h i 3 (by decide)
  unfold headW
  split <;> omega
theorem frames_bd {mv : Bool} {Wd Hd : Int} (h : chB n l) (hn : 1 ≤ n) (hW : 0 ≤ Wd ∧ Wd ≤ 10000000000) (hH : 0 ≤ Hd ∧ Hd ≤ 10000000000) :
    (0 ≤ (framesV mv l e most Wd Hd).1 ∧ (framesV mv l e most Wd Hd).1 ≤ 4294967295) ∧ (0 ≤ (framesV mv l e most Wd Hd).2.1 ∧ (framesV mv l e most Wd Hd).2.1 ≤ 10000000000) ∧ (framesV mv l e most Wd Hd).2.2.1.length ≤ n ∧ (∀ f ∈ (framesV mv l e most Wd Hd).2.2.1, frB n f) ∧ chB n (framesV mv l e most Wd Hd).2.2.2.1 := by
  unfold framesV
  split
  · have hx := h.next (e := e) (nm := nANIM) (wt := true)
    have h1 := numV_bd hx.1.1 0 4 (by decide)
    have h2 := numV_bd hx.1.1 4 2 (by decide)
    unfold movesV
    split
    · have hp := parts_bd (nextV l e nANIM true).2.2.1.length _ (nextV l e nANIM true).2.2.2 most [] hx.2 (fun f hf => by simp at hf) (by simpa using hx.2.len)
      refine ⟨⟨h1.1, ?_⟩, ⟨h2.1, ?_⟩, hp.1, hp.2.1, hp.2.2⟩
      · show numV _ 0 4 ≤ _; omega
      · show numV _ 4 2 ≤ _; omega
    · exact ⟨(by decide : (0 : Int) ≤ 0 ∧ (0 : Int) ≤ 4294967295), (by decide : (0 : Int) ≤ 0 ∧ (0 : Int) ≤ 10000000000), by simp, fun f hf => by simp at hf, hx.2⟩
  · have hs := still_bd (e := e) (most := most) h hn hW hH
    exact ⟨(by decide : (0 : Int) ≤ 0 ∧ (0 : Int) ≤ 4294967295), (by decide : (0 : Int) ≤ 0 ∧ (0 : Int) ≤ 10000000000), hs.1, hs.2.1, hs.2.2⟩
theorem doc_bd (h : chB n l) (hn : 1 ≤ n) : docB n (docV l e most).1 := by
  have h1 := h.next (e := e) (nm := nVP8X) (wt := true)
  unfold docV bodyV
  generalize nextV l e nVP8X true = v at h1 ⊢
  have hW := headW_bd (ok := v.2.1) (i := 4) h1.1.1
  have hH := headW_bd (ok := v.2.1) (i := 7) h1.1.1
  generalize headW v.1 v.2.1 4 = Wd at hW ⊢
  generalize headW v.1 v.2.1 7 = Hd at hH ⊢
  generalize headN v.1 v.2.1 = N
  generalize headE v.1 v.2.1 v.2.2.2 = e1
  have h2 := h1.2.next (e := e1) (nm := nICCP) (wt := flagB N 32)
  generalize nextV v.2.2.1 e1 nICCP (flagB N 32) = p at h2 ⊢
  have h3 := frames_bd (e := p.2.2.2) (most := most) (mv := flagB N 2) h2.2 hn hW hH
  generalize framesV (flagB N 2) p.2.2.1 p.2.2.2 most Wd Hd = f at h3 ⊢
  have h4 := h3.2.2.2.2.next (e := f.2.2.2.2) (nm := nEXIF) (wt := flagB N 8)
  have h5 := h4.2.next (e := (nextV f.2.2.2.1 f.2.2.2.2 nEXIF (flagB N 8)).2.2.2) (nm := nXMP) (wt := flagB N 4)
  exact ⟨hW, hH, h3.1, h3.2.1, h2.1, h4.1, h5.1, ⟨h3.2.2.1, h3.2.2.2.1⟩, h5.2⟩
theorem read_bd (h : chB n l) (hn : 1 ≤ n) : docB n (readV l most).1 := by
  unfold readV
  split
  · exact doc_bd h hn
  · have z : (0 : Int) ≤ 0 ∧ (0 : Int) ≤ 10000000000 := by decide
    have hs := still_bd (e := 0) (most := most) h hn z z
    exact ⟨z, z, (by decide : (0 : Int) ≤ 0 ∧ (0 : Int) ≤ 4294967295), z, datB_nil n, datB_nil n, datB_nil n, ⟨hs.1, hs.2.1⟩, chB_nil n⟩
end
theorem name_size {s : ByteArray} (h : okName s = true) : s.size = 4 := by
  unfold okName at h
  have := (of_decide_eq_true h).1
  rwa [bytesOf_length] at this
theorem datB.dat {n : Nat} {l : List Int} (h : datB n l) (hn : n ≤ 1000000) : datL l := ⟨h.1, by have := h.2; omega⟩
theorem chB.chs {n : Nat} {l : List Ch} (h : chB n l) (hn : n ≤ 1000000) : chsL l := ⟨by have := h.len; omega, fun c hc => ⟨by rw [name_size (h.all c hc).1]; decide, (h.all c hc).2.dat hn⟩⟩
theorem frB.fr {n : Nat} {f : Fr} (h : frB n f) (hn : n ≤ 1000000) : okFr f := by
  obtain ⟨h0, h1, h2, h3, h4, h7, al, da, mo⟩ := h
  exact ⟨⟨by omega, by omega⟩, ⟨by omega, by omega⟩, ⟨by omega, by omega⟩, ⟨by omega, by omega⟩, ⟨by omega, by omega⟩, ⟨by omega, by omega⟩, al.dat hn, da.dat hn, mo.chs hn⟩
theorem docB.ok {n : Nat} {y : Dc} (h : docB n y) (hn : n ≤ 1000000) : okDc y := by
  obtain ⟨h1, h2, h5, h6, pr, ex, xm, fr, mo⟩ := h
  exact ⟨⟨by omega, by omega⟩, ⟨by omega, by omega⟩, h5, ⟨by omega, by omega⟩, pr.dat hn, ex.dat hn, xm.dat hn, ⟨by omega, fun f hf => (fr.2 f hf).fr hn⟩, mo.chs hn⟩
theorem flat_len {α β : Type} {g : α → List β} {m : Nat} : ∀ {l : List α}, (∀ x ∈ l, (g x).length ≤ m) → (l.flatMap g).length ≤ l.length * m
  | [], _ => by simp
  | x :: l, h => by
    have h1 := h x List.mem_cons_self
    have h2 := flat_len (l := l) fun y hy => h y (List.mem_cons_of_mem _ hy)
    rw [List.flatMap_cons, List.length_append, List.length_cons, Nat.add_mul, Nat.one_mul]
    omega
theorem sumW_le {α : Type} {g : α → Int} {m : Int} : ∀ {l : List α}, (∀ x ∈ l, g x ≤ m) → sumW g l ≤ l.length * m
  | [], _ => by simp [sumW]
  | x :: l, h => by
    have h1 := h x List.mem_cons_self
    have h2 := sumW_le (l := l) fun y hy => h y (List.mem_cons_of_mem _ hy)
    have e : ((x :: l).length : Int) * m = (l.length : Int) * m + m := by rw [List.length_cons]; push_cast; rw [Int.add_mul, Int.one_mul]
    rw [sumW, e]
    omega
theorem docB.all {n : Nat} {y : Dc} (h : docB n y) (hn : n ≤ 1000000) : (allCh y).length ≤ 1000001000000 ∧ ∀ c ∈ allCh y, okName c.f0 = true ∧ datB n c.f1 := by
  have hf := flat_len (l := y.f13) (g := fun f : Fr => f.f10) (m := 1000000) fun f hf => Nat.le_trans (h.fr.2 f hf).mo.len hn
  have h2 : y.f13.length * 1000000 ≤ 1000000 * 1000000 := Nat.mul_le_mul_right _ (Nat.le_trans h.fr.1 hn)
  have h3 := h.mo.len
  have e : allCh y = y.f14 ++ y.f13.flatMap (fun f : Fr => f.f10) := rfl
  refine ⟨by rw [e, List.length_append]; omega, fun c hc => ?_⟩
  unfold allCh at hc
  rcases List.mem_append.1 hc with hc | hc
  · exact h.mo.all c hc
  · obtain ⟨f, hf, hc⟩ := List.mem_flatMap.1 hc
    exact (h.fr.2 f hf).mo.all c hc
theorem docB.weight {n : Nat} {y : Dc} (h : docB n y) (hn : n ≤ 1000000) : weightI y ≤ 4611686018427387904 := by
  have ha := h.all hn
  have h1 : sumW wFr y.f13 ≤ y.f13.length * 2000032 := sumW_le fun f hf => by
    have h1 := (h.fr.2 f hf).al.2
    have h2 := (h.fr.2 f hf).da.2
    unfold wFr
    omega
  have h2 : sumW wCh (allCh y) ≤ (allCh y).length * 1000008 := sumW_le fun c hc => by
    have h1 := (ha.2 c hc).2.2
    have h2 := name_size (ha.2 c hc).1
    unfold wCh
    omega
  have h3 := h.fr.1
  have h4 := h.pr.2
  have h5 := h.ex.2
  have h6 := h.xm.2
  have h7 := ha.1
  unfold weightI
  omega
end Go.Proofs.Ythkocpcjcpohcaa.P
end
section
namespace Go.Proofs.Ythkocpcjcpohcaa.P
open Go Go.RowKit Go.Proofs.YthkocpcjcpohcaaW.PrintWords Go.Proofs.YthkocpcjcpohcaaW.PrintLast Go.Proofs.YthkocpcjcpohcaaW.PrintMore Go.Proofs.Ythkocpcjcpohcaa.U Go.Proofs.Ythkocpcjcpohcaa.Pure
set_option linter.unusedVariables false
set_option linter.unusedSimpArgs false
attribute [local go_sem] max2_int min2_int max_two min_two max_three min_three max_four min_four
theorem scan_calls {b : List Int} (hB : Bytes b) (hlen : b.length ≤ 1000000000) (A : Option Addr) (c : Nat) (W : World) (h : (Kd.int .u8).C W A b.length b) (hc : b.length ≤ c) :
    Calls Try.prog 33 #[.slice A b.length c] W fun e w' => ∃ v : Value, e = .returned (.tuple #[v, .int .i64 (scan b).2]) ∧ Kd.R k42 42 w' W.heap.size (fun _ => True) v (scan b).1 ∧ Below W.heap.size W w' := by
  obtain ⟨k, hk⟩ := (chunk_Scan_ev hB hlen).rounds
  refine (chunk_Scan.calls k A c b _ _ W h hc hk).mono ?_
  rintro e w1 ⟨v, rfl, hs, hb⟩
  exact ⟨v, rfl, Kd.S_R hs, hb⟩
theorem zeroD_K (W : World) : k27.K W z27 [.bool false, .int .i64 0, .int .i64 0, .bool false, .bool false, .int .u32 0, .int .i64 0, .slice none 0 0, .slice none 0 0, .slice none 0 0, .bool false, .bool false, .bool false, .slice none 0 0, .slice none 0 0] := k27_mk W z27 (A7 := none) (c7 := 0) (Nat.le_refl 0) (Kd.C_nil _ _) (A8 := none) (c8 := 0) (Nat.le_refl 0) (Kd.C_nil _ _) (A9 := none) (c9 := 0) (Nat.le_refl 0) (Kd.C_nil _ _) (A13 := none) (c13 := 0) (Nat.le_refl 0) (Kd.C_nil _ _) (A14 := none) (c14 := 0) (Nat.le_refl 0) (Kd.C_nil _ _)
set_option maxHeartbeats 8000000 in
set_option maxRecDepth 100000 in
theorem Parse_calls (Ab : Option Addr) (cb : Nat) (b : List Int) (most : Int) (w : World) (hr : (Kd.int .u8).C w Ab b.length b) (hcb : b.length ≤ cb) (hB : Bytes b) (hlen : b.length ≤ 1000000) :
    Calls Try.prog 14 #[.slice Ab b.length cb, .int .i64 most] w fun x w' => ∃ (ds : List Value), x = .returned (.tuple #[.agg ds.toArray, .int .i64 (parseV b most).2]) ∧ k27.K w' (parseV b most).1 ds ∧ Below w.heap.size w w' := by
  have hS0 := ((St.refl w).alloc #[.bool false, .int .i64 0, .int .i64 0, .bool false, .bool false, .int .u32 0, .int .i64 0, .slice none 0 0, .slice none 0 0, .slice none 0 0, .bool false, .bool false, .bool false, .slice none 0 0, .slice none 0 0] 27)
  obtain ⟨gr, hgr⟩ : ∃ gr, gr = w.heap.size := ⟨_, rfl⟩
  obtain ⟨W1, hW1⟩ : ∃ W1, W1 = w.alloc (.cells #[.bool false, .int .i64 0, .int .i64 0, .bool false, .bool false, .int .u32 0, .int .i64 0, .slice none 0 0, .slice none 0 0, .slice none 0 0, .bool false, .bool false, .bool false, .slice none 0 0, .slice none 0 0] 27) := ⟨_, rfl⟩
  have hsc := scan_calls hB (by omega) Ab cb W1 (Kd.C_below hr (by rw [hW1]; exact below_alloc (Below.refl _ _) _)) hcb
  have hbd := chB_scan (n := 1000000) ⟨hB, hlen⟩
  have hP : parseV b most = if (scan b).2 = 0 then endV (readV (scan b).1 most) else (z27, (scan b).2) := rfl
  obtain ⟨⟨l, e0⟩, hl⟩ : ∃ p, scan b = p := ⟨_, rfl⟩
  rw [hl] at hsc hbd hP
  dsimp only at hsc hbd hP
  rw [← hW1, ← hgr] at hS0
  have HSC := Aside0.mk hsc
  have HS0 := Aside0.mk hS0
  have HE := Aside0.mk (And.intro hgr hW1)
  clear hsc hS0 hgr hW1 hl hr
  by_cases he : e0 = 0
  case neg =>
    rw [if_neg he] at hP
    have HP := Aside0.mk hP
    have y1 : (e0 != 0) = true := by simp [he]
    clear hP he hbd
    go_enter Try.func14, Try.ntmps14
    go_upto_region 1 with (fail)
    rw [← HE.out.1, ← HE.out.2]
    go_upto_region 3 with (go_at_call 33; refine HSC.out.mono ?_; rintro e w2 ⟨v, rfl, hr, hb⟩; have HS1 := Aside0.mk (HS0.out.belowR hb); clear hr hb)
    have z2 := fun i => HS1.out.cell i
    have z3 := fun i => HS1.out.frozen i
    have HS2 := Aside0.mk (HS1.out.put15 (.bool false) (.int .i64 0) (.int .i64 0) (.bool false) (.bool false) (.int .u32 0) (.int .i64 0) (.slice none 0 0) (.slice none 0 0) (.slice none 0 0) (.bool false) (.bool false) (.bool false) (.slice none 0 0) (.slice none 0 0))
    go_wp2_with fail
    refine bodyPost_ret (results_ct rfl _ _ gr 27 #[.bool false, .int .i64 0, .int .i64 0, .bool false, .bool false, .int .u32 0, .int .i64 0, .slice none 0 0, .slice none 0 0, .slice none 0 0, .bool false, .bool false, .bool false, .slice none 0 0, .slice none 0 0] (0, 0) _ rfl HS2.out.blk Try.underlying27 rfl (by kernel_rfl)) rfl ?_
    rw [HP.out]
    exact ⟨[.bool false, .int .i64 0, .int .i64 0, .bool false, .bool false, .int .u32 0, .int .i64 0, .slice none 0 0, .slice none 0 0, .slice none 0 0, .bool false, .bool false, .bool false, .slice none 0 0, .slice none 0 0], rfl, zeroD_K _, HS2.out.below⟩
  case pos =>
    subst he
    rw [if_pos rfl] at hP
    have hrd := read_bd (most := most) hbd (by decide)
    have hol := hbd.okL (by decide)
    have hll := hbd.len
    obtain ⟨⟨y, e1⟩, hy⟩ : ∃ p, readV l most = p := ⟨_, rfl⟩
    rw [hy] at hrd hP
    dsimp only at hrd hP
    obtain ⟨sb, hsb⟩ : ∃ sb : Bool, sb = true ↔ soundP y := ⟨@decide (soundP y) (Classical.propDecidable _), by simp⟩
    have hP0 : e1 = 0 → sb = true → parseV b most = (y, 0) := fun h1 h2 => by rw [hP]; unfold endV; rw [if_pos h1, if_pos (hsb.1 h2)]
    have hP1 : e1 = 0 → sb = false → parseV b most = (z27, 3) := fun h1 h2 => by rw [hP]; unfold endV; rw [if_pos h1, if_neg fun h => by rw [hsb.2 h] at h2; simp at h2]
    have hP2 : e1 ≠ 0 → parseV b most = (z27, e1) := fun h1 => by rw [hP]; unfold endV; rw [if_neg h1]
    have HSO := Aside0.mk fun (ds : List Value) (W : World) (hk : k27.K W y ds) => Sound_calls y ds W hk (hrd.ok (Nat.le_refl _)) (hrd.weight (Nat.le_refl _)) (by have := (hrd.all (Nat.le_refl _)).1; omega) sb hsb
    have HP0 := Aside0.mk hP0
    have HP1 := Aside0.mk hP1
    have HP2 := Aside0.mk hP2
    have HY := Aside0.mk hy
    have HOL := Aside0.mk hol
    have HLL := Aside0.mk hll
    clear hP hP0 hP1 hP2 hrd hol hll hbd hsb hy
    go_enter Try.func14, Try.ntmps14
    go_upto_region 1 with (fail)
    rw [← HE.out.1, ← HE.out.2]
    go_upto_region 5 with (go_at_call 33; refine HSC.out.mono ?_; rintro e w2 ⟨v, rfl, hr, hb⟩; have HMX := Aside0.mk (show l.length ≤ 9223372036854775807 from (by obtain ⟨_, _, _, _, h⟩ := Kd.R_reads hr; exact h.2.1)); obtain ⟨B3, c3, inn, rfl, hc3, hs⟩ := HS0.out.pinRX hb hr; have HS2 := Aside0.mk hs; have HC3 := Aside0.mk hc3; clear hr hb hs hc3)
    have hs := (HS2.out.alloc #[.slice B3 l.length c3, .int .i64 most, .int .i64 0] 59)
    obtain ⟨gp, hgp⟩ : ∃ gp, gp = w2.heap.size := ⟨_, rfl⟩
    obtain ⟨W3, hW3⟩ : ∃ W3, W3 = w2.alloc (.cells #[.slice B3 l.length c3, .int .i64 most, .int .i64 0] 59) := ⟨_, rfl⟩
    rw [← hgp, ← hW3] at hs ⊢
    have hs4 := (hs.alloc #[.bool false, .int .i64 0, .int .i64 0, .bool false, .bool false, .int .u32 0, .int .i64 0, .slice none 0 0, .slice none 0 0, .slice none 0 0, .bool false, .bool false, .bool false, .slice none 0 0, .slice none 0 0] 27).unrot3
    have hgd : W3.heap.size = gp + 1 := by rw [hW3, hgp]; simp
    obtain ⟨gd, hgd⟩ : ∃ gd, gd = W3.heap.size := ⟨_, rfl⟩
    obtain ⟨W4, hW4⟩ : ∃ W4, W4 = W3.alloc (.cells #[.bool false, .int .i64 0, .int .i64 0, .bool false, .bool false, .int .u32 0, .int .i64 0, .slice none 0 0, .slice none 0 0, .slice none 0 0, .bool false, .bool false, .bool false, .slice none 0 0, .slice none 0 0] 27) := ⟨_, rfl⟩
    rw [← hgd, ← hW4] at hs4
    have hgd2 : gd = gp + 1 := hgd.trans (by assumption)
    have HEE := Aside0.mk (And.intro hgd2 hW4)
    have HS4 := Aside0.mk hs4
    have HQ4 : Aside0 (poolQ _ B3 c3 l inn) := ⟨HC3.out, HMX.out, fun W (hW : ReadsCells W _ B3 l.length inn ∧ KL k42 W l inn) => hW⟩
    have HI := Aside0.mk (is_calls nVP8X HQ4.out HS4.out)
    clear hs hs4 hgp hW3 hgd hgd2 hW4 HSC HS0 HE HS2
    go_upto_region 6 with (fail)
    rw [← HEE.out.1, ← HEE.out.2]
    clear HEE
    go_upto_if 24 with (go_at_call 34; refine HI.out.mono ?_; rintro e w5 ⟨rfl, hs⟩; have HS5 := Aside0.mk hs; clear hs)
    clear HI HS4
    go_cut [] from 24 to 44 (fun wc => ∃ (ds : List Value) (Q' : World → Prop) (l' : List Ch) (A' : Option Addr) (c' : Nat), (∀ W, Q' W → k27.K W y ds) ∧ St w wc (parA w gp l' most e1 A' c' Q' (Asrt.blk gd 27 ds.toArray * (Asrt.blk gr 27 #[.bool false, .int .i64 0, .int .i64 0, .bool false, .bool false, .int .u32 0, .int .i64 0, .slice none 0 0, .slice none 0 0, .slice none 0 0, .bool false, .bool false, .bool false, .slice none 0 0, .slice none 0 0] * Asrt.emp))))
    case first =>
      have hy := HY.out
      unfold readV at hy
      cases hB : isB l 0 nVP8X with
      | true =>
        rw [hB, if_pos rfl] at hy
        have hd := doc_calls HQ4.out HOL.out (by have := HLL.out; omega) HS5.out
        rw [hy] at hd
        have HD := Aside0.mk hd
        clear hd hy hB HS5
        go_wp2_with (go_at_call 35; refine HD.out.mono ?_; rintro e w6 ⟨ds, Q', A', c', z', rfl, hQ, hK, hq, hs⟩; obtain ⟨C7, k7, C8, k8, C9, k9, C13, k13, C14, k14, rfl, l1, g1, l2, g2, l3, g3, l4, g4, l5, g5⟩ := k27_open (hK _ hs.swap.pinGet); clear g1 g2 g3 g4 g5; have h6 := (show St w w6 (Asrt.blk gp 59 _ * (pin w Q' * (Asrt.blk gd 27 _ * _))) from hs).rot3; have z2 := fun i => h6.cell i; have z3 := fun i => h6.frozen i; have HK := Aside0.mk hK; have HS6 := Aside0.mk (h6.put15 (.bool (y).f0) (.int .i64 (y).f1) (.int .i64 (y).f2) (.bool (y).f3) (.bool (y).f4) (.int .u32 (y).f5) (.int .i64 (y).f6) (.slice C7 (y).f7.length k7) (.slice C8 (y).f8.length k8) (.slice C9 (y).f9.length k9) (.bool (y).f10) (.bool (y).f11) (.bool (y).f12) (.slice C13 (y).f13.length k13) (.slice C14 (y).f14.length k14)).rot3.rot3; clear hs hQ hK hq h6)
        go_meet
        case rel => exact ⟨_, Q', y.f14, A', c', HK.out, HS6.out⟩
      | false =>
        rw [hB, if_neg (by simp)] at hy
        obtain ⟨⟨fs, l5, e5⟩, hS⟩ : ∃ S, stillV l 0 most 0 0 = S := ⟨_, rfl⟩
        rw [hS] at hy
        injection hy with hy1 hy2
        have HY1 := Aside0.mk hy1
        have h5 := (show St w w5 (Asrt.blk gp 59 _ * (pin w _ * (Asrt.blk gd 27 _ * _))) from HS5.out).rot3
        have z2 := fun i => h5.cell i
        have z3 := fun i => h5.frozen i
        have hs6 := (h5.put15 (.bool true) (.int .i64 0) (.int .i64 0) (.bool false) (.bool false) (.int .u32 0) (.int .i64 0) (.slice none 0 0) (.slice none 0 0) (.slice none 0 0) (.bool false) (.bool false) (.bool false) (.slice none 0 0) (.slice none 0 0)).rot3.rot3
        obtain ⟨W6, hW6⟩ : ∃ W6, W6 = (((((((((((((((w5.setCell ⟨gd, 0, none⟩ (.bool true)).setCell ⟨gd, 1, none⟩ (.int .i64 0)).setCell ⟨gd, 2, none⟩ (.int .i64 0)).setCell ⟨gd, 3, none⟩ (.bool false)).setCell ⟨gd, 4, none⟩ (.bool false)).setCell ⟨gd, 5, none⟩ (.int .u32 0)).setCell ⟨gd, 6, none⟩ (.int .i64 0)).setCell ⟨gd, 7, none⟩ (.slice none 0 0)).setCell ⟨gd, 8, none⟩ (.slice none 0 0)).setCell ⟨gd, 9, none⟩ (.slice none 0 0)).setCell ⟨gd, 10, none⟩ (.bool false)).setCell ⟨gd, 11, none⟩ (.bool false)).setCell ⟨gd, 12, none⟩ (.bool false)).setCell ⟨gd, 13, none⟩ (.slice none 0 0)).setCell ⟨gd, 14, none⟩ (.slice none 0 0)) := ⟨_, rfl⟩
        rw [← hW6] at hs6
        have HW6 := Aside0.mk hW6
        have hst := still_calls 0 0 _ _ _ _ _ _ _ _ _ _ _ _ HQ4.out hs6
        rw [hS] at hst
        have HST := Aside0.mk hst
        have hc : ((e5 == 0) = false ∧ e1 = e5) ∨ ((e5 == 0) = true ∧ decide (0 < (l5.length : Int)) = false ∧ decide (0 < l5.length) = false ∧ e1 = e5) ∨ ((e5 == 0) = true ∧ decide (0 < (l5.length : Int)) = true ∧ decide (0 < l5.length) = true ∧ e1 = failE e5 3) := by
          unfold plainE at hy2
          by_cases h0 : e5 = 0
          · subst h0
            by_cases h1 : 0 < l5.length
            · exact .inr (.inr ⟨rfl, decide_eq_true (by omega), decide_eq_true h1, by rw [← hy2, if_pos ⟨rfl, h1⟩]; rfl⟩)
            · exact .inr (.inl ⟨rfl, decide_eq_false (by omega), decide_eq_false h1, by rw [← hy2, if_neg fun h => h1 h.2]⟩)
          · exact .inl ⟨by simp [h0], by rw [← hy2, if_neg fun h => h0 h.1]⟩
        clear h5 hs6 hW6 hst hS hy1 hy2 HS5
        go_upto_region 9 with (fail)
        rw [← HW6.out]
        clear z2 z3 HW6
        go_upto_region 10 with (go_at_call 36; refine HST.out.mono ?_; rintro e w7 ⟨B5, cB5, xs, A5, c5, z5, rfl, hq5, hk5, hs⟩; have m0 := (hs.cell 0).trans (show _ = some (Value.slice A5 l5.length c5) from rfl); have m2 := (hs.cell 2).trans (show _ = some (Value.int .i64 e5) from rfl); have HS7 := Aside0.mk hs; have HK5 := Aside0.mk hk5; clear hs hq5 hk5)
        have hfin : ∀ (wf : World) (e9 : Int), St w wf (parA w gp l5 most e9 A5 c5 (fun W => ReadsCells W 2 B3 l.length inn ∧ KL k42 W l inn) (Asrt.blk gd 27 #[.bool true, .int .i64 0, .int .i64 0, .bool false, .bool false, .int .u32 0, .int .i64 0, .slice none 0 0, .slice none 0 0, .slice none 0 0, .bool false, .bool false, .bool false, .slice B5 fs.length cB5, .slice none 0 0] * (Asrt.row 44 11 (.slice B5 fs.length cB5) fs.length xs * (Asrt.blk gr 27 #[.bool false, .int .i64 0, .int .i64 0, .bool false, .bool false, .int .u32 0, .int .i64 0, .slice none 0 0, .slice none 0 0, .slice none 0 0, .bool false, .bool false, .bool false, .slice none 0 0, .slice none 0 0] * Asrt.emp)))) →
            ∃ (ds : List Value) (Q' : World → Prop) (l' : List Ch) (A' : Option Addr) (c' : Nat), (∀ W, Q' W → k27.K W y ds) ∧ St w wf (parA w gp l' most e9 A' c' Q' (Asrt.blk gd 27 ds.toArray * (Asrt.blk gr 27 #[.bool false, .int .i64 0, .int .i64 0, .bool false, .bool false, .int .u32 0, .int .i64 0, .slice none 0 0, .slice none 0 0, .slice none 0 0, .bool false, .bool false, .bool false, .slice none 0 0, .slice none 0 0] * Asrt.emp))) := fun wf e9 hs => by
          have h10 := (show St w wf (Asrt.blk gp 59 _ * (pin w _ * (Asrt.blk gd 27 _ * (Asrt.row 44 11 _ _ _ * _)))) from hs).rot4
          have hle := own_le h10.row
          have hmx : fs.length ≤ 9223372036854775807 := by
            rcases h10.row.2 with ⟨_, h⟩ | ⟨_, cap, _, _, _, _, h1, h2, _⟩
            · omega
            · simp only [maxLen] at h2; omega
          have h11 := (h10.pinRowC (KL_one (HK5.out _ h10.rot3.pinGet))).swap2.pinAnd.swap
          rw [← HY1.out]
          exact ⟨[.bool true, .int .i64 0, .int .i64 0, .bool false, .bool false, .int .u32 0, .int .i64 0, .slice none 0 0, .slice none 0 0, .slice none 0 0, .bool false, .bool false, .bool false, .slice B5 fs.length cB5, .slice none 0 0], _, l5, A5, c5, fun W h => k27_mk W (plainY (fs, l5, e5)) (A7 := none) (c7 := 0) (Nat.le_refl 0) (Kd.C_nil _ _) (A8 := none) (c8 := 0) (Nat.le_refl 0) (Kd.C_nil _ _) (A9 := none) (c9 := 0) (Nat.le_refl 0) (Kd.C_nil _ _) hle (C_of_KL (HK5.out W h.2) rfl hmx h.1) (A14 := none) (c14 := 0) (Nat.le_refl 0) (Kd.C_nil _ _), h11⟩
        have HFIN := Aside0.mk hfin
        have HFC := Aside0.mk (fail_calls 3 HS7.out)
        clear hfin HST HY1
        rcases hc with ⟨y1, hee⟩ | ⟨y1, y2, y3, hee⟩ | ⟨y1, y2, y3, hee⟩
        · have HEE := Aside0.mk hee
          clear hee
          go_wp2_with fail
          go_meet
          case rel => rw [HEE.out]; exact HFIN.out _ _ HS7.out
        · have HEE := Aside0.mk hee
          clear hee
          go_wp2_with fail
          go_meet
          case rel => rw [HEE.out]; exact HFIN.out _ _ HS7.out
        · have HEE := Aside0.mk hee
          clear hee
          go_wp2_with (go_at_call 37; refine HFC.out.mono ?_; rintro e w8 ⟨rfl, hs⟩; have HS8 := Aside0.mk hs; clear hs)
          go_meet
          case rel => rw [HEE.out]; exact HFIN.out _ _ HS8.out
    case rest =>
      clear HS5 HQ4 HY HOL HLL HC3 HMX
      obtain ⟨ds, Q', l', A', c', hK, hs⟩ := hcut
      obtain ⟨C7, k7, C8, k8, C9, k9, C13, k13, C14, k14, rfl, l1, g1, l2, g2, l3, g3, l4, g4, l5, g5⟩ := k27_open (hK _ hs.swap.pinGet)
      clear g1 g2 g3 g4 g5 l1 l2 l3 l4 l5
      have m2 := (hs.cell 2).trans (show _ = some (Value.int .i64 e1) from rfl)
      have z := fun i => ((show St w wc (Asrt.blk gp 59 _ * (pin w Q' * (Asrt.blk gd 27 #[.bool y.f0, .int .i64 y.f1, .int .i64 y.f2, .bool y.f3, .bool y.f4, .int .u32 y.f5, .int .i64 y.f6, .slice C7 y.f7.length k7, .slice C8 y.f8.length k8, .slice C9 y.f9.length k9, .bool y.f10, .bool y.f11, .bool y.f12, .slice C13 y.f13.length k13, .slice C14 y.f14.length k14] * _))) from hs).rot3.cell i)
      have HK := Aside0.mk hK
      have HSC := Aside0.mk hs
      clear hK
      by_cases he1 : e1 = 0
      · have y1 : (e1 == 0) = true := by simp [he1]
        have HSND := Aside0.mk (HSO.out _ wc (HK.out _ hs.swap.pinGet))
        cases hsb : sb with
        | true =>
          have HP := Aside0.mk (HP0.out he1 hsb)
          rw [hsb] at HSND
          have y2 : (e1 != 0) = false := by simp [he1]
          clear he1 hs HP0 HP1 HP2 HSO
          go_upto_region 16 with (go_at_call 12; refine HSND.out.mono ?_; rintro e w8 ⟨rfl, hd⟩; have hs8 := HSC.out.belowR hd; have n2 := (hs8.cell 2).trans (show _ = some (Value.int .i64 e1) from rfl); have HS8 := Aside0.mk hs8; clear hs8 hd)
          have h9 := (show St w w8 (Asrt.blk gp 59 _ * (pin w Q' * (Asrt.blk gd 27 #[.bool y.f0, .int .i64 y.f1, .int .i64 y.f2, .bool y.f3, .bool y.f4, .int .u32 y.f5, .int .i64 y.f6, .slice C7 y.f7.length k7, .slice C8 y.f8.length k8, .slice C9 y.f9.length k9, .bool y.f10, .bool y.f11, .bool y.f12, .slice C13 y.f13.length k13, .slice C14 y.f14.length k14] * (Asrt.blk gr 27 _ * Asrt.emp)))) from HS8.out).rot3
          clear z n2
          have z := fun i => h9.cell i
          have h10 := h9.rot4
          have z2 := fun i => h10.cell i
          have z3 := fun i => h10.frozen i
          have HS9 := Aside0.mk (h10.put15 (.bool y.f0) (.int .i64 y.f1) (.int .i64 y.f2) (.bool y.f3) (.bool y.f4) (.int .u32 y.f5) (.int .i64 y.f6) (.slice C7 y.f7.length k7) (.slice C8 y.f8.length k8) (.slice C9 y.f9.length k9) (.bool y.f10) (.bool y.f11) (.bool y.f12) (.slice C13 y.f13.length k13) (.slice C14 y.f14.length k14))
          clear h9 h10
          go_wp2_with fail
          refine bodyPost_ret (results_ct rfl _ _ gr 27 #[.bool y.f0, .int .i64 y.f1, .int .i64 y.f2, .bool y.f3, .bool y.f4, .int .u32 y.f5, .int .i64 y.f6, .slice C7 y.f7.length k7, .slice C8 y.f8.length k8, .slice C9 y.f9.length k9, .bool y.f10, .bool y.f11, .bool y.f12, .slice C13 y.f13.length k13, .slice C14 y.f14.length k14] (0, 0) _ rfl HS9.out.blk Try.underlying27 rfl (by kernel_rfl)) rfl ?_
          rw [HP.out]
          exact ⟨[.bool y.f0, .int .i64 y.f1, .int .i64 y.f2, .bool y.f3, .bool y.f4, .int .u32 y.f5, .int .i64 y.f6, .slice C7 y.f7.length k7, .slice C8 y.f8.length k8, .slice C9 y.f9.length k9, .bool y.f10, .bool y.f11, .bool y.f12, .slice C13 y.f13.length k13, .slice C14 y.f14.length k14], rfl, HK.out _ HS9.out.rot4.pinGet, HS9.out.below⟩
        | false =>
          have HP := Aside0.mk (HP1.out he1 hsb)
          rw [hsb] at HSND
          clear he1 hs HP0 HP1 HP2 HSO
          go_upto_region 13 with (go_at_call 12; refine HSND.out.mono ?_; rintro e w8 ⟨rfl, hd⟩; have hs8 := HSC.out.belowR hd; have n2 := (hs8.cell 2).trans (show _ = some (Value.int .i64 e1) from rfl); have HS8 := Aside0.mk hs8; clear hs8 hd)
          have f2 := HS8.out.frozen 2
          have HS9 := Aside0.mk (HS8.out.set 2 (.int .i64 3))
          obtain ⟨W9, hW9⟩ : ∃ W9, W9 = w8.setCell ⟨gp, 2, none⟩ (.int .i64 3) := ⟨_, rfl⟩
          rw [← hW9] at HS9
          have HW9 := Aside0.mk hW9
          clear hW9
          have n3 := (HS9.out.cell 2).trans (show _ = some (Value.int .i64 3) from rfl)
          rw [HW9.out] at n3
          go_upto_region 14 with (fail)
          rw [← HW9.out] at n3 ⊢
          clear HW9 f2 n2 HS8 m2 z
          have h10 := (show St w W9 (Asrt.blk gp 59 _ * (pin w Q' * (Asrt.blk gd 27 #[.bool y.f0, .int .i64 y.f1, .int .i64 y.f2, .bool y.f3, .bool y.f4, .int .u32 y.f5, .int .i64 y.f6, .slice C7 y.f7.length k7, .slice C8 y.f8.length k8, .slice C9 y.f9.length k9, .bool y.f10, .bool y.f11, .bool y.f12, .slice C13 y.f13.length k13, .slice C14 y.f14.length k14] * (Asrt.blk gr 27 _ * Asrt.emp)))) from HS9.out).rot4
          have n3 := (h10.swap.cell 2).trans (show _ = some (Value.int .i64 3) from rfl)
          have z2 := fun i => h10.cell i
          have z3 := fun i => h10.frozen i
          have h11 := h10.put15 (.bool false) (.int .i64 0) (.int .i64 0) (.bool false) (.bool false) (.int .u32 0) (.int .i64 0) (.slice none 0 0) (.slice none 0 0) (.slice none 0 0) (.bool false) (.bool false) (.bool false) (.slice none 0 0) (.slice none 0 0)
          have n4 := (h11.swap.cell 2).trans (show _ = some (Value.int .i64 3) from rfl)
          have HS11 := Aside0.mk h11.drew
          clear h10 h11
          go_upto_region 15 with (fail)
          go_region
          go_wp2_with fail
          refine bodyPost_ret (results_ct rfl _ _ gr 27 #[.bool false, .int .i64 0, .int .i64 0, .bool false, .bool false, .int .u32 0, .int .i64 0, .slice none 0 0, .slice none 0 0, .slice none 0 0, .bool false, .bool false, .bool false, .slice none 0 0, .slice none 0 0] (0, 0) _ rfl HS11.out.blk Try.underlying27 rfl (by kernel_rfl)) rfl ?_
          rw [HP.out]
          exact ⟨[.bool false, .int .i64 0, .int .i64 0, .bool false, .bool false, .int .u32 0, .int .i64 0, .slice none 0 0, .slice none 0 0, .slice none 0 0, .bool false, .bool false, .bool false, .slice none 0 0, .slice none 0 0], rfl, zeroD_K _, HS11.out.below⟩
      · have y1 : (e1 == 0) = false := by simp [he1]
        have HP := Aside0.mk (HP2.out he1)
        have y2 : (e1 != 0) = true := by simp [he1]
        clear he1 hs HP0 HP1 HP2 HSO
        clear z
        have h10 := (show St w wc (Asrt.blk gp 59 _ * (pin w Q' * (Asrt.blk gd 27 #[.bool y.f0, .int .i64 y.f1, .int .i64 y.f2, .bool y.f3, .bool y.f4, .int .u32 y.f5, .int .i64 y.f6, .slice C7 y.f7.length k7, .slice C8 y.f8.length k8, .slice C9 y.f9.length k9, .bool y.f10, .bool y.f11, .bool y.f12, .slice C13 y.f13.length k13, .slice C14 y.f14.length k14] * (Asrt.blk gr 27 _ * Asrt.emp)))) from HSC.out).rot4
        have n3 := (h10.swap.cell 2).trans (show _ = some (Value.int .i64 e1) from rfl)
        have z2 := fun i => h10.cell i
        have z3 := fun i => h10.frozen i
        have h11 := h10.put15 (.bool false) (.int .i64 0) (.int .i64 0) (.bool false) (.bool false) (.int .u32 0) (.int .i64 0) (.slice none 0 0) (.slice none 0 0) (.slice none 0 0) (.bool false) (.bool false) (.bool false) (.slice none 0 0) (.slice none 0 0)
        have n4 := (h11.swap.cell 2).trans (show _ = some (Value.int .i64 e1) from rfl)
        have HS11 := Aside0.mk h11.drew
        clear h10 h11
        go_upto_region 15 with (fail)
        go_region
        go_wp2_with fail
        refine bodyPost_ret (results_ct rfl _ _ gr 27 #[.bool false, .int .i64 0, .int .i64 0, .bool false, .bool false, .int .u32 0, .int .i64 0, .slice none 0 0, .slice none 0 0, .slice none 0 0, .bool false, .bool false, .bool false, .slice none 0 0, .slice none 0 0] (0, 0) _ rfl HS11.out.blk Try.underlying27 rfl (by kernel_rfl)) rfl ?_
        rw [HP.out]
        exact ⟨[.bool false, .int .i64 0, .int .i64 0, .bool false, .bool false, .int .u32 0, .int .i64 0, .slice none 0 0, .slice none 0 0, .slice none 0 0, .bool false, .bool false, .bool false, .slice none 0 0, .slice none 0 0], rfl, zeroD_K _, HS11.out.below⟩
end Go.Proofs.Ythkocpcjcpohcaa.P
end
section
namespace Go.Proofs.Ythkocpcjcpohcaa.P
open Go Go.RowKit Go.Proofs.YthkocpcjcpohcaaW.PrintWords Go.Proofs.YthkocpcjcpohcaaW.PrintLast Go.Proofs.YthkocpcjcpohcaaW.PrintMore Go.Proofs.Ythkocpcjcpohcaa.U Go.Proofs.Ythkocpcjcpohcaa.Pure
set_option linter.unusedVariables false
set_option linter.unusedSimpArgs false
theorem next_hit {nm : ByteArray} {b : List Int} {t : List Ch} : nextV (⟨nm, b⟩ :: t) 0 nm true = (b, true, t, 0) := by simp [nextV, headB]
theorem next_not {l : List Ch} {e : Int} {nm : ByteArray} : nextV l e nm false = ([], false, l, e) := if_neg (by simp)
theorem next_err {l : List Ch} {e : Int} {nm : ByteArray} {b : Bool} (h : e ≠ 0) : nextV l e nm b = ([], false, l, e) := if_neg fun x => h x.2
def opt (has : Bool) (nm : ByteArray) (b : List Int) : List Ch := if has = true then [⟨nm, b⟩] else []
theorem add_opt {has : Bool} {nm : ByteArray} {b : List Int} {l : List Ch} : addL has nm b l = l ++ opt has nm b := by
  unfold addL opt
  cases has <;> simp
theorem next_opt {has : Bool} {nm : ByteArray} {b : List Int} {t : List Ch} (h : toldP has b) : nextV (opt has nm b ++ t) 0 nm has = (b, has, t, 0) := by
  unfold opt
  cases has with
  | false =>
    have hb : b = [] := by rcases h with h | h <;> simp_all
    rw [next_not, hb]; rfl
  | true => exact next_hit
theorem num_at {pre post : List Int} {n : Nat} {x : Int} {a k : Int} (ha : a = pre.length) (hk : k = n) (h1 : 1 ≤ n) (h8 : n ≤ 8) (h0 : 0 ≤ x) (hx : x < 256 ^ n) : numV (pre ++ (Pure.bytes n x ++ post)) a k = x := by
  subst ha hk
  have hl := bytes_len n x
  unfold numV
  rw [get_good ⟨by omega, by omega, by omega, by simp only [List.length_append]; omega, by simp only [List.length_append, hl]; omega⟩]
  rw [show ((pre.length : Int)).toNat = pre.length by omega, show ((n : Int)).toNat = n by omega, drop_left rfl, take_left hl, num_bytes n x h0 hx]
theorem put1 {x : Int} {n : Int} {r : List Nm} : putV (⟨x, n⟩ :: r) = Pure.bytes n.toNat x ++ putV r := by
  unfold putV
  rw [List.flatMap_cons]
theorem put_nil : putV [] = [] := rfl
theorem top_len (y : Dc) : (putV (topV y)).length = 10 := by simp [topV, putV, bytes_len]
theorem top_num (y : Dc) (h1 : 1 ≤ y.f1 ∧ y.f1 ≤ 16777216) (h2 : 1 ≤ y.f2 ∧ y.f2 ≤ 16777216) : numV (putV (topV y)) 0 4 = flagsI y ∧ numV (putV (topV y)) 4 3 = y.f1 - 1 ∧ numV (putV (topV y)) 7 3 = y.f2 - 1 := by
  have hf := flags_bd y
  have e : putV (topV y) = Pure.bytes 4 (flagsI y) ++ (Pure.bytes 3 (y.f1 - 1) ++ (Pure.bytes 3 (y.f2 - 1) ++ [])) := by
    unfold topV
    rw [put1, put1, put1, put_nil]
    rfl
  rw [e]
  refine ⟨num_at (pre := []) (n := 4) rfl rfl (by decide) (by decide) hf.1 (by (have : (256 : Int) ^ 4 = 4294967296 := by decide); omega), ?_, ?_⟩
  · exact num_at (n := 3) (by rw [bytes_len]; rfl) rfl (by decide) (by decide) (by omega) (by (have : (256 : Int) ^ 3 = 16777216 := by decide); omega)
  · rw [← List.append_assoc]
    exact num_at (n := 3) (by rw [List.length_append, bytes_len, bytes_len]; rfl) rfl (by decide) (by decide) (by omega) (by (have : (256 : Int) ^ 3 = 16777216 := by decide); omega)
theorem flag_all (y : Dc) : Go.bits .andNot .i64 (flagsI y) 62 = 0 ∧ flagB (flagsI y) 16 = y.f3 ∧ flagB (flagsI y) 2 = y.f4 ∧ flagB (flagsI y) 32 = y.f10 ∧ flagB (flagsI y) 8 = y.f11 ∧ flagB (flagsI y) 4 = y.f12 := by
  unfold flagsI bitI flagB
  cases y.f10 <;> cases y.f3 <;> cases y.f11 <;> cases y.f12 <;> cases y.f4 <;> decide
theorem head_top (y : Dc) (h1 : 1 ≤ y.f1 ∧ y.f1 ≤ 16777216) (h2 : 1 ≤ y.f2 ∧ y.f2 ≤ 16777216) : headOK (putV (topV y)) true ∧ headN (putV (topV y)) true = flagsI y ∧ headW (putV (topV y)) true 4 = y.f1 ∧ headW (putV (topV y)) true 7 = y.f2 ∧ headE (putV (topV y)) true 0 = 0 := by
  obtain ⟨n1, n2, n3⟩ := top_num y h1 h2
  have hk : headOK (putV (topV y)) true := ⟨rfl, top_len y, by rw [n1]; exact (flag_all y).1⟩
  refine ⟨hk, ?_, ?_, ?_, if_pos hk⟩
  · unfold headN; rw [if_pos hk, n1]
  · unfold headW; rw [if_pos hk, n2]; omega
  · unfold headW; rw [if_pos hk, n3]; omega
theorem pay_not (k : Int) : decide (payS k = nALPH) = false := by
  unfold payS
  split <;> decide
theorem pay_loss (k : Int) : decide (payS k = nLOSS) = decide (k = 2) := by
  unfold payS
  split <;> simp_all
theorem is_hit {nm nm2 : ByteArray} {b : List Int} {t : List Ch} : isB (⟨nm, b⟩ :: t) 0 nm2 = decide (nm = nm2) := by simp [isB, headB]
theorem pic_read {f : Fr} (hk : kindB f = true) (t : List Ch) : alphaP (alphaV f ++ (⟨payS f.f7, f.f9⟩ :: t)) 0 = (f.f8, ⟨payS f.f7, f.f9⟩ :: t, 0) ∧ kindP (⟨payS f.f7, f.f9⟩ :: t) 0 = f.f7 ∧
    dataP (alphaV f ++ (⟨payS f.f7, f.f9⟩ :: t)) 0 = (f.f9, true, t, 0) := by
  have hk' := of_decide_eq_true hk
  have a1 : alphaP (alphaV f ++ (⟨payS f.f7, f.f9⟩ :: t)) 0 = (f.f8, ⟨payS f.f7, f.f9⟩ :: t, 0) := by
    unfold alphaP alphaV
    by_cases h8 : 0 < f.f8.length
    · have h7 : f.f7 = 2 := by omega
      rw [if_pos h8, List.cons_append, List.nil_append, is_hit, if_pos (by decide), next_hit]
      dsimp only
      rw [is_hit, pay_loss, if_neg (by simp [h7]; intro h; simp [h] at h8)]
    · have h80 : f.f8 = [] := List.length_eq_zero_iff.1 (by omega)
      rw [if_neg h8, List.nil_append, is_hit, pay_not, if_neg (by simp), h80]
  have a2 : kindP (⟨payS f.f7, f.f9⟩ :: t) 0 = f.f7 := by
    unfold kindP
    rw [is_hit, pay_loss]
    rcases hk' with h | h
    · rw [if_pos (by simp [h]), h]
    · rw [if_neg (by simp [h.1]), h.1]
  refine ⟨a1, a2, ?_⟩
  unfold dataP
  rw [a1]
  dsimp only
  rw [a2, next_hit]
theorem pic_eq (f : Fr) : picV f = alphaV f ++ (⟨payS f.f7, f.f9⟩ :: f.f10) := by unfold picV; simp
theorem head_len (f : Fr) : (putV (headV f)).length = 16 := by simp [headV, putV, bytes_len]
theorem half_even {x : Int} (h0 : 0 ≤ x) (h : x % 2 = 0) : 2 * x.tdiv 2 = x := by
  rw [Int.tdiv_eq_ediv_of_nonneg h0]; omega
theorem way_bits (f : Fr) : bit8 (wayI f) 2 = f.f5 ∧ bit8 (wayI f) 1 = f.f6 := by
  unfold wayI bitI bit8
  cases f.f5 <;> cases f.f6 <;> decide
theorem part_read {f : Fr} (hm : mayP f) (hk : kindB f = true) (e0 : f.f0 % 2 = 0) (e1 : f.f1 % 2 = 0) (hb : ∀ x ∈ picV f, Bytes x.f1 ∧ x.f1.length < 4294967296) :
    partF (movedV f).f1 = f ∧ partE (movedV f).f1 0 = 0 := by
  have hx := hm.x0
  have hy := hm.x1
  have hw := hm.x2
  have hh := hm.x3
  have hd := hm.x4
  have hbd := way_bd f
  have p3 : (256 : Int) ^ 3 = 16777216 := by decide
  have d0 : 0 ≤ f.f0.tdiv 2 ∧ f.f0.tdiv 2 < 16777216 := by rw [Int.tdiv_eq_ediv_of_nonneg hx.1]; omega
  have d1 : 0 ≤ f.f1.tdiv 2 ∧ f.f1.tdiv 2 < 16777216 := by rw [Int.tdiv_eq_ediv_of_nonneg hy.1]; omega
  have eb : (movedV f).f1 = putV (headV f) ++ lay (picV f) := rfl
  have e : (movedV f).f1 = Pure.bytes 3 (f.f0.tdiv 2) ++ (Pure.bytes 3 (f.f1.tdiv 2) ++ (Pure.bytes 3 (f.f2 - 1) ++ (Pure.bytes 3 (f.f3 - 1) ++ (Pure.bytes 3 f.f4 ++ (Pure.bytes 1 (wayI f) ++ lay (picV f)))))) := by
    rw [eb]
    unfold headV
    rw [put1, put1, put1, put1, put1, put1, put_nil]
    simp only [List.append_assoc, List.append_nil]
    rfl
  have n0 : numV (movedV f).f1 0 3 = f.f0.tdiv 2 := by
    rw [e]; exact num_at (pre := []) (n := 3) rfl rfl (by decide) (by decide) (by omega) (by omega)
  have n1 : numV (movedV f).f1 3 3 = f.f1.tdiv 2 := by
    rw [e]; exact num_at (n := 3) (by rw [bytes_len]; rfl) rfl (by decide) (by decide) (by omega) (by omega)
  have n2 : numV (movedV f).f1 6 3 = f.f2 - 1 := by
    rw [e, ← List.append_assoc]; exact num_at (n := 3) (by simp [bytes_len]) rfl (by decide) (by decide) (by omega) (by omega)
  have n3 : numV (movedV f).f1 9 3 = f.f3 - 1 := by
    rw [e, ← List.append_assoc, ← List.append_assoc]; exact num_at (n := 3) (by simp [bytes_len]) rfl (by decide) (by decide) (by omega) (by omega)
  have n4 : numV (movedV f).f1 12 3 = f.f4 := by
    rw [e, ← List.append_assoc, ← List.append_assoc, ← List.append_assoc]; exact num_at (n := 3) (by simp [bytes_len]) rfl (by decide) (by decide) (by omega) (by omega)
  have n5 : rd (movedV f).f1 15 = wayI f := by
    have e2 : (movedV f).f1 = (Pure.bytes 3 (f.f0.tdiv 2) ++ Pure.bytes 3 (f.f1.tdiv 2) ++ Pure.bytes 3 (f.f2 - 1) ++ Pure.bytes 3 (f.f3 - 1) ++ Pure.bytes 3 f.f4) ++ (wayI f :: lay (picV f)) := by
      rw [e]
      have : Pure.bytes 1 (wayI f) = [wayI f] := by
        show [wayI f % 256] = [wayI f]
        rw [Int.emod_eq_of_lt (by omega) (by omega)]
      rw [this]
      simp
    rw [e2]
    unfold rd
    rw [show (15 : Int).toNat = 15 from rfl, List.getD_eq_getElem?_getD, List.getElem?_append_right (by simp [bytes_len])]
    simp [bytes_len]
  have dr : (movedV f).f1.drop 16 = lay (picV f) := by rw [eb, drop_left (head_len f)]
  have hi := inner_lay (picV f) (lay (picV f)).length [] (pic_ok hm.mo) hb (Nat.le_refl _)
  rw [List.nil_append] at hi
  have hP : partOK (movedV f).f1 := ⟨by rw [eb, List.length_append, head_len]; omega, by rw [n5]; omega, by rw [dr, hi]⟩
  have hr := pic_read hk f.f10
  rw [← pic_eq] at hr
  obtain ⟨r1, r2, r3⟩ := hr
  constructor
  · unfold partF
    rw [if_pos hP, dr, hi]
    dsimp only
    rw [r1, r3]
    unfold frameQ
    dsimp only
    rw [n0, n1, n2, n3, n4, n5, r2, (way_bits f).1, (way_bits f).2, half_even hx.1 e0, half_even hy.1 e1]
    simp
  · unfold partE
    rw [if_pos hP, dr, hi]
    dsimp only
    rw [r3]
    dsimp only
    unfold restE
    rw [if_neg (by rw [hm.mo]; simp)]
    rfl
theorem parts_read {fs : List Fr} {t : List Ch} (ht : isB t 0 nANMF = false) (most : Int) (h : ∀ f ∈ fs, partF (movedV f).f1 = f ∧ partE (movedV f).f1 0 = 0) : ∀ (n : Nat) (acc : List Fr), fs.length ≤ n →
    ((acc.length + fs.length : Int) ≤ most → partsL n (fs.map movedV ++ t) 0 most acc = (acc ++ fs, t, 0)) ∧ (¬ (acc.length + fs.length : Int) ≤ most → fs ≠ [] → (partsL n (fs.map movedV ++ t) 0 most acc).2.2 = 4) := by
  induction fs with
  | nil =>
    intro n acc _
    refine ⟨fun _ => ?_, fun _ h => absurd rfl h⟩
    cases n with
    | zero => simp [partsL]
    | succ n => rw [List.map_nil, List.nil_append, partsL, ht, if_neg (by simp)]; simp
  | cons f fs ih =>
    intro n acc hn
    cases n with
    | zero => simp at hn
    | succ n =>
      have hf := h f List.mem_cons_self
      have hr : isB ((f :: fs).map movedV ++ t) 0 nANMF = true := by
        rw [List.map_cons, List.cons_append]
        exact is_hit.trans (decide_eq_true rfl)
      have hnx : nextV ((f :: fs).map movedV ++ t) 0 nANMF true = ((movedV f).f1, true, fs.map movedV ++ t, 0) := next_hit
      rw [partsL, if_pos hr, hnx]
      dsimp only
      rw [hf.1, hf.2]
      have hi := ih (fun x hx => h x (List.mem_cons_of_mem _ hx)) n (acc ++ [f]) (by simp at hn; omega)
      simp only [List.length_append, List.length_cons, List.length_nil] at hi ⊢
      refine ⟨fun hm => ?_, fun hm _ => ?_⟩
      · rw [if_neg (by omega), hi.1 (by omega)]
        simp
      · by_cases hc : most ≤ acc.length
        · rw [if_pos hc]; rfl
        · rw [if_neg hc]
          refine hi.2 (by omega) fun h0 => ?_
          subst h0
          simp at hm
          omega
end Go.Proofs.Ythkocpcjcpohcaa.P
end
section
namespace Go.Proofs.Ythkocpcjcpohcaa.P
open Go Go.RowKit Go.Proofs.YthkocpcjcpohcaaW.PrintWords Go.Proofs.YthkocpcjcpohcaaW.PrintLast Go.Proofs.YthkocpcjcpohcaaW.PrintMore Go.Proofs.Ythkocpcjcpohcaa.U Go.Proofs.Ythkocpcjcpohcaa.Pure
set_option linter.unusedVariables false
set_option linter.unusedSimpArgs false
def tailL (y : Dc) : List Ch := opt y.f11 nEXIF y.f8 ++ (opt y.f12 nXMP y.f9 ++ y.f14)
theorem chunks_eq {y : Dc} (h0 : y.f0 = false) : chunksV y = ⟨nVP8X, putV (topV y)⟩ :: (opt y.f10 nICCP y.f7 ++ (opt y.f4 nANIM (putV (aniV y)) ++ (y.f13.flatMap (partV y.f4) ++ tailL y))) := by
  unfold chunksV
  rw [if_neg (by rw [h0]; simp)]
  unfold c6V c5V c4V c3V c2V c1V tailL
  simp only [add_opt, List.take_length, List.append_assoc, List.cons_append, List.nil_append]
theorem own_not {s : ByteArray} (h : ownB s = true) {m : ByteArray} (hm : m ∈ names) : s ≠ m := by
  rintro rfl
  unfold ownB at h
  rw [Bool.and_eq_true, Bool.not_eq_true', List.any_eq_false] at h
  exact h.2 s hm (by simp)
theorem more_head {l : List Ch} (h : moreB l = true) {m : ByteArray} (hm : m ∈ names) : headB l m = false := by
  cases l with
  | nil => rfl
  | cons x t => exact decide_eq_false (own_not (List.all_eq_true.1 h x List.mem_cons_self) hm)
theorem opt_head {has : Bool} {nm m : ByteArray} {b : List Int} {t : List Ch} (hn : nm ≠ m) (ht : headB t m = false) : headB (opt has nm b ++ t) m = false := by
  unfold opt
  cases has with
  | false => exact ht
  | true => exact decide_eq_false hn
theorem tail_part {y : Dc} (h : moreB y.f14 = true) : isB (tailL y) 0 nANMF = false := by
  unfold isB tailL
  rw [opt_head (by decide) (opt_head (by decide) (more_head h (by simp [names])))]
  rfl
theorem ani_len (y : Dc) : (putV (aniV y)).length = 6 := by simp [aniV, putV, bytes_len]
theorem ani_num (y : Dc) (h5 : 0 ≤ y.f5 ∧ y.f5 < 4294967296) (h6 : 0 ≤ y.f6 ∧ y.f6 < 65536) : numV (putV (aniV y)) 0 4 = y.f5 ∧ numV (putV (aniV y)) 4 2 = y.f6 := by
  have e : putV (aniV y) = Pure.bytes 4 y.f5 ++ (Pure.bytes 2 y.f6 ++ []) := by
    unfold aniV
    rw [put1, put1, put_nil]
    rfl
  rw [e]
  refine ⟨num_at (pre := []) (n := 4) rfl rfl (by decide) (by decide) h5.1 (by (have : (256 : Int) ^ 4 = 4294967296 := by decide); omega), ?_⟩
  exact num_at (n := 2) (by rw [bytes_len]; rfl) rfl (by decide) (by decide) h6.1 (by (have : (256 : Int) ^ 2 = 65536 := by decide); omega)
theorem flat_moved (l : List Fr) : l.flatMap (partV true) = l.map movedV := by
  induction l with
  | nil => rfl
  | cons f l ih => rw [List.flatMap_cons, ih]; rfl
theorem tail_read {y : Dc} (h1 : toldP y.f11 y.f8) (h2 : toldP y.f12 y.f9) (h3 : moreB y.f14 = true) : tailV (flagsI y) (tailL y) 0 = (y.f8, y.f9, y.f14, 0) := by
  unfold tailV tailL
  rw [(flag_all y).2.2.2.2.1, (flag_all y).2.2.2.2.2, next_opt h1]
  dsimp only
  rw [next_opt h2]
  dsimp only
  unfold restE
  rw [if_neg (by rw [h3]; simp)]
theorem tail_err {n : Int} {l : List Ch} {e : Int} (h : e ≠ 0) : (tailV n l e).2.2.2 = e := by
  unfold tailV
  rw [next_err h]
  dsimp only
  rw [next_err h]
  unfold restE
  rw [if_neg fun x => h x.1]
theorem parts_none {l : List Ch} (h : isB l 0 nANMF = false) (most : Int) (n : Nat) : partsL n l 0 most [] = ([], l, 0) := by
  cases n with
  | zero => rfl
  | succ n => rw [partsL, if_neg (by rw [h]; simp)]
theorem frames_read {y : Dc} (hs : soundP y) (h0 : y.f0 = false) (h5 : 0 ≤ y.f5 ∧ y.f5 < 4294967296) (hfr : y.f4 = true → ∀ f ∈ y.f13, partF (movedV f).f1 = f ∧ partE (movedV f).f1 0 = 0) (most : Int) :
    ((y.f13.length : Int) ≤ most ∨ y.f13 = [] → framesV y.f4 (opt y.f4 nANIM (putV (aniV y)) ++ (y.f13.flatMap (partV y.f4) ++ tailL y)) 0 most y.f1 y.f2 = (y.f5, y.f6, y.f13, tailL y, 0)) ∧
    (¬ (y.f13.length : Int) ≤ most → y.f13 ≠ [] → (framesV y.f4 (opt y.f4 nANIM (putV (aniV y)) ++ (y.f13.flatMap (partV y.f4) ++ tailL y)) 0 most y.f1 y.f2).2.2.2.2 = 4) := by
  obtain ⟨_, hs⟩ := hs
  rw [if_neg (by rw [h0]; simp)] at hs
  obtain ⟨hw, _, h61, h62, hnm, hmo, _, _, _, hf⟩ := hs
  cases h4 : y.f4 with
  | true =>
    have hpr := parts_read (fs := y.f13) (t := tailL y) (tail_part hmo) most (hfr h4)
    have hk : aniOK (putV (aniV y)) true := ⟨rfl, ani_len y⟩
    have hv : framesV true (opt true nANIM (putV (aniV y)) ++ (y.f13.flatMap (partV true) ++ tailL y)) 0 most y.f1 y.f2 = (y.f5, y.f6, partsL (y.f13.map movedV ++ tailL y).length (y.f13.map movedV ++ tailL y) 0 most []) := by
      unfold framesV
      rw [if_pos rfl]
      have e : opt true nANIM (putV (aniV y)) ++ (y.f13.flatMap (partV true) ++ tailL y) = ⟨nANIM, putV (aniV y)⟩ :: (y.f13.map movedV ++ tailL y) := by rw [flat_moved]; rfl
      rw [e, next_hit]
      dsimp only
      unfold movesV
      rw [if_pos hk, (ani_num y h5 ⟨h61, h62⟩).1, (ani_num y h5 ⟨h61, h62⟩).2]
    rw [hv]
    have hl : y.f13.length ≤ (y.f13.map movedV ++ tailL y).length := by rw [List.length_append, List.length_map]; omega
    have hq := hpr (y.f13.map movedV ++ tailL y).length [] hl
    simp only [List.length_nil, List.nil_append] at hq
    constructor
    · rintro (h | h)
      · rw [hq.1 (by omega)]
      · rw [h, List.map_nil, List.nil_append, parts_none (tail_part hmo)]
    · intro h1 h2
      exact hq.2 (by omega) h2
  | false =>
    obtain ⟨hl1, hb, hlp⟩ := hnm h4
    obtain ⟨f, hff⟩ : ∃ f, y.f13 = [f] := List.length_eq_one_iff.1 (by omega)
    have hP := hf f (by rw [hff]; exact List.mem_cons_self)
    unfold frameP at hP
    rw [if_neg (by rw [h4]; simp)] at hP
    obtain ⟨_, hk, _, _, g0, g1, g2, g3, g4, g5, g6, g10⟩ := hP
    have g10' : f.f10 = [] := List.length_eq_zero_iff.1 g10
    have e : opt false nANIM (putV (aniV y)) ++ (y.f13.flatMap (partV false) ++ tailL y) = alphaV f ++ (⟨payS f.f7, f.f9⟩ :: tailL y) := by
      rw [hff]
      show [] ++ ((picV f ++ []) ++ tailL y) = _
      rw [pic_eq, g10']
      simp
    obtain ⟨r1, r2, r3⟩ := pic_read hk (tailL y)
    rw [e]
    unfold framesV
    rw [if_neg (by simp)]
    unfold stillV
    rw [hff]
    constructor
    · intro h
      have hm : 1 ≤ most := by
        rcases h with h | h
        · simpa using h
        · simp at h
      rw [if_neg (by omega), r3]
      have : stillF (alphaV f ++ (⟨payS f.f7, f.f9⟩ :: tailL y)) 0 y.f1 y.f2 = f := by
        unfold stillF
        rw [r1, r3]
        dsimp only
        rw [r2, ← g2, ← g3]
        cases f
        simp_all
      rw [this, hb, hlp]
    · intro h _
      rw [if_pos ⟨rfl, by simp at h; omega⟩]
theorem doc_read {y : Dc} (hs : soundP y) (h0 : y.f0 = false) (h5 : 0 ≤ y.f5 ∧ y.f5 < 4294967296) (hfr : y.f4 = true → ∀ f ∈ y.f13, partF (movedV f).f1 = f ∧ partE (movedV f).f1 0 = 0) (most : Int) :
    ((y.f13.length : Int) ≤ most ∨ y.f13 = [] → docV (chunksV y) 0 most = (y, 0)) ∧ (¬ (y.f13.length : Int) ≤ most → y.f13 ≠ [] → (docV (chunksV y) 0 most).2 = 4) := by
  have hfrm := frames_read hs h0 h5 hfr most
  obtain ⟨_, hs⟩ := hs
  rw [if_neg (by rw [h0]; simp)] at hs
  obtain ⟨hw, _, h61, h62, hnm, hmo, t1, t2, t3, hf⟩ := hs
  obtain ⟨q1, q2, q3, q4, q5⟩ := head_top y hw.1 ⟨hw.2.1, hw.2.2⟩
  obtain ⟨_, p1, p2, p3, p4, p5⟩ := flag_all y
  unfold docV
  rw [chunks_eq h0, next_hit]
  dsimp only
  rw [q2, q3, q4, q5]
  unfold bodyV
  rw [p3, next_opt t1, p2]
  dsimp only
  constructor
  · intro h
    rw [hfrm.1 h]
    dsimp only
    rw [tail_read t2 t3 hmo]
    unfold docOf
    dsimp only
    rw [p1, p2, p3, p4, p5, ← h0]
  · intro h1 h2
    have he := hfrm.2 h1 h2
    rw [he, tail_err (by decide)]
theorem plain_eq {y : Dc} {f : Fr} (hk : kindB f = true) (hf : y.f13 = [f]) (hy : y = plainD f.f7 f.f9) : chunksV y = [⟨payS f.f7, f.f9⟩] := by
  subst hy
  unfold chunksV
  rw [if_pos (show (plainD f.f7 f.f9).f0 = true from rfl)]
  have e : f = ⟨0, 0, 0, 0, 0, false, false, f.f7, [], f.f9, []⟩ := by
    have : [f] = [⟨0, 0, 0, 0, 0, false, false, f.f7, [], f.f9, []⟩] := hf.symm
    simpa using this
  show picV (⟨0, 0, 0, 0, 0, false, false, f.f7, [], f.f9, []⟩ : Fr) = _
  unfold picV alphaV
  rfl
theorem plain_still {k : Int} {b : List Int} (hk : k = 1 ∨ k = 2) (t : List Ch) (most : Int) : stillV (⟨payS k, b⟩ :: t) 0 most 0 0 = if most < 1 then ([], ⟨payS k, b⟩ :: t, 4) else ([⟨0, 0, 0, 0, 0, false, false, k, [], b, []⟩], t, 0) := by
  have hkb : kindB ⟨0, 0, 0, 0, 0, false, false, k, [], b, []⟩ = true := decide_eq_true (by
    rcases hk with rfl | rfl
    · exact .inr ⟨rfl, rfl⟩
    · exact .inl rfl)
  obtain ⟨r1, r2, r3⟩ := pic_read hkb t
  have e : alphaV ⟨0, 0, 0, 0, 0, false, false, k, [], b, []⟩ = [] := rfl
  rw [e, List.nil_append] at r1 r3
  dsimp only at r1 r2 r3
  unfold stillV
  by_cases h : most < 1
  · rw [if_pos ⟨rfl, h⟩, if_pos h]
  · rw [if_neg fun x => h x.2, if_neg h, r3]
    unfold stillF
    rw [r1, r3]
    dsimp only
    rw [r2]
theorem pay_head (k : Int) (b : List Int) (t : List Ch) : isB (⟨payS k, b⟩ :: t) 0 nVP8X = false := by
  rw [is_hit]
  unfold payS
  split <;> decide
theorem read_back {y : Dc} (hs : soundP y) (h5 : 0 ≤ y.f5 ∧ y.f5 < 4294967296) (hfr : y.f0 = false → y.f4 = true → ∀ f ∈ y.f13, partF (movedV f).f1 = f ∧ partE (movedV f).f1 0 = 0) (most : Int) :
    ((y.f13.length : Int) ≤ most ∨ y.f13 = [] → readV (chunksV y) most = (y, 0)) ∧ (¬ (y.f13.length : Int) ≤ most → y.f13 ≠ [] → (readV (chunksV y) most).2 = 4) := by
  cases h0 : y.f0 with
  | false =>
    have hb : isB (chunksV y) 0 nVP8X = true := by rw [chunks_eq h0, is_hit]; rfl
    unfold readV
    rw [hb, if_pos rfl]
    exact doc_read hs h0 h5 (hfr h0) most
  | true =>
    obtain ⟨_, hs⟩ := hs
    rw [if_pos h0] at hs
    obtain ⟨f, hf, hk, hy⟩ := hs
    have hk' : f.f7 = 1 ∨ f.f7 = 2 := by
      have := of_decide_eq_true hk
      omega
    rw [plain_eq hk hf hy]
    unfold readV
    rw [pay_head, if_neg (by simp), plain_still hk', hf]
    constructor
    · intro h
      have hm : 1 ≤ most := by
        rcases h with h | h
        · simpa using h
        · simp at h
      rw [if_neg (by omega)]
      unfold plainY plainE
      dsimp only
      rw [if_neg (by simp)]
      exact Prod.ext hy.symm rfl
    · intro h _
      rw [if_pos (by simp at h; omega)]
      rfl
end Go.Proofs.Ythkocpcjcpohcaa.P
end
section
namespace Go.Proofs.Ythkocpcjcpohcaa.P
open Go Go.RowKit Go.Proofs.YthkocpcjcpohcaaW.PrintWords Go.Proofs.YthkocpcjcpohcaaW.PrintLast Go.Proofs.YthkocpcjcpohcaaW.PrintMore Go.Proofs.Ythkocpcjcpohcaa.U Go.Proofs.Ythkocpcjcpohcaa.Pure
set_option linter.unusedVariables false
set_option linter.unusedSimpArgs false
def frN (f : Fr) : Nat := f.f8.length + f.f9.length + 20 * f.f10.length + Pure.weight f.f10
def sumN {α : Type} (g : α → Nat) : List α → Nat
  | [] => 0
  | x :: l => g x + sumN g l
theorem sumN_mem {α : Type} {g : α → Nat} : ∀ {l : List α} {x : α}, x ∈ l → g x ≤ sumN g l
  | y :: l, x, h => by
    rcases List.mem_cons.1 h with rfl | h
    · exact Nat.le_add_right _ _
    · exact Nat.le_trans (sumN_mem h) (Nat.le_add_left _ _)
theorem weight_mem : ∀ {l : List Ch} {x : Ch}, x ∈ l → x.f0.size + x.f1.length ≤ Pure.weight l
  | y :: l, x, h => by
    rcases List.mem_cons.1 h with rfl | h
    · exact Nat.le_add_right _ _
    · exact Nat.le_trans (weight_mem h) (Nat.le_add_left _ _)
def smallN (y : Dc) : Nat := y.f7.length + y.f8.length + y.f9.length + 20 * y.f13.length + 20 * y.f14.length + Pure.weight y.f14 + sumN frN y.f13
theorem fr_mem {l : List Fr} {f : Fr} (h : f ∈ l) : f.f8.length + f.f9.length + 20 * f.f10.length + Pure.weight f.f10 ≤ sumN frN l := sumN_mem (g := frN) h
theorem pic_w (f : Fr) : (picV f).length ≤ 2 + f.f10.length ∧ Pure.weight (picV f) ≤ 8 + f.f8.length + f.f9.length + Pure.weight f.f10 := by
  have hp : (payS f.f7).size = 4 := by unfold payS; split <;> rfl
  have ha : nALPH.size = 4 := rfl
  rw [pic_eq]
  unfold alphaV
  split
  · simp only [List.cons_append, List.nil_append, List.length_cons, Pure.weight, hp, ha]; omega
  · simp only [List.nil_append, List.length_cons, Pure.weight, hp]; omega
theorem part_w (m : Bool) (f : Fr) : (partV m f).length + Pure.weight (partV m f) ≤ 39 + frN f := by
  have hp := pic_w f
  unfold partV frN
  split
  · have hl := lay_len (picV f)
    have ha : nANMF.size = 4 := rfl
    have e : (movedV f).f1.length = 16 + (lay (picV f)).length := by
      show (putV (headV f) ++ lay (picV f)).length = _
      rw [List.length_append, head_len]
    simp only [List.length_cons, List.length_nil, Pure.weight, e]
    show 0 + 1 + (nANMF.size + _ + 0) ≤ _
    omega
  · omega
theorem parts_w (m : Bool) : ∀ l : List Fr, (l.flatMap (partV m)).length + Pure.weight (l.flatMap (partV m)) ≤ 39 * l.length + sumN frN l
  | [] => by simp [Pure.weight]
  | f :: l => by
    have h1 := part_w m f
    have h2 := parts_w m l
    rw [List.flatMap_cons, List.length_append, weight_append, List.length_cons]
    show _ ≤ _ + (frN f + sumN frN l)
    omega
theorem opt_w {has : Bool} {nm : ByteArray} {b : List Int} (h : nm.size = 4) : (opt has nm b).length + Pure.weight (opt has nm b) ≤ 5 + b.length := by
  unfold opt
  cases has
  · simp [Pure.weight]
  · simp [Pure.weight, h]; omega
section
variable {y : Dc}
theorem chunks_w (hs : soundP y) (hn : smallN y < 20000) : (chunksV y).length + Pure.weight (chunksV y) < 60000 := by
  unfold smallN at hn
  cases h0 : y.f0 with
  | false =>
    have h1 := parts_w y.f4 y.f13
    have h2 := opt_w (has := y.f10) (nm := nICCP) (b := y.f7) rfl
    have h3 := opt_w (has := y.f4) (nm := nANIM) (b := putV (aniV y)) rfl
    have h4 := opt_w (has := y.f11) (nm := nEXIF) (b := y.f8) rfl
    have h5 := opt_w (has := y.f12) (nm := nXMP) (b := y.f9) rfl
    have h6 := top_len y
    have h7 := ani_len y
    have h8 : nVP8X.size = 4 := rfl
    rw [chunks_eq h0]
    unfold tailL
    simp only [List.length_cons, List.length_append, Pure.weight, weight_append, h8]
    omega
  | true =>
    obtain ⟨_, hs⟩ := hs
    rw [if_pos h0] at hs
    obtain ⟨f, hf, hk, hy⟩ := hs
    have hp : (payS f.f7).size = 4 := by unfold payS; split <;> rfl
    have h1 := fr_mem (show f ∈ y.f13 by rw [hf]; exact List.mem_cons_self)
    rw [plain_eq hk hf hy]
    simp only [List.length_cons, List.length_nil, Pure.weight, hp]
    omega
theorem opt_mem {has : Bool} {nm : ByteArray} {b : List Int} {x : Ch} (h : x ∈ opt has nm b) : x = ⟨nm, b⟩ := by
  unfold opt at h
  cases has
  · simp at h
  · simpa using h
theorem putV_bytes : ∀ l : List Nm, Bytes (putV l)
  | [] => fun x hx => by simp [putV] at hx
  | n :: l => by
    rw [show putV (n :: l) = Pure.bytes n.f1.toNat n.f0 ++ putV l from List.flatMap_cons]
    exact (bytes_bytes _ _).app (putV_bytes l)
theorem pic_mem {f : Fr} (ho : okFr f) (hm : moreB f.f10 = true) : ∀ x ∈ picV f, okName x.f0 = true ∧ Bytes x.f1 := fun x hx => by
  refine ⟨pic_ok hm x hx, ?_⟩
  rw [pic_eq] at hx
  unfold alphaV at hx
  rcases List.mem_append.1 hx with h | h
  · split at h
    · rw [List.mem_singleton.1 h]; exact ho.al.1
    · simp at h
  · rcases List.mem_cons.1 h with rfl | h
    · exact ho.da.1
    · exact (ho.mo.2 x h).2.1
theorem more_of (hs : soundP y) (h0 : y.f0 = false) {f : Fr} (hf : f ∈ y.f13) : moreB f.f10 = true := by
  obtain ⟨_, hs⟩ := hs
  rw [if_neg (by rw [h0]; simp)] at hs
  have hP := hs.2.2.2.2.2.2.2.2.2 f hf
  unfold frameP at hP
  obtain ⟨_, _, _, _, hP⟩ := hP
  split at hP
  · exact hP
  · rw [List.length_eq_zero_iff.1 hP.2.2.2.2.2.2.2]; rfl
theorem mayP_of (hs : soundP y) (h0 : y.f0 = false) (hn : smallN y < 20000) {f : Fr} (hf : f ∈ y.f13) : mayP f := by
  have hm := more_of hs h0 hf
  have h1 := fr_mem hf
  have h2 := pic_w f
  unfold smallN at hn
  obtain ⟨_, hs⟩ := hs
  rw [if_neg (by rw [h0]; simp)] at hs
  have hw := hs.1
  unfold wideP at hw
  have hP := hs.2.2.2.2.2.2.2.2.2 f hf
  unfold frameP sidesP at hP
  obtain ⟨⟨⟨a0, a1, a2, a3, a4, a5⟩, _⟩, _, b0, b1, _⟩ := hP
  exact ⟨⟨a0, by omega⟩, ⟨a1, by omega⟩, ⟨a2, by omega⟩, ⟨a3, by omega⟩, ⟨b0, b1⟩, hm, by omega⟩
theorem chunks_mem (hs : soundP y) (ho : okDc y) : ∀ x ∈ chunksV y, okName x.f0 = true ∧ Bytes x.f1 := by
  intro x hx
  cases h0 : y.f0 with
  | false =>
    have hmo : moreB y.f14 = true := by
      obtain ⟨_, hs⟩ := hs
      rw [if_neg (by rw [h0]; simp)] at hs
      exact hs.2.2.2.2.2.1
    rw [chunks_eq h0] at hx
    unfold tailL at hx
    simp only [List.mem_cons, List.mem_append, List.mem_flatMap] at hx
    rcases hx with rfl | hx | hx | ⟨f, hf, hx⟩ | hx | hx | hx
    · exact ⟨(by decide : okName nVP8X = true), putV_bytes _⟩
    · rw [opt_mem hx]; exact ⟨(by decide : okName nICCP = true), ho.pr.1⟩
    · rw [opt_mem hx]; exact ⟨(by decide : okName nANIM = true), putV_bytes _⟩
    · have hp := pic_mem (ho.fr.2 f hf) (more_of hs h0 hf)
      unfold partV at hx
      split at hx
      · rw [List.mem_singleton.1 hx]
        exact ⟨by show okName nANMF = true; decide, (putV_bytes _).app (lay_bytes fun x hx => (hp x hx).2)⟩
      · exact hp x hx
    · rw [opt_mem hx]; exact ⟨(by decide : okName nEXIF = true), ho.ex.1⟩
    · rw [opt_mem hx]; exact ⟨(by decide : okName nXMP = true), ho.xm.1⟩
    · exact ⟨own_name (List.all_eq_true.1 hmo x hx), (ho.mo.2 x hx).2.1⟩
  | true =>
    obtain ⟨_, hs⟩ := hs
    rw [if_pos h0] at hs
    obtain ⟨f, hf, hk, hy⟩ := hs
    rw [plain_eq hk hf hy] at hx
    rw [List.mem_singleton.1 hx]
    refine ⟨?_, (ho.fr.2 f (by rw [hf]; exact List.mem_cons_self)).da.1⟩
    show okName (payS f.f7) = true
    unfold payS
    split <;> decide
theorem file_sz (hs : soundP y) (hn : smallN y < 20000) : (lay (chunksV y)).length < 400000 ∧ (file (chunksV y)).length < 400012 := by
  have h1 := chunks_w hs hn
  have h2 := lay_len (chunksV y)
  have h3 := file_len (chunksV y)
  omega
theorem parse_back (hs : soundP y) (ho : okDc y) (hn : smallN y < 20000) (most : Int) :
    ((y.f13.length : Int) ≤ most ∨ y.f13 = [] → parseV (file (chunksV y)) most = (y, 0)) ∧ (¬ (y.f13.length : Int) ≤ most → y.f13 ≠ [] → parseV (file (chunksV y)) most = (z27, 4)) := by
  have hm := chunks_mem hs ho
  have hz := file_sz hs hn
  have hwt := chunks_w hs hn
  have hsc := scan_file (l := chunksV y) (fun x hx => (hm x hx).1) (fun x hx => ⟨(hm x hx).2, by have := weight_mem hx; omega⟩) (by omega) []
  rw [List.append_nil] at hsc
  have hb := read_back hs ⟨ho.i5.1, by have := ho.i5.2; omega⟩ (fun h0 _ f hf => by
    have hP : frameP f y := by
      obtain ⟨_, hs⟩ := hs
      rw [if_neg (by rw [h0]; simp)] at hs
      exact hs.2.2.2.2.2.2.2.2.2 f hf
    unfold frameP sidesP at hP
    have hp := pic_mem (ho.fr.2 f hf) (more_of hs h0 hf)
    have h1 := fr_mem hf
    have h2 := pic_w f
    unfold smallN at hn
    exact part_read (mayP_of hs h0 hn hf) hP.2.1 hP.1.2.1 hP.1.2.2 fun x hx => ⟨(hp x hx).2, by have := weight_mem hx; omega⟩) most
  have e : parseV (file (chunksV y)) most = endV (readV (chunksV y) most) := by
    unfold parseV
    rw [hsc, if_pos rfl]
  rw [e]
  constructor
  · intro h
    rw [hb.1 h]
    unfold endV
    rw [if_pos rfl, if_pos hs]
  · intro h1 h2
    unfold endV
    rw [hb.2 h1 h2, if_neg (by decide)]
theorem mayD_of (hs : soundP y) (h0 : y.f0 = false) (ho : okDc y) (hn : smallN y < 20000) : mayD y := by
  have hwt := chunks_w hs hn
  have hmp := fun f (hf : f ∈ y.f13) => mayP_of hs h0 hn hf
  have hcl : chunksV y = c6V y ++ y.f14 := by unfold chunksV; rw [if_neg (by rw [h0]; simp)]
  rw [hcl] at hwt
  have hpn : ∀ f ∈ y.f13, f.f10.length ≤ 1000000 := fun f hf => by
    have h1 := fr_mem hf
    unfold smallN at hn
    omega
  obtain ⟨_, hs⟩ := hs
  rw [if_neg (by rw [h0]; simp)] at hs
  obtain ⟨hw, _, h61, h62, _⟩ := hs
  exact ⟨h0, ho, hw.1, ⟨hw.2.1, hw.2.2⟩, ⟨ho.i5.1, by have := ho.i5.2; omega⟩, ⟨h61, h62⟩, fun _ => hmp, hpn, by omega⟩
theorem all_small (hn : smallN y < 20000) : (allCh y).length ≤ 1001000 ∧ weightI y ≤ 4611686018427387904 := by
  unfold smallN at hn
  have hf := flat_len (l := y.f13) (g := fun f : Fr => f.f10) (m := 1000) fun f hf => by
    have h1 := fr_mem hf
    show f.f10.length ≤ 1000
    omega
  have h2 : y.f13.length * 1000 ≤ 1000 * 1000 := Nat.mul_le_mul_right _ (by omega)
  have e : allCh y = y.f14 ++ y.f13.flatMap (fun f : Fr => f.f10) := rfl
  have hl : (allCh y).length ≤ 1001000 := by rw [e, List.length_append]; omega
  refine ⟨hl, ?_⟩
  have hc : ∀ c ∈ allCh y, wCh c ≤ 60000 := fun c hc => by
    unfold wCh
    rw [e] at hc
    rcases List.mem_append.1 hc with hc | hc
    · have := weight_mem hc; omega
    · obtain ⟨f, hf, hc⟩ := List.mem_flatMap.1 hc
      have h1 := fr_mem hf
      have h3 := weight_mem (show c ∈ f.f10 from hc)
      omega
  have h3 : sumW wFr y.f13 ≤ y.f13.length * 60000 := sumW_le fun f hf => by
    have h1 := fr_mem hf
    unfold wFr
    omega
  have h4 := sumW_le hc
  unfold weightI
  omega
end
set_option maxHeartbeats 8000000 in
set_option maxRecDepth 100000 in
theorem PrintS_calls (y : Dc) (ds : List Value) (w : World) (hy : k27.K w y ds) (ho : okDc y) (hn : smallN y < 20000) (b : Bool) (hb : b = true ↔ soundP y) :
    Calls Try.prog 11 #[.agg ds.toArray] w fun e w' => ∃ v : Value, e = .returned (.tuple #[v, .int .i64 (printE b)]) ∧ Kd.R (Kd.int .u8) 5 w' w.heap.size (fun _ => True) v (printV b (chunksV y)) ∧ Below w.heap.size w w' := by
  have ha := all_small hn
  refine Print_calls y ds (chunksV y) w hy ho ha.2 (by omega) b hb (fun ht W hW => ?_) (fun ht => ?_)
  · have hs := hb.1 ht
    have hyW := k27.K_below hW hy
    cases h0 : y.f0 with
    | false =>
      have hcl : chunksV y = c6V y ++ y.f14 := by unfold chunksV; rw [if_neg (by rw [h0]; simp)]
      rw [hcl]
      exact chunksW_calls y ds W hyW (mayD_of hs h0 ho hn)
    | true =>
      have hcl : chunksV y = picV (rd_T44 y.f13 0) := by unfold chunksV; rw [if_pos h0]; rfl
      rw [hcl]
      have hs2 := hs.2
      rw [if_pos h0] at hs2
      obtain ⟨f, hf, hk, _⟩ := hs2
      have e : rd_T44 y.f13 0 = f := by rw [hf]; rfl
      have hfm : f ∈ y.f13 := by rw [hf]; exact List.mem_cons_self
      have h1 := fr_mem hfm
      unfold smallN at hn
      rw [e]
      exact chunksP_calls y ds W f e.symm hyW h0 (by rw [hf]; exact Nat.zero_lt_one) (ho.fr.2 f hfm) (by omega)
  · have hs := hb.1 ht
    have h1 := chunks_w hs hn
    exact ⟨by omega, fun x hx => (chunks_mem hs ho x hx).1⟩
end Go.Proofs.Ythkocpcjcpohcaa.P
end
section
namespace Go.Proofs.Ythkocpcjcpohcaa.P
open Go Go.RowKit Go.Proofs.YthkocpcjcpohcaaW.PrintWords Go.Proofs.YthkocpcjcpohcaaW.PrintLast Go.Proofs.YthkocpcjcpohcaaW.PrintMore Go.Proofs.Ythkocpcjcpohcaa.U Go.Proofs.Ythkocpcjcpohcaa.Pure
set_option linter.unusedVariables false
set_option linter.unusedSimpArgs false
attribute [local go_sem] max2_int min2_int max_two min_two max_three min_three max_four min_four
theorem file_bytes {l : List Ch} (h : ∀ x ∈ l, Bytes x.f1) : Bytes (file l) := by
  unfold file
  have h1 : Bytes [82, 73, 70, 70] := fun x hx => by simp only [List.mem_cons, List.not_mem_nil, or_false] at hx; omega
  have h2 : Bytes [87, 69, 66, 80] := fun x hx => by simp only [List.mem_cons, List.not_mem_nil, or_false] at hx; omega
  exact ((h1.app (bytes_bytes 4 _)).app h2).app (lay_bytes h)
theorem plain_sound {k : Int} {d : List Int} (hk : k = 1 ∨ k = 2) (hd : d.length ≤ 1000000) : soundP (plainD k d) := by
  refine ⟨⟨?_, (by decide : ((1 : Nat) : Int) ≤ 4096)⟩, ?_⟩
  · show ((0 : Nat) : Int) + ((0 : Nat) : Int) + ((0 : Nat) : Int) + ((((0 : Nat) : Int) + (d.length : Int) + 32) + 0) + 0 ≤ _
    omega
  · rw [if_pos (show (plainD k d).f0 = true from rfl)]
    refine ⟨⟨0, 0, 0, 0, 0, false, false, k, [], d, []⟩, rfl, decide_eq_true ?_, rfl⟩
    rcases hk with rfl | rfl
    · exact .inr ⟨rfl, rfl⟩
    · exact .inl rfl
set_option maxHeartbeats 8000000 in
set_option maxRecDepth 100000 in
theorem answers_calls (w : World) : Calls Try.prog 10 #[] w fun e w' => e = .returned (.bool true) ∧ Below w.heap.size w w' := by
  have hs : soundP (plainD 1 [7]) := plain_sound (.inl rfl) (by decide)
  have ho : okDc (plainD 1 [7]) := plain_ok ⟨by decide, by decide⟩ ⟨fun x hx => by rw [List.mem_singleton.1 hx]; exact ⟨by decide, by decide⟩, by decide⟩
  have hn : smallN (plainD 1 [7]) < 20000 := by decide
  have hp := (parse_back hs ho hn 1).1 (.inl (by decide))
  have hz := file_sz hs hn
  have hB := file_bytes fun x hx => (chunks_mem hs ho x hx).2
  have hal := all_small hn
  have hlen : (((plainD 1 [7]).f13.length : Int) == 1) = true := rfl
  obtain ⟨y, hy⟩ : ∃ y, plainD 1 [7] = y := ⟨_, rfl⟩
  have hK : ∀ W, Below ((w.alloc (.cells #[.int .u8 7] 5)).alloc (.cells #[.int .i64 0, .int .i64 0, .int .i64 0, .int .i64 0, .int .i64 0, .bool false, .bool false, .int .i64 1, .slice none 0 0, .slice (some ⟨w.heap.size, 0, none⟩) 1 1, .slice none 0 0] 44)).heap.size ((w.alloc (.cells #[.int .u8 7] 5)).alloc (.cells #[.int .i64 0, .int .i64 0, .int .i64 0, .int .i64 0, .int .i64 0, .bool false, .bool false, .int .i64 1, .slice none 0 0, .slice (some ⟨w.heap.size, 0, none⟩) 1 1, .slice none 0 0] 44)) W →
      k27.K W (plainD 1 [7]) [.bool true, .int .i64 0, .int .i64 0, .bool false, .bool false, .int .u32 0, .int .i64 0, .slice none 0 0, .slice none 0 0, .slice none 0 0, .bool false, .bool false, .bool false, .slice (some ⟨w.heap.size + 1, 0, none⟩) 1 1, .slice none 0 0] := fun W hW => by
    have hd : (Kd.int .u8).C (w.alloc (.cells #[.int .u8 7] 5)) (some ⟨w.heap.size, 0, none⟩) 1 [7] := Kd.C_of_reads (readsInt_of.1 (rowReads ((St.refl w).allocRow 5 .u8 [7] (by decide))))
    have hh := heap_alloc_new (w.alloc (.cells #[.int .u8 7] 5)) (.cells #[.int .i64 0, .int .i64 0, .int .i64 0, .int .i64 0, .int .i64 0, .bool false, .bool false, .int .i64 1, .slice none 0 0, .slice (some ⟨w.heap.size, 0, none⟩) 1 1, .slice none 0 0] 44)
    rw [show (w.alloc (.cells #[.int .u8 7] 5)).heap.size = w.heap.size + 1 by simp] at hh
    refine k27.K_below hW (k27_mk _ (plainD 1 [7]) (A7 := none) (c7 := 0) (Nat.le_refl 0) (Kd.C_nil _ _) (A8 := none) (c8 := 0) (Nat.le_refl 0) (Kd.C_nil _ _) (A9 := none) (c9 := 0) (Nat.le_refl 0) (Kd.C_nil _ _) (Nat.le_refl 1) (C_one (cs := [.int .i64 0, .int .i64 0, .int .i64 0, .int .i64 0, .int .i64 0, .bool false, .bool false, .int .i64 1, .slice none 0 0, .slice (some ⟨w.heap.size, 0, none⟩) 1 1, .slice none 0 0]) hh ?_) (A14 := none) (c14 := 0) (Nat.le_refl 0) (Kd.C_nil _ _))
    exact k44_mk _ ⟨0, 0, 0, 0, 0, false, false, 1, [], [7], []⟩ (A8 := none) (c8 := 0) (Nat.le_refl 0) (Kd.C_nil _ _) (Nat.le_refl 1) (Kd.C_below hd (below_alloc (Below.refl _ _) _)) (A10 := none) (c10 := 0) (Nat.le_refl 0) (Kd.C_nil _ _)
  rw [hy] at hs ho hn hp hz hB hal hlen hK
  have HPR := Aside0.mk fun (ds : List Value) (W : World) (hk : k27.K W y ds) => (PrintS_calls y ds W hk ho hn true (by simp [hs]) : Calls Try.prog 11 #[.agg ds.toArray] W fun e w' => ∃ v : Value, e = .returned (.tuple #[v, .int .i64 0]) ∧ Kd.R (Kd.int .u8) 5 w' W.heap.size (fun _ => True) v (file (chunksV y)) ∧ Below W.heap.size W w')
  have HPA := Aside0.mk fun (A : Option Addr) (c : Nat) (W : World) (h : (Kd.int .u8).C W A (file (chunksV y)).length (file (chunksV y))) (hc : (file (chunksV y)).length ≤ c) => (by have h := Parse_calls A c (file (chunksV y)) 1 W h hc hB (by omega); rw [hp] at h; exact h : Calls Try.prog 14 #[.slice A (file (chunksV y)).length c, .int .i64 1] W fun x w' => ∃ (ds : List Value), x = .returned (.tuple #[.agg ds.toArray, .int .i64 0]) ∧ k27.K w' y ds ∧ Below W.heap.size W w')
  have HSO := Aside0.mk fun (ds : List Value) (W : World) (hk : k27.K W y ds) => Sound_calls y ds W hk ho hal.2 (by omega) true (by simp [hs])
  have HSA := Aside0.mk fun (cs ds : List Value) (W : World) (h1 : k27.K W y cs) (hk : k27.K W y ds) => (by have h := Same_calls y y cs ds W h1 hk ho ho; rwa [decide_eq_true rfl] at h : Calls Try.prog 19 #[.agg cs.toArray, .agg ds.toArray] W fun e w' => e = .returned (.bool true) ∧ Below W.heap.size W w')
  have HK := Aside0.mk hK
  have HP := Aside0.mk hp
  clear hs ho hn hp hz hB hal hK hy
  go_enter Try.func10, Try.ntmps10
  go_upto_region 2 with (fail)
  obtain ⟨W2, hW2⟩ : ∃ W2, W2 = (w.alloc (.cells #[.int .u8 7] 5)).alloc (.cells #[.int .i64 0, .int .i64 0, .int .i64 0, .int .i64 0, .int .i64 0, .bool false, .bool false, .int .i64 1, .slice none 0 0, .slice (some ⟨w.heap.size, 0, none⟩) 1 1, .slice none 0 0] 44) := ⟨_, rfl⟩
  have hg2 : W2.heap.size = w.heap.size + 1 + 1 := by rw [hW2]; simp
  have hb2 : Below w.heap.size w W2 := by rw [hW2]; exact below_alloc (below_alloc (Below.refl _ _) _) _
  rw [← hW2] at HK ⊢
  rw [← hg2]
  clear hW2
  have HS3 := Aside0.mk ((St.refl W2).alloc #[.bool true, .int .i64 0, .int .i64 0, .bool false, .bool false, .int .u32 0, .int .i64 0, .slice none 0 0, .slice none 0 0, .slice none 0 0, .bool false, .bool false, .bool false, .slice (some ⟨w.heap.size + 1, 0, none⟩) 1 1, .slice none 0 0] 27)
  obtain ⟨W3, hW3⟩ : ∃ W3, W3 = W2.alloc (.cells #[.bool true, .int .i64 0, .int .i64 0, .bool false, .bool false, .int .u32 0, .int .i64 0, .slice none 0 0, .slice none 0 0, .slice none 0 0, .bool false, .bool false, .bool false, .slice (some ⟨w.heap.size + 1, 0, none⟩) 1 1, .slice none 0 0] 27) := ⟨_, rfl⟩
  obtain ⟨gd, hgd⟩ : ∃ gd, gd = W2.heap.size := ⟨_, rfl⟩
  rw [← hW3, ← hgd] at HS3 ⊢
  have HB2 := Aside0.mk hb2
  clear hW3 hg2 hb2 hgd
  have z := fun i => HS3.out.cell i
  go_upto_region 3 with (go_at_call 11; refine (HPR.out _ _ (HK.out _ HS3.out.below)).mono ?_; rintro e w4 ⟨v, rfl, hr, hb⟩; obtain ⟨B, c, rfl, hc, hC⟩ := Kd.R_reads hr; have HX := Aside0.mk (HPA.out B c w4 hC hc); have HS4 := Aside0.mk (HS3.out.belowR hb); clear hr hb hc hC)
  clear z
  go_upto_region 4 with (go_at_call 14; refine HX.out.mono ?_; rintro e w5 ⟨ds, rfl, hk, hb⟩; obtain ⟨C7, k7, C8, k8, C9, k9, C13, k13, C14, k14, rfl, l1, g1, l2, g2, l3, g3, l4, g4, l5, g5⟩ := k27_open hk; clear g1 g2 g3 g4 g5 l1 l2 l3 l4 l5; have HS5 := Aside0.mk ((HS4.out.belowR hb).alloc #[.bool y.f0, .int .i64 y.f1, .int .i64 y.f2, .bool y.f3, .bool y.f4, .int .u32 y.f5, .int .i64 y.f6, .slice C7 y.f7.length k7, .slice C8 y.f8.length k8, .slice C9 y.f9.length k9, .bool y.f10, .bool y.f11, .bool y.f12, .slice C13 y.f13.length k13, .slice C14 y.f14.length k14] 27); have HK5 := Aside0.mk (k27.K_below (below_alloc (Below.refl _ _) (.cells #[.bool y.f0, .int .i64 y.f1, .int .i64 y.f2, .bool y.f3, .bool y.f4, .int .u32 y.f5, .int .i64 y.f6, .slice C7 y.f7.length k7, .slice C8 y.f8.length k8, .slice C9 y.f9.length k9, .bool y.f10, .bool y.f11, .bool y.f12, .slice C13 y.f13.length k13, .slice C14 y.f14.length k14] 27)) hk); clear hk hb)
  clear HX HS3 HS4
  obtain ⟨W5, hW5⟩ : ∃ W5, W5 = w5.alloc (.cells #[.bool y.f0, .int .i64 y.f1, .int .i64 y.f2, .bool y.f3, .bool y.f4, .int .u32 y.f5, .int .i64 y.f6, .slice C7 y.f7.length k7, .slice C8 y.f8.length k8, .slice C9 y.f9.length k9, .bool y.f10, .bool y.f11, .bool y.f12, .slice C13 y.f13.length k13, .slice C14 y.f14.length k14] 27) := ⟨_, rfl⟩
  obtain ⟨g5, hg5⟩ : ∃ g5, g5 = w5.heap.size := ⟨_, rfl⟩
  rw [← hW5, ← hg5] at HS5 ⊢
  rw [← hW5] at HK5
  clear hW5 hg5
  have z := fun i => HS5.out.cell i
  have z1 := fun i => HS5.out.swap.cell i
  go_wp2_with (first
    | (go_at_call 12; refine (HSO.out _ _ (HK.out _ HS5.out.below)).mono ?_; rintro e w6 ⟨rfl, hb⟩; have HS6 := Aside0.mk (HS5.out.belowR hb); have z2 := fun i => HS6.out.cell i; have z3 := fun i => HS6.out.swap.cell i; have HK6 := Aside0.mk (k27.K_below hb HK5.out); clear hb z z1)
    | (go_at_call 19; refine (HSA.out _ _ _ HK6.out (HK.out _ HS6.out.below)).mono ?_; rintro e w7 ⟨rfl, hb⟩; have HS7 := Aside0.mk (HS6.out.belowR hb); have z4 := fun i => HS7.out.cell i; clear hb z2 z3))
  go_ret
  exact ⟨rfl, bthen HB2.out HS7.out.below⟩
end Go.Proofs.Ythkocpcjcpohcaa.P
end
section
namespace Go.Proofs.Ythkocpcjcpohcaa.Pure
open Go Go.RowKit Go.Proofs.Ythkocpcjcpohcaa.P Go.Proofs.YthkocpcjcpohcaaW.PrintWords Go.Proofs.YthkocpcjcpohcaaW.PrintLast Go.Proofs.YthkocpcjcpohcaaW.PrintMore Go.Proofs.Ythkocpcjcpohcaa.U
set_option linter.unusedVariables false
set_option linter.unusedSimpArgs false
attribute [local go_sem] max2_int min2_int max_two min_two max_three min_three max_four min_four
def kindN (b : Bool) : Int := if b = true then 2 else 1
theorem kindN_or (b : Bool) : kindN b = 1 ∨ kindN b = 2 := by cases b <;> simp [kindN]
theorem file_one {k : Int} {d : List Int} (hk : k = 1 ∨ k = 2) (hd : Bytes d) (hl : d.length ≤ 500) : parseV (file [⟨payS k, d⟩]) 1 = (plainD k d, 0) := by
  have hs : soundP (plainD k d) := plain_sound hk (by omega)
  have ho : okDc (plainD k d) := plain_ok (by rcases hk with rfl | rfl <;> exact ⟨by decide, by decide⟩) ⟨hd, by omega⟩
  have hn : smallN (plainD k d) < 20000 := by
    show 0 + 0 + 0 + 20 * 1 + 20 * 0 + 0 + (0 + d.length + 20 * 0 + 0 + 0) < 20000
    omega
  have e : chunksV (plainD k d) = [⟨payS k, d⟩] := by
    have hkb : kindB ⟨0, 0, 0, 0, 0, false, false, k, [], d, []⟩ = true := decide_eq_true (by
      rcases hk with rfl | rfl
      · exact .inr ⟨rfl, rfl⟩
      · exact .inl rfl)
    exact plain_eq (f := ⟨0, 0, 0, 0, 0, false, false, k, [], d, []⟩) hkb rfl rfl
  have hp := (parse_back hs ho hn 1).1 (.inl (by exact Int.le_refl 1))
  rwa [e] at hp
theorem pay_ok (k : Int) : okName (payS k) = true := by
  unfold payS
  split <;> decide
theorem file_two {k : Int} {d : List Int} (hk : k = 1 ∨ k = 2) (hd : Bytes d) (hl : d.length ≤ 500) : parseV (file [⟨payS k, d⟩, ⟨payS k, d⟩]) 1 = (z27, 3) := by
  have hp : (payS k).size = 4 := by unfold payS; split <;> rfl
  have hm : ∀ x ∈ ([⟨payS k, d⟩, ⟨payS k, d⟩] : List Ch), x = ⟨payS k, d⟩ := fun x hx => by simpa using hx
  have hll := lay_len ([⟨payS k, d⟩, ⟨payS k, d⟩] : List Ch)
  simp only [Pure.weight, hp, List.length_cons, List.length_nil] at hll
  have hsc := scan_file (l := [⟨payS k, d⟩, ⟨payS k, d⟩]) (fun x hx => by rw [hm x hx]; exact pay_ok k) (fun x hx => by rw [hm x hx]; exact ⟨hd, by show d.length < _; omega⟩) (by omega) []
  rw [List.append_nil] at hsc
  unfold parseV
  rw [hsc, if_pos rfl]
  unfold readV
  rw [pay_head, if_neg (by simp), plain_still hk, if_neg (by decide)]
  unfold endV plainE
  simp
theorem file_none : parseV (file []) 1 = (z27, 3) := by
  have hsc := scan_file (l := []) (fun x hx => by simp at hx) (fun x hx => by simp at hx) (by decide) []
  rw [List.append_nil] at hsc
  unfold parseV
  rw [hsc, if_pos rfl]
  have e : readV [] 1 = (plainY (stillV [] 0 1 0 0), 3) := rfl
  rw [e]
  unfold endV
  simp
theorem File_calls (A : Option Addr) (c n : Nat) (l : List Ch) (hn : n = l.length) (W : World) (hr : k42.C W A l.length l) (hc : l.length ≤ c) (hs : l.length + Pure.weight l < 9000000) :
    Calls Try.prog 16 #[.slice A n c] W fun e w' => ∃ (B : Option Addr) (cB : Nat), e = .returned (.slice B (file l).length cB) ∧ (file l).length ≤ cB ∧ (Kd.int .u8).C w' B (file l).length (file l) ∧ Below W.heap.size W w' := by
  subst hn
  obtain ⟨k, hk⟩ := (File_ev hs).rounds
  refine (marquetryref24_File.calls k A c l _ W hr hc hk).mono ?_
  rintro e w1 ⟨v, rfl, hR, hb⟩
  obtain ⟨B, cB, rfl, hcB, hC⟩ := Kd.R_reads hR
  exact ⟨B, cB, rfl, hcB, hC, hb⟩
set_option maxHeartbeats 8000000 in
set_option maxRecDepth 100000 in
theorem BoxPlain (A : Option Addr) (c : Nat) (x : List Int) (lossy : Bool) (w : World) (_ : x.length ≤ maxLen) (h1 : x.length * 1 ≤ 140737488351232) (h2 : ∀ y ∈ x, (Lit.int .u8 y).wf = true) (hr : (Kd.int .u8).C w A x.length x) (hc : x.length ≤ c) :
    Calls Try.prog 6 #[.slice A x.length c, .bool lossy] w fun e w' => e = .returned (.bool true) ∧ Below w.heap.size w w' := by
  have hB := bytes_wf h2
  have HA := Aside0.mk fun (W : World) => answers_calls W
  by_cases hl : 500 < x.length
  · have y1 : decide ((500 : Int) < (x.length : Int)) = true := decide_eq_true (by omega)
    have y2 : decide (500 < x.length) = true := decide_eq_true hl
    clear hr hc hl
    go_enter Try.func6, Try.ntmps6
    go_wp2_with (go_at_call 10; refine (HA.out _).mono ?_; rintro e w1 ⟨rfl, hb⟩; have HB := Aside0.mk hb; clear hb)
    go_ret
    exact ⟨rfl, HB.out⟩
  have y1 : decide ((500 : Int) < (x.length : Int)) = false := decide_eq_false (by omega)
  have y2 : decide (500 < x.length) = false := decide_eq_false hl
  have p1 := file_one (k := kindN lossy) (kindN_or lossy) hB (by omega)
  have p2 := file_two (k := kindN lossy) (kindN_or lossy) hB (by omega)
  have hsz : (payS (kindN lossy)).size = 4 := by unfold payS; split <;> rfl
  have hb1 : Bytes (file [⟨payS (kindN lossy), x⟩]) := file_bytes fun z hz => by rw [List.mem_singleton.1 hz]; exact hB
  have hb2 : Bytes (file [⟨payS (kindN lossy), x⟩, ⟨payS (kindN lossy), x⟩]) := file_bytes fun z hz => by
    have : z = ⟨payS (kindN lossy), x⟩ := by simpa using hz
    rw [this]; exact hB
  have hl1 := lay_len ([⟨payS (kindN lossy), x⟩] : List Ch)
  have hl2 := lay_len ([⟨payS (kindN lossy), x⟩, ⟨payS (kindN lossy), x⟩] : List Ch)
  simp only [Pure.weight, hsz, List.length_cons, List.length_nil] at hl1 hl2
  have hf1 := file_len ([⟨payS (kindN lossy), x⟩] : List Ch)
  have hf2 := file_len ([⟨payS (kindN lossy), x⟩, ⟨payS (kindN lossy), x⟩] : List Ch)
  have HF1 := Aside0.mk fun (A : Option Addr) (c n : Nat) (hn : n = 1) (W : World) (hr : k42.C W A 1 [⟨payS (kindN lossy), x⟩]) (hc : 1 ≤ c) => File_calls A c n [⟨payS (kindN lossy), x⟩] hn W hr hc (by simp only [Pure.weight, hsz, List.length_cons, List.length_nil]; omega)
  have HF2 := Aside0.mk fun (A : Option Addr) (c n : Nat) (hn : n = 2) (W : World) (hr : k42.C W A 2 [⟨payS (kindN lossy), x⟩, ⟨payS (kindN lossy), x⟩]) (hc : 2 ≤ c) => File_calls A c n [⟨payS (kindN lossy), x⟩, ⟨payS (kindN lossy), x⟩] hn W hr hc (by simp only [Pure.weight, hsz, List.length_cons, List.length_nil]; omega)
  have HF3 := Aside0.mk fun (W : World) => File_calls none 0 0 [] rfl W (Kd.C_nil _ W) (Nat.le_refl 0) (by decide)
  have HPA := Aside0.mk fun (b : List Int) (y : Dc) (e1 : Int) (hb : Bytes b) (hlen : b.length ≤ 1000000) (hp : parseV b 1 = (y, e1)) (A : Option Addr) (c : Nat) (W : World) (h : (Kd.int .u8).C W A b.length b) (hc : b.length ≤ c) => (by have h := Parse_calls A c b 1 W h hc hb hlen; rw [hp] at h; exact h : Calls Try.prog 14 #[.slice A b.length c, .int .i64 1] W fun x w' => ∃ (ds : List Value), x = .returned (.tuple #[.agg ds.toArray, .int .i64 e1]) ∧ k27.K w' y ds ∧ Below W.heap.size W w')
  have HP1 := Aside0.mk (HPA.out _ _ _ hb1 (by omega) p1)
  have HP2 := Aside0.mk (HPA.out _ _ _ hb2 (by omega) p2)
  have HP3 := Aside0.mk (HPA.out _ _ _ (file_bytes fun z hz => by simp at hz) (by decide) file_none)
  have HSM := Aside0.mk fun (A1 : Option Addr) (c1 : Nat) (W : World) (h1 : (Kd.int .u8).C W A1 x.length x) (hc1 : x.length ≤ c1) (h2 : (Kd.int .u8).C W A x.length x) => (by
    obtain ⟨k, hk⟩ := (same_ev x (by omega)).rounds
    exact marquetryref01_Same.calls k A1 c1 x A c x _ W h1 hc1 h2 hc hk : Calls Try.prog 15 #[.slice A1 x.length c1, .slice A x.length c] W fun e w' => e = .returned (.bool true) ∧ Drawn0 W w')
  have HR := Aside0.mk hr
  have HC := Aside0.mk hc
  obtain ⟨k, hk⟩ : ∃ k, kindN lossy = k := ⟨_, rfl⟩
  obtain ⟨nm, hnm⟩ : ∃ nm, payS k = nm := ⟨_, rfl⟩
  rw [hk] at HF1 HF2 HP1 HP2
  rw [hnm] at HF1 HF2 HP1 HP2
  have HYF : Aside0 ((plainD k x).f0 = true ∧ (plainD k x).f13.length = 1 ∧ (rd_T44 (plainD k x).f13 0).f7 = k ∧ (rd_T44 (plainD k x).f13 0).f9 = x) := ⟨⟨rfl, rfl, rfl, rfl⟩⟩
  obtain ⟨y, hy⟩ : ∃ y, plainD k x = y := ⟨_, rfl⟩
  obtain ⟨y2, hy2⟩ : ∃ y2, z27 = y2 := ⟨_, rfl⟩
  rw [hy] at HP1 HYF
  rw [hy2] at HP2 HP3
  clear hy hy2
  have hcase : (lossy = false ∧ nm = ⟨#[86, 80, 56, 76]⟩ ∧ k = 1) ∨ (lossy = true ∧ nm = ⟨#[86, 80, 56, 32]⟩ ∧ k = 2) := by
    subst hnm hk
    cases lossy with
    | false => exact .inl ⟨rfl, rfl, rfl⟩
    | true => exact .inr ⟨rfl, rfl, rfl⟩
  clear hr hc hl HPA p1 p2 hsz hb1 hb2 hl1 hl2 hf1 hf2 hB h1 h2 hk hnm
  have HL1 := Aside0.mk fun (W : World) (h : (Kd.int .u8).C W A x.length x) => (C_of_KL (KL_ch1 (s := nm) HC.out (Kd.C_below h (below_alloc (Below.refl _ _) _))) rfl (by decide) (rowReadsC ((St.refl W).allocCells 42 2 1 [.string nm, .slice A x.length c] rfl (by decide)) (by simp [Value.oneCell'])) : k42.C (W.alloc (.cells #[.string nm, .slice A x.length c] 42)) (some ⟨W.heap.size, 0, none⟩) 1 [⟨nm, x⟩])
  have HL2 := Aside0.mk fun (W : World) (h : (Kd.int .u8).C W A x.length x) => (C_of_KL (KL_app (KL_ch1 (s := nm) HC.out (Kd.C_below h (below_alloc (Below.refl _ _) _))) (KL_ch1 (s := nm) HC.out (Kd.C_below h (below_alloc (Below.refl _ _) _)))) rfl (by decide) (rowReadsC ((St.refl W).allocCells 42 2 2 [.string nm, .slice A x.length c, .string nm, .slice A x.length c] rfl (by decide)) (by simp [Value.oneCell'])) : k42.C (W.alloc (.cells #[.string nm, .slice A x.length c, .string nm, .slice A x.length c] 42)) (some ⟨W.heap.size, 0, none⟩) 2 [⟨nm, x⟩, ⟨nm, x⟩])
  have HS1 := Aside0.mk ((St.refl w).alloc #[.string nm, .slice A x.length c] 42)
  rcases hcase with ⟨rfl, rfl, rfl⟩ | ⟨rfl, rfl, rfl⟩
  all_goals go_enter Try.func6, Try.ntmps6
  all_goals go_upto_region 7 with (fail)
  all_goals generalize w.alloc (.cells #[.string _, .slice A x.length c] 42) = W1 at HS1 ⊢
  all_goals generalize w.heap.size = gc at HS1 ⊢
  all_goals have z := fun i => HS1.out.cell i
  all_goals go_upto_region 8 with (first
    | (go_at_call 16; refine (HF1.out _ _ _ rfl _ (HL1.out W1 (Kd.C_below HR.out HS1.out.below)) (Nat.le_refl 1)).mono ?_; rintro e w2 ⟨B, cB, rfl, hcB, hC, hb⟩; have HX := Aside0.mk (HP1.out B cB w2 hC hcB); have HS2 := Aside0.mk (HS1.out.belowR (bthen (below_alloc (Below.refl _ _) _) hb)); clear hb hC hcB)
    | (go_at_call 14; refine HX.out.mono ?_; rintro e w3 ⟨ds, rfl, hk, hb⟩; obtain ⟨C7, k7, C8, k8, C9, k9, C13, k13, C14, k14, rfl, j1, j2, j3, j4, j5, j6, j7, j8, j9, j10⟩ := k27_open hk; have H13 := Aside0.mk j8; clear j1 j2 j3 j4 j5 j6 j7 j8 j9 j10; have HS3 := Aside0.mk ((HS2.out.belowR hb).alloc #[.bool y.f0, .int .i64 y.f1, .int .i64 y.f2, .bool y.f3, .bool y.f4, .int .u32 y.f5, .int .i64 y.f6, .slice C7 y.f7.length k7, .slice C8 y.f8.length k8, .slice C9 y.f9.length k9, .bool y.f10, .bool y.f11, .bool y.f12, .slice C13 y.f13.length k13, .slice C14 y.f14.length k14] 27); clear hk hb))
  all_goals clear z HX HS2
  all_goals have H13' := Aside0.mk (Kd.C_below H13.out (below_alloc (Below.refl _ _) (.cells #[.bool y.f0, .int .i64 y.f1, .int .i64 y.f2, .bool y.f3, .bool y.f4, .int .u32 y.f5, .int .i64 y.f6, .slice C7 y.f7.length k7, .slice C8 y.f8.length k8, .slice C9 y.f9.length k9, .bool y.f10, .bool y.f11, .bool y.f12, .slice C13 y.f13.length k13, .slice C14 y.f14.length k14] 27)))
  all_goals generalize w3.alloc (.cells #[.bool y.f0, .int .i64 y.f1, .int .i64 y.f2, .bool y.f3, .bool y.f4, .int .u32 y.f5, .int .i64 y.f6, .slice C7 y.f7.length k7, .slice C8 y.f8.length k8, .slice C9 y.f9.length k9, .bool y.f10, .bool y.f11, .bool y.f12, .slice C13 y.f13.length k13, .slice C14 y.f14.length k14] 27) = W3 at HS3 H13' ⊢
  all_goals generalize w3.heap.size = g8 at HS3 ⊢
  all_goals have z := fun i => HS3.out.swap.cell i
  all_goals go_upto_region 9 with (first
    | (go_at_call 16; refine (HF2.out _ _ _ rfl _ (HL2.out W3 (Kd.C_below HR.out HS3.out.below)) (Nat.le_refl 2)).mono ?_; rintro e w4 ⟨B4, cB4, rfl, hcB, hC, hb⟩; have HX := Aside0.mk (HP2.out B4 cB4 w4 hC hcB); have hb3 := bthen (below_alloc (Below.refl W3.heap.size W3) _) hb; have HS4 := Aside0.mk (HS3.out.belowR hb3); have H14 := Aside0.mk (Kd.C_below H13'.out hb3); clear hb hb3 hC hcB)
    | (go_at_call 14; refine HX.out.mono ?_; rintro e w5 ⟨ds, rfl, hk, hb⟩; obtain ⟨D7, m7, D8, m8, D9, m9, D13, m13, D14, m14, rfl, j1, j2, j3, j4, j5, j6, j7, j8, j9, j10⟩ := k27_open hk; clear j1 j2 j3 j4 j5 j6 j7 j8 j9 j10; have hb3 := bthen hb (below_alloc (Below.refl w5.heap.size w5) (.cells #[.bool y2.f0, .int .i64 y2.f1, .int .i64 y2.f2, .bool y2.f3, .bool y2.f4, .int .u32 y2.f5, .int .i64 y2.f6, .slice D7 y2.f7.length m7, .slice D8 y2.f8.length m8, .slice D9 y2.f9.length m9, .bool y2.f10, .bool y2.f11, .bool y2.f12, .slice D13 y2.f13.length m13, .slice D14 y2.f14.length m14] 27)); have HS5 := Aside0.mk (HS4.out.belowR hb3); have H15 := Aside0.mk (Kd.C_below H14.out hb3); clear hk hb hb3))
  all_goals clear z HX HS4 H13 H13' H14
  all_goals generalize w5.alloc (.cells #[.bool y2.f0, .int .i64 y2.f1, .int .i64 y2.f2, .bool y2.f3, .bool y2.f4, .int .u32 y2.f5, .int .i64 y2.f6, .slice D7 y2.f7.length m7, .slice D8 y2.f8.length m8, .slice D9 y2.f9.length m9, .bool y2.f10, .bool y2.f11, .bool y2.f12, .slice D13 y2.f13.length m13, .slice D14 y2.f14.length m14] 27) = W5 at HS5 H15 ⊢
  all_goals go_upto_region 10 with (first
    | (go_at_call 16; refine (HF3.out _).mono ?_; rintro e w6 ⟨B6, cB6, rfl, hcB, hC, hb⟩; have HX := Aside0.mk (HP3.out B6 cB6 w6 hC hcB); have HS6 := Aside0.mk (HS5.out.belowR hb); have H16 := Aside0.mk (Kd.C_below H15.out hb); clear hb hC hcB)
    | (go_at_call 14; refine HX.out.mono ?_; rintro e w7 ⟨ds, rfl, hk, hb⟩; obtain ⟨E7, n7, E8, n8, E9, n9, E13, n13, E14, n14, rfl, j1, j2, j3, j4, j5, j6, j7, j8, j9, j10⟩ := k27_open hk; clear j1 j2 j3 j4 j5 j6 j7 j8 j9 j10; have hb3 := bthen hb (below_alloc (Below.refl w7.heap.size w7) (.cells #[.bool y2.f0, .int .i64 y2.f1, .int .i64 y2.f2, .bool y2.f3, .bool y2.f4, .int .u32 y2.f5, .int .i64 y2.f6, .slice E7 y2.f7.length n7, .slice E8 y2.f8.length n8, .slice E9 y2.f9.length n9, .bool y2.f10, .bool y2.f11, .bool y2.f12, .slice E13 y2.f13.length n13, .slice E14 y2.f14.length n14] 27)); have HS7 := Aside0.mk (HS6.out.belowR hb3); have H17 := Aside0.mk (Kd.C_below H16.out hb3); clear hk hb hb3))
  all_goals clear HX HS5 H15 HS6 H16
  all_goals generalize w7.alloc (.cells #[.bool y2.f0, .int .i64 y2.f1, .int .i64 y2.f2, .bool y2.f3, .bool y2.f4, .int .u32 y2.f5, .int .i64 y2.f6, .slice E7 y2.f7.length n7, .slice E8 y2.f8.length n8, .slice E9 y2.f9.length n9, .bool y2.f10, .bool y2.f11, .bool y2.f12, .slice E13 y2.f13.length n13, .slice E14 y2.f14.length n14] 27) = W7 at HS7 H17 ⊢
  all_goals go_wp2_with (first
    | (go_at_call 10; refine (HA.out _).mono ?_; rintro e w8 ⟨rfl, hb⟩; have hs8 := HS7.out.belowR hb; have m0 := hs8.cell 0; have m13 := hs8.cell 13; have hC := Kd.C_below H17.out hb; rw [HYF.out.2.1] at hC; obtain ⟨ad1, A8, c8, A9, c9, A10, c10, rfl, q0, q1, q2, q3, q4, q5, q6, q7, q8, q9, q10, n8, g8', n9, g9, n10, g10⟩ := at_T44 hC (0 : Int) (by decide) (by decide); simp only [Int.toNat_zero, Nat.zero_mul] at q7 q9; have h0' : ad1.add 0 = ad1 := (by cases ad1; unfold Addr.add; split <;> simp_all); rw [h0'] at q7 q9; rw [HYF.out.2.2.1] at q7; rw [HYF.out.2.2.2] at q9 n9 g9; have m0' : w8.cell? ⟨g8, 0, none⟩ = some (.bool true) := m0.trans (by rw [← HYF.out.1]; rfl); have m13' : w8.cell? ⟨g8, 13, none⟩ = some (.slice (some ad1) 1 k13) := m13.trans (by rw [← HYF.out.2.1]; rfl); have HN9 := Aside0.mk n9; have HG9 := Aside0.mk g9; have HRW := Aside0.mk (Kd.C_below HR.out hs8.below); have HB8 := Aside0.mk hs8.below; clear hb hs8 m0 m13 hC q0 q1 q2 q3 q4 q5 q6 q8 q10 n8 g8' n9 g9 n10 g10)
    | (go_at_call 15; refine (HSM.out _ _ _ HG9.out HN9.out HRW.out).mono ?_; rintro e w9 ⟨rfl, ⟨n1, rfl⟩⟩))
  all_goals go_ret
  all_goals exact ⟨rfl, pw_below_drewN HB8.out _⟩
end Go.Proofs.Ythkocpcjcpohcaa.Pure
end
