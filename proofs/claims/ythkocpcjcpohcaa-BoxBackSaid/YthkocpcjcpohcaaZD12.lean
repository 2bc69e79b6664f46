/- The part of our texts, and of the print's, that these laws' proofs use. -/
import Derived.Test.YthkocpcjcpohcaaZD11
import Derived.RegionTactic
import Derived.ChangeAlike
import Derived.BigRegion
set_option linter.unusedVariables false
set_option linter.unusedSimpArgs false
section
namespace Go.Proofs.Ythkocpcjcpohcaa.P
open Go Go.RowKit Go.Proofs.YthkocpcjcpohcaaW.PrintWords Go.Proofs.YthkocpcjcpohcaaW.PrintLast Go.Proofs.YthkocpcjcpohcaaW.PrintMore Go.Proofs.Ythkocpcjcpohcaa.U Go.Proofs.Ythkocpcjcpohcaa.Pure
attribute [local go_sem] max2_int min2_int max_two min_two max_three min_three max_four min_four
abbrev nVP8X : ByteArray := ⟨#[86, 80, 56, 88]⟩
abbrev nICCP : ByteArray := ⟨#[73, 67, 67, 80]⟩
abbrev nANIM : ByteArray := ⟨#[65, 78, 73, 77]⟩
abbrev nEXIF : ByteArray := ⟨#[69, 88, 73, 70]⟩
abbrev nXMP : ByteArray := ⟨#[88, 77, 80, 32]⟩
def flagsI (y : Dc) : Int := Go.bits .or .i64 (Go.bits .or .i64 (Go.bits .or .i64 (Go.bits .or .i64 (bitI y.f10 32) (bitI y.f3 16)) (bitI y.f11 8)) (bitI y.f12 4)) (bitI y.f4 2)
theorem flags_eq (y : Dc) : flagsI y = bitI y.f10 32 + bitI y.f3 16 + bitI y.f11 8 + bitI y.f12 4 + bitI y.f4 2 := by
  unfold flagsI bitI
  cases y.f10 <;> cases y.f3 <;> cases y.f11 <;> cases y.f12 <;> cases y.f4 <;> decide
theorem flags_bd (y : Dc) : 0 ≤ flagsI y ∧ flagsI y ≤ 62 := by
  rw [flags_eq]
  unfold bitI
  cases y.f10 <;> cases y.f3 <;> cases y.f11 <;> cases y.f12 <;> cases y.f4 <;> decide
def topV (y : Dc) : List Nm := [⟨flagsI y, 4⟩, ⟨y.f1 - 1, 3⟩, ⟨y.f2 - 1, 3⟩]
def aniV (y : Dc) : List Nm := [⟨y.f5, 4⟩, ⟨y.f6, 2⟩]
def partV (m : Bool) (f : Fr) : List Ch := if m = true then [movedV f] else picV f
def c1V (y : Dc) : List Ch := [⟨nVP8X, putV (topV y)⟩]
def c2V (y : Dc) : List Ch := addL y.f10 nICCP y.f7 (c1V y)
def c3V (y : Dc) : List Ch := addL y.f4 nANIM (putV (aniV y)) (c2V y)
def c4V (y : Dc) (k : Nat) : List Ch := c3V y ++ (y.f13.take k).flatMap (partV y.f4)
def c5V (y : Dc) : List Ch := addL y.f11 nEXIF y.f8 (c4V y y.f13.length)
def c6V (y : Dc) : List Ch := addL y.f12 nXMP y.f9 (c5V y)
def chunksV (y : Dc) : List Ch := if y.f0 = true then picV (y.f13.getD 0 z44) else c6V y ++ y.f14
structure mayD (y : Dc) : Prop where
  no : y.f0 = false
  ok : okDc y
  x1 : 1 ≤ y.f1 ∧ y.f1 ≤ 16777216
  x2 : 1 ≤ y.f2 ∧ y.f2 ≤ 16777216
  x5 : 0 ≤ y.f5 ∧ y.f5 < 4294967296
  x6 : 0 ≤ y.f6 ∧ y.f6 < 65536
  fr : y.f4 = true → ∀ f ∈ y.f13, mayP f
  pn : ∀ f ∈ y.f13, f.f10.length ≤ 1000000
  sz : (c6V y ++ y.f14).length ≤ 1000000
theorem top_fit {y : Dc} (h : mayD y) : ∀ x ∈ topV y, fitN x := by
  have hb := flags_bd y
  have h1 := h.x1
  have h2 := h.x2
  intro x hx
  simp only [topV, List.mem_cons, List.not_mem_nil, or_false] at hx
  rcases hx with rfl | rfl | rfl
  · exact ⟨hb.1, (by decide : (1 : Int) ≤ 4), (by decide : (4 : Int) ≤ 4), (by show flagsI y < 4294967296; omega)⟩
  · exact fit3 (by omega) (by omega)
  · exact fit3 (by omega) (by omega)
theorem ani_fit {y : Dc} (h : mayD y) : ∀ x ∈ aniV y, fitN x := by
  have h1 := h.x5
  have h2 := h.x6
  intro x hx
  simp only [aniV, List.mem_cons, List.not_mem_nil, or_false] at hx
  rcases hx with rfl | rfl
  · exact ⟨h1.1, (by decide : (1 : Int) ≤ 4), (by decide : (4 : Int) ≤ 4), (by show y.f5 < 4294967296; omega)⟩
  · exact ⟨h2.1, (by decide : (1 : Int) ≤ 2), (by decide : (2 : Int) ≤ 4), (by show y.f6 < 65536; omega)⟩
theorem addL_len {h : Bool} {n : ByteArray} {b : List Int} {l : List Ch} : l.length ≤ (addL h n b l).length := by
  unfold addL
  split <;> simp
theorem cap_c5 {y : Dc} (h : mayD y) : (c5V y).length ≤ 1000000 := by
  have := h.sz
  have h1 : (c5V y).length ≤ (c6V y).length := addL_len
  rw [List.length_append] at this
  omega
theorem cap_c4 {y : Dc} (h : mayD y) : (c4V y y.f13.length).length ≤ 1000000 := Nat.le_trans addL_len (cap_c5 h)
theorem cap_c4k {y : Dc} (h : mayD y) (k : Nat) : (c4V y k).length ≤ 1000000 := by
  refine Nat.le_trans ?_ (cap_c4 h)
  unfold c4V
  rw [List.length_append, List.length_append, List.take_length]
  have e : (y.f13.flatMap (partV y.f4)).length = ((y.f13.take k).flatMap (partV y.f4)).length + ((y.f13.drop k).flatMap (partV y.f4)).length := by rw [← List.length_append, ← List.flatMap_append, List.take_append_drop]
  omega
theorem cap_c3 {y : Dc} (h : mayD y) : (c3V y).length ≤ 1000000 := by
  have := cap_c4 h
  unfold c4V at this
  rw [List.length_append] at this
  omega
theorem cap_c2 {y : Dc} (h : mayD y) : (c2V y).length ≤ 1000000 := Nat.le_trans addL_len (cap_c3 h)
theorem c4V_zero (y : Dc) : c4V y 0 = c3V y := by simp [c4V]
theorem c4V_succ {y : Dc} {k : Nat} {x : Fr} (h : y.f13.take (k + 1) = y.f13.take k ++ [x]) : c4V y (k + 1) = c4V y k ++ partV y.f4 x := by
  unfold c4V
  rw [h, List.flatMap_append, ← List.append_assoc]
  simp
section
variable {w W : World} {r : Asrt} {tb c : Nat} {l : List Ch} {B : Option Addr} {xs : List Value} {Q : World → Prop}
theorem outA_pin (h : St w W (outA w tb l B c xs r)) (hq : ∀ W, Below w.heap.size w W → Q W) : St w W (outA w tb l B c xs (pin w Q * r)) := h.pin0 hq |>.swap.swap2.swap3
theorem outA_rest {cs : Array Value} {g t : Nat} (h : St w W (outA w tb l B c xs (Asrt.blk g t cs * r))) : St w W (Asrt.blk g t cs * outA w tb l B c xs r) := h.rot4
theorem outA_pin' (h : St w W (pin w Q * outA w tb l B c xs r)) : St w W (outA w tb l B c xs (pin w Q * r)) := h.swap.swap2.swap3
theorem outA_first {n : Nat} {cs : List Value} (hh : St w W (Asrt.row 42 2 (.slice B n c) n cs * (pin w Q * r))) (hn : n = l.length) (hq : ∀ W, Q W → KL k42 W l cs) : St w (W.alloc (.cells #[.slice B l.length c] 25)) (outA w W.heap.size l B c cs r) := by
  subst hn
  have h := hh.alloc #[.slice B l.length c] 25
  exact ((h.rot3.pinImp fun W _ h => hq W h).rot3).rot3
theorem outA_put {A1 R : Asrt} {g7 n : Nat} {l2 : List Ch} {ys : List Value} {v0 : Value} {frs : Array Value} (hn : n = (l ++ l2).length)
    (h : St w W (Asrt.row 42 2 (.slice B n c) n (xs ++ ys) * (A1 * (pin w Q * (Asrt.blk tb 25 #[v0] * (pin w (fun W => KL k42 W l xs) * (Asrt.blk g7 44 frs * R)))))))
    (hq : ∀ W, Q W → KL k42 W l2 ys) : St w (W.setCell ⟨tb, 0, none⟩ (.slice B n c)) (outA w tb (l ++ l2) B c (xs ++ ys) R) := by
  subst hn
  have h2 := (h.rot4.set 0 (.slice B (l ++ l2).length c)).rot3.drop.rot3.rot4.pinAnd
  exact (h2.pinImp (Q1 := fun W => KL k42 W (l ++ l2) (xs ++ ys)) fun W _ h => KL_app h.1 (hq W h.2)).rot4.drop.rot3.rot3
end
set_option maxHeartbeats 16000000 in
set_option maxRecDepth 100000 in
theorem chunksW_calls (y : Dc) (ds : List Value) (w : World) (hy : k27.K w y ds) (hm : mayD y) :
    Calls Try.prog 22 #[.agg ds.toArray] w fun e w' => ∃ (B : Option Addr) (c : Nat), e = .returned (.slice B (c6V y ++ y.f14).length c) ∧ (c6V y ++ y.f14).length ≤ c ∧ k42.C w' B (c6V y ++ y.f14).length (c6V y ++ y.f14) ∧ Below w.heap.size w w' := by
  obtain ⟨B1, d1, B2, d2, B3, d3, B4, d4, B5, d5, rfl, m1, h1, m2, h2, m3, h3, m4, h4, m5, h5⟩ := k27_open hy
  rw [hm.no]
  obtain ⟨ys, hyk, hyr⟩ := C_cells h5 (by decide)
  have H1 := asiD h1
  have H2 := asiD h2
  have H3 := asiD h3
  have H4 := asiD h4
  have HYK := asiD hyk
  have HYR := asiD hyr
  have HM := asiD hm
  have HLM := asiD h4.2.1
  have HBT := asiD (fun b n W => bit_calls b n W)
  have HBT2 := HBT
  have HBT3 := HBT
  have HBT4 := HBT
  have HBT5 := HBT
  have HS0 := asiD ((St.refl w).alloc #[.bool false, .int .i64 y.f1, .int .i64 y.f2, .bool y.f3, .bool y.f4, .int .u32 y.f5, .int .i64 y.f6, .slice B1 y.f7.length d1, .slice B2 y.f8.length d2, .slice B3 y.f9.length d3, .bool y.f10, .bool y.f11, .bool y.f12, .slice B4 y.f13.length d4, .slice B5 y.f14.length d5] 27)
  have e1 : IntKind.i64.wrap (y.f1 - 1) = y.f1 - 1 := wi64 (by have := hm.x1; omega) (by have := hm.x1; omega)
  have e2 : IntKind.i64.wrap (y.f2 - 1) = y.f2 - 1 := wi64 (by have := hm.x2; omega) (by have := hm.x2; omega)
  have HFT := asiD (top_fit hm)
  clear hy h1 h2 h3 h4 h5 hm hyk hyr
  go_enter Try.func22, Try.ntmps22
  go_upto_if 9 with (fail)
  obtain ⟨W0, hW0⟩ : ∃ W0, W0 = w.alloc (.cells #[.bool false, .int .i64 y.f1, .int .i64 y.f2, .bool y.f3, .bool y.f4, .int .u32 y.f5, .int .i64 y.f6, .slice B1 y.f7.length d1, .slice B2 y.f8.length d2, .slice B3 y.f9.length d3, .bool y.f10, .bool y.f11, .bool y.f12, .slice B4 y.f13.length d4, .slice B5 y.f14.length d5] 27) := ⟨_, rfl⟩
  obtain ⟨g, hg⟩ : ∃ g, g = w.heap.size := ⟨_, rfl⟩
  rw [← hW0, ← hg] at HS0 ⊢
  clear hW0 hg
  have m0 : W0.cell? ⟨g, 0, none⟩ = some (.bool false) := (HS0.out.cell 0).trans rfl
  have m1' : W0.cell? ⟨g, 1, none⟩ = some (.int .i64 y.f1) := (HS0.out.cell 1).trans rfl
  have m2' : W0.cell? ⟨g, 2, none⟩ = some (.int .i64 y.f2) := (HS0.out.cell 2).trans rfl
  have m3' : W0.cell? ⟨g, 3, none⟩ = some (.bool y.f3) := (HS0.out.cell 3).trans rfl
  have m4' : W0.cell? ⟨g, 4, none⟩ = some (.bool y.f4) := (HS0.out.cell 4).trans rfl
  have m10 : W0.cell? ⟨g, 10, none⟩ = some (.bool y.f10) := (HS0.out.cell 10).trans rfl
  have m11 : W0.cell? ⟨g, 11, none⟩ = some (.bool y.f11) := (HS0.out.cell 11).trans rfl
  have m12 : W0.cell? ⟨g, 12, none⟩ = some (.bool y.f12) := (HS0.out.cell 12).trans rfl
  go_upto_region 3 with (fail)
  go_region_held3 (fun w' => w'.cell? ⟨g, 10, none⟩ = some (.bool y.f10) ∧ w'.cell? ⟨g, 3, none⟩ = some (.bool y.f3) ∧ w'.cell? ⟨g, 11, none⟩ = some (.bool y.f11) ∧ w'.cell? ⟨g, 12, none⟩ = some (.bool y.f12) ∧ w'.cell? ⟨g, 4, none⟩ = some (.bool y.f4)) (go_keep) (first
    | (go_at_call 56; with_reducible refine (HBT.out _ _ _).mono ?_; clear HBT; rintro e w1 ⟨rfl, ⟨n1, rfl⟩⟩)
    | (go_at_call 56; with_reducible refine (HBT2.out _ _ _).mono ?_; clear HBT2; rintro e w1 ⟨rfl, ⟨n2, rfl⟩⟩)
    | (go_at_call 56; with_reducible refine (HBT3.out _ _ _).mono ?_; clear HBT3; rintro e w1 ⟨rfl, ⟨n3, rfl⟩⟩)
    | (go_at_call 56; with_reducible refine (HBT4.out _ _ _).mono ?_; clear HBT4; rintro e w1 ⟨rfl, ⟨n4, rfl⟩⟩)
    | (go_at_call 56; with_reducible refine (HBT5.out _ _ _).mono ?_; clear HBT5; rintro e w1 ⟨rfl, ⟨n5, rfl⟩⟩))
  rw [show Go.bits .or .i64 (Go.bits .or .i64 (Go.bits .or .i64 (Go.bits .or .i64 (bitI y.f10 32) (bitI y.f3 16)) (bitI y.f11 8)) (bitI y.f12 4)) (bitI y.f4 2) = flagsI y from rfl]
  obtain ⟨W1, hW1⟩ : ∃ W1, W1 = W0.drewN (1 + n1 + n2 + n3 + n4 + n5) := ⟨_, rfl⟩
  have HS1 := asiD (HS0.out.drewN (1 + n1 + n2 + n3 + n4 + n5))
  rw [← hW1] at HS1 ⊢
  clear hW1 m0 m1' m2' m3' m4' m10 m11 m12 HS0
  have m1' : W1.cell? ⟨g, 1, none⟩ = some (.int .i64 y.f1) := (HS1.out.cell 1).trans rfl
  have m2' : W1.cell? ⟨g, 2, none⟩ = some (.int .i64 y.f2) := (HS1.out.cell 2).trans rfl
  go_upto_region 5 with (go_at_call 57; refine (putLit_calls W1 (topV y) (by simp [topV]) HFT.out).mono ?_; rintro e w2 ⟨v2, rfl, hr, hb⟩; obtain ⟨B0, c0, rfl, hc0, hs0⟩ := (HS1.out.alloc (litsN (topV y)).toArray 85).pinR hb hr; have HS2 := asiD hs0.swap.drop; have HC0 := asiD hc0; clear hs0 hc0 hr hb)
  have hq := outA_first (l := c1V y) (c := 1) (HS2.out.allocCells 42 2 1 [.string nVP8X, .slice B0 (putV (topV y)).length c0] rfl (by decide)) rfl (fun W hq => KL_ch1 HC0.out hq)
  obtain ⟨tb, htb⟩ : ∃ tb, tb = w2.heap.size + 1 := ⟨_, rfl⟩
  rw [show (w2.alloc (.cells [Value.string nVP8X, .slice B0 (putV (topV y)).length c0].toArray 42)).heap.size = tb by rw [htb]; simp] at hq
  rw [← htb]
  change St w ((w2.alloc (.cells #[Value.string nVP8X, .slice B0 (putV (topV y)).length c0] 42)).alloc (.cells #[.slice (some ⟨w2.heap.size, 0, none⟩) 1 1] 25)) _ at hq
  obtain ⟨W3, hW3⟩ : ∃ W3, W3 = (w2.alloc (.cells #[Value.string nVP8X, .slice B0 (putV (topV y)).length c0] 42)).alloc (.cells #[.slice (some ⟨w2.heap.size, 0, none⟩) 1 1] 25) := ⟨_, rfl⟩
  rw [← hW3] at hq ⊢
  have HS3 := asiD hq
  clear hq hW3 htb HC0 HS2 HS1 m1' m2'
  have k2 : ((c1V y).length + 1) * 40 ≤ 140737488355328 := by show (1 + 1) * 40 ≤ _; decide
  have k3 : ((c2V y).length + 1) * 40 ≤ 140737488355328 := by have := cap_c2 HM.out; omega
  have HFA := asiD (ani_fit HM.out)
  have e5 : IntKind.i64.wrap y.f5 = y.f5 := wi64 (by have := HM.out.x5; omega) (by have := HM.out.x5; omega)
  have m4' : W3.cell? ⟨g, 10, none⟩ = some (.bool y.f10) := ((outA_rest HS3.out).cell 10).trans rfl
  have m7' : W3.cell? ⟨g, 7, none⟩ = some (.slice B1 y.f7.length d1) := ((outA_rest HS3.out).cell 7).trans rfl
  go_upto_region 7 with (go_at_call 58; refine (add_calls y.f10 nICCP B1 y.f7 d1 tb (c1V y) _ _ _ _ w _ m1 k2 (outA_pin HS3.out fun W hb => Kd.C_below H1.out hb)).mono ?_; rintro e w4 ⟨rfl, B4', c4', xs4, hs⟩; have HS4 : Aside0 (St w w4 (outA w tb (c2V y) _ _ _ _)) := asiD hs; clear hs)
  clear HS3 m4' m7'
  have m4' : w4.cell? ⟨g, 4, none⟩ = some (.bool y.f4) := ((outA_rest HS4.out).cell 4).trans rfl
  have m5' : w4.cell? ⟨g, 5, none⟩ = some (.int .u32 y.f5) := ((outA_rest HS4.out).cell 5).trans rfl
  have m6' : w4.cell? ⟨g, 6, none⟩ = some (.int .i64 y.f6) := ((outA_rest HS4.out).cell 6).trans rfl
  go_region_held3 (fun w' => w'.cell? ⟨g, 4, none⟩ = some (.bool y.f4) ∧ w'.cell? ⟨g, 5, none⟩ = some (.int .u32 y.f5) ∧ w'.cell? ⟨g, 6, none⟩ = some (.int .i64 y.f6)) (go_keep) (first
    | (go_at_call 57; refine (putLit_calls w4.drew (aniV y) (by simp [aniV]) HFA.out).mono ?_; rintro e w5 ⟨v5, rfl, hr, hb⟩; obtain ⟨B6, c6, rfl, hc6, hs6⟩ := (HS4.out.drew.alloc (litsN (aniV y)).toArray 85).pinR hb hr; have hs7 := outA_pin' hs6.swap.drop; have q4 := ((outA_rest hs6.swap.drop.drop).cell 4).trans rfl; have q5 := ((outA_rest hs6.swap.drop.drop).cell 5).trans rfl; have q6 := ((outA_rest hs6.swap.drop.drop).cell 6).trans rfl; have HS5 := asiD hs7; have HC5 := asiD hc6; clear hs6 hs7 hc6 hr hb)
    | (go_at_call 58; refine (add_calls y.f4 nANIM B6 (putV (aniV y)) c6 tb (c2V y) _ _ _ _ w _ HC5.out k3 HS5.out).mono ?_; rintro e w6 ⟨rfl, B7, c7, xs7, hs⟩; have HS6 : Aside0 (St w w6 (outA w tb (c3V y) _ _ _ _)) := asiD hs; have r4 := ((outA_rest hs).cell 4).trans rfl; have r5 := ((outA_rest hs).cell 5).trans rfl; have r6 := ((outA_rest hs).cell 6).trans rfl; clear hs))
  clear m4' m5' m6' HS4 HC5 HS5 q4 q5 q6 HFA k2 k3 e1 e2 e5 HFT r4 r5 r6
  have m13 : w6.cell? ⟨g, 13, none⟩ = some (.slice B4 y.f13.length d4) := ((outA_rest HS6.out).cell 13).trans rfl
  go_wp2_with fail
  clear m13
  go_loopw [71] (fun i wr => ∃ (k : Nat) (B : Option Addr) (c : Nat) (xs : List Value), k ≤ y.f13.length ∧ i = .int .i64 k ∧ St w wr (outA w tb (c4V y k) B c xs (Asrt.blk g 27 #[.bool false, .int .i64 y.f1, .int .i64 y.f2, .bool y.f3, .bool y.f4, .int .u32 y.f5, .int .i64 y.f6, .slice B1 y.f7.length d1, .slice B2 y.f8.length d2, .slice B3 y.f9.length d3, .bool y.f10, .bool y.f11, .bool y.f12, .slice B4 y.f13.length d4, .slice B5 y.f14.length d5] * Asrt.emp))) (fun i _ => y.f13.length - (intOf i).toNat)
  case atStart => exact ⟨0, B7, c7, xs7, Nat.zero_le _, rfl, by rw [c4V_zero]; exact HS6.out⟩
  case round =>
    obtain ⟨k, B, c, xs, hk, rfl, hs⟩ := hrel
    clear HS6
    by_cases hlt : k < y.f13.length
    · have y1 : decide ((k : Int) < y.f13.length) = true := decide_eq_true (by omega)
      have y2 : decide (k < y.f13.length) = true := decide_eq_true hlt
      have y3 : (k < y.f13.length) = True := eq_true hlt
      have y4 : ((k : Int) < y.f13.length) = True := eq_true (by omega)
      have k16 : k ≤ 9223372036854775806 := by have := HLM.out; omega
      obtain ⟨ad1, A8, c8, A9, c9, A10, c10, rfl, d0, d1', d2', d3', d4', d5', d6, d7, d8, d9, d10, m8, g8, m9, g9, m10, g10⟩ := at_T44 H4.out (k : Int) (by omega) (by omega)
      simp only [Int.toNat_natCast] at d0 d1' d2' d3' d4' d5' d6 d7 d8 d9 d10
      have hcut := getD_cut z44 hlt
      have hin := getD_in z44 hlt
      rw [show y.f13.getD k z44 = rd_T44 y.f13 k from rfl] at hcut hin
      generalize rd_T44 y.f13 k = x at *
      have HFO := asiD (HM.out.ok.fr.2 x hin)
      have HPN := asiD (HM.out.pn x hin)
      have HMF := asiD (fun h => HM.out.fr h x hin)
      have e0 := (cellL hs.below d0)
      have e1 := (cellL hs.below d1')
      have e2 := (cellL hs.below d2')
      have e3 := (cellL hs.below d3')
      have e4 := (cellL hs.below d4')
      have e5 := (cellL hs.below d5')
      have e6 := (cellL hs.below d6)
      have e7 := (cellL hs.below d7)
      have e8 := (cellL hs.below d8)
      have e9 := (cellL hs.below d9)
      have e10 := (cellL hs.below d10)
      have HK := asiD (k44_mk w x m8 g8 m9 g9 m10 g10)
      have HLT := asiD hlt
      have HC4 := asiD (c4V_succ hcut)
      have HCK := asiD (cap_c4k HM.out (k + 1))
      have HS7 := asiD (hs.alloc #[.int .i64 x.f0, .int .i64 x.f1, .int .i64 x.f2, .int .i64 x.f3, .int .i64 x.f4, .bool x.f5, .bool x.f6, .int .i64 x.f7, .slice A8 x.f8.length c8, .slice A9 x.f9.length c9, .slice A10 x.f10.length c10] 44)
      have q4 : (wr.alloc (.cells #[.int .i64 x.f0, .int .i64 x.f1, .int .i64 x.f2, .int .i64 x.f3, .int .i64 x.f4, .bool x.f5, .bool x.f6, .int .i64 x.f7, .slice A8 x.f8.length c8, .slice A9 x.f9.length c9, .slice A10 x.f10.length c10] 44)).cell? ⟨g, 4, none⟩ = some (.bool y.f4) := ((outA_rest HS7.out.drop).cell 4).trans rfl
      clear hs hlt hk hcut hin g8 g9 g10 d0 d1' d2' d3' d4' d5' d6 d7 d8 d9 d10
      go_upto_region 11 with (fail)
      obtain ⟨W8, hW8⟩ : ∃ W8, W8 = wr.alloc (.cells #[.int .i64 x.f0, .int .i64 x.f1, .int .i64 x.f2, .int .i64 x.f3, .int .i64 x.f4, .bool x.f5, .bool x.f6, .int .i64 x.f7, .slice A8 x.f8.length c8, .slice A9 x.f9.length c9, .slice A10 x.f10.length c10] 44) := ⟨_, rfl⟩
      obtain ⟨g7, hg7⟩ : ∃ g7, g7 = wr.heap.size := ⟨_, rfl⟩
      rw [← hW8, ← hg7] at HS7
      rw [← hW8] at q4
      rw [← hW8, ← hg7]
      have HS8 := asiD (show St w W8 (Asrt.row 42 2 (.slice B (c4V y k).length c) (c4V y k).length xs * (Asrt.blk tb 25 #[.slice B (c4V y k).length c] * (pin w (fun W => KL k42 W (c4V y k) xs) * (Asrt.blk g7 44 #[.int .i64 x.f0, .int .i64 x.f1, .int .i64 x.f2, .int .i64 x.f3, .int .i64 x.f4, .bool x.f5, .bool x.f6, .int .i64 x.f7, .slice A8 x.f8.length c8, .slice A9 x.f9.length c9, .slice A10 x.f10.length c10] * (Asrt.blk g 27 #[.bool false, .int .i64 y.f1, .int .i64 y.f2, .bool y.f3, .bool y.f4, .int .u32 y.f5, .int .i64 y.f6, .slice B1 y.f7.length d1, .slice B2 y.f8.length d2, .slice B3 y.f9.length d3, .bool y.f10, .bool y.f11, .bool y.f12, .slice (some ad1) y.f13.length d4, .slice B5 y.f14.length d5] * Asrt.emp))))) from by have h := HS7.out; unfold outA at h; exact h.swap.swap2.swap3.swap)
      clear HS7 hW8 hg7 e0 e1 e2 e3 e4 e5 e6 e7 e8 e9 e10
      have f0 : W8.cell? ⟨g7, 0, none⟩ = some (.int .i64 x.f0) := (HS8.out.rot4.cell 0).trans rfl
      have f1 : W8.cell? ⟨g7, 1, none⟩ = some (.int .i64 x.f1) := (HS8.out.rot4.cell 1).trans rfl
      have f2 : W8.cell? ⟨g7, 2, none⟩ = some (.int .i64 x.f2) := (HS8.out.rot4.cell 2).trans rfl
      have f3 : W8.cell? ⟨g7, 3, none⟩ = some (.int .i64 x.f3) := (HS8.out.rot4.cell 3).trans rfl
      have f4 : W8.cell? ⟨g7, 4, none⟩ = some (.int .i64 x.f4) := (HS8.out.rot4.cell 4).trans rfl
      have f5 : W8.cell? ⟨g7, 5, none⟩ = some (.bool x.f5) := (HS8.out.rot4.cell 5).trans rfl
      have f6 : W8.cell? ⟨g7, 6, none⟩ = some (.bool x.f6) := (HS8.out.rot4.cell 6).trans rfl
      have f7 : W8.cell? ⟨g7, 7, none⟩ = some (.int .i64 x.f7) := (HS8.out.rot4.cell 7).trans rfl
      have f8 : W8.cell? ⟨g7, 8, none⟩ = some (.slice A8 x.f8.length c8) := (HS8.out.rot4.cell 8).trans rfl
      have f9 : W8.cell? ⟨g7, 9, none⟩ = some (.slice A9 x.f9.length c9) := (HS8.out.rot4.cell 9).trans rfl
      have f10 : W8.cell? ⟨g7, 10, none⟩ = some (.slice A10 x.f10.length c10) := (HS8.out.rot4.cell 10).trans rfl
      have ft : W8.cell? ⟨tb, 0, none⟩ = some (.slice B (c4V y k).length c) := (HS8.out.swap.cell 0).trans rfl
      have HB8 := asiD (show Below w.heap.size w W8.drew from HS8.out.drew.below)
      by_cases hf4 : y.f4 = true
      · have q4' : W8.cell? ⟨g, 4, none⟩ = some (.bool true) := by rw [← hf4]; exact q4
        clear q4
        have hck : ((c4V y k).length + 1) * 40 ≤ 140737488355328 := by
          have h1 := HCK.out
          rw [HC4.out, hf4, List.length_append] at h1
          have : (partV true x).length = 1 := rfl
          omega
        have HCK2 := asiD hck
        have HE4 := asiD (show c4V y (k + 1) = c4V y k ++ [movedV x] by rw [HC4.out, hf4]; rfl)
        have HP := asiD (moved_calls x _ W8.drew (k44.K_below HB8.out HK.out) HFO.out (HMF.out hf4))
        clear hf4 hck
        go_upto_region 12 with (fail)
        go_region_law (first
          | (go_simp; go_at_call 59; refine HP.out.mono ?_; rintro e w9 ⟨Bm, cm, rfl, hc9, hs9⟩; have HS9 := asiD (HS8.out.drew.frame hs9).assoc.pinRow.swap.drop; have HC9 := asiD hc9; have p0 : w9.cell? ⟨g7, 0, none⟩ = some (.int .i64 x.f0) := (HS9.out.drop.rot4.cell 0).trans rfl; have p1 : w9.cell? ⟨g7, 1, none⟩ = some (.int .i64 x.f1) := (HS9.out.drop.rot4.cell 1).trans rfl; have p2 : w9.cell? ⟨g7, 2, none⟩ = some (.int .i64 x.f2) := (HS9.out.drop.rot4.cell 2).trans rfl; have p3 : w9.cell? ⟨g7, 3, none⟩ = some (.int .i64 x.f3) := (HS9.out.drop.rot4.cell 3).trans rfl; have p4 : w9.cell? ⟨g7, 4, none⟩ = some (.int .i64 x.f4) := (HS9.out.drop.rot4.cell 4).trans rfl; have p5 : w9.cell? ⟨g7, 5, none⟩ = some (.bool x.f5) := (HS9.out.drop.rot4.cell 5).trans rfl; have p6 : w9.cell? ⟨g7, 6, none⟩ = some (.bool x.f6) := (HS9.out.drop.rot4.cell 6).trans rfl; have p7 : w9.cell? ⟨g7, 7, none⟩ = some (.int .i64 x.f7) := (HS9.out.drop.rot4.cell 7).trans rfl; have p8 : w9.cell? ⟨g7, 8, none⟩ = some (.slice A8 x.f8.length c8) := (HS9.out.drop.rot4.cell 8).trans rfl; have p9 : w9.cell? ⟨g7, 9, none⟩ = some (.slice A9 x.f9.length c9) := (HS9.out.drop.rot4.cell 9).trans rfl; have p10 : w9.cell? ⟨g7, 10, none⟩ = some (.slice A10 x.f10.length c10) := (HS9.out.drop.rot4.cell 10).trans rfl; have pt : w9.cell? ⟨tb, 0, none⟩ = some (.slice B (c4V y k).length c) := (HS9.out.drop.swap.cell 0).trans rfl; have pu : (w9.alloc (.cells #[.string nANMF, .slice Bm (movedV x).f1.length cm] 42)).cell? ⟨tb, 0, none⟩ = some (.slice B (c4V y k).length c) := ((HS9.out.alloc #[.string nANMF, .slice Bm (movedV x).f1.length cm] 42).drop.drop.swap.cell 0).trans rfl; clear hs9 hc9)
          | (refine St.append_cells_step (w0 := w) (by rfl) (.tmp 77) (.tmp 80) 25 42 (.agg #[.string ⟨#[]⟩, .slice none 0 0]) 2 40 rfl Try.underlying25 (by kernel_rfl) rfl (by decide) (by decide) _ (c4V y k).length xs [.string nANMF, .slice Bm (movedV x).f1.length cm] (some ⟨_, 0, none⟩) 1 1 rfl rfl ((HS9.out.swap.allocCells 42 2 1 [.string nANMF, .slice Bm (movedV x).f1.length cm] rfl (by decide)).swap) (rowReadsC (HS9.out.swap.allocCells 42 2 1 [.string nANMF, .slice Bm (movedV x).f1.length cm] rfl (by decide)) (by simp [Value.oneCell'])) HCK2.out ?_; intro B10 c10' w10 hs; have HS10 := asiD hs; have r0 := (hs.rot4.cell 0).trans rfl; have r1 := hs.rot4.frozen 0; clear hs))
        all_goals (go_wp2_with fail)
        all_goals go_roundw
        all_goals first
          | (have := HLT.out; simp [intOf]; omega)
          | skip
        all_goals (refine ⟨k + 1, B10, c10', xs ++ [.string nANMF, .slice Bm (movedV x).f1.length cm], HLT.out, by go_num, ?_⟩; rw [HE4.out]; exact outA_put (by simp) HS10.out fun W hq => KL_ch1 HC9.out hq)
      · have q4' : W8.cell? ⟨g, 4, none⟩ = some (.bool false) := by rw [← Bool.eq_false_iff.2 hf4]; exact q4
        clear q4
        have hf0 : y.f4 = false := Bool.eq_false_iff.2 hf4
        have hck : ((c4V y k).length + (picV x).length) * 40 ≤ 140737488355328 := by
          have h1 := HCK.out
          rw [HC4.out, hf0, List.length_append] at h1
          have h2 : (partV false x) = picV x := rfl
          rw [h2] at h1
          omega
        have HCK2 := asiD hck
        have HE4 := asiD (show c4V y (k + 1) = c4V y k ++ picV x by rw [HC4.out, hf0]; rfl)
        have HP := asiD (picture_calls_at x _ w W8.drew HB8.out HK.out HFO.out (by have := HPN.out; omega))
        clear hf4 hf0 hck
        go_upto_region 13 with (fail)
        go_region_law (first
          | (go_simp; go_at_call 55; refine HP.out.mono ?_; rintro e w9 ⟨Bm, cm, zs, rfl, hk9, hs9⟩; have HS9 := asiD (((HS8.out.drew.frame hs9).assoc.imp (Asrt.mono_r (Asrt.emp_l _))).pin0 (fun W hb => KL_below hb hk9)).swap; have p0 : w9.cell? ⟨g7, 0, none⟩ = some (.int .i64 x.f0) := (HS9.out.drop.drop.rot4.cell 0).trans rfl; have p1 : w9.cell? ⟨g7, 1, none⟩ = some (.int .i64 x.f1) := (HS9.out.drop.drop.rot4.cell 1).trans rfl; have p2 : w9.cell? ⟨g7, 2, none⟩ = some (.int .i64 x.f2) := (HS9.out.drop.drop.rot4.cell 2).trans rfl; have p3 : w9.cell? ⟨g7, 3, none⟩ = some (.int .i64 x.f3) := (HS9.out.drop.drop.rot4.cell 3).trans rfl; have p4 : w9.cell? ⟨g7, 4, none⟩ = some (.int .i64 x.f4) := (HS9.out.drop.drop.rot4.cell 4).trans rfl; have p5 : w9.cell? ⟨g7, 5, none⟩ = some (.bool x.f5) := (HS9.out.drop.drop.rot4.cell 5).trans rfl; have p6 : w9.cell? ⟨g7, 6, none⟩ = some (.bool x.f6) := (HS9.out.drop.drop.rot4.cell 6).trans rfl; have p7 : w9.cell? ⟨g7, 7, none⟩ = some (.int .i64 x.f7) := (HS9.out.drop.drop.rot4.cell 7).trans rfl; have p8 : w9.cell? ⟨g7, 8, none⟩ = some (.slice A8 x.f8.length c8) := (HS9.out.drop.drop.rot4.cell 8).trans rfl; have p9 : w9.cell? ⟨g7, 9, none⟩ = some (.slice A9 x.f9.length c9) := (HS9.out.drop.drop.rot4.cell 9).trans rfl; have p10 : w9.cell? ⟨g7, 10, none⟩ = some (.slice A10 x.f10.length c10) := (HS9.out.drop.drop.rot4.cell 10).trans rfl; have pt : w9.cell? ⟨tb, 0, none⟩ = some (.slice B (c4V y k).length c) := (HS9.out.drop.drop.swap.cell 0).trans rfl; have HK9 := asiD hk9; clear hs9 hk9)
          | (refine St.append_cells_step (w0 := w) (by rfl) (.tmp 82) (.tmp 84) 25 42 (.agg #[.string ⟨#[]⟩, .slice none 0 0]) 2 40 rfl Try.underlying25 (by kernel_rfl) rfl (by decide) (by decide) _ (c4V y k).length xs zs Bm (picV x).length cm rfl rfl HS9.out.rot3 (rowReadsC HS9.out (KL_one HK9.out)) HCK2.out ?_; intro B10 c10' w10 hs; have HS10 := asiD hs; have r0 := (hs.rot4.cell 0).trans rfl; have r1 := hs.rot4.frozen 0; clear hs))
        all_goals (go_wp2_with fail)
        all_goals go_roundw
        all_goals first
          | (have := HLT.out; simp [intOf]; omega)
          | skip
        all_goals (refine ⟨k + 1, B10, c10', xs ++ zs, HLT.out, by go_num, ?_⟩; rw [HE4.out]; exact outA_put (by rw [List.length_append]) HS10.out fun W hq => hq)
    · have y1 : decide ((k : Int) < y.f13.length) = false := decide_eq_false (by omega)
      have y2 : decide (k < y.f13.length) = false := decide_eq_false hlt
      obtain rfl : k = y.f13.length := by omega
      have k5 : ((c4V y y.f13.length).length + 1) * 40 ≤ 140737488355328 := by have := cap_c4 HM.out; omega
      have k6 : ((c5V y).length + 1) * 40 ≤ 140737488355328 := by have := cap_c5 HM.out; omega
      have k7 : ((c6V y).length + y.f14.length) * 40 ≤ 140737488355328 := by have := HM.out.sz; rw [List.length_append] at this; omega
      have q11 : wr.cell? ⟨g, 11, none⟩ = some (.bool y.f11) := ((outA_rest hs).cell 11).trans rfl
      have q8 : wr.cell? ⟨g, 8, none⟩ = some (.slice B2 y.f8.length d2) := ((outA_rest hs).cell 8).trans rfl
      have HS8 := asiD hs
      clear hs hlt hk
      go_wp2_with (first
        | (go_at_call 58; refine (add_calls y.f11 nEXIF B2 y.f8 d2 tb (c4V y y.f13.length) _ _ _ _ w _ m2 k5 (outA_pin HS8.out fun W hb => Kd.C_below H2.out hb)).mono ?_; rintro e w4 ⟨rfl, Be, ce, xe, hs⟩; have HS9 : Aside0 (St w w4 (outA w tb (c5V y) _ _ _ _)) := asiD hs; have q12 : w4.cell? ⟨g, 12, none⟩ = some (.bool y.f12) := ((outA_rest hs).cell 12).trans rfl; have q9 : w4.cell? ⟨g, 9, none⟩ = some (.slice B3 y.f9.length d3) := ((outA_rest hs).cell 9).trans rfl; clear hs HS8)
        | (go_at_call 58; refine (add_calls y.f12 nXMP B3 y.f9 d3 tb (c5V y) _ _ _ _ w _ m3 k6 (outA_pin HS9.out fun W hb => Kd.C_below H3.out hb)).mono ?_; rintro e w5 ⟨rfl, Bx, cx, xx, hs⟩; have HS10 : Aside0 (St w w5 (outA w tb (c6V y) _ _ _ _)) := asiD hs; have q14 : w5.cell? ⟨g, 14, none⟩ = some (.slice B5 y.f14.length d5) := ((outA_rest hs).cell 14).trans rfl; have qt : w5.cell? ⟨tb, 0, none⟩ = some (.slice Bx (c6V y).length cx) := (by have h := hs; unfold outA at h; exact (h.cell 0).trans rfl); have HS11 := asiD (show St w w5 (Asrt.row 42 2 (.slice Bx (c6V y).length cx) (c6V y).length xx * _) from (by have h := hs; unfold outA at h; exact h.swap)); clear hs)
        | (at_builtin; refine St.append_cells (w0 := w) rfl (.tmp 99) (.tmp 101) 25 42 (.agg #[.string ⟨#[]⟩, .slice none 0 0]) 2 40 rfl Try.underlying25 (by kernel_rfl) rfl (by decide) (by decide) _ (c6V y).length xx ys B5 y.f14.length d5 rfl rfl HS11.out (HYR.out.below HS11.out.below) k7 ?_; intro B12 c12 w12 hs; have HS12 := asiD hs; clear hs))
      go_ret
      have hs := HS12.out
      have hk := KL_app hs.rot3.pinGet (KL_below hs.below HYK.out)
      have hl : (c6V y ++ y.f14).length = (c6V y).length + y.f14.length := List.length_append
      rw [hl]
      exact ⟨B12, c12, rfl, own_le hs.row, C_of_KL hk hl (by omega) (rowReadsC hs (KL_one hk)), hs.below⟩
def toldP (has : Bool) (b : List Int) : Prop := has = true ∨ b.length = 0
instance (h : Bool) (b : List Int) : Decidable (toldP h b) := by unfold toldP; infer_instance
theorem told_calls (has : Bool) (A : Option Addr) (c : Nat) (l : List Int) (w : World) (h : (Kd.int .u8).C w A l.length l) (hc : l.length ≤ c) :
    Calls Try.prog 28 #[.bool has, .slice A l.length c] w fun e w' => e = .returned (.bool (decide (toldP has l))) ∧ Drawn0 w w' := by
  refine box_told.calls has A c l _ w h hc ?_
  unfold box_told.f toldP
  cases has
  · simp only [Bool.false_eq_true, if_false, false_or]
    exact congrArg some (by rw [Bool.eq_iff_iff, decide_eq_true_iff, beq_iff_eq]; omega)
  · simp
def wideP (d : Dc) : Prop := (1 ≤ d.f1 ∧ d.f1 ≤ 16777216) ∧ 1 ≤ d.f2 ∧ d.f2 ≤ 16777216
def soundP (d : Dc) : Prop := (weightI d ≤ 67108864 ∧ (d.f13.length : Int) ≤ 4096) ∧ (if d.f0 = true then plainP d else
  wideP d ∧ d.f1 * d.f2 < 4294967296 ∧ 0 ≤ d.f6 ∧ d.f6 < 65536 ∧ (d.f4 = false → (d.f13.length : Int) = 1 ∧ d.f5 = 0 ∧ d.f6 = 0) ∧
  moreB d.f14 = true ∧ toldP d.f10 d.f7 ∧ toldP d.f11 d.f8 ∧ toldP d.f12 d.f9 ∧ ∀ f ∈ d.f13, frameP f d)
theorem any_frames {l : List Fr} {d : Dc} : (l.any fun f => !decide (frameP f d)) = false ↔ ∀ f ∈ l, frameP f d := by
  rw [List.any_eq_false]
  simp
set_option maxHeartbeats 8000000 in
set_option maxRecDepth 100000 in
theorem Sound_calls (y : Dc) (ds : List Value) (w : World) (hy : k27.K w y ds) (ho : okDc y) (hw : weightI y ≤ 4611686018427387904) (hn : (allCh y).length * 40 ≤ 140737488355328) (b : Bool) (hb : b = true ↔ soundP y) :
    Calls Try.prog 12 #[.agg ds.toArray] w fun e w' => e = .returned (.bool b) ∧ Below w.heap.size w w' := by
  have HE1 := asiD fun (W : World) (hb : Below w.heap.size w W) => weight_calls y ds W (k27.K_below hb hy) ho hw hn
  obtain ⟨bp, hbp⟩ : ∃ bp : Bool, bp = true ↔ plainP y := by
    by_cases hp : plainP y
    · exact ⟨true, by simp [hp]⟩
    · exact ⟨false, by simp [hp]⟩
  have HBP := asiD hbp
  have HBB := asiD hb
  have HE2 := asiD fun (W : World) (hb : Below w.heap.size w W) (es : Array Value) (he : es = ds.toArray) => (he ▸ plain_calls y ds W (k27.K_below hb hy) ho bp hbp : Calls Try.prog 24 #[.agg es] W fun e w' => e = .returned (.bool bp) ∧ Below W.heap.size W w')
  clear hb hbp
  have HY := asiD hy
  have HO := asiD ho
  obtain ⟨B1, d1, B2, d2, B3, d3, B4, d4, B5, d5, rfl, m1, h1, m2, h2, m3, h3, m4, h4, m5, h5⟩ := k27_open hy
  have HE3 := asiD fun (W : World) (hb : Below w.heap.size w W) => more_calls B5 d5 y.f14 W (Kd.C_below h5 hb)
  have HE4 := asiD fun (W : World) (hb : Below w.heap.size w W) => told_calls y.f10 B1 d1 y.f7 W (Kd.C_below h1 hb) m1
  have HE5 := asiD fun (W : World) (hb : Below w.heap.size w W) => told_calls y.f11 B2 d2 y.f8 W (Kd.C_below h2 hb) m2
  have HE6 := asiD fun (W : World) (hb : Below w.heap.size w W) => told_calls y.f12 B3 d3 y.f9 W (Kd.C_below h3 hb) m3
  have H4 := asiD h4
  clear hy h1 h2 h3 h4 h5 ho hw hn
  have HAF := asiD (@any_frames y.f13 y)
  by_cases hc : wideP y
  case neg =>
    have hc' : y.f1 < 1 ∨ 16777216 < y.f1 ∨ y.f2 < 1 ∨ 16777216 < y.f2 := by unfold wideP at hc; omega
    rcases hc' with hc' | hc' | hc' | hc'
    all_goals go_enter Try.func12, Try.ntmps12
    all_goals go_wp2_with (first
      | (go_at_call 23; with_reducible refine (HE1.out _ (by repeat (first | exact Below.refl _ _ | apply pw_below_drewN | apply below_alloc))).mono ?_; rintro e w1 ⟨rfl, hd⟩; have z1 := cells1 hd; have HX := asiD hd; have HB := asiD (bthen (show Below w.heap.size w _ by repeat (first | exact Below.refl _ _ | apply pw_below_drewN | apply below_alloc)) hd); clear hd)
      | (go_at_call 24; with_reducible refine (HE2.out _ HB.out _ (by first | rfl | simp [*])).mono ?_; rintro e w2 ⟨rfl, hd⟩; have HB2 := asiD (bthen HB.out hd); clear hd))
    all_goals go_ret
    all_goals refine ⟨congrArg (fun b => Ending.returned (.bool b)) (Bool.eq_iff_iff.2 (Iff.trans ?_ HBB.out.symm)), by first | exact HB2.out | exact HB.out⟩
    all_goals first
      | (simp [soundP, hc, *]; done)
      | (simp [soundP, hc, HBP.out, *]; done)
      | (simp [soundP, hc, *]; omega)
  have hc' := hc
  unfold wideP at hc'
  have pp : 0 ≤ y.f1 * y.f2 := Int.mul_nonneg (by omega) (by omega)
  have pq : y.f1 * y.f2 ≤ 281474976710656 := Int.le_trans (Int.mul_le_mul hc'.1.2 hc'.2.2 (by omega) (by decide)) (by decide)
  have HE7 := asiD fun (g : Nat) (W : World) (hb : Below w.heap.size w W) (hg : boxd W g [.bool y.f0, .int .i64 y.f1, .int .i64 y.f2, .bool y.f3, .bool y.f4, .int .u32 y.f5, .int .i64 y.f6, .slice B1 y.f7.length d1, .slice B2 y.f8.length d2, .slice B3 y.f9.length d3, .bool y.f10, .bool y.f11, .bool y.f12, .slice B4 y.f13.length d4, .slice B5 y.f14.length d5]) =>
    ContainsBad_calls y _ g B4 d4 y.f13 W (Kd.C_below H4.out hb) (k27.K_below hb HY.out) hg HO.out.fr.2 (by omega) (by omega)
  have p1 : 0 ≤ y.f1 * y.f2 ∧ y.f1 * y.f2 ≤ 281474976710656 := ⟨pp, pq⟩
  clear pp pq
  go_enter Try.func12, Try.ntmps12
  go_wp2_with (first
    | (go_at_call 23; with_reducible refine (HE1.out _ (by repeat (first | exact Below.refl _ _ | apply pw_below_drewN | apply below_alloc))).mono ?_; rintro e w1 ⟨rfl, hd⟩; have z1 := cells1 hd; have HX := asiD hd; have HZ := asiD (boxd_below boxd_new hd); have HB := asiD (bthen (show Below w.heap.size w _ by repeat (first | exact Below.refl _ _ | apply pw_below_drewN | apply below_alloc)) hd); clear hd)
    | (go_at_call 24; with_reducible refine (HE2.out _ HB.out _ (by first | rfl | simp [*])).mono ?_; rintro e w2 ⟨rfl, hd⟩; have HB2 := asiD (bthen HB.out hd); clear hd)
    | (go_at_call 27; with_reducible refine (HE3.out _ HB.out).mono ?_; rintro e w2 ⟨rfl, hd⟩; clear z1; have z1 := cells1 (bthen HX.out hd); have HZ2 := asiD (boxd_below HZ.out hd); have HB2 := asiD (bthen HB.out hd); clear hd)
    | (go_at_call 28; with_reducible refine (HE4.out _ HB2.out).mono ?_; clear HE4; rintro e w1 ⟨rfl, ⟨n1, rfl⟩⟩)
    | (go_at_call 28; with_reducible refine (HE5.out _ (bthen HB2.out (by repeat (first | exact Below.refl _ _ | apply pw_below_drewN | apply below_alloc)))).mono ?_; clear HE5; rintro e w1 ⟨rfl, ⟨n2, rfl⟩⟩)
    | (go_at_call 28; with_reducible refine (HE6.out _ (bthen HB2.out (by repeat (first | exact Below.refl _ _ | apply pw_below_drewN | apply below_alloc)))).mono ?_; clear HE6; rintro e w1 ⟨rfl, ⟨n3, rfl⟩⟩)
    | (go_at_call 29; with_reducible refine (HE7.out _ _ (bthen HB2.out (by repeat (first | exact Below.refl _ _ | apply pw_below_drewN | apply below_alloc))) (boxd_below HZ2.out (by repeat (first | exact Below.refl _ _ | apply pw_below_drewN | apply below_alloc)))).mono ?_; rintro e w3 ⟨rfl, hd⟩; have HB3 := asiD (bthen (bthen HB2.out (show Below w2.heap.size w2 _ by repeat (first | exact Below.refl _ _ | apply pw_below_drewN | apply below_alloc))) hd); clear hd))
  all_goals go_ret
  all_goals refine ⟨congrArg (fun b => Ending.returned (.bool b)) (Bool.eq_iff_iff.2 (Iff.trans ?_ HBB.out.symm)), by first | exact HB3.out | exact HB2.out | exact HB.out | exact bthen HB2.out (by repeat (first | exact Below.refl _ _ | apply pw_below_drewN | apply below_alloc))⟩
  all_goals first
    | (simp [soundP, hc, *]; done)
    | (simp [soundP, hc, HBP.out, *]; done)
    | (have hz : y.f6 ≠ 0 := (by have h : (y.f6 != 0) = true := by assumption
                                 simpa using h)
       simp [soundP, hc, *]; done)
    | (have hz : y.f6 = 0 := (by have h : (y.f6 != 0) = false := by assumption
                                 simpa using h)
       rw [Bool.not_eq_true', HAF.out]; simp [soundP, hc, hz, *]; done)
    | (have hz : y.f6 = 0 := (by have h : (y.f6 != 0) = false := by assumption
                                 simpa using h)
       rw [Bool.not_eq_true', HAF.out, hz] at *; simp [soundP, hc, *]; done)
    | (rw [Bool.not_eq_true', HAF.out]; simp [soundP, hc, *]; done)
    | (simp [soundP, hc, *]; omega)
set_option maxHeartbeats 8000000 in
set_option maxRecDepth 100000 in
theorem chunksP_calls (y : Dc) (ds : List Value) (w : World) (x : Fr) (hx : x = rd_T44 y.f13 0) (hy : k27.K w y ds) (h0 : y.f0 = true) (hl : 0 < y.f13.length) (ho : okFr x) (hn : (2 + x.f10.length) * 40 ≤ 140737488355328) :
    Calls Try.prog 22 #[.agg ds.toArray] w fun e w' => ∃ (B : Option Addr) (c : Nat), e = .returned (.slice B (picV x).length c) ∧ (picV x).length ≤ c ∧ k42.C w' B (picV x).length (picV x) ∧ Below w.heap.size w w' := by
  have hlen : (picV x).length ≤ 9223372036854775807 := by unfold picV alphaV; split <;> simp <;> omega
  obtain ⟨B1, d1, B2, d2, B3, d3, B4, d4, B5, d5, rfl, m1, h1, m2, h2, m3, h3, m4, h4, m5, h5⟩ := k27_open hy
  rw [h0]
  obtain ⟨ad1, A8, c8, A9, c9, A10, c10, rfl, e0, e1, e2, e3, e4, e5, e6, e7, e8, e9, e10, m8, g8, m9, g9, m10, g10⟩ := at_T44 h4 (0 : Int) (by omega) (by omega)
  simp only [Int.toNat_zero, Nat.zero_mul] at e0 e1 e2 e3 e4 e5 e6 e7 e8 e9 e10
  rw [← hx] at e0 e1 e2 e3 e4 e5 e6 e7 e8 e9 e10 m8 g8 m9 g9 m10 g10
  have HP := asiD fun (W : World) (hb : Below w.heap.size w W) => picture_calls_at x _ w W hb (k44_mk w x m8 g8 m9 g9 m10 g10) ho hn
  have h0' : ad1.add 0 = ad1 := by cases ad1; unfold Addr.add; split <;> simp_all
  rw [h0'] at e0 e1 e2 e3 e4 e5 e6 e7 e8 e9 e10
  have hb0 : Below w.heap.size w (w.alloc (.cells #[.bool true, .int .i64 y.f1, .int .i64 y.f2, .bool y.f3, .bool y.f4, .int .u32 y.f5, .int .i64 y.f6, .slice B1 y.f7.length d1, .slice B2 y.f8.length d2, .slice B3 y.f9.length d3, .bool y.f10, .bool y.f11, .bool y.f12, .slice (some ad1) y.f13.length d4, .slice B5 y.f14.length d5] 27)) := below_alloc (Below.refl _ _) _
  have e0' := (cellL hb0 e0)
  have e1' := (cellL hb0 e1)
  have e2' := (cellL hb0 e2)
  have e3' := (cellL hb0 e3)
  have e4' := (cellL hb0 e4)
  have e5' := (cellL hb0 e5)
  have e6' := (cellL hb0 e6)
  have e7' := (cellL hb0 e7)
  have e8' := (cellL hb0 e8)
  have e9' := (cellL hb0 e9)
  have e10' := (cellL hb0 e10)
  have y1 : decide ((0 : Int) < y.f13.length) = true := decide_eq_true (by omega)
  have y2 : decide (0 < y.f13.length) = true := decide_eq_true hl
  have HLN := asiD hlen
  clear hy h1 h2 h3 h4 h5 g8 g9 g10 ho hn hx h0 hlen
  go_enter Try.func22, Try.ntmps22
  go_wp2_with (go_at_call 55; refine (HP.out _ hb0).mono ?_; rintro e w1 ⟨B, c, xs, rfl, hk, hs⟩; have HS := asiD hs; have HK := asiD hk; clear hk hs)
  go_ret
  have hs := HS.out
  exact ⟨B, c, rfl, own_le hs.row, C_of_KL (KL_below (bthen hb0 hs.below) HK.out) rfl HLN.out (rowReadsC hs (KL_one HK.out)), bthen hb0 hs.below⟩
def printV (b : Bool) (l : List Ch) : List Int := if b = true then file l else []
def printE (b : Bool) : Int := if b = true then 0 else 7
set_option maxHeartbeats 8000000 in
set_option maxRecDepth 100000 in
theorem Print_calls (y : Dc) (ds : List Value) (l : List Ch) (w : World) (hy : k27.K w y ds) (ho : okDc y) (hw : weightI y ≤ 4611686018427387904) (hn : (allCh y).length * 40 ≤ 140737488355328) (b : Bool) (hb : b = true ↔ soundP y)
    (hc : b = true → ∀ W, Below w.heap.size w W → Calls Try.prog 22 #[.agg ds.toArray] W fun e w' => ∃ (B : Option Addr) (c : Nat), e = .returned (.slice B l.length c) ∧ l.length ≤ c ∧ k42.C w' B l.length l ∧ Below W.heap.size W w')
    (hl : b = true → l.length + Pure.weight l < 9000000 ∧ Pure.ok l) :
    Calls Try.prog 11 #[.agg ds.toArray] w fun e w' => ∃ v : Value, e = .returned (.tuple #[v, .int .i64 (printE b)]) ∧ Kd.R (Kd.int .u8) 5 w' w.heap.size (fun _ => True) v (printV b l) ∧ Below w.heap.size w w' := by
  have HE1 := asiD fun (W : World) (hw1 : Below w.heap.size w W) => Sound_calls y ds W (k27.K_below hw1 hy) ho hw hn b hb
  have HCC := asiD hc
  have HL := asiD hl
  clear hc hl hb hw hn ho
  obtain ⟨B1, d1, B2, d2, B3, d3, B4, d4, B5, d5, rfl, m1, h1, m2, h2, m3, h3, m4, h4, m5, h5⟩ := k27_open hy
  clear hy h1 h2 h3 h4 h5
  cases b with
  | false =>
    go_enter Try.func11, Try.ntmps11
    go_wp2_with (go_at_call 12; with_reducible refine (HE1.out _ (by repeat (first | exact Below.refl _ _ | apply pw_below_drewN | apply below_alloc))).mono ?_; rintro e w1 ⟨rfl, hd⟩; have HB := asiD (bthen (show Below w.heap.size w _ by repeat (first | exact Below.refl _ _ | apply pw_below_drewN | apply below_alloc)) hd); clear hd)
    go_ret2
    exact ⟨_, rfl, Kd.R_nil _ _ _ _ _, HB.out⟩
  | true =>
    have HP := asiD fun (A : Option Addr) (c : Nat) (W : World) (hr : k42.C W A l.length l) (hcl : l.length ≤ c) => (by
      obtain ⟨k, hk⟩ := (chunk_Print_ev (HL.out rfl).1).rounds
      rw [if_pos (HL.out rfl).2] at hk
      exact chunk_Print.calls k A c l _ _ W hr hcl hk : Calls Try.prog 21 #[.slice A l.length c] W fun e w' => ∃ v0_ : Value, e = .returned (.tuple #[v0_, .int .i64 0]) ∧ Kd.R (Kd.int .u8) 5 w' W.heap.size (fun _ => True) v0_ (file l) ∧ Below W.heap.size W w')
    have HC2 := asiD fun (W : World) (hw1 : Below w.heap.size w W) (es : Array Value) (he : es = _) => (he ▸ HCC.out rfl W hw1 : Calls Try.prog 22 #[.agg es] W fun e w' => ∃ (B : Option Addr) (c : Nat), e = .returned (.slice B l.length c) ∧ l.length ≤ c ∧ k42.C w' B l.length l ∧ Below W.heap.size W w')
    go_enter Try.func11, Try.ntmps11
    go_wp2_with (first
      | (go_at_call 12; with_reducible refine (HE1.out _ (by repeat (first | exact Below.refl _ _ | apply pw_below_drewN | apply below_alloc))).mono ?_; rintro e w1 ⟨rfl, hd⟩; have z1 := cells1 hd; have HB := asiD (bthen (show Below w.heap.size w _ by repeat (first | exact Below.refl _ _ | apply pw_below_drewN | apply below_alloc)) hd); clear hd)
      | (go_at_call 22; with_reducible refine (HC2.out _ HB.out _ rfl).mono ?_; rintro e w2 ⟨B, c, rfl, hcl, hr, hd⟩; have HB2 := asiD (bthen HB.out hd); have HR2 := asiD hr; have HL2 := asiD hcl; clear hd hr hcl)
      | (go_at_call 21; with_reducible refine (HP.out _ _ _ HR2.out HL2.out).mono ?_; rintro e w3 ⟨v, rfl, hr, hd⟩; have HB3 := asiD (bthen HB2.out hd); have HR3 := asiD (Kd.R_lower hr HB2.out.size); clear hr hd))
    go_ret2
    exact ⟨_, rfl, HR3.out, HB3.out⟩
theorem KL_of_reps {α : Type} {d : Kd α} {w : World} : ∀ {l : List α} {cs : List Value}, Reps (d.K w) d.sz l cs → KL d w l cs
  | [], cs, h => by
    have := h.1
    simp at this
    exact this
  | p :: l, cs, h => by
    have h1 := h.1
    rw [List.length_cons, Nat.add_mul, Nat.one_mul] at h1
    refine ⟨cs.take d.sz, cs.drop d.sz, (List.take_append_drop _ _).symm, by rw [List.length_take]; omega, by simpa using h.2 0 p rfl, KL_of_reps ⟨by rw [List.length_drop]; omega, fun j q hq => ?_⟩⟩
    have := h.2 (j + 1) q (by simpa using hq)
    rw [List.drop_drop]
    rwa [Nat.add_mul, Nat.one_mul, Nat.add_comm] at this
theorem St.pinRX {α : Type} {w0 w w' : World} {A : Asrt} {d : Kd α} {e : Nat} {v : Value} {xs : List α} (h : St w0 w A) (hb : Below w.heap.size w w') (hr : Kd.R d e w' w.heap.size (fun _ => True) v xs) :
    ∃ B c inner, v = .slice B xs.length c ∧ xs.length ≤ c ∧ St w0 w' (pin w0 (fun W => ReadsCells W d.sz B xs.length inner ∧ KL d W xs inner) * A) := by
  obtain ⟨B, c, hv, hc, hC⟩ := Kd.R_reads hr
  obtain ⟨h0, inner, ho, hrep⟩ := Kd.R_bound hr
  refine ⟨B, c, inner, hv, hc, ?_⟩
  have hle := h.below.size
  refine St.move (a := Asrt.emp) (h.imp (Asrt.emp_l' A)) fun F hF _ => ⟨fun k => w.heap.size ≤ k ∧ k < w'.heap.size, ⟨fun k hk => hk.2, fun W hB hm => ?_⟩, hb.os, hb.tape, hb.output, hb.size, fun k hk _ => hb.block k hk, fun k hk => .inr hk.1⟩
  have ho' := own_move ho fun k hk => hm k ⟨(h0 k hk).2.1, (h0 k hk).2.2.1⟩
  have hk : KL d W xs inner := KL_of_reps (hrep.imp_ fun _ _ hp => d.K_of_M (d.M_move (fun k hk => hm k ⟨hk.1.2.1, hk.1.2.2.1⟩) hp))
  rw [hv] at ho'
  exact ⟨rowReadsC ((St.refl w0).newRow hB ho' hle) (KL_one hk), hk⟩
theorem ReadsCells.drop {w : World} {A : Option Addr} {n size c : Nat} {xs : List Value} (h : ReadsCells w size A (n + 1) xs) (hc : n + 1 ≤ c) : ReadsCells w size (if c = 1 then A else A.map (·.add size)) n (xs.drop size) := by
  obtain ⟨h1, h2, h3⟩ := h
  refine ⟨by rw [List.length_drop, h1, Nat.add_mul, Nat.one_mul]; omega, fun u hu => h2 u (List.mem_of_mem_drop hu), fun hn => ?_⟩
  obtain ⟨ad, rfl, hcell⟩ := h3 (by omega)
  rw [if_neg (by omega)]
  refine ⟨ad.add size, rfl, fun j u hj => ?_⟩
  rw [List.getElem?_drop] at hj
  rw [add_add]
  exact hcell _ u hj
structure poolQ (Q : World → Prop) (A : Option Addr) (c : Nat) (l : List Ch) (zs : List Value) : Prop where
  le : l.length ≤ c
  mx : l.length ≤ 9223372036854775807
  q : ∀ W, Q W → ReadsCells W 2 A l.length zs ∧ KL k42 W l zs
theorem poolQ.C {Q : World → Prop} {A : Option Addr} {c : Nat} {l : List Ch} {zs : List Value} (h : poolQ Q A c l zs) {W : World} (hW : Q W) : k42.C W A l.length l := C_of_KL (h.q W hW).2 rfl h.mx (h.q W hW).1
theorem poolQ.cons {Q : World → Prop} {A : Option Addr} {c : Nat} {x : Ch} {t : List Ch} {zs : List Value} (h : poolQ Q A c (x :: t) zs) {W0 : World} (hW0 : Q W0) :
    ∃ ad B c1, A = some ad ∧ W0.cell? ad = some (.string x.f0) ∧ W0.cell? ⟨ad.block, ad.off + 1, none⟩ = some (.slice B x.f1.length c1) ∧ x.f1.length ≤ c1 ∧ (∀ W, Q W → (Kd.int .u8).C W B x.f1.length x.f1) ∧
      poolQ Q (if c = 1 then A else A.map (·.add 2)) (c - 1) t (zs.drop 2) := by
  have hr := (h.q W0 hW0).1
  have hle := h.le
  rw [List.length_cons] at hle
  have hmx := h.mx
  rw [List.length_cons] at hmx
  have key : ∀ W, Q W → ∃ B c1, zs.take 2 = [.string x.f0, .slice B x.f1.length c1] ∧ x.f1.length ≤ c1 ∧ (Kd.int .u8).C W B x.f1.length x.f1 ∧ KL k42 W t (zs.drop 2) := fun W hW => by
    obtain ⟨cs, r, hzs, hl, hK, hr⟩ := (h.q W hW).2
    obtain ⟨B, c1, rfl, hcl, hC⟩ := k42_open hK
    rw [hzs]
    exact ⟨B, c1, by simp, hcl, hC, by simpa using hr⟩
  obtain ⟨B, c1, hz, hcl, hC, _⟩ := key W0 hW0
  have hz0 : zs[0]? = some (.string x.f0) := by
    have := congrArg (fun l : List Value => l[0]?) hz
    simpa [List.getElem?_take] using this
  have hz1 : zs[1]? = some (.slice B x.f1.length c1) := by
    have := congrArg (fun l : List Value => l[1]?) hz
    simpa [List.getElem?_take] using this
  obtain ⟨ad, hA, hcell⟩ := hr.2.2 (by simp)
  have w0 := hcell 0 _ hz0
  have w1 := hcell (0 + 1) _ hz1
  rw [add_field _ _ 1 (by omega)] at w1
  rw [Addr.add_zero'] at w0 w1
  refine ⟨ad, B, c1, hA, w0, w1, hcl, fun W hW => ?_, ⟨by omega, by omega, fun W hW => ⟨(h.q W hW).1.drop hle, ?_⟩⟩⟩
  · obtain ⟨B', c', hz', _, hC', _⟩ := key W hW
    rw [hz] at hz'
    injection hz' with _ h2
    injection h2 with h2 _
    injection h2 with h2 _ _
    rw [h2]
    exact hC'
  · obtain ⟨_, _, _, _, _, hk⟩ := key W hW
    exact hk
def parA (w : World) (g : Nat) (l : List Ch) (most e : Int) (A : Option Addr) (c : Nat) (Q : World → Prop) (r : Asrt) : Asrt :=
  Asrt.blk g 59 #[.slice A l.length c, .int .i64 most, .int .i64 e] * (pin w Q * r)
def headB (l : List Ch) (nm : ByteArray) : Bool := match l with
  | [] => false
  | x :: _ => decide (x.f0 = nm)
def isB (l : List Ch) (e : Int) (nm : ByteArray) : Bool := decide (e = 0) && headB l nm
def failE (e e1 : Int) : Int := if e = 0 then e1 else e
theorem ba_eq (a b : ByteArray) : (a.toList == b.toList) = decide (a = b) := by
  rw [Bool.eq_iff_iff, beq_iff_eq, decide_eq_true_iff, str_ext]
section
variable {w W : World} {g : Nat} {l : List Ch} {most e : Int} {A : Option Addr} {c : Nat} {Q : World → Prop} {r : Asrt}
set_option maxHeartbeats 8000000 in
set_option maxRecDepth 100000 in
theorem fail_calls (e1 : Int) (hS : St w W (parA w g l most e A c Q r)) :
    Calls Try.prog 37 #[.pointer (some ⟨g, 0, none⟩), .int .i64 e1] W fun x w' => x = .returned (.tuple #[]) ∧ St w w' (parA w g l most (failE e e1) A c Q r) := by
  unfold parA at hS
  have m2 : W.cell? ⟨g, 2, none⟩ = some (.int .i64 e) := (hS.cell 2).trans rfl
  have f2 := hS.frozen 2
  have HS := asiD hS
  clear hS
  by_cases he : e = 0
  · have y1 : (e == 0) = true := by simp [he]
    have HE : Aside0 (failE e e1 = e1) := ⟨if_pos he⟩
    clear he
    go_enter Try.func37, Try.ntmps37
    go_wp2_with fail
    go_end0
    rw [HE.out]
    exact ⟨rfl, HS.out.set 2 (.int .i64 e1)⟩
  · have y1 : (e == 0) = false := by simp [he]
    have HE : Aside0 (failE e e1 = e) := ⟨if_neg he⟩
    clear he
    go_enter Try.func37, Try.ntmps37
    go_wp2_with fail
    go_end0
    rw [HE.out]
    exact ⟨rfl, HS.out⟩
set_option maxHeartbeats 8000000 in
set_option maxRecDepth 100000 in
theorem is_calls (nm : ByteArray) {zs : List Value} (hq : poolQ Q A c l zs) (hS : St w W (parA w g l most e A c Q r)) :
    Calls Try.prog 34 #[.pointer (some ⟨g, 0, none⟩), .string nm] W fun x w' => x = .returned (.bool (isB l e nm)) ∧ St w w' (parA w g l most e A c Q r) := by
  unfold parA at hS
  have m0 : W.cell? ⟨g, 0, none⟩ = some (.slice A l.length c) := (hS.cell 0).trans rfl
  have m2 : W.cell? ⟨g, 2, none⟩ = some (.int .i64 e) := (hS.cell 2).trans rfl
  have hC := hq.C hS.swap.pinGet
  have HS := asiD hS
  clear hS
  cases l with
  | nil =>
    clear hC
    go_enter Try.func34, Try.ntmps34
    go_wp2_with fail
    all_goals go_ret
    all_goals exact ⟨by simp [isB, headB], HS.out⟩
  | cons x t =>
    obtain ⟨ad1, B, c1, rfl, d0, d1, m1, g1⟩ := at_T42 hC (0 : Int) (by omega) (by simp)
    simp only [Int.toNat_zero, Nat.zero_mul, Addr.add_zero'] at d0 d1
    rw [show rd_T42 (x :: t) 0 = x from rfl] at d0 d1 m1 g1
    clear hC g1
    obtain ⟨n, hn⟩ : ∃ n, n = (x :: t).length := ⟨_, rfl⟩
    have y1 : (0 < n) = True := eq_true (by rw [hn]; simp)
    have y2 : ((0 : Int) < (n : Int)) = True := eq_true (by rw [hn]; simp)
    rw [← hn] at m0 HS
    have HN := asiD hn
    have hsb := ba_eq x.f0 nm
    clear hn
    go_enter Try.func34, Try.ntmps34
    go_wp2_with fail
    all_goals go_ret
    all_goals refine ⟨?_, by unfold parA; rw [← HN.out]; first | exact HS.out | exact HS.out.drew⟩
    all_goals (unfold isB headB; simp [*])
def nextV (l : List Ch) (e : Int) (nm : ByteArray) (wanted : Bool) : List Int × Bool × List Ch × Int :=
  if wanted = true ∧ e = 0 then (if headB l nm = true then ((l.getD 0 z42).f1, true, l.drop 1, 0) else ([], false, l, 3)) else ([], false, l, e)
end
section
variable {w W : World} {g : Nat} {l : List Ch} {most e : Int} {A : Option Addr} {c : Nat} {Q : World → Prop} {r : Asrt}
set_option maxHeartbeats 8000000 in
set_option maxRecDepth 100000 in
theorem next_calls (nm : ByteArray) (wanted : Bool) {zs : List Value} (hq : poolQ Q A c l zs) (hS : St w W (parA w g l most e A c Q r)) :
    Calls Try.prog 71 #[.pointer (some ⟨g, 0, none⟩), .string nm, .bool wanted] W fun x w' => ∃ (B : Option Addr) (cB : Nat) (A' : Option Addr) (c' : Nat) (zs' : List Value), x = .returned (.tuple #[.slice B (nextV l e nm wanted).1.length cB, .bool (nextV l e nm wanted).2.1]) ∧
      (nextV l e nm wanted).1.length ≤ cB ∧ (∀ W, Q W → (Kd.int .u8).C W B (nextV l e nm wanted).1.length (nextV l e nm wanted).1) ∧ poolQ Q A' c' (nextV l e nm wanted).2.2.1 zs' ∧
      St w w' (parA w g (nextV l e nm wanted).2.2.1 most (nextV l e nm wanted).2.2.2 A' c' Q r) := by
  by_cases hwe : wanted = true ∧ e = 0
  case neg =>
    have hV : nextV l e nm wanted = ([], false, l, e) := if_neg hwe
    rw [hV]
    have HQ := asiD hq
    have HS := asiD hS
    have m2 : W.cell? ⟨g, 2, none⟩ = some (.int .i64 e) := (hS.cell 2).trans rfl
    have y1 : wanted = true → (e != 0) = true := fun h => by simp; exact fun h2 => hwe ⟨h, h2⟩
    clear hS hq hV hwe
    cases wanted with
    | false =>
      clear y1
      go_enter Try.func71, Try.ntmps71
      go_wp2_with fail
      all_goals go_ret2
      all_goals exact ⟨none, 0, A, c, zs, rfl, Nat.le_refl _, fun W _ => Kd.C_nil _ W, HQ.out, by first | exact HS.out | exact HS.out.drew⟩
    | true =>
      have y2 := y1 rfl
      clear y1
      go_enter Try.func71, Try.ntmps71
      go_wp2_with fail
      all_goals go_ret2
      all_goals exact ⟨none, 0, A, c, zs, rfl, Nat.le_refl _, fun W _ => Kd.C_nil _ W, HQ.out, by first | exact HS.out | exact HS.out.drew⟩
  case pos =>
    obtain ⟨rfl, rfl⟩ := hwe
    have m0 : W.cell? ⟨g, 0, none⟩ = some (.slice A l.length c) := (hS.cell 0).trans rfl
    have f0 := hS.frozen 0
    have m2 : W.cell? ⟨g, 2, none⟩ = some (.int .i64 0) := (hS.cell 2).trans rfl
    have hQW := hS.swap.pinGet
    have HQ := asiD hq
    have HF : Aside0 (Calls Try.prog 37 #[.pointer (some ⟨g, 0, none⟩), .int .i64 3] W fun x w' => x = .returned (.tuple #[]) ∧ St w w' (parA w g l most 3 A c Q r)) := ⟨fail_calls 3 hS⟩
    have HS := asiD hS
    clear hS
    cases l with
    | nil =>
      have hV : nextV [] 0 nm true = ([], false, [], 3) := rfl
      rw [hV]
      clear hV hq hQW
      go_enter Try.func71, Try.ntmps71
      go_wp2_with (go_at_call 37; refine HF.out.mono ?_; rintro e w1 ⟨rfl, hs⟩; have HS1 := asiD hs; clear hs)
      all_goals go_ret2
      all_goals exact ⟨none, 0, A, c, zs, rfl, Nat.le_refl _, fun W _ => Kd.C_nil _ W, HQ.out, HS1.out⟩
    | cons x t =>
      obtain ⟨ad1, B, c1, rfl, d0, d1, m1, g1, hp⟩ := hq.cons hQW
      have HP := asiD hp
      have HG := asiD g1
      have hle := hq.le
      clear hp g1 hq hQW
      obtain ⟨n, hn⟩ : ∃ n, n = (x :: t).length := ⟨_, rfl⟩
      have y1 : (0 < n) = True := eq_true (by rw [hn]; simp)
      have y2 : ((0 : Int) < (n : Int)) = True := eq_true (by rw [hn]; simp)
      have y3 : ((n : Int) == 0) = false := by rw [hn]; simp; omega
      have y5 : (1 ≤ n) = True := eq_true (by rw [hn]; simp)
      have y4 : ((1 : Int) ≤ (n : Int)) = True := eq_true (by have := of_eq_true y5; omega)
      have y6 : (n ≤ c) = True := eq_true (by rw [hn]; exact hle)
      have y7 : ((n : Int) ≤ (c : Int)) = True := eq_true (by rw [hn]; exact Int.ofNat_le.2 hle)
      rw [← hn] at m0
      have HN := asiD hn
      by_cases hx : x.f0 = nm
      · have hsb : (x.f0.toList != nm.toList) = false := by rw [hx]; simp
        have hsb2 : (x.f0.toList == nm.toList) = true := by rw [hx]; simp
        have hV : nextV (x :: t) 0 nm true = (x.f1, true, t, 0) := by simp [nextV, headB, hx]
        have hn1 : n - 1 = t.length := by rw [hn]; simp
        rw [hV]
        clear hn hx hV hle
        go_enter Try.func71, Try.ntmps71
        by_cases hc1 : c = 1
        · rw [if_pos hc1] at HP
          have HC1 := asiD hc1
          go_wp2_with fail
          go_ret2
          have hs := HS.out
          exact ⟨B, c1, some ad1, 0, zs.drop 2, rfl, m1, HG.out, by have h := HP.out; rw [HC1.out] at h; exact h, by unfold parA at hs ⊢; rw [← hn1]; exact hs.set 0 _⟩
        · have hadd : ad1.add 2 = ⟨ad1.block, ad1.off + 2, none⟩ := by rw [show 2 = 0 + 2 from rfl, add_field _ _ 2 (by omega), Addr.add_zero']
          have HP2 : Aside0 (poolQ Q (some ⟨ad1.block, ad1.off + 2, none⟩) (c - 1) t (zs.drop 2)) := ⟨by have h := HP.out; rw [if_neg hc1] at h; rw [← hadd]; exact h⟩
          clear hadd
          go_wp2_with fail
          go_ret2
          have hs := HS.out
          exact ⟨B, c1, some ⟨ad1.block, ad1.off + 2, none⟩, c - 1, zs.drop 2, rfl, m1, HG.out, HP2.out, by unfold parA at hs ⊢; rw [← hn1]; exact hs.set 0 _⟩
      · have hsb : (x.f0.toList != nm.toList) = true := by rw [bne, ba_eq, decide_eq_false hx]; rfl
        have hsb2 : (x.f0.toList == nm.toList) = false := by rw [ba_eq, decide_eq_false hx]
        have hV : nextV (x :: t) 0 nm true = ([], false, x :: t, 3) := by simp [nextV, headB, hx]
        rw [hV]
        clear hn hx hV hle
        go_enter Try.func71, Try.ntmps71
        go_wp2_with (go_at_call 37; refine HF.out.mono ?_; rintro e w1 ⟨rfl, hs⟩; have HS1 := asiD hs; clear hs)
        all_goals go_ret2
        all_goals exact ⟨none, 0, _, c, zs, rfl, Nat.le_refl _, fun W _ => Kd.C_nil _ W, HQ.out, HS1.out⟩
end
def restE (l : List Ch) (e : Int) : Int := if e = 0 ∧ moreB l = false then 3 else e
section
variable {w W : World} {g : Nat} {l : List Ch} {most e : Int} {A : Option Addr} {c : Nat} {Q : World → Prop} {r : Asrt}
set_option maxHeartbeats 8000000 in
set_option maxRecDepth 100000 in
theorem rest_calls {zs : List Value} (hq : poolQ Q A c l zs) (hS : St w W (parA w g l most e A c Q r)) :
    Calls Try.prog 73 #[.pointer (some ⟨g, 0, none⟩)] W fun x w' => x = .returned (.slice A l.length c) ∧ St w w' (parA w g l most (restE l e) A c Q r) := by
  have m0 : W.cell? ⟨g, 0, none⟩ = some (.slice A l.length c) := (hS.cell 0).trans rfl
  have m2 : W.cell? ⟨g, 2, none⟩ = some (.int .i64 e) := (hS.cell 2).trans rfl
  have HM := asiD (more_calls A c l W (hq.C hS.swap.pinGet))
  have HS := asiD hS
  clear hS hq
  by_cases he : e = 0
  case neg =>
    have y1 : (e == 0) = false := by simp [he]
    have HE : Aside0 (restE l e = e) := ⟨if_neg fun h => he h.1⟩
    clear he
    go_enter Try.func73, Try.ntmps73
    go_wp2_with fail
    all_goals go_ret
    all_goals exact ⟨rfl, by rw [HE.out]; first | exact HS.out | exact HS.out.drew⟩
  case pos =>
    subst he
    cases hm : moreB l with
    | true =>
      rw [hm] at HM
      have HE : Aside0 (restE l 0 = 0) := ⟨if_neg fun h => by simp [hm] at h⟩
      clear hm
      go_enter Try.func73, Try.ntmps73
      go_wp2_with (go_at_call 27; refine HM.out.mono ?_; rintro e w1 ⟨rfl, hd⟩; have HS1 := asiD (HS.out.belowR hd); have z0 : w1.cell? ⟨g, 0, none⟩ = some (.slice A l.length c) := (HS1.out.cell 0).trans rfl; clear hd)
      all_goals go_ret
      all_goals exact ⟨rfl, by rw [HE.out]; exact HS1.out⟩
    | false =>
      rw [hm] at HM
      have HE : Aside0 (restE l 0 = 3) := ⟨if_pos ⟨rfl, hm⟩⟩
      clear hm
      go_enter Try.func73, Try.ntmps73
      go_wp2_with (first
        | (go_at_call 27; refine HM.out.mono ?_; rintro e w1 ⟨rfl, hd⟩; have HS1 := asiD (HS.out.belowR hd); clear hd)
        | (go_at_call 37; refine (fail_calls 3 HS1.out).mono ?_; rintro e w2 ⟨rfl, hs⟩; have HS2 := asiD hs; have z0 : w2.cell? ⟨g, 0, none⟩ = some (.slice A l.length c) := (hs.cell 0).trans rfl; clear hs))
      all_goals go_ret
      all_goals exact ⟨rfl, by rw [HE.out]; exact HS2.out⟩
end
def numV (l : List Int) (a n : Int) : Int := (Pure.get l a n).1
theorem numV_bd {l : List Int} (hl : Bytes l) (a n : Int) (hn : n ≤ 4) : 0 ≤ numV l a n ∧ numV l a n < 4294967296 := by
  unfold numV Pure.get
  split
  · have h := num_bd ((hl.drop a.toNat).take n.toNat)
    refine ⟨h.1, Int.lt_of_lt_of_le h.2 ?_⟩
    have hle : ((l.drop a.toNat).take n.toNat).length ≤ 4 := by rw [List.length_take]; omega
    have h4 : (256 : Int) ^ ((l.drop a.toNat).take n.toNat).length ≤ 4294967296 := by
      generalize ((l.drop a.toNat).take n.toNat).length = m at hle
      have : m = 0 ∨ m = 1 ∨ m = 2 ∨ m = 3 ∨ m = 4 := by omega
      rcases this with rfl | rfl | rfl | rfl | rfl <;> decide
    exact h4
  · exact ⟨Int.le_refl _, by decide⟩
theorem num_calls (A : Option Addr) (c : Nat) (l : List Int) (w : World) (hr : (Kd.int .u8).C w A l.length l) (hc : l.length ≤ c) (hl : Bytes l) (hlen : l.length ≤ 140737488351232) (a n : Int) (ha : 0 ≤ a) (hn : n ≤ 4) :
    Calls Try.prog 85 #[.slice A l.length c, .int .i64 a, .int .i64 n] w fun e w' => e = .returned (.int .i64 (numV l a n)) ∧ Drawn0 w w' := by
  obtain ⟨k, hk⟩ := (le_Get_ev hl hlen a n (by omega)).rounds
  have hb := numV_bd hl a n hn
  refine box_num.calls k A c l a n _ w hr hc ?_
  unfold box_num.f
  rw [hk]
  show some (wrap64 (numV l a n)) = _
  rw [w64 (by omega) (by omega)]
abbrev nLOSS : ByteArray := ⟨#[86, 80, 56, 32]⟩
def alphaP (l : List Ch) (e : Int) : List Int × List Ch × Int :=
  if isB l e nALPH = true then ((nextV l e nALPH true).1, (nextV l e nALPH true).2.2.1, if (nextV l e nALPH true).1.length = 0 ∨ isB (nextV l e nALPH true).2.2.1 (nextV l e nALPH true).2.2.2 nLOSS = false then failE (nextV l e nALPH true).2.2.2 3 else (nextV l e nALPH true).2.2.2) else ([], l, e)
def kindP (l : List Ch) (e : Int) : Int := if isB l e nLOSS = true then 2 else 1
def dataP (l : List Ch) (e : Int) : List Int × Bool × List Ch × Int := nextV (alphaP l e).2.1 (alphaP l e).2.2 (payS (kindP (alphaP l e).2.1 (alphaP l e).2.2)) true
section
variable {w W : World} {g gf : Nat} {l : List Ch} {most e : Int} {A : Option Addr} {c : Nat} {Q : World → Prop} {r : Asrt}
set_option maxHeartbeats 8000000 in
set_option maxRecDepth 100000 in
theorem pictureP_calls (a0 a1 a2 a3 a4 a5 a6 a7 a9 a10 : Value) {zs : List Value} (hq : poolQ Q A c l zs)
    (hS : St w W (parA w g l most e A c Q (Asrt.blk gf 44 #[a0, a1, a2, a3, a4, a5, a6, a7, .slice none 0 0, a9, a10] * r))) :
    Calls Try.prog 74 #[.pointer (some ⟨g, 0, none⟩), .pointer (some ⟨gf, 0, none⟩)] W fun x w' => ∃ (B8 : Option Addr) (c8 : Nat) (B9 : Option Addr) (c9 : Nat) (A' : Option Addr) (c' : Nat) (zs' : List Value), x = .returned (.tuple #[]) ∧
      (alphaP l e).1.length ≤ c8 ∧ (∀ W, Q W → (Kd.int .u8).C W B8 (alphaP l e).1.length (alphaP l e).1) ∧ (dataP l e).1.length ≤ c9 ∧ (∀ W, Q W → (Kd.int .u8).C W B9 (dataP l e).1.length (dataP l e).1) ∧ poolQ Q A' c' (dataP l e).2.2.1 zs' ∧
      St w w' (parA w g (dataP l e).2.2.1 most (dataP l e).2.2.2 A' c' Q (Asrt.blk gf 44 #[a0, a1, a2, a3, a4, a5, a6, .int .i64 (kindP (alphaP l e).2.1 (alphaP l e).2.2), .slice B8 (alphaP l e).1.length c8, .slice B9 (dataP l e).1.length c9, a10] * r)) := by
  have HQ := asiD hq
  have HI := asiD (is_calls nALPH hq hS)
  have HS := asiD hS
  clear hS hq
  go_enter Try.func74, Try.ntmps74
  go_upto_if 5 with (go_at_call 34; refine HI.out.mono ?_; rintro e w1 ⟨rfl, hs⟩; have HS1 := asiD hs; clear hs)
  clear HS HI
  go_cut [] from 5 to 26 (fun wc => ∃ (B8 : Option Addr) (c8 : Nat) (A' : Option Addr) (c' : Nat) (zs' : List Value), (alphaP l e).1.length ≤ c8 ∧ (∀ W, Q W → (Kd.int .u8).C W B8 (alphaP l e).1.length (alphaP l e).1) ∧ poolQ Q A' c' (alphaP l e).2.1 zs' ∧
    St w wc (parA w g (alphaP l e).2.1 most (alphaP l e).2.2 A' c' Q (Asrt.blk gf 44 #[a0, a1, a2, a3, a4, a5, a6, a7, .slice B8 (alphaP l e).1.length c8, a9, a10] * r)))
  case first =>
    cases hA : isB l e nALPH with
    | false =>
      have HV : Aside0 (alphaP l e = ([], l, e)) := ⟨by unfold alphaP; rw [if_neg (by rw [hA]; simp)]⟩
      clear hA
      go_wp2_with fail
      go_meet
      case rel =>
        rw [HV.out]
        exact ⟨none, 0, A, c, zs, Nat.le_refl _, fun W _ => Kd.C_nil _ W, HQ.out, HS1.out⟩
    | true =>
      have HN := asiD (next_calls nALPH true HQ.out HS1.out)
      have HV : Aside0 (alphaP l e = ((nextV l e nALPH true).1, (nextV l e nALPH true).2.2.1, if (nextV l e nALPH true).1.length = 0 ∨ isB (nextV l e nALPH true).2.2.1 (nextV l e nALPH true).2.2.2 nLOSS = false then failE (nextV l e nALPH true).2.2.2 3 else (nextV l e nALPH true).2.2.2)) := ⟨by unfold alphaP; rw [if_pos hA]⟩
      clear hA
      generalize nextV l e nALPH true = n at HN HV
      obtain ⟨al, ok, l1, e1⟩ := n
      have HV2 : Aside0 (alphaP l e = (al, l1, if al.length = 0 ∨ isB l1 e1 nLOSS = false then failE e1 3 else e1)) := ⟨HV.out⟩
      clear HV
      go_upto_region 2 with (go_at_call 71; refine HN.out.mono ?_; rintro e w2 ⟨B8, c8, A', c', zs', rfl, hc8, hC8, hq2, hs⟩; have h2 := (show St w w2 (Asrt.blk g 59 _ * (pin w Q * (Asrt.blk gf 44 _ * r))) from hs).rot3; have q8 := (h2.cell 8).trans rfl; have f8 := h2.frozen 8; have HQ2 := asiD hq2; have HC8 := asiD hC8; have HL8 := asiD hc8; have HS2 := asiD h2; clear hs h2 hq2 hC8 hc8)
      have HS3 : Aside0 (St w (w2.setCell ⟨gf, 8, none⟩ (.slice B8 al.length c8)) (parA w g l1 most e1 A' c' Q (Asrt.blk gf 44 #[a0, a1, a2, a3, a4, a5, a6, a7, .slice B8 al.length c8, a9, a10] * r))) := ⟨(HS2.out.set 8 (.slice B8 al.length c8)).rot3.rot3⟩
      have p8 : (w2.setCell ⟨gf, 8, none⟩ (.slice B8 al.length c8)).cell? ⟨gf, 8, none⟩ = some (.slice B8 al.length c8) := ((HS2.out.set 8 (.slice B8 al.length c8)).cell 8).trans rfl
      obtain ⟨W3, hW3⟩ : ∃ W3, W3 = w2.setCell ⟨gf, 8, none⟩ (.slice B8 al.length c8) := ⟨_, rfl⟩
      rw [← hW3] at HS3 p8 ⊢
      clear hW3 q8 f8 HS2 HS1 HN HQ
      have HF3 := asiD (fail_calls 3 HS3.out)
      have HI3 := asiD (is_calls nLOSS HQ2.out HS3.out)
      by_cases hz : al.length = 0
      · have y1 : ((al.length : Int) == 0) = true := by simp [hz]
        have HV3 : Aside0 (alphaP l e = (al, l1, failE e1 3)) := ⟨by rw [HV2.out, if_pos (Or.inl hz)]⟩
        clear hz HI3
        go_wp2_with (go_at_call 37; refine HF3.out.mono ?_; rintro e w4 ⟨rfl, hs⟩; have HS4 := asiD hs; clear hs)
        go_meet
        case rel =>
          rw [HV3.out]
          exact ⟨B8, c8, A', c', zs', HL8.out, HC8.out, HQ2.out, HS4.out⟩
      · have y1 : ((al.length : Int) == 0) = false := beq_eq_false_iff_ne.2 (by omega)
        cases hB : isB l1 e1 nLOSS with
        | true =>
          rw [hB] at HI3
          have HV3 : Aside0 (alphaP l e = (al, l1, e1)) := ⟨by rw [HV2.out, if_neg (by rw [hB]; simp [hz])]⟩
          clear hz hB HF3
          go_wp2_with (go_at_call 34; refine HI3.out.mono ?_; rintro e w4 ⟨rfl, hs⟩; have HS4 := asiD hs; clear hs)
          go_meet
          case rel =>
            rw [HV3.out]
            exact ⟨B8, c8, A', c', zs', HL8.out, HC8.out, HQ2.out, HS4.out⟩
        | false =>
          rw [hB] at HI3
          have HV3 : Aside0 (alphaP l e = (al, l1, failE e1 3)) := ⟨by rw [HV2.out, if_pos (Or.inr hB)]⟩
          clear hz hB HF3
          go_wp2_with (first
            | (go_at_call 34; refine HI3.out.mono ?_; rintro e w4 ⟨rfl, hs⟩; have HF4 := asiD (fail_calls 3 hs); clear hs)
            | (go_at_call 37; refine HF4.out.mono ?_; rintro e w5 ⟨rfl, hs⟩; have HS5 := asiD hs; clear hs))
          go_meet
          case rel =>
            rw [HV3.out]
            exact ⟨B8, c8, A', c', zs', HL8.out, HC8.out, HQ2.out, HS5.out⟩
  case rest =>
    obtain ⟨B8, c8, A', c', zs', hl8, hC8, hq2, hs⟩ := hcut
    have HD : Aside0 (dataP l e = nextV (alphaP l e).2.1 (alphaP l e).2.2 (payS (kindP (alphaP l e).2.1 (alphaP l e).2.2)) true) := ⟨rfl⟩
    obtain ⟨d, hd⟩ : ∃ d, dataP l e = d := ⟨_, rfl⟩
    obtain ⟨⟨al, l1, e1⟩, ha⟩ : ∃ a, alphaP l e = a := ⟨_, rfl⟩
    rw [hd, ha] at HD
    rw [ha] at hl8 hC8 hq2 hs
    have HAE := asiD ha
    have HDE := asiD hd
    clear ha hd
    dsimp only at hl8 hC8 hq2 hs HD
    have h2 := (show St w wc (Asrt.blk g 59 _ * (pin w Q * (Asrt.blk gf 44 _ * r))) from hs).rot3
    have q7 := (h2.cell 7).trans rfl
    have f7 := h2.frozen 7
    have HS2 := asiD h2
    have HQ2 := asiD hq2
    have HC8 := asiD hC8
    have HL8 := asiD hl8
    clear hs h2 hq2 hC8 hl8 HQ HS1
    go_upto_region 5 with (fail)
    have HS3 := asiD (HS2.out.set 7 (.int .i64 1))
    obtain ⟨W3, hW3⟩ : ∃ W3, W3 = wc.setCell ⟨gf, 7, none⟩ (.int .i64 1) := ⟨_, rfl⟩
    rw [← hW3] at HS3 ⊢
    clear hW3 q7 f7 HS2
    have HI3 := asiD (is_calls nLOSS HQ2.out (show St w W3 (parA w g l1 most e1 A' c' Q (Asrt.blk gf 44 #[a0, a1, a2, a3, a4, a5, a6, .int .i64 1, .slice B8 al.length c8, a9, a10] * r)) from HS3.out.rot3.rot3))
    go_upto_if 31 with (go_at_call 34; refine HI3.out.mono ?_; rintro e w4 ⟨rfl, hs⟩; have HS4 := asiD (show St w w4 (Asrt.blk g 59 _ * (pin w Q * (Asrt.blk gf 44 _ * r))) from hs).rot3; clear hs)
    clear HI3 HS3
    have q7 := (HS4.out.cell 7).trans rfl
    have f7 := HS4.out.frozen 7
    go_cut [] from 27 to 34 (fun wd => St w wd (parA w g l1 most e1 A' c' Q (Asrt.blk gf 44 #[a0, a1, a2, a3, a4, a5, a6, .int .i64 (kindP l1 e1), .slice B8 al.length c8, a9, a10] * r)))
    case first =>
      have HK2 : Aside0 (isB l1 e1 nLOSS = true → kindP l1 e1 = 2) := ⟨fun h => if_pos h⟩
      have HK1 : Aside0 (isB l1 e1 nLOSS = false → kindP l1 e1 = 1) := ⟨fun h => if_neg (by rw [h]; simp)⟩
      cases hB : isB l1 e1 nLOSS with
      | true =>
        have HKK := asiD (HK2.out hB)
        clear hB HK1 HK2
        go_wp2_with fail
        go_meet
        case rel => rw [HKK.out]; exact (HS4.out.set 7 (.int .i64 2)).rot3.rot3
      | false =>
        have HKK := asiD (HK1.out hB)
        clear hB HK1 HK2
        go_wp2_with fail
        go_meet
        case rel => rw [HKK.out]; exact HS4.out.rot3.rot3
    case rest =>
      clear HS4 q7 f7
      obtain ⟨k, hk⟩ : ∃ k, kindP l1 e1 = k := ⟨_, rfl⟩
      rw [hk] at hcut HD
      have HKE := asiD hk
      clear hk
      have h2 := (show St w wc (Asrt.blk g 59 _ * (pin w Q * (Asrt.blk gf 44 _ * r))) from hcut).rot3
      have q7 := (h2.cell 7).trans rfl
      have HPS := asiD (payload_calls k wc)
      have HC := asiD hcut
      clear hcut h2
      go_wp2_with (first
        | (go_at_call 81; refine HPS.out.mono ?_; rintro e w5 ⟨rfl, ⟨n1, rfl⟩⟩; have h5 := next_calls (payS k) true HQ2.out (HC.out.drewN n1); rw [← HD.out] at h5; have HN5 := asiD h5; clear h5)
        | (go_at_call 71; refine HN5.out.mono ?_; rintro e w6 ⟨B9, c9, A9, c9', zs9, rfl, hc9, hC9, hq9, hs⟩; have h6 := (show St w w6 (Asrt.blk g 59 _ * (pin w Q * (Asrt.blk gf 44 _ * r))) from hs).rot3; have q9 := (h6.cell 9).trans rfl; have f9 := h6.frozen 9; have HQ9 := asiD hq9; have HC9 := asiD hC9; have HL9 := asiD hc9; have HS6 := asiD h6; clear hs h6 hq9 hC9 hc9))
      go_end0
      rw [HAE.out, HDE.out]
      dsimp only
      rw [HKE.out]
      exact ⟨B8, c8, B9, c9, A9, c9', zs9, rfl, HL8.out, HC8.out, HL9.out, HC9.out, HQ9.out, (HS6.out.set 9 (.slice B9 d.1.length c9)).rot3.rot3⟩
end
def okL (l : List Ch) : Prop := ∀ x ∈ l, Bytes x.f1 ∧ x.f1.length ≤ 1000000000
theorem next_ok {l : List Ch} {e : Int} {nm : ByteArray} {wt : Bool} (h : okL l) : (Bytes (nextV l e nm wt).1 ∧ (nextV l e nm wt).1.length ≤ 1000000000) ∧ okL (nextV l e nm wt).2.2.1 := by
  have h0 : Bytes ([] : List Int) := fun x hx => absurd hx (by simp)
  unfold nextV
  split
  · split
    · cases l with
      | nil => exact ⟨⟨h0, by decide⟩, fun x hx => absurd hx (by simp)⟩
      | cons x t => exact ⟨h x List.mem_cons_self, fun y hy => h y (List.mem_cons_of_mem _ hy)⟩
    · exact ⟨⟨h0, by simp⟩, h⟩
  · exact ⟨⟨h0, by simp⟩, h⟩
def headOK (b : List Int) (ok : Bool) : Prop := ok = true ∧ b.length = 10 ∧ Go.bits .andNot .i64 (numV b 0 4) 62 = 0
instance (b : List Int) (ok : Bool) : Decidable (headOK b ok) := by unfold headOK; infer_instance
def headN (b : List Int) (ok : Bool) : Int := if headOK b ok then numV b 0 4 else 0
def headW (b : List Int) (ok : Bool) (i : Int) : Int := if headOK b ok then numV b i 3 + 1 else 0
def headE (b : List Int) (ok : Bool) (e : Int) : Int := if headOK b ok then e else failE e 3
def flagB (n k : Int) : Bool := Go.bits .and .i64 n k != 0
def stillF (l : List Ch) (e Wd Hd : Int) : Fr := ⟨0, 0, Wd, Hd, 0, false, false, kindP (alphaP l e).2.1 (alphaP l e).2.2, (alphaP l e).1, (dataP l e).1, []⟩
def stillV (l : List Ch) (e most Wd Hd : Int) : List Fr × List Ch × Int := if e = 0 ∧ most < 1 then ([], l, 4) else ([stillF l e Wd Hd], (dataP l e).2.2.1, (dataP l e).2.2.2)
def partOK (b : List Int) : Prop := 16 ≤ b.length ∧ rd b 15 ≤ 3 ∧ (inner (b.drop 16).length (b.drop 16) []).2 = 0
instance (b : List Int) : Decidable (partOK b) := by unfold partOK; infer_instance
def bit8 (x k : Int) : Bool := Go.bits .and .u8 x k != 0
def frameQ (b : List Int) (a : List Int × List Ch × Int) (d : List Int × Bool × List Ch × Int) : Fr :=
  ⟨2 * numV b 0 3, 2 * numV b 3 3, numV b 6 3 + 1, numV b 9 3 + 1, numV b 12 3, bit8 (rd b 15) 2, bit8 (rd b 15) 1, kindP a.2.1 a.2.2, a.1, d.1, d.2.2.1⟩
def partF (b : List Int) : Fr := if partOK b then frameQ b (alphaP (inner (b.drop 16).length (b.drop 16) []).1 0) (dataP (inner (b.drop 16).length (b.drop 16) []).1 0) else z44
def partE (b : List Int) (e : Int) : Int := if partOK b then failE e (restE (dataP (inner (b.drop 16).length (b.drop 16) []).1 0).2.2.1 (dataP (inner (b.drop 16).length (b.drop 16) []).1 0).2.2.2) else failE e 3
def partsL : Nat → List Ch → Int → Int → List Fr → List Fr × List Ch × Int
  | 0, l, e, _, acc => (acc, l, e)
  | n + 1, l, e, most, acc => if isB l e nANMF = true then (if most ≤ (acc.length : Int) then (acc, l, failE e 4)
      else partsL n (nextV l e nANMF true).2.2.1 (partE (nextV l e nANMF true).1 (nextV l e nANMF true).2.2.2) most (acc ++ [partF (nextV l e nANMF true).1])) else (acc, l, e)
def aniOK (b : List Int) (ok : Bool) : Prop := ok = true ∧ b.length = 6
instance (b : List Int) (ok : Bool) : Decidable (aniOK b ok) := by unfold aniOK; infer_instance
def movesV (b : List Int) (ok : Bool) (l : List Ch) (e most : Int) : Int × Int × List Fr × List Ch × Int :=
  if aniOK b ok then (numV b 0 4, numV b 4 2, partsL l.length l e most []) else (0, 0, [], l, failE e 3)
def framesV (mv : Bool) (l : List Ch) (e most Wd Hd : Int) : Int × Int × List Fr × List Ch × Int :=
  if mv = true then movesV (nextV l e nANIM true).1 (nextV l e nANIM true).2.1 (nextV l e nANIM true).2.2.1 (nextV l e nANIM true).2.2.2 most else (0, 0, stillV l e most Wd Hd)
def tailV (n : Int) (l : List Ch) (e : Int) : List Int × List Int × List Ch × Int :=
  ((nextV l e nEXIF (flagB n 8)).1, (nextV (nextV l e nEXIF (flagB n 8)).2.2.1 (nextV l e nEXIF (flagB n 8)).2.2.2 nXMP (flagB n 4)).1,
    (nextV (nextV l e nEXIF (flagB n 8)).2.2.1 (nextV l e nEXIF (flagB n 8)).2.2.2 nXMP (flagB n 4)).2.2.1,
    restE (nextV (nextV l e nEXIF (flagB n 8)).2.2.1 (nextV l e nEXIF (flagB n 8)).2.2.2 nXMP (flagB n 4)).2.2.1 (nextV (nextV l e nEXIF (flagB n 8)).2.2.1 (nextV l e nEXIF (flagB n 8)).2.2.2 nXMP (flagB n 4)).2.2.2)
def docOf (n Wd Hd : Int) (pr : List Int) (f : Int × Int × List Fr × List Ch × Int) (t : List Int × List Int × List Ch × Int) : Dc :=
  ⟨false, Wd, Hd, flagB n 16, flagB n 2, f.1, f.2.1, pr, t.1, t.2.1, flagB n 32, flagB n 8, flagB n 4, f.2.2.1, t.2.2.1⟩
def bodyV (n Wd Hd : Int) (l : List Ch) (e most : Int) : Dc × Int :=
  (docOf n Wd Hd (nextV l e nICCP (flagB n 32)).1 (framesV (flagB n 2) (nextV l e nICCP (flagB n 32)).2.2.1 (nextV l e nICCP (flagB n 32)).2.2.2 most Wd Hd)
    (tailV n (framesV (flagB n 2) (nextV l e nICCP (flagB n 32)).2.2.1 (nextV l e nICCP (flagB n 32)).2.2.2 most Wd Hd).2.2.2.1 (framesV (flagB n 2) (nextV l e nICCP (flagB n 32)).2.2.1 (nextV l e nICCP (flagB n 32)).2.2.2 most Wd Hd).2.2.2.2),
    (tailV n (framesV (flagB n 2) (nextV l e nICCP (flagB n 32)).2.2.1 (nextV l e nICCP (flagB n 32)).2.2.2 most Wd Hd).2.2.2.1 (framesV (flagB n 2) (nextV l e nICCP (flagB n 32)).2.2.1 (nextV l e nICCP (flagB n 32)).2.2.2 most Wd Hd).2.2.2.2).2.2.2)
def docV (l : List Ch) (e most : Int) : Dc × Int :=
  bodyV (headN (nextV l e nVP8X true).1 (nextV l e nVP8X true).2.1) (headW (nextV l e nVP8X true).1 (nextV l e nVP8X true).2.1 4) (headW (nextV l e nVP8X true).1 (nextV l e nVP8X true).2.1 7) (nextV l e nVP8X true).2.2.1 (headE (nextV l e nVP8X true).1 (nextV l e nVP8X true).2.1 (nextV l e nVP8X true).2.2.2) most
def plainE (s : List Fr × List Ch × Int) : Int := if s.2.2 = 0 ∧ 0 < s.2.1.length then 3 else s.2.2
def plainY (s : List Fr × List Ch × Int) : Dc := ⟨true, 0, 0, false, false, 0, 0, [], [], [], false, false, false, s.1, []⟩
def readV (l : List Ch) (most : Int) : Dc × Int := if isB l 0 nVP8X = true then docV l 0 most else (plainY (stillV l 0 most 0 0), plainE (stillV l 0 most 0 0))
open Classical in
noncomputable def endV (y : Dc × Int) : Dc × Int := if y.2 = 0 then (if soundP y.1 then (y.1, 0) else (z27, 3)) else (z27, y.2)
noncomputable def parseV (b : List Int) (most : Int) : Dc × Int := if (scan b).2 = 0 then endV (readV (scan b).1 most) else (z27, (scan b).2)
theorem KL_fr1 {w : World} {f : Fr} {cs : List Value} (h : k44.K w f cs) : KL k44 w [f] cs := ⟨cs, [], by simp, k44.K_len h, h, rfl⟩
section
variable {w W : World} {g gd : Nat} {l : List Ch} {most e : Int} {A : Option Addr} {c : Nat} {Q : World → Prop} {r : Asrt}
set_option maxHeartbeats 8000000 in
set_option maxRecDepth 100000 in
theorem still_calls (Wd Hd : Int) (a0 a3 a4 a5 a6 a7 a8 a9 a10 a11 a12 a14 : Value) {zs : List Value} (hq : poolQ Q A c l zs)
    (hS : St w W (parA w g l most e A c Q (Asrt.blk gd 27 #[a0, .int .i64 Wd, .int .i64 Hd, a3, a4, a5, a6, a7, a8, a9, a10, a11, a12, .slice none 0 0, a14] * r))) :
    Calls Try.prog 36 #[.pointer (some ⟨g, 0, none⟩), .pointer (some ⟨gd, 0, none⟩)] W fun x w' => ∃ (B : Option Addr) (cB : Nat) (xs : List Value) (A' : Option Addr) (c' : Nat) (zs' : List Value), x = .returned (.tuple #[]) ∧
      poolQ Q A' c' (stillV l e most Wd Hd).2.1 zs' ∧ (∀ W, Q W → KL k44 W (stillV l e most Wd Hd).1 xs) ∧
      St w w' (parA w g (stillV l e most Wd Hd).2.1 most (stillV l e most Wd Hd).2.2 A' c' Q (Asrt.blk gd 27 #[a0, .int .i64 Wd, .int .i64 Hd, a3, a4, a5, a6, a7, a8, a9, a10, a11, a12, .slice B (stillV l e most Wd Hd).1.length cB, a14] * (Asrt.row 44 11 (.slice B (stillV l e most Wd Hd).1.length cB) (stillV l e most Wd Hd).1.length xs * r))) := by
  have m1 : W.cell? ⟨g, 1, none⟩ = some (.int .i64 most) := (hS.cell 1).trans rfl
  have m2 : W.cell? ⟨g, 2, none⟩ = some (.int .i64 e) := (hS.cell 2).trans rfl
  by_cases hc : e = 0 ∧ most < 1
  · obtain ⟨rfl, hm⟩ := hc
    have y2 : decide (most < 1) = true := decide_eq_true hm
    have HV : Aside0 (stillV l 0 most Wd Hd = ([], l, 4)) := ⟨if_pos ⟨rfl, hm⟩⟩
    have HF := asiD (fail_calls 4 hS)
    have HQ := asiD hq
    clear hm hS hq
    go_enter Try.func36, Try.ntmps36
    go_wp2_with (go_at_call 37; refine HF.out.mono ?_; rintro e w1 ⟨rfl, hs⟩; have HS1 := asiD hs; clear hs)
    refine bodyPost_ret (results_none rfl _ _ _) rfl ?_
    rw [HV.out]
    exact ⟨none, 0, [], A, c, zs, rfl, HQ.out, fun _ _ => rfl, (HS1.out.rot3.rowNil 44 11).swap.rot4.rot4⟩
  · have HV : Aside0 (stillV l e most Wd Hd = ([stillF l e Wd Hd], (dataP l e).2.2.1, (dataP l e).2.2.2)) := ⟨if_neg hc⟩
    have m3 : W.cell? ⟨gd, 1, none⟩ = some (.int .i64 Wd) := (hS.rot3.cell 1).trans rfl
    have m4 : W.cell? ⟨gd, 2, none⟩ = some (.int .i64 Hd) := (hS.rot3.cell 2).trans rfl
    have hS' := (show St w W (Asrt.blk g 59 _ * (pin w Q * (Asrt.blk gd 27 _ * r))) from hS).rot3
    have hal := hS'.alloc #[.int .i64 0, .int .i64 0, .int .i64 0, .int .i64 0, .int .i64 0, .bool false, .bool false, .int .i64 0, .slice none 0 0, .slice none 0 0, .slice none 0 0] 44
    have n3 := (hal.swap.cell 1).trans (show _ = some (Value.int .i64 Wd) from rfl)
    have n4 := (hal.swap.cell 2).trans (show _ = some (Value.int .i64 Hd) from rfl)
    have HW := asiD ((((show St w W (Asrt.blk g 59 _ * (pin w Q * (Asrt.blk gd 27 _ * r))) from hS).alloc #[.int .i64 0, .int .i64 0, .int .i64 Wd, .int .i64 Hd, .int .i64 0, .bool false, .bool false, .int .i64 0, .slice none 0 0, .slice none 0 0, .slice none 0 0] 44).drew).unrot3)
    have HP := asiD (pictureP_calls (.int .i64 0) (.int .i64 0) (.int .i64 Wd) (.int .i64 Hd) (.int .i64 0) (.bool false) (.bool false) (.int .i64 0) (.slice none 0 0) (.slice none 0 0) hq HW.out)
    have hc' : ((e == 0) = true ∧ decide (most < 1) = false) ∨ (e == 0) = false := by
      by_cases he : e = 0
      · exact .inl ⟨by simp [he], decide_eq_false fun h => hc ⟨he, h⟩⟩
      · exact .inr (by simp [he])
    clear hS hq hS' hal hc HW
    rcases hc' with ⟨y1, y2⟩ | y1
    all_goals go_enter Try.func36, Try.ntmps36
    all_goals go_upto_region 2 with (fail)
    all_goals go_region
    all_goals clear n3 n4 m1 m2 m3 m4
    all_goals obtain ⟨gf, hgf⟩ : ∃ gf, gf = W.heap.size := ⟨_, rfl⟩
    all_goals rw [← hgf] at HP ⊢
    all_goals go_upto_region 3 with (fail)
    all_goals obtain ⟨W1, hW1⟩ : ∃ W1, W1 = (W.alloc (.cells #[.int .i64 0, .int .i64 0, .int .i64 Wd, .int .i64 Hd, .int .i64 0, .bool false, .bool false, .int .i64 0, .slice none 0 0, .slice none 0 0, .slice none 0 0] 44)).drew := ⟨_, rfl⟩
    all_goals rw [← hW1] at HP ⊢
    all_goals clear hW1 hgf
    all_goals go_upto_region 4 with (go_at_call 74; refine HP.out.mono ?_; rintro e w2 ⟨B8, c8, B9, c9, A', c', zs', rfl, hc8, hC8, hc9, hC9, hq2, hs⟩; have HS2 := asiD (show St w w2 (Asrt.blk g 59 _ * (pin w Q * (Asrt.blk gf 44 _ * (Asrt.blk gd 27 _ * r)))) from hs).rot3; have HQ2 := asiD hq2; have HC8 := asiD hC8; have HL8 := asiD hc8; have HC9 := asiD hC9; have HL9 := asiD hc9; clear hs hq2 hC8 hc8 hC9 hc9)
    all_goals clear HP
    all_goals have z := fun i => HS2.out.cell i
    all_goals have h4 := (HS2.out.drop.allocCells 44 11 1 [.int .i64 0, .int .i64 0, .int .i64 Wd, .int .i64 Hd, .int .i64 0, .bool false, .bool false, .int .i64 (kindP (alphaP l e).2.1 (alphaP l e).2.2), .slice B8 (alphaP l e).1.length c8, .slice B9 (dataP l e).1.length c9, .slice none 0 0] rfl (by decide)).rot4
    all_goals have p13 : (w2.alloc (.cells #[.int .i64 0, .int .i64 0, .int .i64 Wd, .int .i64 Hd, .int .i64 0, .bool false, .bool false, .int .i64 (kindP (alphaP l e).2.1 (alphaP l e).2.2), .slice B8 (alphaP l e).1.length c8, .slice B9 (dataP l e).1.length c9, .slice none 0 0] 44)).cell? ⟨gd, 13, none⟩ = some (.slice none 0 0) := (h4.cell 13).trans rfl
    all_goals have f13 : (w2.alloc (.cells #[.int .i64 0, .int .i64 0, .int .i64 Wd, .int .i64 Hd, .int .i64 0, .bool false, .bool false, .int .i64 (kindP (alphaP l e).2.1 (alphaP l e).2.2), .slice B8 (alphaP l e).1.length c8, .slice B9 (dataP l e).1.length c9, .slice none 0 0] 44)).frozen? ⟨gd, 13, none⟩ = false := h4.frozen 13
    all_goals have HS4 := asiD (h4.set 13 (.slice (some ⟨w2.heap.size, 0, none⟩) 1 1)).rot4.rot4
    all_goals clear h4 HS2
    all_goals go_wp2_with fail
    all_goals go_end0
    all_goals rw [HV.out]
    all_goals exact ⟨some ⟨w2.heap.size, 0, none⟩, 1, [.int .i64 0, .int .i64 0, .int .i64 Wd, .int .i64 Hd, .int .i64 0, .bool false, .bool false, .int .i64 (kindP (alphaP l e).2.1 (alphaP l e).2.2), .slice B8 (alphaP l e).1.length c8, .slice B9 (dataP l e).1.length c9, .slice none 0 0], A', c', zs', rfl, HQ2.out, fun W hW => KL_fr1 (k44_mk W (stillF l e Wd Hd) HL8.out (HC8.out W hW) HL9.out (HC9.out W hW) (A10 := none) (c10 := 0) (Nat.le_refl 0) (Kd.C_nil _ _)), HS4.out⟩
end
end Go.Proofs.Ythkocpcjcpohcaa.P
end
