/- The part of our texts, and of the print's, that these laws' proofs use. -/
import Derived.Test.YthkocpcjcpohcaaZD16
set_option linter.unusedVariables false
set_option linter.unusedSimpArgs false
section
namespace Go.Proofs.Ythkocpcjcpohcaa.Pure
open Go Go.RowKit Go.Proofs.Ythkocpcjcpohcaa.P Go.Proofs.YthkocpcjcpohcaaW.PrintWords Go.Proofs.YthkocpcjcpohcaaW.PrintLast Go.Proofs.YthkocpcjcpohcaaW.PrintMore Go.Proofs.Ythkocpcjcpohcaa.U
attribute [local go_sem] max2_int min2_int max_two min_two max_three min_three max_four min_four
noncomputable def bbr6_code : Code := ((Try.f3.body).bind (regionIn 6)).getD .skip
set_option maxHeartbeats 16000000 in
set_option maxRecDepth 1000000 in
theorem bbr6 {c0 c2 c3 c4 c5 c6 c7 c8 c9 c10 c11 c12 c13 c14 c15 c16 c17 c18 c19 c20 c21 c22 c23 c24 c25 c26 c27 c28 c29 c30 c31 c32 c33 c34 c35 c36 c37 c38 c39 c40 c41 c42 c43 c44 c45 c46 c47 c48 c49 c50 c51 c52 c53 c54 c55 c56 c57 c58 c59 c60 c61 c62 c63 c64 c65 c66 c67 c68 c69 c70 c71 c72 c73 c74 c75 c76 c77 c78 c79 c80 c81 c82 c83 c84 c85 c86 c87 c88 c89 c90 c91 c92 c93 c94 c95 c96 c97 c98 c99 c100 : Value} {Q : Exit → Act → World → Prop} (y : Dc) (w2 : World) (g : Nat) {B1 B2 B3 B4 B5 : Option Addr} {d1 d2 d3 d4 d5 : Nat} (Z : Aside0 (∀ i, w2.cell? ⟨g, i, none⟩ = (#[.bool y.f0, .int .i64 y.f1, .int .i64 y.f2, .bool y.f3, .bool y.f4, .int .u32 y.f5, .int .i64 y.f6, .slice B1 y.f7.length d1, .slice B2 y.f8.length d2, .slice B3 y.f9.length d3, .bool y.f10, .bool y.f11, .bool y.f12, .slice B4 y.f13.length d4, .slice B5 y.f14.length d5] : Array Value)[i]?)) (HG : Aside0 (g < w2.heap.size)) (p : Bool) (HSR : Aside0 (∀ W : World, Below w2.heap.size w2 W → Calls Try.prog 13 #[.agg #[.bool y.f0, .int .i64 y.f1, .int .i64 y.f2, .bool y.f3, .bool y.f4, .int .u32 y.f5, .int .i64 y.f6, .slice B1 y.f7.length d1, .slice B2 y.f8.length d2, .slice B3 y.f9.length d3, .bool y.f10, .bool y.f11, .bool y.f12, .slice B4 y.f13.length d4, .slice B5 y.f14.length d5]] W fun e w' => e = .returned (.bool p) ∧ Below W.heap.size W w'))
    (hK : ∀ (v u23 u24 : Value) (wc : World), (v = .bool (!p) ∧ Below w2.heap.size w2 wc) → Q .normal ⟨#[c0, Value.pointer (some ⟨g, 0, none⟩), c2, c3, c4, c5, c6, c7, c8, c9, c10, c11, c12, c13, c14, c15, c16, c17, c18, c19, c20, c21, c22, u23, u24, v, c26, c27, c28, c29, c30, c31, c32, c33, c34, c35, c36, c37, c38, c39, c40, c41, c42, c43, c44, c45, c46, c47, c48, c49, c50, c51, c52, c53, c54, c55, c56, c57, c58, c59, c60, c61, c62, c63, c64, c65, c66, c67, c68, c69, c70, c71, c72, c73, c74, c75, c76, c77, c78, c79, c80, c81, c82, c83, c84, c85, c86, c87, c88, c89, c90, c91, c92, c93, c94, c95, c96, c97, c98, c99, c100], []⟩ wc) :
    Code.wp Try.prog bbr6_code Q ⟨#[c0, Value.pointer (some ⟨g, 0, none⟩), c2, c3, c4, c5, c6, c7, c8, c9, c10, c11, c12, c13, c14, c15, c16, c17, c18, c19, c20, c21, c22, c23, c24, c25, c26, c27, c28, c29, c30, c31, c32, c33, c34, c35, c36, c37, c38, c39, c40, c41, c42, c43, c44, c45, c46, c47, c48, c49, c50, c51, c52, c53, c54, c55, c56, c57, c58, c59, c60, c61, c62, c63, c64, c65, c66, c67, c68, c69, c70, c71, c72, c73, c74, c75, c76, c77, c78, c79, c80, c81, c82, c83, c84, c85, c86, c87, c88, c89, c90, c91, c92, c93, c94, c95, c96, c97, c98, c99, c100], []⟩ w2 := by
  have HK := asiD hK
  clear hK
  conv => arg 2; whnf
  have HB := asiD (Below.refl w2.heap.size w2)
  have z := fun i => Z.out i
  go_wp2_with (go_at_call 13; with_reducible refine (HSR.out _ HB.out).mono ?_; rintro e w9 ⟨rfl, hb⟩; have hb2 := HB.out.trans (hb.mono HB.out.size); clear HB z hb; have HB := asiD hb2; have z := fun i => cells_later Z.out HG.out hb2 i; clear hb2)
  apply HK.out
  exact ⟨rfl, HB.out⟩
noncomputable def bbr8_code : Code := ((Try.f3.body).bind (regionIn 8)).getD .skip
set_option maxHeartbeats 16000000 in
set_option maxRecDepth 1000000 in
theorem bbr8 {c0 c2 c4 c5 c6 c7 c8 c9 c10 c11 c12 c13 c14 c15 c16 c17 c18 c19 c20 c21 c22 c23 c24 c25 c26 c27 c28 c29 c30 c31 c32 c33 c34 c35 c36 c37 c38 c39 c40 c41 c42 c43 c44 c45 c46 c47 c48 c49 c50 c51 c52 c53 c54 c55 c56 c57 c58 c59 c60 c61 c62 c63 c64 c65 c66 c67 c68 c69 c70 c71 c72 c73 c74 c75 c76 c77 c78 c79 c80 c81 c82 c83 c84 c85 c86 c87 c88 c89 c90 c91 c92 c93 c94 c95 c96 c97 c98 c99 c100 : Value} {Q : Exit → Act → World → Prop} (y : Dc) (w2 : World) (g : Nat) {B1 B2 B3 B4 B5 : Option Addr} {d1 d2 d3 d4 d5 : Nat} (Z : Aside0 (∀ i, w2.cell? ⟨g, i, none⟩ = (#[.bool y.f0, .int .i64 y.f1, .int .i64 y.f2, .bool y.f3, .bool y.f4, .int .u32 y.f5, .int .i64 y.f6, .slice B1 y.f7.length d1, .slice B2 y.f8.length d2, .slice B3 y.f9.length d3, .bool y.f10, .bool y.f11, .bool y.f12, .slice B4 y.f13.length d4, .slice B5 y.f14.length d5] : Array Value)[i]?)) (HG : Aside0 (g < w2.heap.size)) (x : Dc) (E : Option Addr) (n c : Nat) (q mo : Int) (hmo : mo = (y.f13.length : Int)) (HP : Aside0 (∀ W : World, Below w2.heap.size w2 W → Calls Try.prog 14 #[.slice E n c, .int .i64 mo] W fun e w' => ∃ ds : List Value, e = .returned (.tuple #[.agg ds.toArray, .int .i64 q]) ∧ k27.K w' x ds ∧ Below W.heap.size W w'))
    (hK : ∀ (v v2 u37 u38 u39 u40 u41 u36 u42 u43 : Value) (wc : World), ((∃ (gx : Nat) (ds : List Value), v = .pointer (some ⟨gx, 0, none⟩) ∧ k27.K wc x ds ∧ (∀ i, wc.cell? ⟨gx, i, none⟩ = ds.toArray[i]?) ∧ gx < wc.heap.size) ∧ v2 = .int .i64 q ∧ Below w2.heap.size w2 wc) → Q .normal ⟨#[c0, Value.pointer (some ⟨g, 0, none⟩), c2, Value.slice E n c, c4, v, v2, c7, c8, c9, c10, c11, c12, c13, c14, c15, c16, c17, c18, c19, c20, c21, c22, c23, c24, c25, c26, c27, c28, c29, c30, c31, c32, c33, c34, c35, u36, u37, u38, u39, u40, u41, u42, u43, c44, c45, c46, c47, c48, c49, c50, c51, c52, c53, c54, c55, c56, c57, c58, c59, c60, c61, c62, c63, c64, c65, c66, c67, c68, c69, c70, c71, c72, c73, c74, c75, c76, c77, c78, c79, c80, c81, c82, c83, c84, c85, c86, c87, c88, c89, c90, c91, c92, c93, c94, c95, c96, c97, c98, c99, c100], []⟩ wc) :
    Code.wp Try.prog bbr8_code Q ⟨#[c0, Value.pointer (some ⟨g, 0, none⟩), c2, Value.slice E n c, c4, c5, c6, c7, c8, c9, c10, c11, c12, c13, c14, c15, c16, c17, c18, c19, c20, c21, c22, c23, c24, c25, c26, c27, c28, c29, c30, c31, c32, c33, c34, c35, c36, c37, c38, c39, c40, c41, c42, c43, c44, c45, c46, c47, c48, c49, c50, c51, c52, c53, c54, c55, c56, c57, c58, c59, c60, c61, c62, c63, c64, c65, c66, c67, c68, c69, c70, c71, c72, c73, c74, c75, c76, c77, c78, c79, c80, c81, c82, c83, c84, c85, c86, c87, c88, c89, c90, c91, c92, c93, c94, c95, c96, c97, c98, c99, c100], []⟩ w2 := by
  have HK := asiD hK
  clear hK
  conv => arg 2; whnf
  have HB := asiD (Below.refl w2.heap.size w2)
  have z := fun i => Z.out i
  subst hmo
  go_wp2_with (go_at_call 14; with_reducible refine (HP.out _ HB.out).mono ?_; rintro e w4 ⟨ds, rfl, hk, hb⟩; have HKx := asiD hk; obtain ⟨A1, k1, A2, k2, A3, k3, A4, k4, A5, k5, rfl, j1, j2, j3, j4, j5, j6, j7, j8, j9, j10⟩ := k27_open hk; clear j1 j2 j3 j4 j5 j6 j7 j8 j9 j10 hk; have hb2 := HB.out.trans (hb.mono HB.out.size); clear HB z hb; have HB := asiD hb2; have z := fun i => cells_later Z.out HG.out hb2 i; clear hb2; have HS := asiD ((St.refl w4).alloc #[.bool x.f0, .int .i64 x.f1, .int .i64 x.f2, .bool x.f3, .bool x.f4, .int .u32 x.f5, .int .i64 x.f6, .slice A1 x.f7.length k1, .slice A2 x.f8.length k2, .slice A3 x.f9.length k3, .bool x.f10, .bool x.f11, .bool x.f12, .slice A4 x.f13.length k4, .slice A5 x.f14.length k5] 27))
  apply HK.out
  have hs := HS.out
  exact ⟨⟨_, _, rfl, k27.K_below hs.below HKx.out, fun i => hs.cell i, hs.blk_lt⟩, rfl, HB.out.trans (hs.below.mono HB.out.size)⟩
noncomputable def bbr9_code : Code := ((Try.f3.body).bind (regionIn 9)).getD .skip
set_option maxHeartbeats 16000000 in
set_option maxRecDepth 1000000 in
theorem bbr9 {c0 c2 c4 c5 c6 c7 c8 c9 c10 c11 c12 c13 c14 c15 c16 c17 c18 c19 c20 c21 c22 c23 c24 c25 c26 c27 c28 c29 c30 c31 c32 c33 c34 c35 c36 c37 c38 c39 c40 c41 c42 c43 c44 c45 c46 c47 c48 c49 c50 c51 c52 c53 c54 c55 c56 c57 c58 c59 c60 c61 c62 c63 c64 c65 c66 c67 c68 c69 c70 c71 c72 c73 c74 c75 c76 c77 c78 c79 c80 c81 c82 c83 c84 c85 c86 c87 c88 c89 c90 c91 c92 c93 c94 c95 c96 c97 c98 c99 c100 : Value} {Q : Exit → Act → World → Prop} (y : Dc) (w2 : World) (g : Nat) {B1 B2 B3 B4 B5 : Option Addr} {d1 d2 d3 d4 d5 : Nat} (Z : Aside0 (∀ i, w2.cell? ⟨g, i, none⟩ = (#[.bool y.f0, .int .i64 y.f1, .int .i64 y.f2, .bool y.f3, .bool y.f4, .int .u32 y.f5, .int .i64 y.f6, .slice B1 y.f7.length d1, .slice B2 y.f8.length d2, .slice B3 y.f9.length d3, .bool y.f10, .bool y.f11, .bool y.f12, .slice B4 y.f13.length d4, .slice B5 y.f14.length d5] : Array Value)[i]?)) (HG : Aside0 (g < w2.heap.size)) (x : Dc) (E : Option Addr) (n c : Nat) (q mo : Int) (hmo : mo = (y.f13.length : Int) - 1) (hln : y.f13.length ≤ 1000) (HP : Aside0 (∀ W : World, Below w2.heap.size w2 W → Calls Try.prog 14 #[.slice E n c, .int .i64 mo] W fun e w' => ∃ ds : List Value, e = .returned (.tuple #[.agg ds.toArray, .int .i64 q]) ∧ k27.K w' x ds ∧ Below W.heap.size W w'))
    (hK : ∀ (v v2 u45 u46 u47 u48 u49 u50 u44 u51 u52 : Value) (wc : World), ((∃ (gx : Nat) (ds : List Value), v = .pointer (some ⟨gx, 0, none⟩) ∧ k27.K wc x ds ∧ (∀ i, wc.cell? ⟨gx, i, none⟩ = ds.toArray[i]?) ∧ gx < wc.heap.size) ∧ v2 = .int .i64 q ∧ Below w2.heap.size w2 wc) → Q .normal ⟨#[c0, Value.pointer (some ⟨g, 0, none⟩), c2, Value.slice E n c, c4, c5, c6, v, v2, c9, c10, c11, c12, c13, c14, c15, c16, c17, c18, c19, c20, c21, c22, c23, c24, c25, c26, c27, c28, c29, c30, c31, c32, c33, c34, c35, c36, c37, c38, c39, c40, c41, c42, c43, u44, u45, u46, u47, u48, u49, u50, u51, u52, c53, c54, c55, c56, c57, c58, c59, c60, c61, c62, c63, c64, c65, c66, c67, c68, c69, c70, c71, c72, c73, c74, c75, c76, c77, c78, c79, c80, c81, c82, c83, c84, c85, c86, c87, c88, c89, c90, c91, c92, c93, c94, c95, c96, c97, c98, c99, c100], []⟩ wc) :
    Code.wp Try.prog bbr9_code Q ⟨#[c0, Value.pointer (some ⟨g, 0, none⟩), c2, Value.slice E n c, c4, c5, c6, c7, c8, c9, c10, c11, c12, c13, c14, c15, c16, c17, c18, c19, c20, c21, c22, c23, c24, c25, c26, c27, c28, c29, c30, c31, c32, c33, c34, c35, c36, c37, c38, c39, c40, c41, c42, c43, c44, c45, c46, c47, c48, c49, c50, c51, c52, c53, c54, c55, c56, c57, c58, c59, c60, c61, c62, c63, c64, c65, c66, c67, c68, c69, c70, c71, c72, c73, c74, c75, c76, c77, c78, c79, c80, c81, c82, c83, c84, c85, c86, c87, c88, c89, c90, c91, c92, c93, c94, c95, c96, c97, c98, c99, c100], []⟩ w2 := by
  have HK := asiD hK
  clear hK
  conv => arg 2; whnf
  have HB := asiD (Below.refl w2.heap.size w2)
  have z := fun i => Z.out i
  subst hmo
  have hw1 : IntKind.i64.wrap ((y.f13.length : Int) - 1) = (y.f13.length : Int) - 1 := wi64 (by omega) (by omega)
  clear hln
  go_wp2_with (go_at_call 14; with_reducible refine (HP.out _ HB.out).mono ?_; rintro e w4 ⟨ds, rfl, hk, hb⟩; have HKx := asiD hk; obtain ⟨A1, k1, A2, k2, A3, k3, A4, k4, A5, k5, rfl, j1, j2, j3, j4, j5, j6, j7, j8, j9, j10⟩ := k27_open hk; clear j1 j2 j3 j4 j5 j6 j7 j8 j9 j10 hk; have hb2 := HB.out.trans (hb.mono HB.out.size); clear HB z hb; have HB := asiD hb2; have z := fun i => cells_later Z.out HG.out hb2 i; clear hb2; have HS := asiD ((St.refl w4).alloc #[.bool x.f0, .int .i64 x.f1, .int .i64 x.f2, .bool x.f3, .bool x.f4, .int .u32 x.f5, .int .i64 x.f6, .slice A1 x.f7.length k1, .slice A2 x.f8.length k2, .slice A3 x.f9.length k3, .bool x.f10, .bool x.f11, .bool x.f12, .slice A4 x.f13.length k4, .slice A5 x.f14.length k5] 27))
  apply HK.out
  have hs := HS.out
  exact ⟨⟨_, _, rfl, k27.K_below hs.below HKx.out, fun i => hs.cell i, hs.blk_lt⟩, rfl, HB.out.trans (hs.below.mono HB.out.size)⟩
end Go.Proofs.Ythkocpcjcpohcaa.Pure
end
section
namespace Go.Proofs.Ythkocpcjcpohcaa.P
open Go Go.RowKit Go.Proofs.YthkocpcjcpohcaaW.PrintWords Go.Proofs.YthkocpcjcpohcaaW.PrintLast Go.Proofs.YthkocpcjcpohcaaW.PrintMore Go.Proofs.Ythkocpcjcpohcaa.U Go.Proofs.Ythkocpcjcpohcaa.Pure
attribute [local go_sem] max2_int min2_int max_two min_two max_three min_three max_four min_four
theorem same_loopG (a b : List Int) (hl : a.length = b.length) (hlen : a.length ≤ 140737488355328) (d : Nat) : ∀ i : Nat, i + d = a.length → Ev (fun k => marquetryref01_Same.l0 k a b i) (decide (a.drop i = b.drop i)) := by
  induction d with
  | zero =>
    intro i hd
    refine Ev.succ ?_
    simp only [marquetryref01_Same.l0]
    rw [List.drop_of_length_le (by omega), List.drop_of_length_le (by omega)]
    exact Ev.ite_neg (by omega) (Ev.now _)
  | succ d ih =>
    intro i hd
    refine Ev.succ ?_
    simp only [marquetryref01_Same.l0]
    rw [w64 (n := (i : Int) + 1) (by omega) (by omega)]
    refine Ev.ite_pos (by omega) (Ev.ite_pos (by omega) (Ev.ite_pos (by omega) ?_))
    rw [List.drop_eq_getElem_cons (show i < a.length by omega), List.drop_eq_getElem_cons (show i < b.length by omega), Pure.rd_nat (by omega), Pure.rd_nat (by omega)]
    by_cases h : a[i] = b[i]
    · rw [show decide (a[i] :: a.drop (i + 1) = b[i] :: b.drop (i + 1)) = decide (a.drop (i + 1) = b.drop (i + 1)) from decide_eq_decide.2 ⟨fun e => (List.cons.inj e).2, fun e => by rw [h, e]⟩]
      exact Ev.ite_pos h (ih (i + 1) (by omega))
    · rw [decide_eq_false fun x => h (List.cons.inj x).1]
      exact Ev.ite_neg h (Ev.now _)
theorem sameG_ev (a b : List Int) (hlen : a.length ≤ 140737488355328) : Ev (fun k => marquetryref01_Same.f k a b) (decide (a = b)) := by
  unfold marquetryref01_Same.f
  by_cases h : a.length = b.length
  · refine Ev.ite_pos (by omega) ?_
    have := same_loopG a b h hlen a.length 0 (by omega)
    simpa using this
  · rw [decide_eq_false fun x => h (by rw [x])]
    exact Ev.ite_neg (by omega) (Ev.now _)
theorem sameChunks_loopG (a b : List Ch) (hl : a.length = b.length) (hlen : a.length ≤ 140737488355328) (hd : ∀ x ∈ a, x.f1.length ≤ 140737488355328) (d : Nat) : ∀ i : Nat, i + d = a.length → Ev (fun k => marquetryref24_SameChunks.l0 k a b i) (decide (a.drop i = b.drop i)) := by
  induction d with
  | zero =>
    intro i h
    refine Ev.succ ?_
    simp only [marquetryref24_SameChunks.l0]
    rw [List.drop_of_length_le (by omega), List.drop_of_length_le (by omega)]
    exact Ev.ite_neg (by omega) (Ev.now _)
  | succ d ih =>
    intro i h
    refine Ev.succ ?_
    simp only [marquetryref24_SameChunks.l0]
    refine Ev.ite_pos (by omega) (Ev.ite_pos (by omega) (Ev.ite_pos (by omega) ?_))
    rw [rdT_at (show i < a.length by omega), rdT_at (show i < b.length by omega)]
    rw [List.drop_eq_getElem_cons (show i < a.length by omega), List.drop_eq_getElem_cons (show i < b.length by omega)]
    by_cases hn : a[i].f0.toList = b[i].f0.toList
    · refine Ev.ite_pos hn (Ev.bind (sameG_ev _ _ (hd _ (List.getElem_mem _))) ?_)
      have hn' : a[i].f0 = b[i].f0 := by have h := ba_eq a[i].f0 b[i].f0; rw [hn] at h; simpa using h.symm
      by_cases h1 : a[i].f1 = b[i].f1
      · have he : a[i] = b[i] := by
          generalize a[i] = u at hn' h1
          generalize b[i] = v at hn' h1
          cases u
          cases v
          simp_all
        rw [decide_eq_true h1, w64 (by omega) (by omega)]
        rw [show decide (a[i] :: a.drop (i + 1) = b[i] :: b.drop (i + 1)) = decide (a.drop (i + 1) = b.drop (i + 1)) from decide_eq_decide.2 ⟨fun e => (List.cons.inj e).2, fun e => by rw [he, e]⟩]
        exact Ev.ite_pos rfl (ih (i + 1) (by omega))
      · rw [decide_eq_false h1, decide_eq_false fun x => h1 (by rw [(List.cons.inj x).1])]
        exact Ev.ite_neg (by simp) (Ev.now _)
    · rw [decide_eq_false fun x => hn (by rw [(List.cons.inj x).1])]
      exact Ev.ite_neg hn (Ev.now _)
theorem sameChunksG_ev (a b : List Ch) (hlen : a.length ≤ 140737488355328) (hd : ∀ x ∈ a, x.f1.length ≤ 140737488355328) : Ev (fun k => marquetryref24_SameChunks.f k a b) (decide (a = b)) := by
  unfold marquetryref24_SameChunks.f
  by_cases h : a.length = b.length
  · refine Ev.ite_pos (by omega) ?_
    have := sameChunks_loopG a b h hlen hd a.length 0 (by omega)
    simpa using this
  · rw [decide_eq_false fun x => h (by rw [x])]
    exact Ev.ite_neg (by omega) (Ev.now _)
theorem rSame_calls (A0 : Option Addr) (c0 : Nat) (l0 : List Int) (A1 : Option Addr) (c1 : Nat) (l1 : List Int) (w : World) (hd : l0.length ≤ 140737488351232) (hr0 : (Kd.int .u8).C w A0 l0.length l0) (hc0 : l0.length ≤ c0) (hr1 : (Kd.int .u8).C w A1 l1.length l1) (hc1 : l1.length ≤ c1) :
    Calls Try.prog 15 #[.slice A0 l0.length c0, .slice A1 l1.length c1] w fun e w' => e = .returned (.bool (decide (l0 = l1))) ∧ Drawn0 w w' := by
  obtain ⟨k, hk⟩ := (sameG_ev l0 l1 (by omega)).rounds
  exact marquetryref01_Same.calls k A0 c0 l0 A1 c1 l1 _ w hr0 hc0 hr1 hc1 hk
theorem rSameChunks_calls (A0 : Option Addr) (c0 : Nat) (l0 : List Ch) (A1 : Option Addr) (c1 : Nat) (l1 : List Ch) (w : World) (hd : chsL l0) (hr0 : k42.C w A0 l0.length l0) (hc0 : l0.length ≤ c0) (hr1 : k42.C w A1 l1.length l1) (hc1 : l1.length ≤ c1) :
    Calls Try.prog 41 #[.slice A0 l0.length c0, .slice A1 l1.length c1] w fun e w' => e = .returned (.bool (decide (l0 = l1))) ∧ Drawn0 w w' := by
  obtain ⟨k, hk⟩ := (sameChunksG_ev l0 l1 (by have := hd.1; omega) (fun x hx => by have := (hd.2 x hx).2.2; omega)).rounds
  exact marquetryref24_SameChunks.calls k A0 c0 l0 A1 c1 l1 _ w hr0 hc0 hr1 hc1 hk
theorem St.two {w Wa Wb : World} {P Q : Array Value} {T T' : TypeId} (hX : w.alloc (.cells P T) = Wa) (hY : Wa.alloc (.cells Q T') = Wb) : St w Wb (Asrt.blk (w.heap.size + 1) T' Q * (Asrt.blk w.heap.size T P * Asrt.emp)) := by
  subst hX hY
  have h := ((St.refl w).alloc P T).alloc Q T'
  rwa [show (w.alloc (.cells P T)).heap.size = w.heap.size + 1 by simp] at h
theorem St.two' {w wr Wa Wb : World} {A : Asrt} {P Q : Array Value} {T T' : TypeId} (h : St w wr A) (hX : Wa = wr.alloc (.cells P T)) (hY : Wb = Wa.alloc (.cells Q T')) : St w Wb (Asrt.blk (wr.heap.size + 1) T' Q * (Asrt.blk wr.heap.size T P * A)) := by
  subst hX hY
  have h := (h.alloc P T).alloc Q T'
  rwa [show (wr.alloc (.cells P T)).heap.size = wr.heap.size + 1 by simp] at h
set_option maxHeartbeats 16000000 in
set_option maxRecDepth 100000 in
theorem refSame_calls (x y : Dc) (cs ds : List Value) (w : World) (hx : k27.K w x cs) (hy : k27.K w y ds) (bx : okDc x) :
    Calls Try.prog 18 #[.agg cs.toArray, .agg ds.toArray] w fun e w' => e = .returned (.bool (decide (x = y))) ∧ Below w.heap.size w w' := by
  obtain ⟨A1, c1, A2, c2, A3, c3, A4, c4, A5, c5, rfl, l1, g1, l2, g2, l3, g3, l4, g4, l5, g5⟩ := k27_open hx
  obtain ⟨B1, d1, B2, d2, B3, d3, B4, d4, B5, d5, rfl, m1, h1, m2, h2, m3, h3, m4, h4, m5, h5⟩ := k27_open hy
  have HE1 := asiD fun (W : World) (hb : Below w.heap.size w W) => rSame_calls A1 c1 x.f7 B1 d1 y.f7 W bx.pr.2 (Kd.C_below g1 hb) l1 (Kd.C_below h1 hb) m1
  have HE2 := asiD fun (W : World) (hb : Below w.heap.size w W) => rSame_calls A2 c2 x.f8 B2 d2 y.f8 W bx.ex.2 (Kd.C_below g2 hb) l2 (Kd.C_below h2 hb) m2
  have HE3 := asiD fun (W : World) (hb : Below w.heap.size w W) => rSame_calls A3 c3 x.f9 B3 d3 y.f9 W bx.xm.2 (Kd.C_below g3 hb) l3 (Kd.C_below h3 hb) m3
  have HE5 := asiD fun (W : World) (hb : Below w.heap.size w W) => rSameChunks_calls A5 c5 x.f14 B5 d5 y.f14 W bx.mo (Kd.C_below g5 hb) l5 (Kd.C_below h5 hb) m5
  have HXY := asiD (@dc_eq x y)
  have G4 := asiD g4
  have H4 := asiD h4
  have BX := asiD bx.fr
  clear hx hy g1 g2 g3 g4 g5 h1 h2 h3 h4 h5 bx
  go_enter Try.func18, Try.ntmps18
  go_upto_region 5 with (first
    | (go_at_call 15; with_reducible refine (HE1.out _ (by repeat (first | exact Below.refl _ _ | apply pw_below_drewN | apply below_alloc))).mono ?_; clear HE1; rintro e w1 ⟨rfl, ⟨n1, rfl⟩⟩)
    | (go_at_call 15; with_reducible refine (HE2.out _ (by repeat (first | exact Below.refl _ _ | apply pw_below_drewN | apply below_alloc))).mono ?_; clear HE2; rintro e w1 ⟨rfl, ⟨n2, rfl⟩⟩)
    | (go_at_call 15; with_reducible refine (HE3.out _ (by repeat (first | exact Below.refl _ _ | apply pw_below_drewN | apply below_alloc))).mono ?_; clear HE3; rintro e w1 ⟨rfl, ⟨n3, rfl⟩⟩)
    | (go_at_call 41; with_reducible refine (HE5.out _ (by repeat (first | exact Below.refl _ _ | apply pw_below_drewN | apply below_alloc))).mono ?_; clear HE5; rintro e w1 ⟨rfl, ⟨n4, rfl⟩⟩))
  all_goals first
    | (go_ret; refine And.intro ?_ (by repeat (first | exact Below.refl _ _ | apply pw_below_drewN | apply below_alloc)); simp [HXY.out, *]; done)
    | (go_ret; refine And.intro ?_ (by repeat (first | exact Below.refl _ _ | apply pw_below_drewN | apply below_alloc)); rename_i h; have hne : x ≠ y := (by rintro rfl; revert h; first | (simp; done) | (cases x.f12 <;> simp; done)); simp [hne]; done)
    | skip
  have hl : x.f13.length = y.f13.length := by
    simp only [bne_eq_false_iff_eq, Int.ofNat_inj] at *
    assumption
  have h12 : x.f12 = y.f12 := by
    first
      | exact ‹x.f12 = y.f12›
      | (have h := ‹(!x.f12 == y.f12) = false›; revert h; cases x.f12 <;> cases y.f12 <;> simp)
  have HEQ : Aside0 (x = y ↔ x.f13 = y.f13) := ⟨by simp [HXY.out, *]⟩
  clear h12
  rw [‹x.f14 = y.f14›]
  generalize hX : w.alloc _ = Wa
  generalize hY : Wa.alloc _ = Wb
  have hs0 := St.two hX hY
  go_cut [5] from 8 to 114 (fun v wc => v = .int .i64 0 ∧ ∃ (P1 P2 : Array Value) (r : Asrt), P1[13]? = some (.slice A4 x.f13.length c4) ∧ P2[13]? = some (.slice B4 y.f13.length d4) ∧ St w wc (Asrt.blk (w.heap.size + 1) 27 P2 * (Asrt.blk w.heap.size 27 P1 * r)))
  case first =>
    go_wp2_with fail
    go_meet
    case rel => exact ⟨rfl, _, _, _, rfl, rfl, hs0.belowR (by repeat (first | exact Below.refl _ _ | apply pw_below_drewN | apply below_alloc))⟩
  case rest =>
  obtain ⟨rfl, Q1, Q2, r0, hq1, hq2, hs1⟩ := hcut
  go_wp2_with fail
  have HLL := asiD hl
  clear hl
  go_loopw [5] (fun i wr => ∃ k : Nat, k ≤ x.f13.length ∧ i = .int .i64 k ∧ x.f13.take k = y.f13.take k ∧ ∃ (P1 P2 : Array Value) (r : Asrt), P1[13]? = some (.slice A4 x.f13.length c4) ∧ P2[13]? = some (.slice B4 y.f13.length d4) ∧ St w wr (Asrt.blk (w.heap.size + 1) 27 P2 * (Asrt.blk w.heap.size 27 P1 * r))) (fun i _ => x.f13.length - (intOf i).toNat)
  case atStart => exact ⟨0, Nat.zero_le _, rfl, rfl, Q1, Q2, r0, hq1, hq2, hs1⟩
  case round =>
    obtain ⟨k, hk, rfl, ht, P1, P2, r, hp1, hp2, hs⟩ := hrel
    clear hs0 hX hY HXY hs1 hq1 hq2
    have z13 := (hs.swap.cell 13).trans hp1
    have u13 := (hs.cell 13).trans hp2
    by_cases hlt : k < x.f13.length
    · have x1 : decide ((k : Int) < x.f13.length) = true := decide_eq_true (by omega)
      have x2 : decide (k < x.f13.length) = true := decide_eq_true hlt
      have x3 : (k < x.f13.length) = True := eq_true hlt
      have x4 : ((k : Int) < x.f13.length) = True := eq_true (by omega)
      have x5 : (k < y.f13.length) = True := eq_true (by have := HLL.out; omega)
      have x6 : ((k : Int) < y.f13.length) = True := eq_true (by have := HLL.out; omega)
      have k16 : k ≤ 9223372036854775806 := by have := G4.out.2.1; omega
      obtain ⟨ad1, E8, i8, E9, i9, E10, i10, rfl, e0, e1, e2, e3, e4, e5, e6, e7, e8, e9, e10, n8, j8, n9, j9, n10, j10⟩ := at_T44 G4.out (k : Int) (by omega) (by omega)
      obtain ⟨ad2, F8, o8, F9, o9, F10, o10, rfl, h0, h1, h2, h3, h4, h5, h6, h7, h8, h9, h10, p8, q8, p9, q9, p10, q10⟩ := at_T44 H4.out (k : Int) (by omega) (by have := HLL.out; omega)
      simp only [Int.toNat_natCast] at e0 e1 e2 e3 e4 e5 e6 e7 e8 e9 e10 h0 h1 h2 h3 h4 h5 h6 h7 h8 h9 h10
      have htn := take_next z44 hlt HLL.out ht
      have hin := getD_in z44 hlt
      rw [show x.f13.getD k z44 = rd_T44 x.f13 k from rfl, show y.f13.getD k z44 = rd_T44 y.f13 k from rfl] at htn
      rw [show x.f13.getD k z44 = rd_T44 x.f13 k from rfl] at hin
      generalize rd_T44 x.f13 k = u at *
      generalize rd_T44 y.f13 k = v at *
      have bu := BX.out.2 u hin
      have HT := asiD htn
      have HLT := asiD hlt
      have HB := asiD hs.below
      have HF1 := asiD fun (W : World) (hb : Below w.heap.size w W) => rSame_calls E8 i8 u.f8 F8 o8 v.f8 W bu.al.2 (Kd.C_below j8 hb) n8 (Kd.C_below q8 hb) p8
      have HF2 := asiD fun (W : World) (hb : Below w.heap.size w W) => rSame_calls E9 i9 u.f9 F9 o9 v.f9 W bu.da.2 (Kd.C_below j9 hb) n9 (Kd.C_below q9 hb) p9
      have HF3 := asiD fun (W : World) (hb : Below w.heap.size w W) => rSameChunks_calls E10 i10 u.f10 F10 o10 v.f10 W bu.mo (Kd.C_below j10 hb) n10 (Kd.C_below q10 hb) p10
      have HUV := asiD (@fr_eq u v)
      have HS := asiD hs
      replace e0 := (cellL hs.below e0)
      replace e1 := (cellL hs.below e1)
      replace e2 := (cellL hs.below e2)
      replace e3 := (cellL hs.below e3)
      replace e4 := (cellL hs.below e4)
      replace e5 := (cellL hs.below e5)
      replace e6 := (cellL hs.below e6)
      replace e7 := (cellL hs.below e7)
      replace e8 := (cellL hs.below e8)
      replace e9 := (cellL hs.below e9)
      replace e10 := (cellL hs.below e10)
      replace h0 := (cellL hs.below h0)
      replace h1 := (cellL hs.below h1)
      replace h2 := (cellL hs.below h2)
      replace h3 := (cellL hs.below h3)
      replace h4 := (cellL hs.below h4)
      replace h5 := (cellL hs.below h5)
      replace h6 := (cellL hs.below h6)
      replace h7 := (cellL hs.below h7)
      replace h8 := (cellL hs.below h8)
      replace h9 := (cellL hs.below h9)
      replace h10 := (cellL hs.below h10)
      have hwa := fun (o : Obj) => below_alloc (Below.refl wr.heap.size wr) o
      have hwb := fun (o o2 : Obj) => below_alloc (hwa o) o2
      have Ae0 := fun o => ((hwa o).cell (World.block_lt_of_cell? _ _ e0)).trans e0
      have Be0 := fun o o2 => ((hwb o o2).cell (World.block_lt_of_cell? _ _ e0)).trans e0
      have Ae1 := fun o => ((hwa o).cell (World.block_lt_of_cell? _ _ e1)).trans e1
      have Be1 := fun o o2 => ((hwb o o2).cell (World.block_lt_of_cell? _ _ e1)).trans e1
      have Ae2 := fun o => ((hwa o).cell (World.block_lt_of_cell? _ _ e2)).trans e2
      have Be2 := fun o o2 => ((hwb o o2).cell (World.block_lt_of_cell? _ _ e2)).trans e2
      have Ae3 := fun o => ((hwa o).cell (World.block_lt_of_cell? _ _ e3)).trans e3
      have Be3 := fun o o2 => ((hwb o o2).cell (World.block_lt_of_cell? _ _ e3)).trans e3
      have Ae4 := fun o => ((hwa o).cell (World.block_lt_of_cell? _ _ e4)).trans e4
      have Be4 := fun o o2 => ((hwb o o2).cell (World.block_lt_of_cell? _ _ e4)).trans e4
      have Ae5 := fun o => ((hwa o).cell (World.block_lt_of_cell? _ _ e5)).trans e5
      have Be5 := fun o o2 => ((hwb o o2).cell (World.block_lt_of_cell? _ _ e5)).trans e5
      have Ae6 := fun o => ((hwa o).cell (World.block_lt_of_cell? _ _ e6)).trans e6
      have Be6 := fun o o2 => ((hwb o o2).cell (World.block_lt_of_cell? _ _ e6)).trans e6
      have Ae7 := fun o => ((hwa o).cell (World.block_lt_of_cell? _ _ e7)).trans e7
      have Be7 := fun o o2 => ((hwb o o2).cell (World.block_lt_of_cell? _ _ e7)).trans e7
      have Ae8 := fun o => ((hwa o).cell (World.block_lt_of_cell? _ _ e8)).trans e8
      have Be8 := fun o o2 => ((hwb o o2).cell (World.block_lt_of_cell? _ _ e8)).trans e8
      have Ae9 := fun o => ((hwa o).cell (World.block_lt_of_cell? _ _ e9)).trans e9
      have Be9 := fun o o2 => ((hwb o o2).cell (World.block_lt_of_cell? _ _ e9)).trans e9
      have Ae10 := fun o => ((hwa o).cell (World.block_lt_of_cell? _ _ e10)).trans e10
      have Be10 := fun o o2 => ((hwb o o2).cell (World.block_lt_of_cell? _ _ e10)).trans e10
      have Ah0 := fun o => ((hwa o).cell (World.block_lt_of_cell? _ _ h0)).trans h0
      have Bh0 := fun o o2 => ((hwb o o2).cell (World.block_lt_of_cell? _ _ h0)).trans h0
      have Ah1 := fun o => ((hwa o).cell (World.block_lt_of_cell? _ _ h1)).trans h1
      have Bh1 := fun o o2 => ((hwb o o2).cell (World.block_lt_of_cell? _ _ h1)).trans h1
      have Ah2 := fun o => ((hwa o).cell (World.block_lt_of_cell? _ _ h2)).trans h2
      have Bh2 := fun o o2 => ((hwb o o2).cell (World.block_lt_of_cell? _ _ h2)).trans h2
      have Ah3 := fun o => ((hwa o).cell (World.block_lt_of_cell? _ _ h3)).trans h3
      have Bh3 := fun o o2 => ((hwb o o2).cell (World.block_lt_of_cell? _ _ h3)).trans h3
      have Ah4 := fun o => ((hwa o).cell (World.block_lt_of_cell? _ _ h4)).trans h4
      have Bh4 := fun o o2 => ((hwb o o2).cell (World.block_lt_of_cell? _ _ h4)).trans h4
      have Ah5 := fun o => ((hwa o).cell (World.block_lt_of_cell? _ _ h5)).trans h5
      have Bh5 := fun o o2 => ((hwb o o2).cell (World.block_lt_of_cell? _ _ h5)).trans h5
      have Ah6 := fun o => ((hwa o).cell (World.block_lt_of_cell? _ _ h6)).trans h6
      have Bh6 := fun o o2 => ((hwb o o2).cell (World.block_lt_of_cell? _ _ h6)).trans h6
      have Ah7 := fun o => ((hwa o).cell (World.block_lt_of_cell? _ _ h7)).trans h7
      have Bh7 := fun o o2 => ((hwb o o2).cell (World.block_lt_of_cell? _ _ h7)).trans h7
      have Ah8 := fun o => ((hwa o).cell (World.block_lt_of_cell? _ _ h8)).trans h8
      have Bh8 := fun o o2 => ((hwb o o2).cell (World.block_lt_of_cell? _ _ h8)).trans h8
      have Ah9 := fun o => ((hwa o).cell (World.block_lt_of_cell? _ _ h9)).trans h9
      have Bh9 := fun o o2 => ((hwb o o2).cell (World.block_lt_of_cell? _ _ h9)).trans h9
      have Ah10 := fun o => ((hwa o).cell (World.block_lt_of_cell? _ _ h10)).trans h10
      have Bh10 := fun o o2 => ((hwb o o2).cell (World.block_lt_of_cell? _ _ h10)).trans h10
      have Az13 := fun o => ((hwa o).cell (World.block_lt_of_cell? _ _ z13)).trans z13
      have Bz13 := fun o o2 => ((hwb o o2).cell (World.block_lt_of_cell? _ _ z13)).trans z13
      have Au13 := fun o => ((hwa o).cell (World.block_lt_of_cell? _ _ u13)).trans u13
      have Bu13 := fun o o2 => ((hwb o o2).cell (World.block_lt_of_cell? _ _ u13)).trans u13
      clear hs ht htn hin bu hlt hk hwa hwb j8 j9 j10 q8 q9 q10
      go_upto_region 8 with (fail)
      go_cut [6, 7] from 115 to 207 (fun a b wc => ∃ (p1 p2 : Nat), a = .pointer (some ⟨p1, 0, none⟩) ∧ b = .pointer (some ⟨p2, 0, none⟩) ∧ St w wc (Asrt.blk p1 44 #[.int .i64 u.f0, .int .i64 u.f1, .int .i64 u.f2, .int .i64 u.f3, .int .i64 u.f4, .bool u.f5, .bool u.f6, .int .i64 u.f7, .slice E8 u.f8.length i8, .slice E9 u.f9.length i9, .slice E10 u.f10.length i10] * (Asrt.blk p2 44 #[.int .i64 v.f0, .int .i64 v.f1, .int .i64 v.f2, .int .i64 v.f3, .int .i64 v.f4, .bool v.f5, .bool v.f6, .int .i64 v.f7, .slice F8 v.f8.length o8, .slice F9 v.f9.length o9, .slice F10 v.f10.length o10] * (Asrt.blk (w.heap.size + 1) 27 P2 * (Asrt.blk w.heap.size 27 P1 * r)))))
      case first =>
        go_region
        all_goals go_wp2_with fail
        all_goals go_meet
        all_goals (case rel => first | exact ⟨_, _, rfl, rfl, (St.two' HS.out rfl rfl).swap.drew⟩ | exact ⟨_, _, rfl, rfl, (St.two' HS.out rfl rfl).drew⟩)
      case rest =>
        clear z13 u13 e0 e1 e2 e3 e4 e5 e6 e7 e8 e9 e10 h0 h1 h2 h3 h4 h5 h6 h7 h8 h9 h10 Ae0 Ae1 Ae2 Ae3 Ae4 Ae5 Ae6 Ae7 Ae8 Ae9 Ae10 Ah0 Ah1 Ah2 Ah3 Ah4 Ah5 Ah6 Ah7 Ah8 Ah9 Ah10 Az13 Au13 Be0 Be1 Be2 Be3 Be4 Be5 Be6 Be7 Be8 Be9 Be10 Bh0 Bh1 Bh2 Bh3 Bh4 Bh5 Bh6 Bh7 Bh8 Bh9 Bh10 Bz13 Bu13
        obtain ⟨p1, p2, rfl, rfl, hsb⟩ := hcut
        have HSB := asiD hsb
        have zu := fun i => hsb.cell i
        have zv := fun i => hsb.swap.cell i
        clear hsb HS
        go_wp2_with (first
          | (go_at_call 15; with_reducible refine (HF1.out _ (bthen HSB.out.below (by repeat (first | exact Below.refl _ _ | apply pw_below_drewN | apply below_alloc)))).mono ?_; clear HF1; rintro e w1 ⟨rfl, ⟨n1, rfl⟩⟩)
          | (go_at_call 15; with_reducible refine (HF2.out _ (bthen HSB.out.below (by repeat (first | exact Below.refl _ _ | apply pw_below_drewN | apply below_alloc)))).mono ?_; clear HF2; rintro e w1 ⟨rfl, ⟨n2, rfl⟩⟩)
          | (go_at_call 41; with_reducible refine (HF3.out _ (bthen HSB.out.below (by repeat (first | exact Below.refl _ _ | apply pw_below_drewN | apply below_alloc)))).mono ?_; clear HF3; rintro e w1 ⟨rfl, ⟨n3, rfl⟩⟩))
        all_goals first
          | (go_ret; refine And.intro (congrArg (fun b => Ending.returned (.bool b)) (decide_eq_false fun hxy => HT.out.2 ?_ (HEQ.out.1 hxy)).symm) (bthen HSB.out.below (by repeat (first | exact Below.refl _ _ | apply pw_below_drewN | apply below_alloc))); simp [HUV.out, *]; done)
          | (go_ret; refine And.intro (congrArg (fun b => Ending.returned (.bool b)) (decide_eq_false fun hxy => HT.out.2 ?_ (HEQ.out.1 hxy)).symm) (bthen HSB.out.below (by repeat (first | exact Below.refl _ _ | apply pw_below_drewN | apply below_alloc))); rename_i h; rintro rfl; revert h; first | (simp; done) | (cases u.f5 <;> simp; done) | (cases u.f6 <;> simp; done))
          | skip
        have h5 : u.f5 = v.f5 := by
          first
            | exact ‹u.f5 = v.f5›
            | (have h := ‹(!u.f5 == v.f5) = false›; revert h; cases u.f5 <;> cases v.f5 <;> simp)
        have h6 : u.f6 = v.f6 := by
          first
            | exact ‹u.f6 = v.f6›
            | (have h := ‹(!u.f6 == v.f6) = false›; revert h; cases u.f6 <;> cases v.f6 <;> simp)
        have h7 : u.f7 = v.f7 := by
          first
            | exact ‹u.f7 = v.f7›
            | (simp only [bne_eq_false_iff_eq] at *; assumption)
        have h10 : u.f10 = v.f10 := by
          first
            | exact ‹u.f10 = v.f10›
            | (simp only [Bool.not_eq_false', decide_eq_true_iff] at *; assumption)
        have huv : u = v := by rw [HUV.out]; simp [*]
        go_roundw
        case rel =>
          have hrel2 : ∀ (wf : World) (vi : Value), vi = .int .i64 ((k + 1 : Nat) : Int) → Below _ _ wf → ∃ k : Nat, k ≤ x.f13.length ∧ vi = .int .i64 k ∧ x.f13.take k = y.f13.take k ∧ ∃ (P1 P2 : Array Value) (r : Asrt), P1[13]? = some (.slice (some ad1) x.f13.length c4) ∧ P2[13]? = some (.slice (some ad2) y.f13.length d4) ∧ St w wf (Asrt.blk (w.heap.size + 1) 27 P2 * (Asrt.blk w.heap.size 27 P1 * r)) :=
            fun wf vi hvi hbl => ⟨k + 1, HLT.out, hvi, HT.out.1 huv, P1, P2, _, hp1, hp2, (HSB.out.rot4.rot4).belowR hbl⟩
          first
            | exact hrel2 _ _ (by go_num) (by repeat (first | exact Below.refl _ _ | apply pw_below_drewN | apply below_alloc))
            | exact hrel2 _ (.int .i64 ((k + 1 : Nat) : Int)) rfl (by repeat (first | exact Below.refl _ _ | apply pw_below_drewN | apply below_alloc))
            | (repeat (first | exact And.intro (hrel2 _ (.int .i64 ((k + 1 : Nat) : Int)) rfl (by repeat (first | exact Below.refl _ _ | apply pw_below_drewN | apply below_alloc))) rfl | apply Exists.intro))
        case measure => have := HLT.out; simp [intOf]; omega
    · have x1 : decide ((k : Int) < x.f13.length) = false := decide_eq_false (by omega)
      have x2 : decide (k < x.f13.length) = false := decide_eq_false hlt
      have hfe : x.f13 = y.f13 := by
        have : k = x.f13.length := by omega
        rw [this, List.take_length, HLL.out, List.take_length] at ht
        exact ht
      have HFE : Aside0 (decide (x = y) = true) := ⟨decide_eq_true (HEQ.out.2 hfe)⟩
      have HB := asiD hs.below
      clear hs ht hk hlt hfe
      go_wp2_with fail
      go_ret
      rw [HFE.out]
      exact ⟨rfl, HB.out⟩
end Go.Proofs.Ythkocpcjcpohcaa.P
end
section
namespace Go.Proofs.Ythkocpcjcpohcaa.Pure
open Go Go.RowKit Go.Proofs.Ythkocpcjcpohcaa.P Go.Proofs.YthkocpcjcpohcaaW.PrintWords Go.Proofs.YthkocpcjcpohcaaW.PrintLast Go.Proofs.YthkocpcjcpohcaaW.PrintMore Go.Proofs.Ythkocpcjcpohcaa.U
attribute [local go_sem] max2_int min2_int max_two min_two max_three min_three max_four min_four
theorem SameN_calls {A0 A1 : Option Addr} {n0 n1 c0 c1 : Nat} {l : List Int} {w : World} (h0 : n0 = l.length) (h1 : n1 = l.length) (hd : l.length ≤ 140737488351232) (hr0 : (Kd.int .u8).C w A0 n0 l) (hc0 : n0 ≤ c0) (hr1 : (Kd.int .u8).C w A1 n1 l) (hc1 : n1 ≤ c1) :
    Calls Try.prog 15 #[.slice A0 n0 c0, .slice A1 n1 c1] w fun e w' => e = .returned (.bool true) ∧ Drawn0 w w' := by
  subst h0
  subst h1
  have h := rSame_calls A0 c0 l A1 c1 l w hd hr0 hc0 hr1 hc1
  rwa [decide_eq_true rfl] at h
noncomputable def bbr10_code : Code := ((Try.f3.body).bind (regionIn 10)).getD .skip
set_option maxHeartbeats 16000000 in
set_option maxRecDepth 1000000 in
theorem bbr10 {c0 c2 c7 c8 c9 c10 c11 c12 c13 c14 c15 c16 c17 c18 c19 c20 c21 c22 c23 c24 c25 c26 c27 c28 c29 c30 c31 c32 c33 c34 c35 c36 c37 c38 c39 c40 c41 c42 c43 c44 c45 c46 c47 c48 c49 c50 c51 c52 c53 c54 c55 c56 c57 c58 c59 c60 c61 c62 c63 c64 c65 c66 c67 c68 c69 c70 c71 c72 c73 c74 c75 c76 c77 c78 c79 c80 c81 c82 c83 c84 c85 c86 c87 c88 c89 c90 c91 c92 c93 c94 c95 c96 c97 c98 c99 c100 : Value} {Q : Exit → Act → World → Prop} (y : Dc) (w2 : World) (g : Nat) {B1 B2 B3 B4 B5 : Option Addr} {d1 d2 d3 d4 d5 : Nat} (Z : Aside0 (∀ i, w2.cell? ⟨g, i, none⟩ = (#[.bool y.f0, .int .i64 y.f1, .int .i64 y.f2, .bool y.f3, .bool y.f4, .int .u32 y.f5, .int .i64 y.f6, .slice B1 y.f7.length d1, .slice B2 y.f8.length d2, .slice B3 y.f9.length d3, .bool y.f10, .bool y.f11, .bool y.f12, .slice B4 y.f13.length d4, .slice B5 y.f14.length d5] : Array Value)[i]?)) (HG : Aside0 (g < w2.heap.size)) {A1 A2 A3 A4 A5 : Option Addr} {k1 k2 k3 k4 k5 : Nat} (gx : Nat) (ZX : Aside0 (∀ i, w2.cell? ⟨gx, i, none⟩ = (#[.bool y.f0, .int .i64 y.f1, .int .i64 y.f2, .bool y.f3, .bool y.f4, .int .u32 y.f5, .int .i64 y.f6, .slice A1 y.f7.length k1, .slice A2 y.f8.length k2, .slice A3 y.f9.length k3, .bool y.f10, .bool y.f11, .bool y.f12, .slice A4 y.f13.length k4, .slice A5 y.f14.length k5] : Array Value)[i]?)) (HGX : Aside0 (gx < w2.heap.size)) (E : Option Addr) (n c : Nat) (l : List Ch) (HE : Aside0 ((Kd.int .u8).C w2 E n (file l) ∧ n = (file l).length ∧ n ≤ c ∧ (file l).length ≤ 140737488351232 ∧ l.length + Pure.weight l < 9000000)) (HA : Aside0 (∀ W : World, Calls Try.prog 10 #[] W fun e w' => e = .returned (.bool true) ∧ Below W.heap.size W w')) (HCH : Aside0 (∀ W : World, Below w2.heap.size w2 W → Calls Try.prog 17 #[.agg #[.bool y.f0, .int .i64 y.f1, .int .i64 y.f2, .bool y.f3, .bool y.f4, .int .u32 y.f5, .int .i64 y.f6, .slice B1 y.f7.length d1, .slice B2 y.f8.length d2, .slice B3 y.f9.length d3, .bool y.f10, .bool y.f11, .bool y.f12, .slice B4 y.f13.length d4, .slice B5 y.f14.length d5]] W fun e w' => ∃ (B : Option Addr) (c : Nat) (xs : List Value), e = .returned (.slice B l.length c) ∧ St W w' (outR W l B c xs Asrt.emp))) (HRS : Aside0 (∀ W : World, Below w2.heap.size w2 W → Calls Try.prog 18 #[.agg #[.bool y.f0, .int .i64 y.f1, .int .i64 y.f2, .bool y.f3, .bool y.f4, .int .u32 y.f5, .int .i64 y.f6, .slice A1 y.f7.length k1, .slice A2 y.f8.length k2, .slice A3 y.f9.length k3, .bool y.f10, .bool y.f11, .bool y.f12, .slice A4 y.f13.length k4, .slice A5 y.f14.length k5], .agg #[.bool y.f0, .int .i64 y.f1, .int .i64 y.f2, .bool y.f3, .bool y.f4, .int .u32 y.f5, .int .i64 y.f6, .slice B1 y.f7.length d1, .slice B2 y.f8.length d2, .slice B3 y.f9.length d3, .bool y.f10, .bool y.f11, .bool y.f12, .slice B4 y.f13.length d4, .slice B5 y.f14.length d5]] W fun e w' => e = .returned (.bool true) ∧ Below W.heap.size W w'))
    (hK : ∀ (v u53 u54 u55 u56 u57 u58 u59 u60 u61 u62 u63 u64 u65 u66 u67 u68 u69 u70 u71 u72 u73 u74 u75 : Value) (wc : World), (v = .bool false ∧ Below w2.heap.size w2 wc) → Q .normal ⟨#[c0, Value.pointer (some ⟨g, 0, none⟩), c2, Value.slice E n c, Value.int .i64 0, Value.pointer (some ⟨gx, 0, none⟩), Value.int .i64 0, c7, c8, c9, c10, c11, c12, c13, c14, c15, c16, c17, c18, c19, c20, c21, c22, c23, c24, c25, c26, c27, c28, c29, c30, c31, c32, c33, c34, c35, c36, c37, c38, c39, c40, c41, c42, c43, c44, c45, c46, c47, c48, c49, c50, c51, c52, u53, u54, u55, u56, u57, u58, u59, u60, u61, u62, u63, u64, u65, u66, u67, u68, u69, u70, u71, u72, u73, u74, u75, v, c77, c78, c79, c80, c81, c82, c83, c84, c85, c86, c87, c88, c89, c90, c91, c92, c93, c94, c95, c96, c97, c98, c99, c100], []⟩ wc) :
    Code.wp Try.prog bbr10_code Q ⟨#[c0, Value.pointer (some ⟨g, 0, none⟩), c2, Value.slice E n c, Value.int .i64 0, Value.pointer (some ⟨gx, 0, none⟩), Value.int .i64 0, c7, c8, c9, c10, c11, c12, c13, c14, c15, c16, c17, c18, c19, c20, c21, c22, c23, c24, c25, c26, c27, c28, c29, c30, c31, c32, c33, c34, c35, c36, c37, c38, c39, c40, c41, c42, c43, c44, c45, c46, c47, c48, c49, c50, c51, c52, c53, c54, c55, c56, c57, c58, c59, c60, c61, c62, c63, c64, c65, c66, c67, c68, c69, c70, c71, c72, c73, c74, c75, c76, c77, c78, c79, c80, c81, c82, c83, c84, c85, c86, c87, c88, c89, c90, c91, c92, c93, c94, c95, c96, c97, c98, c99, c100], []⟩ w2 := by
  have HK := asiD hK
  clear hK
  conv => arg 2; whnf
  have HB := asiD (Below.refl w2.heap.size w2)
  have z := fun i => Z.out i
  have zx := fun i => ZX.out i
  go_wp2_with (first
    | (go_at_call 10; with_reducible refine (HA.out _).mono ?_; rintro e w9 ⟨rfl, hb⟩; clear zx; have hb2 := HB.out.trans (hb.mono HB.out.size); clear HB z hb; have HB := asiD hb2; have z := fun i => cells_later Z.out HG.out hb2 i; clear hb2)
    | (go_at_call 17; with_reducible refine (HCH.out _ HB.out).mono ?_; rintro e w8 ⟨Bc, cc, xc, rfl, hs⟩; have HO := asiD hs; have hb := hs.below; clear hs; have hb2 := HB.out.trans (hb.mono HB.out.size); clear HB z hb; have HB := asiD hb2; have z := fun i => cells_later Z.out HG.out hb2 i; clear hb2)
    | (go_at_call 16; with_reducible refine (FileS_calls HO.out HE.out.2.2.2.2).mono ?_; rintro e w7 ⟨Bf, nf, cf, rfl, hnf, hcf, hC, hs, hb⟩; have HF := asiD (And.intro hC (And.intro hnf hcf)); clear hs hnf hcf hC; have hb2 := HB.out.trans (hb.mono HB.out.size); clear HB z hb; have HB := asiD hb2; have z := fun i => cells_later Z.out HG.out hb2 i; clear hb2)
    | (go_at_call 15; with_reducible refine (SameN_calls HE.out.2.1 HF.out.2.1 HE.out.2.2.2.1 (Kd.C_below HE.out.1 HB.out) HE.out.2.2.1 HF.out.1 HF.out.2.2).mono ?_; rintro e w6 ⟨rfl, hd⟩; have hb := drawn_below hd; clear hd; have hb2 := HB.out.trans (hb.mono HB.out.size); clear HB z hb; have HB := asiD hb2; have z := fun i => cells_later Z.out HG.out hb2 i; clear hb2; have zx := fun i => cells_later ZX.out HGX.out HB.out i)
    | (go_at_call 18; with_reducible refine (HRS.out _ HB.out).mono ?_; rintro e w5 ⟨rfl, hb⟩; have hb2 := HB.out.trans (hb.mono HB.out.size); clear HB z hb; have HB := asiD hb2; have z := fun i => cells_later Z.out HG.out hb2 i; clear hb2))
  apply HK.out
  exact ⟨rfl, HB.out⟩
noncomputable def bbr12_code : Code := ((Try.f3.body).bind (regionIn 12)).getD .skip
set_option maxHeartbeats 16000000 in
set_option maxRecDepth 1000000 in
theorem bbr12 {c0 c2 c3 c4 c5 c6 c9 c10 c11 c12 c13 c14 c15 c16 c17 c18 c19 c20 c21 c22 c23 c24 c25 c26 c27 c28 c29 c30 c31 c32 c33 c34 c35 c36 c37 c38 c39 c40 c41 c42 c43 c44 c45 c46 c47 c48 c49 c50 c51 c52 c53 c54 c55 c56 c57 c58 c59 c60 c61 c62 c63 c64 c65 c66 c67 c68 c69 c70 c71 c72 c73 c74 c75 c76 c77 c78 c79 c80 c81 c82 c83 c84 c85 c86 c87 c88 c89 c90 c91 c92 c93 c94 c95 c96 c97 c98 c99 c100 : Value} {Q : Exit → Act → World → Prop} (y : Dc) (w2 : World) (g : Nat) {B1 B2 B3 B4 B5 : Option Addr} {d1 d2 d3 d4 d5 : Nat} (Z : Aside0 (∀ i, w2.cell? ⟨g, i, none⟩ = (#[.bool y.f0, .int .i64 y.f1, .int .i64 y.f2, .bool y.f3, .bool y.f4, .int .u32 y.f5, .int .i64 y.f6, .slice B1 y.f7.length d1, .slice B2 y.f8.length d2, .slice B3 y.f9.length d3, .bool y.f10, .bool y.f11, .bool y.f12, .slice B4 y.f13.length d4, .slice B5 y.f14.length d5] : Array Value)[i]?)) (HG : Aside0 (g < w2.heap.size)) (gx : Nat) (A4 : Option Addr) (k4 : Nat) (q : Int) (hc : (y.f13.length = 0 ∧ q = 0) ∨ (0 < y.f13.length ∧ q = 4 ∧ w2.cell? ⟨gx, 13, none⟩ = some (.slice A4 0 k4)))
    (hK : ∀ (v u77 u78 u79 u80 u81 u82 u83 u84 u85 u86 u87 u88 u89 u90 u91 u92 u93 u94 u95 u96 u97 u98 u99 u100 : Value) (wc : World), (v = .bool true ∧ Below w2.heap.size w2 wc) → Q .normal ⟨#[c0, Value.pointer (some ⟨g, 0, none⟩), v, c3, c4, c5, c6, Value.pointer (some ⟨gx, 0, none⟩), Value.int .i64 q, c9, c10, c11, c12, c13, c14, c15, c16, c17, c18, c19, c20, c21, c22, c23, c24, c25, c26, c27, c28, c29, c30, c31, c32, c33, c34, c35, c36, c37, c38, c39, c40, c41, c42, c43, c44, c45, c46, c47, c48, c49, c50, c51, c52, c53, c54, c55, c56, c57, c58, c59, c60, c61, c62, c63, c64, c65, c66, c67, c68, c69, c70, c71, c72, c73, c74, c75, c76, u77, u78, u79, u80, u81, u82, u83, u84, u85, u86, u87, u88, u89, u90, u91, u92, u93, u94, u95, u96, u97, u98, u99, u100], []⟩ wc) :
    Code.wp Try.prog bbr12_code Q ⟨#[c0, Value.pointer (some ⟨g, 0, none⟩), c2, c3, c4, c5, c6, Value.pointer (some ⟨gx, 0, none⟩), Value.int .i64 q, c9, c10, c11, c12, c13, c14, c15, c16, c17, c18, c19, c20, c21, c22, c23, c24, c25, c26, c27, c28, c29, c30, c31, c32, c33, c34, c35, c36, c37, c38, c39, c40, c41, c42, c43, c44, c45, c46, c47, c48, c49, c50, c51, c52, c53, c54, c55, c56, c57, c58, c59, c60, c61, c62, c63, c64, c65, c66, c67, c68, c69, c70, c71, c72, c73, c74, c75, c76, c77, c78, c79, c80, c81, c82, c83, c84, c85, c86, c87, c88, c89, c90, c91, c92, c93, c94, c95, c96, c97, c98, c99, c100], []⟩ w2 := by
  have HK := asiD hK
  clear hK
  conv => arg 2; whnf
  have HB := asiD (Below.refl w2.heap.size w2)
  have z := fun i => Z.out i
  have hl := z 13
  have hl2 : w2.cell? ⟨g, 13, none⟩ = some (.slice B4 y.f13.length d4) := hl.trans rfl
  clear hl z
  rcases hc with ⟨h1, rfl⟩ | ⟨h1, rfl, h2⟩
  · have t1 : ((y.f13.length : Int) == 0) = true := by rw [h1]; rfl
    clear h1
    go_wp2_with fail
    all_goals apply HK.out
    all_goals exact ⟨rfl, HB.out⟩
  · have t1 : ((y.f13.length : Int) == 0) = false := by rw [beq_eq_false_iff_ne]; omega
    have t2 : decide ((0 : Int) < y.f13.length) = true := decide_eq_true (by omega)
    have t3 : decide (0 < y.f13.length) = true := decide_eq_true h1
    clear h1
    go_wp2_with fail
    all_goals apply HK.out
    all_goals exact ⟨rfl, HB.out⟩
set_option maxHeartbeats 16000000 in
set_option maxRecDepth 1000000 in
theorem bbA (y : Dc) (cs : List Value) (w : World) (hy : k27.K w y cs) (oy : okDc y) (nx : ¬ smallN y < 20000) :
    Calls Try.prog 3 #[.agg cs.toArray] w fun e w' => e = .returned (.bool true) ∧ Below w.heap.size w w' := by
  have HA := asiD fun (W : World) => answers_calls W
  have HM := asiD fun (W : World) (hb : Below w.heap.size w W) => small_calls y cs W (k27.K_below hb hy) oy
  rw [decide_eq_false nx] at HM
  obtain ⟨B1, d1, B2, d2, B3, d3, B4, d4, B5, d5, rfl, m1, h1, m2, h2, m3, h3, m4, h4, m5, h5⟩ := k27_open hy
  have HS := asiD ((St.refl w).alloc #[.bool y.f0, .int .i64 y.f1, .int .i64 y.f2, .bool y.f3, .bool y.f4, .int .u32 y.f5, .int .i64 y.f6, .slice B1 y.f7.length d1, .slice B2 y.f8.length d2, .slice B3 y.f9.length d3, .bool y.f10, .bool y.f11, .bool y.f12, .slice B4 y.f13.length d4, .slice B5 y.f14.length d5] 27)
  clear hy h1 h2 h3 h4 h5 m1 m2 m3 m4 m5 oy
  go_enter Try.func3, Try.ntmps3
  go_upto_region 1 with (fail)
  generalize w.alloc (.cells _ 27) = W1 at HS ⊢
  generalize w.heap.size = g at HS ⊢
  have z := fun i => HS.out.cell i
  go_wp2_with (first
    | (go_at_call 9; refine (HM.out _ HS.out.below).mono ?_; rintro e w1 ⟨rfl, hb⟩; have HS1 := asiD (HS.out.belowR hb); clear hb)
    | (go_at_call 10; refine (HA.out _).mono ?_; rintro e w2 ⟨rfl, hb⟩; have HS2 := asiD (HS1.out.belowR hb); clear hb))
  go_ret
  exact ⟨rfl, HS2.out.below⟩
set_option maxHeartbeats 16000000 in
set_option maxRecDepth 1000000 in
theorem bbB (y : Dc) (cs : List Value) (w : World) (hy : k27.K w y cs) (oy : okDc y) (nx : smallN y < 20000) :
    Calls Try.prog 3 #[.agg cs.toArray] w fun e w' => e = .returned (.bool true) ∧ Below w.heap.size w w' := by
  have HA := asiD fun (W : World) => answers_calls W
  have HM := asiD fun (W : World) (hb : Below w.heap.size w W) => small_calls y cs W (k27.K_below hb hy) oy
  rw [decide_eq_true nx] at HM
  obtain ⟨p, hp⟩ : ∃ b : Bool, b = true ↔ soundP y := ⟨@decide (soundP y) (Classical.propDecidable _), by simp⟩
  have ha := all_small nx
  have HSB := asiD fun (W : World) (hb : Below w.heap.size w W) => Sound_calls y cs W (k27.K_below hb hy) oy ha.2 (by omega) p hp
  have HSR := asiD fun (W : World) (hb : Below w.heap.size w W) => refSound_calls y cs W (k27.K_below hb hy) oy nx p hp
  have HP := asiD fun (W : World) (hb : Below w.heap.size w W) => PrintS_calls y cs W (k27.K_below hb hy) oy nx p hp
  have HCH := asiD fun (hs : soundP y) (W : World) (hb : Below w.heap.size w W) => rchunks_calls y cs W (k27.K_below hb hy) oy nx hs
  have HRS := asiD fun (ds : List Value) (W0 W : World) (hk : k27.K W0 y ds) (hb0 : Below W0.heap.size W0 W) (hb : Below w.heap.size w W) => refSame_calls y y ds cs W (k27.K_below hb0 hk) (k27.K_below hb hy) oy
  rw [decide_eq_true rfl] at HRS
  have HPA := asiD fun (hs : soundP y) => ParseS_calls (y := y) (z := y) hs oy nx (y.f13.length : Int) 0 ((parse_back hs oy nx _).1 (.inl (Int.le_refl _)))
  have HPB0 := asiD fun (hs : soundP y) (h0 : y.f13 = []) => ParseS_calls (y := y) (z := y) hs oy nx ((y.f13.length : Int) - 1) 0 ((parse_back hs oy nx _).1 (.inr h0))
  have HPB1 := asiD fun (hs : soundP y) (h0 : y.f13 ≠ []) => ParseS_calls (y := y) (z := z27) hs oy nx ((y.f13.length : Int) - 1) 4 ((parse_back hs oy nx _).2 (by omega) h0)
  have HSZ := asiD fun (hs : soundP y) => And.intro (file_sz hs nx) (chunks_w hs nx)
  have HLN : Aside0 (y.f13.length ≤ 1000) := ⟨by unfold smallN at nx; omega⟩
  have HPP := asiD hp
  clear ha nx hp
  obtain ⟨B1, d1, B2, d2, B3, d3, B4, d4, B5, d5, rfl, m1, h1, m2, h2, m3, h3, m4, h4, m5, h5⟩ := k27_open hy
  have HS := asiD ((St.refl w).alloc #[.bool y.f0, .int .i64 y.f1, .int .i64 y.f2, .bool y.f3, .bool y.f4, .int .u32 y.f5, .int .i64 y.f6, .slice B1 y.f7.length d1, .slice B2 y.f8.length d2, .slice B3 y.f9.length d3, .bool y.f10, .bool y.f11, .bool y.f12, .slice B4 y.f13.length d4, .slice B5 y.f14.length d5] 27)
  clear hy h1 h2 h3 h4 h5 m1 m2 m3 m4 m5 oy
  go_enter Try.func3, Try.ntmps3
  go_upto_region 1 with (fail)
  generalize w.alloc (.cells _ 27) = W1 at HS ⊢
  generalize w.heap.size = g at HS ⊢
  have Z := asiD fun i => HS.out.cell i
  have HG := asiD HS.out.blk_lt
  have HB := asiD HS.out.below
  clear HS
  refine bbr1 y _ g Z HG ⟨fun W h => HM.out W (bthen HB.out h)⟩ ?_
  intro v u9 u10 wc hcut
  obtain ⟨rfl, hb⟩ := hcut
  have Z2 := asiD fun i => cells_later Z.out HG.out hb i
  clear Z
  have Z := Z2
  clear Z2
  have HG2 := asiD (Nat.lt_of_lt_of_le HG.out hb.size)
  clear HG
  have HG := HG2
  clear HG2
  have HB2 := asiD (bthen HB.out hb)
  clear HB
  have HB := HB2
  clear HB2
  clear HM hb
  go_upto_region 3 with (fail)
  refine bbr3 y _ g Z HG (printE p) (printV p (chunksV y)) ⟨fun W h => HP.out W (bthen HB.out h)⟩ ?_
  intro v v2 u14 u15 u13 u16 u17 wc hcut
  obtain ⟨⟨E, n, c, rfl, hn, hc, hE⟩, rfl, hb⟩ := hcut
  have Z2 := asiD fun i => cells_later Z.out HG.out hb i
  clear Z
  have Z := Z2
  clear Z2
  have HG2 := asiD (Nat.lt_of_lt_of_le HG.out hb.size)
  clear HG
  have HG := HG2
  clear HG2
  have HB2 := asiD (bthen HB.out hb)
  clear HB
  have HB := HB2
  clear HB2
  have HE := asiD (And.intro hE (And.intro hn hc))
  clear HP hb hn hc hE
  go_upto_region 4 with (fail)
  refine bbr4 y _ g Z HG p ⟨fun W h => HSB.out W (bthen HB.out h)⟩ ⟨fun W h => HSR.out W (bthen HB.out h)⟩ ?_
  intro v u18 u19 u20 u21 wc hcut
  obtain ⟨rfl, hb⟩ := hcut
  have Z2 := asiD fun i => cells_later Z.out HG.out hb i
  clear Z
  have Z := Z2
  clear Z2
  have HG2 := asiD (Nat.lt_of_lt_of_le HG.out hb.size)
  clear HG
  have HG := HG2
  clear HG2
  have HB2 := asiD (bthen HB.out hb)
  clear HB
  have HB := HB2
  clear HB2
  have HE2 := asiD (And.intro (Kd.C_below HE.out.1 hb) HE.out.2)
  clear HE
  have HE := HE2
  clear HE2 HSB hb
  go_upto_region 6 with (fail)
  refine bbr6 y _ g Z HG p ⟨fun W h => HSR.out W (bthen HB.out h)⟩ ?_
  intro v u23 u24 wc hcut
  obtain ⟨rfl, hb⟩ := hcut
  have Z2 := asiD fun i => cells_later Z.out HG.out hb i
  clear Z
  have Z := Z2
  clear Z2
  have HG2 := asiD (Nat.lt_of_lt_of_le HG.out hb.size)
  clear HG
  have HG := HG2
  clear HG2
  have HB2 := asiD (bthen HB.out hb)
  clear HB
  have HB := HB2
  clear HB2
  have HE2 := asiD (And.intro (Kd.C_below HE.out.1 hb) HE.out.2)
  clear HE
  have HE := HE2
  clear HE2 HSR hb
  cases p with
  | false =>
    have hn : n = 0 := HE.out.2.1
    subst hn
    rw [show printE false = 7 from rfl]
    clear HCH HRS HPA HPB0 HPB1 HSZ HLN HPP HE Z HG
    go_wp2_with (go_at_call 10; refine (HA.out _).mono ?_; rintro e w2 ⟨rfl, hb⟩; have HB2 := asiD (bthen HB.out hb); clear hb)
    go_ret
    exact ⟨rfl, HB2.out⟩
  | true =>
  have HSO := asiD (HPP.out.1 rfl)
  rw [show printE true = 0 from rfl]
  have hz := HSZ.out HSO.out
  have HF : Aside0 (n = (file (chunksV y)).length ∧ n ≤ c ∧ (file (chunksV y)).length ≤ 140737488351232 ∧ (chunksV y).length + Pure.weight (chunksV y) < 9000000) := ⟨HE.out.2.1, HE.out.2.2, by omega, by omega⟩
  have HE2 : Aside0 ((Kd.int .u8).C wc E n (file (chunksV y))) := ⟨HE.out.1⟩
  clear HE hz HPP HSZ
  have HE := HE2
  clear HE2
  go_upto_region 8 with (fail)
  refine bbr8 y _ g Z HG y E n c 0 _ rfl ⟨fun W h => HPA.out HSO.out E n c W HF.out.1 (Kd.C_below HE.out h) HF.out.2.1⟩ ?_
  intro v v2 u37 u38 u39 u40 u41 u36 u42 u43 wc hcut
  obtain ⟨⟨gx, ds, rfl, hkx, hzx, hgx⟩, rfl, hb⟩ := hcut
  have Z2 := asiD fun i => cells_later Z.out HG.out hb i
  clear Z
  have Z := Z2
  clear Z2
  have HG2 := asiD (Nat.lt_of_lt_of_le HG.out hb.size)
  clear HG
  have HG := HG2
  clear HG2
  have HB2 := asiD (bthen HB.out hb)
  clear HB
  have HB := HB2
  clear HB2
  have HE2 := asiD (Kd.C_below HE.out hb)
  clear HE
  have HE := HE2
  clear HE2 hb HPA
  have HKX := asiD hkx
  have ZX := asiD hzx
  have HGX := asiD hgx
  clear hkx hzx hgx
  go_upto_region 9 with (fail)
  have hfr : (y.f13 = [] ∧ ∃ q z, q = 0 ∧ z = y) ∨ (y.f13 ≠ [] ∧ ∃ q z, q = 4 ∧ z = z27) := by
    by_cases h : y.f13 = []
    · exact .inl ⟨h, 0, y, rfl, rfl⟩
    · exact .inr ⟨h, 4, z27, rfl, rfl⟩
  obtain ⟨q, zd, hq⟩ : ∃ (q : Int) (zd : Dc), (y.f13 = [] ∧ q = 0 ∧ zd = y) ∨ (y.f13 ≠ [] ∧ q = 4 ∧ zd = z27) := by
    by_cases h : y.f13 = []
    · exact ⟨0, y, .inl ⟨h, rfl, rfl⟩⟩
    · exact ⟨4, z27, .inr ⟨h, rfl, rfl⟩⟩
  have HQ := asiD hq
  clear hq hfr
  refine bbr9 y _ g Z HG zd E n c q _ rfl HLN.out ⟨fun W h => by
    rcases HQ.out with ⟨h0, rfl, rfl⟩ | ⟨h0, rfl, rfl⟩
    · exact HPB0.out HSO.out h0 E n c W HF.out.1 (Kd.C_below HE.out h) HF.out.2.1
    · exact HPB1.out HSO.out h0 E n c W HF.out.1 (Kd.C_below HE.out h) HF.out.2.1⟩ ?_
  intro v v2 u45 u46 u47 u48 u49 u50 u44 u51 u52 wc hcut
  obtain ⟨⟨gy, es, rfl, hky, hzy, hgy⟩, rfl, hb⟩ := hcut
  have Z2 := asiD fun i => cells_later Z.out HG.out hb i
  clear Z
  have Z := Z2
  clear Z2
  have HG2 := asiD (Nat.lt_of_lt_of_le HG.out hb.size)
  clear HG
  have HG := HG2
  clear HG2
  have HB2 := asiD (bthen HB.out hb)
  clear HB
  have HB := HB2
  clear HB2
  have HE2 := asiD (Kd.C_below HE.out hb)
  clear HE
  have HE := HE2
  clear HE2 HPB0 HPB1
  have HKX2 := asiD (k27.K_below hb HKX.out)
  have ZX2 := asiD fun i => cells_later ZX.out HGX.out hb i
  have HGX2 := asiD (Nat.lt_of_lt_of_le HGX.out hb.size)
  clear HKX ZX HGX hb
  have hkx := HKX2.out
  obtain ⟨A1, k1, A2, k2, A3, k3, A4, k4, A5, k5, rfl, j1, j2, j3, j4, j5, j6, j7, j8, j9, j10⟩ := k27_open hkx
  clear hkx j1 j2 j3 j4 j5 j6 j7 j8 j9 j10
  have HY : Aside0 (∃ (A4' : Option Addr) (k4' : Nat), (y.f13.length = 0 ∧ q = 0) ∨ (0 < y.f13.length ∧ q = 4 ∧ wc.cell? ⟨gy, 13, none⟩ = some (.slice A4' 0 k4'))) := ⟨by
    rcases HQ.out with ⟨h0, hq, _⟩ | ⟨h0, hq, hz⟩
    · exact ⟨none, 0, .inl ⟨by rw [h0]; rfl, hq⟩⟩
    · rw [hz] at hky
      obtain ⟨A1', k1', A2', k2', A3', k3', A4', k4', A5', k5', hes, _⟩ := k27_open hky
      exact ⟨A4', k4', .inr ⟨List.length_pos_iff.2 h0, hq, by rw [hzy 13, hes]; rfl⟩⟩⟩
  have HGY := asiD hgy
  clear hky hzy hgy HQ
  go_upto_region 10 with (fail)
  refine bbr10 y _ g Z HG gx ZX2 HGX2 E n c (chunksV y) ⟨⟨HE.out, HF.out⟩⟩ HA ⟨fun W h => HCH.out HSO.out W (bthen HB.out h)⟩ ⟨fun W h => HRS.out _ _ W HKX2.out h (bthen HB.out h)⟩ ?_
  intro v u53 u54 u55 u56 u57 u58 u59 u60 u61 u62 u63 u64 u65 u66 u67 u68 u69 u70 u71 u72 u73 u74 u75 wc2 hcut
  obtain ⟨rfl, hb⟩ := hcut
  obtain ⟨A4', k4', hy4⟩ := HY.out
  have HY2 : Aside0 ((y.f13.length = 0 ∧ q = 0) ∨ (0 < y.f13.length ∧ q = 4 ∧ wc2.cell? ⟨gy, 13, none⟩ = some (.slice A4' 0 k4'))) := ⟨hy4.imp id fun h => ⟨h.1, h.2.1, (hb.cell (p := ⟨gy, 13, none⟩) HGY.out).trans h.2.2⟩⟩
  have Z2 := asiD fun i => cells_later Z.out HG.out hb i
  clear Z
  have Z := Z2
  clear Z2
  have HG2 := asiD (Nat.lt_of_lt_of_le HG.out hb.size)
  clear HG
  have HG := HG2
  clear HG2
  have HB2 := asiD (bthen HB.out hb)
  clear HB
  have HB := HB2
  clear HB2
  clear HE HKX2 ZX2 HGX2 HY hy4 hb HRS HCH HF
  go_upto_region 12 with (fail)
  refine bbr12 y _ g Z HG gy A4' k4' q HY2.out ?_
  intro v u77 u78 u79 u80 u81 u82 u83 u84 u85 u86 u87 u88 u89 u90 u91 u92 u93 u94 u95 u96 u97 u98 u99 u100 wc3 hcut
  obtain ⟨rfl, hb⟩ := hcut
  have Z2 := asiD fun i => cells_later Z.out HG.out hb i
  clear Z
  have Z := Z2
  clear Z2
  have HG2 := asiD (Nat.lt_of_lt_of_le HG.out hb.size)
  clear HG
  have HG := HG2
  clear HG2
  have HB2 := asiD (bthen HB.out hb)
  clear HB
  have HB := HB2
  clear HB2
  clear hb
  go_wp2_with fail
  go_ret
  exact ⟨rfl, HB.out⟩
theorem BoxBack_calls (y : Dc) (cs : List Value) (w : World) (hy : k27.K w y cs) (oy : okDc y) :
    Calls Try.prog 3 #[.agg cs.toArray] w fun e w' => e = .returned (.bool true) ∧ Below w.heap.size w w' := by
  by_cases nx : smallN y < 20000
  · exact bbB y cs w hy oy nx
  · exact bbA y cs w hy oy nx
theorem BoxBack (b0x : Bool) (b1x b2x : Int) (b3x b4x : Bool) (b5x b6x : Int) (A7x : Option Addr) (c7x : Nat) (l7x : List Int) (A8x : Option Addr) (c8x : Nat) (l8x : List Int) (A9x : Option Addr) (c9x : Nat) (l9x : List Int) (b10x b11x b12x : Bool) (A13x : Option Addr) (c13x : Nat) (l13x : List Fr) (A14x : Option Addr) (c14x : Nat) (l14x : List Ch) (w : World) (h1x : (Lit.int .i64 b1x).wf = true) (h2x : (Lit.int .i64 b2x).wf = true) (h5x : (Lit.int .u32 b5x).wf = true) (h6x : (Lit.int .i64 b6x).wf = true) (_ : l7x.length ≤ maxLen) (hl7x : l7x.length * 1 ≤ 140737488351232) (ql7x : ∀ y0 ∈ l7x, (Lit.int .u8 y0).wf = true) (_ : l8x.length ≤ maxLen) (hl8x : l8x.length * 1 ≤ 140737488351232) (ql8x : ∀ y0 ∈ l8x, (Lit.int .u8 y0).wf = true) (_ : l9x.length ≤ maxLen) (hl9x : l9x.length * 1 ≤ 140737488351232) (ql9x : ∀ y0 ∈ l9x, (Lit.int .u8 y0).wf = true) (_ : l13x.length ≤ maxLen) (hl13x : l13x.length * 128 ≤ 140737488351232) (ql13x : ∀ y0 ∈ l13x, ((Lit.int .i64 y0.f0).wf = true ∧ (Lit.int .i64 y0.f1).wf = true ∧ (Lit.int .i64 y0.f2).wf = true ∧ (Lit.int .i64 y0.f3).wf = true ∧ (Lit.int .i64 y0.f4).wf = true ∧ True ∧ True ∧ (Lit.int .i64 y0.f7).wf = true ∧ (y0.f8.length ≤ maxLen ∧ y0.f8.length * 1 ≤ 140737488351232 ∧ ∀ y1 ∈ y0.f8, (Lit.int .u8 y1).wf = true) ∧ (y0.f9.length ≤ maxLen ∧ y0.f9.length * 1 ≤ 140737488351232 ∧ ∀ y1 ∈ y0.f9, (Lit.int .u8 y1).wf = true) ∧ (y0.f10.length ≤ maxLen ∧ y0.f10.length * 40 ≤ 140737488351232 ∧ ∀ y1 ∈ y0.f10, (y1.f0.size ≤ 140737488351232 ∧ (y1.f1.length ≤ maxLen ∧ y1.f1.length * 1 ≤ 140737488351232 ∧ ∀ y2 ∈ y1.f1, (Lit.int .u8 y2).wf = true))))) (_ : l14x.length ≤ maxLen) (hl14x : l14x.length * 40 ≤ 140737488351232) (ql14x : ∀ y0 ∈ l14x, (y0.f0.size ≤ 140737488351232 ∧ (y0.f1.length ≤ maxLen ∧ y0.f1.length * 1 ≤ 140737488351232 ∧ ∀ y1 ∈ y0.f1, (Lit.int .u8 y1).wf = true))) (g7x : (Kd.int .u8).C w A7x l7x.length l7x) (m7x : l7x.length ≤ c7x) (g8x : (Kd.int .u8).C w A8x l8x.length l8x) (m8x : l8x.length ≤ c8x) (g9x : (Kd.int .u8).C w A9x l9x.length l9x) (m9x : l9x.length ≤ c9x) (g13x : k44.C w A13x l13x.length l13x) (m13x : l13x.length ≤ c13x) (g14x : k42.C w A14x l14x.length l14x) (m14x : l14x.length ≤ c14x) :
    Calls Try.prog 3 #[.agg #[.bool b0x, .int .i64 b1x, .int .i64 b2x, .bool b3x, .bool b4x, .int .u32 b5x, .int .i64 b6x, .slice A7x l7x.length c7x, .slice A8x l8x.length c8x, .slice A9x l9x.length c9x, .bool b10x, .bool b11x, .bool b12x, .slice A13x l13x.length c13x, .slice A14x l14x.length c14x]] w fun e w' => e = .returned (.bool true) ∧ Below w.heap.size w w' :=
  BoxBack_calls ⟨b0x, b1x, b2x, b3x, b4x, b5x, b6x, l7x, l8x, l9x, b10x, b11x, b12x, l13x, l14x⟩ _ w (k27_mk w (⟨b0x, b1x, b2x, b3x, b4x, b5x, b6x, l7x, l8x, l9x, b10x, b11x, b12x, l13x, l14x⟩ : Dc) m7x g7x m8x g8x m9x g9x m13x g13x m14x g14x) (ok_of h1x h2x h5x h6x hl7x ql7x hl8x ql8x hl9x ql9x hl13x ql13x hl14x ql14x)
end Go.Proofs.Ythkocpcjcpohcaa.Pure
end
