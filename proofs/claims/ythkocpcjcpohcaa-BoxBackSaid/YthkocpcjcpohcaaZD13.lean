/- The part of our texts, and of the print's, that these laws' proofs use. -/
import Derived.Test.YthkocpcjcpohcaaZD12
set_option linter.unusedVariables false
set_option linter.unusedSimpArgs false
section
namespace Go.Proofs.Ythkocpcjcpohcaa.P
open Go Go.RowKit Go.Proofs.YthkocpcjcpohcaaW.PrintWords Go.Proofs.YthkocpcjcpohcaaW.PrintLast Go.Proofs.YthkocpcjcpohcaaW.PrintMore Go.Proofs.Ythkocpcjcpohcaa.U Go.Proofs.Ythkocpcjcpohcaa.Pure
attribute [local go_sem] max2_int min2_int max_two min_two max_three min_three max_four min_four
section
variable {w W : World} {g gd : Nat} {l l1 : List Ch} {most e e1 : Int} {b : List Int} {ok : Bool} {A : Option Addr} {c : Nat} {Q : World → Prop} {r : Asrt}
set_option maxHeartbeats 8000000 in
set_option maxRecDepth 100000 in
theorem head_calls {zs : List Value} (hq : poolQ Q A c l zs) (hn : nextV l e nVP8X true = (b, ok, l1, e1)) (hB : Bytes b) (hlen : b.length ≤ 1000000000)
    (hS : St w W (parA w g l most e A c Q (Asrt.blk gd 27 #[.bool false, .int .i64 0, .int .i64 0, .bool false, .bool false, .int .u32 0, .int .i64 0, .slice none 0 0, .slice none 0 0, .slice none 0 0, .bool false, .bool false, .bool false, .slice none 0 0, .slice none 0 0] * r))) :
    Calls Try.prog 70 #[.pointer (some ⟨g, 0, none⟩), .pointer (some ⟨gd, 0, none⟩)] W fun x w' => ∃ (A' : Option Addr) (c' : Nat) (zs' : List Value), x = .returned (.tuple #[]) ∧ poolQ Q A' c' l1 zs' ∧
      St w w' (parA w g l1 most (headE b ok e1) A' c' Q (Asrt.blk gd 27 #[.bool false, .int .i64 (headW b ok 4), .int .i64 (headW b ok 7), .bool (flagB (headN b ok) 16), .bool (flagB (headN b ok) 2), .int .u32 0, .int .i64 0, .slice none 0 0, .slice none 0 0, .slice none 0 0, .bool (flagB (headN b ok) 32), .bool (flagB (headN b ok) 8), .bool (flagB (headN b ok) 4), .slice none 0 0, .slice none 0 0] * r)) := by
  have hN := next_calls nVP8X true hq hS
  rw [hn] at hN
  have HN := asiD hN
  clear hN hS hq hn
  have hfail : ¬ headOK b ok → headE b ok e1 = failE e1 3 ∧ headN b ok = 0 ∧ headW b ok 4 = 0 ∧ headW b ok 7 = 0 := fun h => ⟨if_neg h, if_neg h, if_neg h, if_neg h⟩
  have ef : flagB 0 16 = false ∧ flagB 0 2 = false ∧ flagB 0 32 = false ∧ flagB 0 8 = false ∧ flagB 0 4 = false := by decide
  have HNUM := asiD fun (B : Option Addr) (cB : Nat) (W : World) (h : (Kd.int .u8).C W B b.length b) (hc : b.length ≤ cB) (a n : Int) (ha : 0 ≤ a) (hn : n ≤ 4) => num_calls B cB b W h hc hB (by omega) a n ha hn
  by_cases hok : headOK b ok
  · have hg := hok
    unfold headOK at hg
    obtain ⟨rfl, hl, hz⟩ := hg
    have HG : Aside0 (headE b true e1 = e1 ∧ headN b true = numV b 0 4 ∧ headW b true 4 = numV b 4 3 + 1 ∧ headW b true 7 = numV b 7 3 + 1) := ⟨if_pos hok, if_pos hok, if_pos hok, if_pos hok⟩
    have y1 : ((b.length : Int) != 10) = false := by simp [hl]
    have y2 : (Go.bits .andNot .i64 (numV b 0 4) 62 != 0) = false := by rw [hz]; rfl
    have n1 := numV_bd hB 4 3 (by decide)
    have n2 := numV_bd hB 7 3 (by decide)
    have k1 : IntKind.i64.wrap (numV b 4 3 + 1) = numV b 4 3 + 1 := wi64 (by omega) (by omega)
    have k2 : IntKind.i64.wrap (numV b 7 3 + 1) = numV b 7 3 + 1 := wi64 (by omega) (by omega)
    clear hfail ef hok hl hz n1 n2
    go_enter Try.func70, Try.ntmps70
    go_upto_region 4 with (first
      | (go_at_call 71; refine HN.out.mono ?_; rintro e w2 ⟨B, cB, A', c', zs', rfl, hc8, hC8, hq2, hs⟩; have HQ2 := asiD hq2; have HC8 := asiD hC8; have HL8 := asiD hc8; have HS2 := asiD hs; clear hs hq2 hC8 hc8)
      | (go_at_call 85; refine (HNUM.out _ _ _ (HC8.out _ HS2.out.swap.pinGet) HL8.out 0 4 (by decide) (by decide)).mono ?_; rintro e w3 ⟨rfl, ⟨n1, hw⟩⟩; have hs := HS2.out.drewN n1; rw [← hw] at hs; clear HS2 hw; have HS2 := asiD hs; clear hs))
    have s0 := (show St w w3 (Asrt.blk g 59 _ * (pin w Q * (Asrt.blk gd 27 _ * r))) from HS2.out).rot3
    clear HS2
    obtain ⟨n, hn⟩ : ∃ n, n = numV b 0 4 := ⟨_, rfl⟩
    rw [← hn] at HG ⊢
    have c0 : w3.cell? ⟨gd, 10, none⟩ = some (.bool false) := (s0.cell 10).trans rfl
    have f0 := s0.frozen 10
    have s1 := s0.set 10 (.bool (Go.bits .and .i64 n 32 != 0))
    have c1 : (w3.setCell ⟨gd, 10, none⟩ (.bool (Go.bits .and .i64 n 32 != 0))).cell? ⟨gd, 3, none⟩ = some (.bool false) := (s1.cell 3).trans rfl
    have f1 := s1.frozen 3
    have s2 := s1.set 3 (.bool (Go.bits .and .i64 n 16 != 0))
    have c2 : ((w3.setCell ⟨gd, 10, none⟩ (.bool (Go.bits .and .i64 n 32 != 0))).setCell ⟨gd, 3, none⟩ (.bool (Go.bits .and .i64 n 16 != 0))).cell? ⟨gd, 11, none⟩ = some (.bool false) := (s2.cell 11).trans rfl
    have f2 := s2.frozen 11
    have s3 := s2.set 11 (.bool (Go.bits .and .i64 n 8 != 0))
    have c3 : (((w3.setCell ⟨gd, 10, none⟩ (.bool (Go.bits .and .i64 n 32 != 0))).setCell ⟨gd, 3, none⟩ (.bool (Go.bits .and .i64 n 16 != 0))).setCell ⟨gd, 11, none⟩ (.bool (Go.bits .and .i64 n 8 != 0))).cell? ⟨gd, 12, none⟩ = some (.bool false) := (s3.cell 12).trans rfl
    have f3 := s3.frozen 12
    have s4 := s3.set 12 (.bool (Go.bits .and .i64 n 4 != 0))
    have c4 : ((((w3.setCell ⟨gd, 10, none⟩ (.bool (Go.bits .and .i64 n 32 != 0))).setCell ⟨gd, 3, none⟩ (.bool (Go.bits .and .i64 n 16 != 0))).setCell ⟨gd, 11, none⟩ (.bool (Go.bits .and .i64 n 8 != 0))).setCell ⟨gd, 12, none⟩ (.bool (Go.bits .and .i64 n 4 != 0))).cell? ⟨gd, 4, none⟩ = some (.bool false) := (s4.cell 4).trans rfl
    have f4 := s4.frozen 4
    have s5 := s4.set 4 (.bool (Go.bits .and .i64 n 2 != 0))
    have HS5 := asiD s5.rot3.rot3
    clear s0 s1 s2 s3 s4 s5 hn
    go_upto_region 5 with fail
    obtain ⟨W5, hW5⟩ : ∃ W5, W5 = (((((w3.setCell ⟨gd, 10, none⟩ (.bool (Go.bits .and .i64 n 32 != 0))).setCell ⟨gd, 3, none⟩ (.bool (Go.bits .and .i64 n 16 != 0))).setCell ⟨gd, 11, none⟩ (.bool (Go.bits .and .i64 n 8 != 0))).setCell ⟨gd, 12, none⟩ (.bool (Go.bits .and .i64 n 4 != 0))).setCell ⟨gd, 4, none⟩ (.bool (Go.bits .and .i64 n 2 != 0))) := ⟨_, rfl⟩
    rw [← hW5] at HS5 ⊢
    clear hW5 c0 c1 c2 c3 c4 f0 f1 f2 f3 f4
    go_wp2_with (first
      | (go_at_call 85; with_reducible refine (HNUM.out _ _ W5 (HC8.out _ HS5.out.swap.pinGet) HL8.out 4 3 (by decide) (by decide)).mono ?_; rintro e w6 ⟨rfl, ⟨n1, hw⟩⟩; have hs := HS5.out.drewN n1; rw [← hw] at hs; clear hw; have HS6 := asiD hs; clear hs)
      | (go_at_call 85; with_reducible refine (HNUM.out _ _ w6 (HC8.out _ HS6.out.swap.pinGet) HL8.out 7 3 (by decide) (by decide)).mono ?_; rintro e w7 ⟨rfl, ⟨n2, hw⟩⟩; have hs := HS6.out.drewN n2; rw [← hw] at hs; clear hw; have s0 := hs.rot3; have c1 := (s0.cell 1).trans (show _ = some (Value.int .i64 0) from rfl); have f1 := s0.frozen 1; have s1 := s0.set 1 (.int .i64 (numV b 4 3 + 1)); have c2 := (s1.cell 2).trans (show _ = some (Value.int .i64 0) from rfl); have f2 := s1.frozen 2; have HS7 := asiD (s1.set 2 (.int .i64 (numV b 7 3 + 1))).rot3.rot3; clear hs s0 s1))
    go_end0
    rw [HG.out.1, HG.out.2.1, HG.out.2.2.1, HG.out.2.2.2]
    exact ⟨A', c', zs', rfl, HQ2.out, HS7.out⟩
  · have HF := asiD (hfail hok)
    have HE := asiD ef
    clear hfail ef
    cases ok with
    | false =>
      go_enter Try.func70, Try.ntmps70
      go_wp2_with (first
        | (go_at_call 71; refine HN.out.mono ?_; rintro e w2 ⟨B, cB, A', c', zs', rfl, hc8, hC8, hq2, hs⟩; have HQ2 := asiD hq2; have HF2 := asiD (fail_calls 3 hs); clear hs hq2 hC8 hc8)
        | (go_at_call 37; refine HF2.out.mono ?_; rintro e w3 ⟨rfl, hs⟩; have HS3 := asiD hs; clear hs))
      refine bodyPost_ret (results_none rfl _ _ _) rfl ?_
      rw [HF.out.1, HF.out.2.1, HF.out.2.2.1, HF.out.2.2.2, HE.out.1, HE.out.2.1, HE.out.2.2.1, HE.out.2.2.2.1, HE.out.2.2.2.2]
      exact ⟨A', c', zs', rfl, HQ2.out, HS3.out⟩
    | true =>
      by_cases hl : b.length = 10
      · have y1 : ((b.length : Int) != 10) = false := by simp [hl]
        have y2 : (Go.bits .andNot .i64 (numV b 0 4) 62 != 0) = true := by
          simp only [bne_iff_ne, ne_eq]
          exact fun h => hok ⟨rfl, hl, h⟩
        clear hok hl
        go_enter Try.func70, Try.ntmps70
        go_wp2_with (first
          | (go_at_call 71; refine HN.out.mono ?_; rintro e w2 ⟨B, cB, A', c', zs', rfl, hc8, hC8, hq2, hs⟩; have HQ2 := asiD hq2; have HC8 := asiD hC8; have HL8 := asiD hc8; have HS2 := asiD hs; clear hs hq2 hC8 hc8)
          | (go_at_call 85; refine (HNUM.out _ _ _ (HC8.out _ HS2.out.swap.pinGet) HL8.out 0 4 (by decide) (by decide)).mono ?_; rintro e w3 ⟨rfl, ⟨n1, rfl⟩⟩; have HF2 := asiD (fail_calls 3 (HS2.out.drewN n1)))
          | (go_at_call 37; refine HF2.out.mono ?_; rintro e w3 ⟨rfl, hs⟩; have HS3 := asiD hs; clear hs))
        refine bodyPost_ret (results_none rfl _ _ _) rfl ?_
        rw [HF.out.1, HF.out.2.1, HF.out.2.2.1, HF.out.2.2.2, HE.out.1, HE.out.2.1, HE.out.2.2.1, HE.out.2.2.2.1, HE.out.2.2.2.2]
        exact ⟨A', c', zs', rfl, HQ2.out, HS3.out⟩
      · have y1 : ((b.length : Int) != 10) = true := by simp; omega
        clear hok hl
        go_enter Try.func70, Try.ntmps70
        go_wp2_with (first
          | (go_at_call 71; refine HN.out.mono ?_; rintro e w2 ⟨B, cB, A', c', zs', rfl, hc8, hC8, hq2, hs⟩; have HQ2 := asiD hq2; have HF2 := asiD (fail_calls 3 hs); clear hs hq2 hC8 hc8)
          | (go_at_call 37; refine HF2.out.mono ?_; rintro e w3 ⟨rfl, hs⟩; have HS3 := asiD hs; clear hs))
        refine bodyPost_ret (results_none rfl _ _ _) rfl ?_
        rw [HF.out.1, HF.out.2.1, HF.out.2.2.1, HF.out.2.2.2, HE.out.1, HE.out.2.1, HE.out.2.2.1, HE.out.2.2.2.1, HE.out.2.2.2.2]
        exact ⟨A', c', zs', rfl, HQ2.out, HS3.out⟩
end
theorem inner_calls {b : List Int} (hB : Bytes b) (hlen : b.length ≤ 1000000000) (A : Option Addr) (c n : Nat) (hn : n = b.length) (W : World) (h : (Kd.int .u8).C W A b.length b) (hc : b.length ≤ c) :
    Calls Try.prog 69 #[.slice A n c] W fun e w' => ∃ v : Value, e = .returned (.tuple #[v, .int .i64 (inner b.length b []).2]) ∧ Kd.R k42 42 w' W.heap.size (fun _ => True) v (inner b.length b []).1 ∧ Below W.heap.size W w' := by
  subst hn
  obtain ⟨k, hk⟩ := (chunk_Inner_ev hB hlen).rounds
  refine (chunk_Inner.calls k (fun k => k < W.heap.size) A c b _ _ W (Kd.V_mk hc (Kd.C_F (Kd.heap_int _) h)) hk).mono ?_
  rintro e w1 ⟨v, rfl, hs, hb⟩
  exact ⟨v, rfl, Kd.R_mono (Kd.S_R hs) fun _ _ => trivial, hb⟩
theorem St.qback {w0 w : World} {a b c d e r : Asrt} (h : St w0 w (a * (b * (c * (d * (e * r)))))) : St w0 w (d * (e * (a * (c * r)))) := h.swap.drop.rot3.rot4.swap
theorem St.put11 {w0 w : World} {r : Asrt} {g : Nat} {T : TypeId} {a0 a1 a2 a3 a4 a5 a6 a7 a8 a9 a10 : Value} (h : St w0 w (Asrt.blk g T #[a0, a1, a2, a3, a4, a5, a6, a7, a8, a9, a10] * r)) (v0 v1 v2 v3 v4 v5 v6 v7 v8 v9 v10 : Value) :
    St w0 (((((((((((w.setCell ⟨g, 0, none⟩ v0).setCell ⟨g, 1, none⟩ v1).setCell ⟨g, 2, none⟩ v2).setCell ⟨g, 3, none⟩ v3).setCell ⟨g, 4, none⟩ v4).setCell ⟨g, 5, none⟩ v5).setCell ⟨g, 6, none⟩ v6).setCell ⟨g, 7, none⟩ v7).setCell ⟨g, 8, none⟩ v8).setCell ⟨g, 9, none⟩ v9).setCell ⟨g, 10, none⟩ v10) (Asrt.blk g T #[v0, v1, v2, v3, v4, v5, v6, v7, v8, v9, v10] * r) := by
  have h0 : St w0 (w.setCell ⟨g, 0, none⟩ v0) (Asrt.blk g T #[v0, a1, a2, a3, a4, a5, a6, a7, a8, a9, a10] * r) := h.set 0 v0
  have h1 : St w0 ((w.setCell ⟨g, 0, none⟩ v0).setCell ⟨g, 1, none⟩ v1) (Asrt.blk g T #[v0, v1, a2, a3, a4, a5, a6, a7, a8, a9, a10] * r) := h0.set 1 v1
  have h2 : St w0 (((w.setCell ⟨g, 0, none⟩ v0).setCell ⟨g, 1, none⟩ v1).setCell ⟨g, 2, none⟩ v2) (Asrt.blk g T #[v0, v1, v2, a3, a4, a5, a6, a7, a8, a9, a10] * r) := h1.set 2 v2
  have h3 : St w0 ((((w.setCell ⟨g, 0, none⟩ v0).setCell ⟨g, 1, none⟩ v1).setCell ⟨g, 2, none⟩ v2).setCell ⟨g, 3, none⟩ v3) (Asrt.blk g T #[v0, v1, v2, v3, a4, a5, a6, a7, a8, a9, a10] * r) := h2.set 3 v3
  have h4 : St w0 (((((w.setCell ⟨g, 0, none⟩ v0).setCell ⟨g, 1, none⟩ v1).setCell ⟨g, 2, none⟩ v2).setCell ⟨g, 3, none⟩ v3).setCell ⟨g, 4, none⟩ v4) (Asrt.blk g T #[v0, v1, v2, v3, v4, a5, a6, a7, a8, a9, a10] * r) := h3.set 4 v4
  have h5 : St w0 ((((((w.setCell ⟨g, 0, none⟩ v0).setCell ⟨g, 1, none⟩ v1).setCell ⟨g, 2, none⟩ v2).setCell ⟨g, 3, none⟩ v3).setCell ⟨g, 4, none⟩ v4).setCell ⟨g, 5, none⟩ v5) (Asrt.blk g T #[v0, v1, v2, v3, v4, v5, a6, a7, a8, a9, a10] * r) := h4.set 5 v5
  have h6 : St w0 (((((((w.setCell ⟨g, 0, none⟩ v0).setCell ⟨g, 1, none⟩ v1).setCell ⟨g, 2, none⟩ v2).setCell ⟨g, 3, none⟩ v3).setCell ⟨g, 4, none⟩ v4).setCell ⟨g, 5, none⟩ v5).setCell ⟨g, 6, none⟩ v6) (Asrt.blk g T #[v0, v1, v2, v3, v4, v5, v6, a7, a8, a9, a10] * r) := h5.set 6 v6
  have h7 : St w0 ((((((((w.setCell ⟨g, 0, none⟩ v0).setCell ⟨g, 1, none⟩ v1).setCell ⟨g, 2, none⟩ v2).setCell ⟨g, 3, none⟩ v3).setCell ⟨g, 4, none⟩ v4).setCell ⟨g, 5, none⟩ v5).setCell ⟨g, 6, none⟩ v6).setCell ⟨g, 7, none⟩ v7) (Asrt.blk g T #[v0, v1, v2, v3, v4, v5, v6, v7, a8, a9, a10] * r) := h6.set 7 v7
  have h8 : St w0 (((((((((w.setCell ⟨g, 0, none⟩ v0).setCell ⟨g, 1, none⟩ v1).setCell ⟨g, 2, none⟩ v2).setCell ⟨g, 3, none⟩ v3).setCell ⟨g, 4, none⟩ v4).setCell ⟨g, 5, none⟩ v5).setCell ⟨g, 6, none⟩ v6).setCell ⟨g, 7, none⟩ v7).setCell ⟨g, 8, none⟩ v8) (Asrt.blk g T #[v0, v1, v2, v3, v4, v5, v6, v7, v8, a9, a10] * r) := h7.set 8 v8
  have h9 : St w0 ((((((((((w.setCell ⟨g, 0, none⟩ v0).setCell ⟨g, 1, none⟩ v1).setCell ⟨g, 2, none⟩ v2).setCell ⟨g, 3, none⟩ v3).setCell ⟨g, 4, none⟩ v4).setCell ⟨g, 5, none⟩ v5).setCell ⟨g, 6, none⟩ v6).setCell ⟨g, 7, none⟩ v7).setCell ⟨g, 8, none⟩ v8).setCell ⟨g, 9, none⟩ v9) (Asrt.blk g T #[v0, v1, v2, v3, v4, v5, v6, v7, v8, v9, a10] * r) := h8.set 9 v9
  have h10 : St w0 (((((((((((w.setCell ⟨g, 0, none⟩ v0).setCell ⟨g, 1, none⟩ v1).setCell ⟨g, 2, none⟩ v2).setCell ⟨g, 3, none⟩ v3).setCell ⟨g, 4, none⟩ v4).setCell ⟨g, 5, none⟩ v5).setCell ⟨g, 6, none⟩ v6).setCell ⟨g, 7, none⟩ v7).setCell ⟨g, 8, none⟩ v8).setCell ⟨g, 9, none⟩ v9).setCell ⟨g, 10, none⟩ v10) (Asrt.blk g T #[v0, v1, v2, v3, v4, v5, v6, v7, v8, v9, v10] * r) := h9.set 10 v10
  exact h10
theorem St.put15 {w0 w : World} {r : Asrt} {g : Nat} {T : TypeId} {a0 a1 a2 a3 a4 a5 a6 a7 a8 a9 a10 a11 a12 a13 a14 : Value} (h : St w0 w (Asrt.blk g T #[a0, a1, a2, a3, a4, a5, a6, a7, a8, a9, a10, a11, a12, a13, a14] * r)) (v0 v1 v2 v3 v4 v5 v6 v7 v8 v9 v10 v11 v12 v13 v14 : Value) :
    St w0 (((((((((((((((w.setCell ⟨g, 0, none⟩ v0).setCell ⟨g, 1, none⟩ v1).setCell ⟨g, 2, none⟩ v2).setCell ⟨g, 3, none⟩ v3).setCell ⟨g, 4, none⟩ v4).setCell ⟨g, 5, none⟩ v5).setCell ⟨g, 6, none⟩ v6).setCell ⟨g, 7, none⟩ v7).setCell ⟨g, 8, none⟩ v8).setCell ⟨g, 9, none⟩ v9).setCell ⟨g, 10, none⟩ v10).setCell ⟨g, 11, none⟩ v11).setCell ⟨g, 12, none⟩ v12).setCell ⟨g, 13, none⟩ v13).setCell ⟨g, 14, none⟩ v14) (Asrt.blk g T #[v0, v1, v2, v3, v4, v5, v6, v7, v8, v9, v10, v11, v12, v13, v14] * r) := by
  have h0 : St w0 (w.setCell ⟨g, 0, none⟩ v0) (Asrt.blk g T #[v0, a1, a2, a3, a4, a5, a6, a7, a8, a9, a10, a11, a12, a13, a14] * r) := h.set 0 v0
  have h1 : St w0 ((w.setCell ⟨g, 0, none⟩ v0).setCell ⟨g, 1, none⟩ v1) (Asrt.blk g T #[v0, v1, a2, a3, a4, a5, a6, a7, a8, a9, a10, a11, a12, a13, a14] * r) := h0.set 1 v1
  have h2 : St w0 (((w.setCell ⟨g, 0, none⟩ v0).setCell ⟨g, 1, none⟩ v1).setCell ⟨g, 2, none⟩ v2) (Asrt.blk g T #[v0, v1, v2, a3, a4, a5, a6, a7, a8, a9, a10, a11, a12, a13, a14] * r) := h1.set 2 v2
  have h3 : St w0 ((((w.setCell ⟨g, 0, none⟩ v0).setCell ⟨g, 1, none⟩ v1).setCell ⟨g, 2, none⟩ v2).setCell ⟨g, 3, none⟩ v3) (Asrt.blk g T #[v0, v1, v2, v3, a4, a5, a6, a7, a8, a9, a10, a11, a12, a13, a14] * r) := h2.set 3 v3
  have h4 : St w0 (((((w.setCell ⟨g, 0, none⟩ v0).setCell ⟨g, 1, none⟩ v1).setCell ⟨g, 2, none⟩ v2).setCell ⟨g, 3, none⟩ v3).setCell ⟨g, 4, none⟩ v4) (Asrt.blk g T #[v0, v1, v2, v3, v4, a5, a6, a7, a8, a9, a10, a11, a12, a13, a14] * r) := h3.set 4 v4
  have h5 : St w0 ((((((w.setCell ⟨g, 0, none⟩ v0).setCell ⟨g, 1, none⟩ v1).setCell ⟨g, 2, none⟩ v2).setCell ⟨g, 3, none⟩ v3).setCell ⟨g, 4, none⟩ v4).setCell ⟨g, 5, none⟩ v5) (Asrt.blk g T #[v0, v1, v2, v3, v4, v5, a6, a7, a8, a9, a10, a11, a12, a13, a14] * r) := h4.set 5 v5
  have h6 : St w0 (((((((w.setCell ⟨g, 0, none⟩ v0).setCell ⟨g, 1, none⟩ v1).setCell ⟨g, 2, none⟩ v2).setCell ⟨g, 3, none⟩ v3).setCell ⟨g, 4, none⟩ v4).setCell ⟨g, 5, none⟩ v5).setCell ⟨g, 6, none⟩ v6) (Asrt.blk g T #[v0, v1, v2, v3, v4, v5, v6, a7, a8, a9, a10, a11, a12, a13, a14] * r) := h5.set 6 v6
  have h7 : St w0 ((((((((w.setCell ⟨g, 0, none⟩ v0).setCell ⟨g, 1, none⟩ v1).setCell ⟨g, 2, none⟩ v2).setCell ⟨g, 3, none⟩ v3).setCell ⟨g, 4, none⟩ v4).setCell ⟨g, 5, none⟩ v5).setCell ⟨g, 6, none⟩ v6).setCell ⟨g, 7, none⟩ v7) (Asrt.blk g T #[v0, v1, v2, v3, v4, v5, v6, v7, a8, a9, a10, a11, a12, a13, a14] * r) := h6.set 7 v7
  have h8 : St w0 (((((((((w.setCell ⟨g, 0, none⟩ v0).setCell ⟨g, 1, none⟩ v1).setCell ⟨g, 2, none⟩ v2).setCell ⟨g, 3, none⟩ v3).setCell ⟨g, 4, none⟩ v4).setCell ⟨g, 5, none⟩ v5).setCell ⟨g, 6, none⟩ v6).setCell ⟨g, 7, none⟩ v7).setCell ⟨g, 8, none⟩ v8) (Asrt.blk g T #[v0, v1, v2, v3, v4, v5, v6, v7, v8, a9, a10, a11, a12, a13, a14] * r) := h7.set 8 v8
  have h9 : St w0 ((((((((((w.setCell ⟨g, 0, none⟩ v0).setCell ⟨g, 1, none⟩ v1).setCell ⟨g, 2, none⟩ v2).setCell ⟨g, 3, none⟩ v3).setCell ⟨g, 4, none⟩ v4).setCell ⟨g, 5, none⟩ v5).setCell ⟨g, 6, none⟩ v6).setCell ⟨g, 7, none⟩ v7).setCell ⟨g, 8, none⟩ v8).setCell ⟨g, 9, none⟩ v9) (Asrt.blk g T #[v0, v1, v2, v3, v4, v5, v6, v7, v8, v9, a10, a11, a12, a13, a14] * r) := h8.set 9 v9
  have h10 : St w0 (((((((((((w.setCell ⟨g, 0, none⟩ v0).setCell ⟨g, 1, none⟩ v1).setCell ⟨g, 2, none⟩ v2).setCell ⟨g, 3, none⟩ v3).setCell ⟨g, 4, none⟩ v4).setCell ⟨g, 5, none⟩ v5).setCell ⟨g, 6, none⟩ v6).setCell ⟨g, 7, none⟩ v7).setCell ⟨g, 8, none⟩ v8).setCell ⟨g, 9, none⟩ v9).setCell ⟨g, 10, none⟩ v10) (Asrt.blk g T #[v0, v1, v2, v3, v4, v5, v6, v7, v8, v9, v10, a11, a12, a13, a14] * r) := h9.set 10 v10
  have h11 : St w0 ((((((((((((w.setCell ⟨g, 0, none⟩ v0).setCell ⟨g, 1, none⟩ v1).setCell ⟨g, 2, none⟩ v2).setCell ⟨g, 3, none⟩ v3).setCell ⟨g, 4, none⟩ v4).setCell ⟨g, 5, none⟩ v5).setCell ⟨g, 6, none⟩ v6).setCell ⟨g, 7, none⟩ v7).setCell ⟨g, 8, none⟩ v8).setCell ⟨g, 9, none⟩ v9).setCell ⟨g, 10, none⟩ v10).setCell ⟨g, 11, none⟩ v11) (Asrt.blk g T #[v0, v1, v2, v3, v4, v5, v6, v7, v8, v9, v10, v11, a12, a13, a14] * r) := h10.set 11 v11
  have h12 : St w0 (((((((((((((w.setCell ⟨g, 0, none⟩ v0).setCell ⟨g, 1, none⟩ v1).setCell ⟨g, 2, none⟩ v2).setCell ⟨g, 3, none⟩ v3).setCell ⟨g, 4, none⟩ v4).setCell ⟨g, 5, none⟩ v5).setCell ⟨g, 6, none⟩ v6).setCell ⟨g, 7, none⟩ v7).setCell ⟨g, 8, none⟩ v8).setCell ⟨g, 9, none⟩ v9).setCell ⟨g, 10, none⟩ v10).setCell ⟨g, 11, none⟩ v11).setCell ⟨g, 12, none⟩ v12) (Asrt.blk g T #[v0, v1, v2, v3, v4, v5, v6, v7, v8, v9, v10, v11, v12, a13, a14] * r) := h11.set 12 v12
  have h13 : St w0 ((((((((((((((w.setCell ⟨g, 0, none⟩ v0).setCell ⟨g, 1, none⟩ v1).setCell ⟨g, 2, none⟩ v2).setCell ⟨g, 3, none⟩ v3).setCell ⟨g, 4, none⟩ v4).setCell ⟨g, 5, none⟩ v5).setCell ⟨g, 6, none⟩ v6).setCell ⟨g, 7, none⟩ v7).setCell ⟨g, 8, none⟩ v8).setCell ⟨g, 9, none⟩ v9).setCell ⟨g, 10, none⟩ v10).setCell ⟨g, 11, none⟩ v11).setCell ⟨g, 12, none⟩ v12).setCell ⟨g, 13, none⟩ v13) (Asrt.blk g T #[v0, v1, v2, v3, v4, v5, v6, v7, v8, v9, v10, v11, v12, v13, a14] * r) := h12.set 13 v13
  have h14 : St w0 (((((((((((((((w.setCell ⟨g, 0, none⟩ v0).setCell ⟨g, 1, none⟩ v1).setCell ⟨g, 2, none⟩ v2).setCell ⟨g, 3, none⟩ v3).setCell ⟨g, 4, none⟩ v4).setCell ⟨g, 5, none⟩ v5).setCell ⟨g, 6, none⟩ v6).setCell ⟨g, 7, none⟩ v7).setCell ⟨g, 8, none⟩ v8).setCell ⟨g, 9, none⟩ v9).setCell ⟨g, 10, none⟩ v10).setCell ⟨g, 11, none⟩ v11).setCell ⟨g, 12, none⟩ v12).setCell ⟨g, 13, none⟩ v13).setCell ⟨g, 14, none⟩ v14) (Asrt.blk g T #[v0, v1, v2, v3, v4, v5, v6, v7, v8, v9, v10, v11, v12, v13, v14] * r) := h13.set 14 v14
  exact h14
theorem poolQ.imp {Q Q' : World → Prop} {A : Option Addr} {c : Nat} {l : List Ch} {zs : List Value} (h : poolQ Q A c l zs) (hi : ∀ W, Q' W → Q W) : poolQ Q' A c l zs := ⟨h.le, h.mx, fun W hW => h.q W (hi W hW)⟩
section
variable {w W : World} {g : Nat} {l l1 : List Ch} {most e e1 : Int} {b : List Int} {ok : Bool} {A : Option Addr} {c : Nat} {Q : World → Prop} {r : Asrt}
set_option maxHeartbeats 8000000 in
set_option maxRecDepth 100000 in
theorem part_calls {zs : List Value} (hq : poolQ Q A c l zs) (hn : nextV l e nANMF true = (b, ok, l1, e1)) (hB : Bytes b) (hlen : b.length ≤ 1000000000) (hS : St w W (parA w g l most e A c Q r)) :
    Calls Try.prog 86 #[.pointer (some ⟨g, 0, none⟩)] W fun x w' => ∃ (cs : List Value) (Q' : World → Prop) (A' : Option Addr) (c' : Nat) (zs' : List Value), x = .returned (.agg cs.toArray) ∧
      (∀ W, Q' W → Q W) ∧ (∀ W, Q' W → k44.K W (partF b) cs) ∧ poolQ Q' A' c' l1 zs' ∧ St w w' (parA w g l1 most (partE b e1) A' c' Q' r) := by
  have HZ : Aside0 (∀ W, k44.K W z44 [.int .i64 0, .int .i64 0, .int .i64 0, .int .i64 0, .int .i64 0, .bool false, .bool false, .int .i64 0, .slice none 0 0, .slice none 0 0, .slice none 0 0]) :=
    ⟨fun W => k44_mk W z44 (A8 := none) (c8 := 0) (Nat.le_refl 0) (Kd.C_nil _ _) (A9 := none) (c9 := 0) (Nat.le_refl 0) (Kd.C_nil _ _) (A10 := none) (c10 := 0) (Nat.le_refl 0) (Kd.C_nil _ _)⟩
  have hS0 := (hS.alloc #[.int .i64 0, .int .i64 0, .int .i64 0, .int .i64 0, .int .i64 0, .bool false, .bool false, .int .i64 0, .slice none 0 0, .slice none 0 0, .slice none 0 0] 44).unrot3
  obtain ⟨gr, hgr⟩ : ∃ gr, gr = W.heap.size := ⟨_, rfl⟩
  obtain ⟨W0, hW0⟩ : ∃ W0, W0 = W.alloc (.cells #[.int .i64 0, .int .i64 0, .int .i64 0, .int .i64 0, .int .i64 0, .bool false, .bool false, .int .i64 0, .slice none 0 0, .slice none 0 0, .slice none 0 0] 44) := ⟨_, rfl⟩
  rw [← hW0, ← hgr] at hS0
  have HGR := asiD hgr
  have HW0 := asiD hW0
  have hN := next_calls nANMF true hq hS0
  rw [hn] at hN
  have HN := asiD hN
  clear hN hS hS0 hq hn hgr hW0
  by_cases h16 : 16 ≤ b.length
  case neg =>
    have HF : Aside0 (partF b = z44 ∧ partE b e1 = failE e1 3) := ⟨if_neg fun h => h16 h.1, if_neg fun h => h16 h.1⟩
    have y1 : decide ((b.length : Int) < 16) = true := decide_eq_true (by omega)
    have y2 : decide (b.length < 16) = true := decide_eq_true (by omega)
    clear h16
    go_enter Try.func86, Try.ntmps86
    go_upto_region 1 with (fail)
    rw [← HW0.out, ← HGR.out]
    go_upto_region 4 with (first
      | (go_at_call 71; refine HN.out.mono ?_; rintro e w2 ⟨B, cB, A', c', zs', rfl, hc8, hC8, hq2, hs⟩; have HQ2 := asiD hq2; have HF2 := asiD (fail_calls 3 hs); clear hs hq2 hC8 hc8)
      | (go_at_call 37; refine HF2.out.mono ?_; rintro e w3 ⟨rfl, hs⟩; have HS3 := asiD hs; clear hs))
    have h3 := (show St w w3 (Asrt.blk g 59 _ * (pin w Q * (Asrt.blk gr 44 _ * r))) from HS3.out).rot3
    have z := fun i => h3.cell i
    have zf := fun i => h3.frozen i
    have HS4 := asiD (h3.put11 (.int .i64 0) (.int .i64 0) (.int .i64 0) (.int .i64 0) (.int .i64 0) (.bool false) (.bool false) (.int .i64 0) (.slice none 0 0) (.slice none 0 0) (.slice none 0 0))
    clear h3 HS3
    go_wp2_with fail
    refine bodyPost_ret (results_cell_row rfl _ _ gr 44 #[.int .i64 0, .int .i64 0, .int .i64 0, .int .i64 0, .int .i64 0, .bool false, .bool false, .int .i64 0, .slice none 0 0, .slice none 0 0, .slice none 0 0] (0, 0) _ rfl HS4.out.blk Try.underlying44 rfl (by kernel_rfl)) rfl ?_
    rw [HF.out.1, HF.out.2]
    exact ⟨[.int .i64 0, .int .i64 0, .int .i64 0, .int .i64 0, .int .i64 0, .bool false, .bool false, .int .i64 0, .slice none 0 0, .slice none 0 0, .slice none 0 0], Q, A', c', zs', rfl, fun _ h => h, fun W _ => HZ.out W, HQ2.out, HS4.out.drop⟩
  have y1 : decide ((b.length : Int) < 16) = false := decide_eq_false (by omega)
  have y2 : decide (b.length < 16) = false := decide_eq_false (by omega)
  have x1 : ((15 : Int) < (b.length : Int)) = True := eq_true (by omega)
  have x2 : (15 < b.length) = True := eq_true (by omega)
  have H16 := asiD h16
  have HC15 := asiD fun (B : Option Addr) (W : World) (h : (Kd.int .u8).C W B b.length b) => (by
    obtain ⟨ad, rfl, hc⟩ := C_int_at h (by omega)
    refine ⟨ad, rfl, ?_⟩
    have e : ad.add 15 = ⟨ad.block, ad.off + 15, none⟩ := by rw [show 15 = 0 + 15 from rfl, add_field _ _ 15 (by omega), Addr.add_zero']
    rw [← e]
    exact hc 15 (by omega) : ∃ ad, B = some ad ∧ W.cell? ⟨ad.block, ad.off + 15, none⟩ = some (.int .u8 (rd b 15)))
  by_cases h3 : rd b 15 ≤ 3
  case neg =>
    have HF : Aside0 (partF b = z44 ∧ partE b e1 = failE e1 3) := ⟨if_neg fun h => h3 h.2.1, if_neg fun h => h3 h.2.1⟩
    have y3 : decide (3 < rd b 15) = true := decide_eq_true (by omega)
    clear h3 h16
    go_enter Try.func86, Try.ntmps86
    go_upto_region 1 with (fail)
    rw [← HW0.out, ← HGR.out]
    go_upto_region 4 with (first
      | (go_at_call 71; refine HN.out.mono ?_; rintro e w2 ⟨B, cB, A', c', zs', rfl, hc8, hC8, hq2, hs⟩; obtain ⟨ad, rfl, c15⟩ := HC15.out _ _ (hC8 _ hs.swap.pinGet); have HQ2 := asiD hq2; have HF2 := asiD (fail_calls 3 hs); clear hs hq2 hC8 hc8)
      | (go_at_call 37; refine HF2.out.mono ?_; rintro e w3 ⟨rfl, hs⟩; have HS3 := asiD hs; clear hs))
    clear c15
    have h3 := (show St w w3 (Asrt.blk g 59 _ * (pin w Q * (Asrt.blk gr 44 _ * r))) from HS3.out).rot3
    have z := fun i => h3.cell i
    have zf := fun i => h3.frozen i
    have HS4 := asiD (h3.put11 (.int .i64 0) (.int .i64 0) (.int .i64 0) (.int .i64 0) (.int .i64 0) (.bool false) (.bool false) (.int .i64 0) (.slice none 0 0) (.slice none 0 0) (.slice none 0 0))
    clear h3 HS3
    go_wp2_with fail
    refine bodyPost_ret (results_cell_row rfl _ _ gr 44 #[.int .i64 0, .int .i64 0, .int .i64 0, .int .i64 0, .int .i64 0, .bool false, .bool false, .int .i64 0, .slice none 0 0, .slice none 0 0, .slice none 0 0] (0, 0) _ rfl HS4.out.blk Try.underlying44 rfl (by kernel_rfl)) rfl ?_
    rw [HF.out.1, HF.out.2]
    exact ⟨[.int .i64 0, .int .i64 0, .int .i64 0, .int .i64 0, .int .i64 0, .bool false, .bool false, .int .i64 0, .slice none 0 0, .slice none 0 0, .slice none 0 0], Q, A', c', zs', rfl, fun _ h => h, fun W _ => HZ.out W, HQ2.out, HS4.out.drop⟩
  have y3 : decide (3 < rd b 15) = false := decide_eq_false (by omega)
  have HNUM := asiD fun (B : Option Addr) (cB : Nat) (W : World) (h : (Kd.int .u8).C W B b.length b) (hc : b.length ≤ cB) (a n : Int) (ha : 0 ≤ a) (hn : n ≤ 4) => num_calls B cB b W h hc hB (by omega) a n ha hn
  have HI := asiD fun (A : Option Addr) (c n : Nat) (hn : n = (b.drop 16).length) (W : World) (h : (Kd.int .u8).C W A (b.drop 16).length (b.drop 16)) (hc : (b.drop 16).length ≤ c) => inner_calls (hB.drop 16) (by rw [List.length_drop]; omega) A c n hn W h hc
  have HP : Aside0 (partOK b ↔ (inner (b.drop 16).length (b.drop 16) []).2 = 0) := ⟨⟨fun h => h.2.2, fun h => ⟨h16, h3, h⟩⟩⟩
  have HFF : Aside0 ((inner (b.drop 16).length (b.drop 16) []).2 = 0 → partF b = frameQ b (alphaP (inner (b.drop 16).length (b.drop 16) []).1 0) (dataP (inner (b.drop 16).length (b.drop 16) []).1 0) ∧ partE b e1 = failE e1 (restE (dataP (inner (b.drop 16).length (b.drop 16) []).1 0).2.2.1 (dataP (inner (b.drop 16).length (b.drop 16) []).1 0).2.2.2)) := ⟨fun h => ⟨if_pos (HP.out.2 h), if_pos (HP.out.2 h)⟩⟩
  have HFN : Aside0 ((inner (b.drop 16).length (b.drop 16) []).2 ≠ 0 → partF b = z44 ∧ partE b e1 = failE e1 3) := ⟨fun h => ⟨if_neg fun x => h (HP.out.1 x), if_neg fun x => h (HP.out.1 x)⟩⟩
  obtain ⟨⟨li, ei⟩, hin⟩ : ∃ p, inner (b.drop 16).length (b.drop 16) [] = p := ⟨_, rfl⟩
  rw [hin] at HI HFF HFN
  dsimp only at HI HFF HFN
  have b0 := numV_bd hB 0 3 (by decide)
  have b1 := numV_bd hB 3 3 (by decide)
  have b2 := numV_bd hB 6 3 (by decide)
  have b3 := numV_bd hB 9 3 (by decide)
  have k0 : IntKind.i64.wrap (2 * numV b 0 3) = 2 * numV b 0 3 := wi64 (by omega) (by omega)
  have k1 : IntKind.i64.wrap (2 * numV b 3 3) = 2 * numV b 3 3 := wi64 (by omega) (by omega)
  have k2 : IntKind.i64.wrap (numV b 6 3 + 1) = numV b 6 3 + 1 := wi64 (by omega) (by omega)
  have k3 : IntKind.i64.wrap (numV b 9 3 + 1) = numV b 9 3 + 1 := wi64 (by omega) (by omega)
  clear h3 h16 HP hin b0 b1 b2 b3
  go_enter Try.func86, Try.ntmps86
  go_upto_region 1 with (fail)
  rw [← HW0.out, ← HGR.out]
  go_upto_region 5 with (go_at_call 71; refine HN.out.mono ?_; rintro e w2 ⟨B, cB, A', c', zs', rfl, hc8, hC8, hq2, hs⟩; obtain ⟨ad, rfl, c15⟩ := HC15.out _ _ (hC8 _ hs.swap.pinGet); have HQ2 := asiD hq2; have HC8 := asiD hC8; have HL8 := asiD hc8; have HS2 := asiD hs; clear hs hq2 hC8 hc8)
  clear c15
  go_upto_region 6 with (go_at_call 85; with_reducible refine (HNUM.out _ _ _ (HC8.out _ HS2.out.swap.pinGet) HL8.out _ _ (by decide) (by decide)).mono ?_; rintro e w3 ⟨rfl, ⟨n1, hw⟩⟩; have hs := HS2.out.drewN n1; rw [← hw] at hs; clear HS2 hw; have HS2 := asiD hs; clear hs)
  have hal := HS2.out.alloc #[.int .i64 (2 * numV b 0 3), .int .i64 (2 * numV b 3 3), .int .i64 (numV b 6 3 + 1), .int .i64 (numV b 9 3 + 1), .int .i64 (numV b 12 3), .bool false, .bool false, .int .i64 0, .slice none 0 0, .slice none 0 0, .slice none 0 0] 44
  obtain ⟨gf, hgf⟩ : ∃ gf, gf = w3.heap.size := ⟨_, rfl⟩
  obtain ⟨W6, hW6⟩ : ∃ W6, W6 = w3.alloc (.cells #[.int .i64 (2 * numV b 0 3), .int .i64 (2 * numV b 3 3), .int .i64 (numV b 6 3 + 1), .int .i64 (numV b 9 3 + 1), .int .i64 (numV b 12 3), .bool false, .bool false, .int .i64 0, .slice none 0 0, .slice none 0 0, .slice none 0 0] 44) := ⟨_, rfl⟩
  rw [← hW6, ← hgf] at hal ⊢
  clear hW6 hgf HS2
  have hcc := fun (W : World) (h : Q W) => (by obtain ⟨ad2, h2, h3⟩ := HC15.out _ _ (HC8.out W h); obtain rfl : ad = ad2 := Option.some.inj h2; exact h3 : W.cell? ⟨ad.block, ad.off + 15, none⟩ = some (.int .u8 (rd b 15)))
  have c15 := hcc _ hal.rot3.pinGet
  have s5 := hal.set 5 (.bool (bit8 (rd b 15) 2))
  have s6 := hal.set 6 (.bool (bit8 (rd b 15) 1))
  unfold bit8 at s5 s6
  have c15a := hcc _ s5.rot3.pinGet
  have c15b := hcc _ s6.rot3.pinGet
  have q5 := (hal.cell 5).trans (show _ = some (Value.bool false) from rfl)
  have q6 := (hal.cell 6).trans (show _ = some (Value.bool false) from rfl)
  have f5 := hal.frozen 5
  have f6 := hal.frozen 6
  have q6a := (s5.cell 6).trans (show _ = some (Value.bool false) from rfl)
  have q5a := (s6.cell 5).trans (show _ = some (Value.bool false) from rfl)
  have f6a := s5.frozen 6
  have f5a := s6.frozen 5
  have HS6 := asiD (hal.set 5 (.bool (bit8 (rd b 15) 2)) |>.set 6 (.bool (bit8 (rd b 15) 1)))
  clear s5 s6 hcc hal
  go_region
  obtain ⟨W7, hW7⟩ : ∃ W7, W7 = ((W6.setCell ⟨gf, 5, none⟩ (.bool (bit8 (rd b 15) 2))).setCell ⟨gf, 6, none⟩ (.bool (bit8 (rd b 15) 1))).drew := ⟨_, rfl⟩
  have HS7 := asiD HS6.out.drew
  rw [← hW7] at HS7
  unfold bit8 at hW7
  rw [← hW7]
  clear hW7 HS6 c15 c15a c15b q5 q6 f5 f6 q6a q5a f6a f5a
  have HX : Aside0 (∀ W, Q W → (Kd.int .u8).C W (if cB = 16 then some ad else some ⟨ad.block, ad.off + 16, none⟩) (b.drop 16).length (b.drop 16)) := ⟨fun W hW => by
    have h := Kd.C_drop (m := 16) (c := cB) (HC8.out W hW) H16.out HL8.out
    have e : ad.add 16 = ⟨ad.block, ad.off + 16, none⟩ := by rw [show 16 = 0 + 16 from rfl, add_field _ _ 16 (by omega), Addr.add_zero']
    rw [show 16 * (Kd.int IntKind.u8).sz = 16 from rfl, Option.map_some, e] at h
    exact h⟩
  have u1 : (16 ≤ b.length) = True := eq_true H16.out
  have u2 : ((16 : Int) ≤ (b.length : Int)) = True := eq_true (by have := H16.out; omega)
  have u3 : (b.length ≤ cB) = True := eq_true HL8.out
  have u4 : ((b.length : Int) ≤ (cB : Int)) = True := eq_true (by have := HL8.out; omega)
  go_upto_region 7 with (fail)
  have HLD : Aside0 (b.length - 16 = (b.drop 16).length ∧ (b.drop 16).length ≤ cB - 16) := ⟨by rw [List.length_drop], by have := HL8.out; rw [List.length_drop]; omega⟩
  have hX : ∃ X, (X = if cB = 16 then some ad else some ⟨ad.block, ad.off + 16, none⟩) := ⟨_, rfl⟩
  obtain ⟨X, hX⟩ := hX
  rw [← hX] at HX
  have hX' : (cB = 16 ∧ X = some ad) ∨ (cB ≠ 16 ∧ X = some ⟨ad.block, ad.off + 16, none⟩) := by
    by_cases h : cB = 16
    · exact .inl ⟨h, by rw [hX, if_pos h]⟩
    · exact .inr ⟨h, by rw [hX, if_neg h]⟩
  clear hX x1 x2
  rcases hX' with ⟨hc1, rfl⟩ | ⟨hc1, rfl⟩
  all_goals by_cases he : ei = 0
  all_goals first
    | (have HF := asiD (HFN.out he)
       have y5 : (ei != 0) = true := by simp [he]
       clear he HFN HFF
       go_upto_region 10 with (first
         | (go_at_call 69; refine (HI.out _ _ _ HLD.out.1 _ (HX.out _ HS7.out.rot3.pinGet) (by have := HLD.out.2; omega)).mono ?_; rintro e w8 ⟨v, rfl, hr, hb⟩; have HMX := asiD (show li.length ≤ 9223372036854775807 from (by obtain ⟨_, _, _, _, h⟩ := Kd.R_reads hr; exact h.2.1)); obtain ⟨B3, c3, inn, rfl, hc3, hs⟩ := HS7.out.pinRX hb hr; have HS8 := asiD hs; have HC3 := asiD hc3; clear hr hb hs hc3)
         | (go_at_call 37; refine (fail_calls 3 HS8.out.drop.drop).mono ?_; rintro e w3 ⟨rfl, hs⟩; have HS3 := asiD hs; clear hs))
       have h3 := (show St w w3 (Asrt.blk g 59 _ * (pin w Q * (Asrt.blk gr 44 _ * r))) from HS3.out).rot3
       have z := fun i => h3.cell i
       have zf := fun i => h3.frozen i
       have HS4 := asiD (h3.put11 (.int .i64 0) (.int .i64 0) (.int .i64 0) (.int .i64 0) (.int .i64 0) (.bool false) (.bool false) (.int .i64 0) (.slice none 0 0) (.slice none 0 0) (.slice none 0 0))
       clear h3 HS3
       go_wp2_with fail
       refine bodyPost_ret (results_cell_row rfl _ _ gr 44 #[.int .i64 0, .int .i64 0, .int .i64 0, .int .i64 0, .int .i64 0, .bool false, .bool false, .int .i64 0, .slice none 0 0, .slice none 0 0, .slice none 0 0] (0, 0) _ rfl HS4.out.blk Try.underlying44 rfl (by kernel_rfl)) rfl ?_
       rw [HF.out.1, HF.out.2]
       exact ⟨[.int .i64 0, .int .i64 0, .int .i64 0, .int .i64 0, .int .i64 0, .bool false, .bool false, .int .i64 0, .slice none 0 0, .slice none 0 0, .slice none 0 0], Q, A', c', zs', rfl, fun _ h => h, fun W _ => HZ.out W, HQ2.out, HS4.out.drop⟩
       done)
    | skip
  all_goals have HF := asiD (HFF.out he)
  all_goals have y5 : (ei != 0) = false := by simp [he]
  all_goals clear he HFN HFF
  all_goals go_upto_region 12 with (go_at_call 69; refine (HI.out _ _ _ HLD.out.1 _ (HX.out _ HS7.out.rot3.pinGet) (by have := HLD.out.2; omega)).mono ?_; rintro e w8 ⟨v, rfl, hr, hb⟩; have HMX := asiD (show li.length ≤ 9223372036854775807 from (by obtain ⟨_, _, _, _, h⟩ := Kd.R_reads hr; exact h.2.1)); obtain ⟨B3, c3, inn, rfl, hc3, hs⟩ := HS7.out.pinRX hb hr; have HS8 := asiD hs; have HC3 := asiD hc3; clear hr hb hs hc3)
  all_goals have HS9 := asiD ((show St w w8 _ from HS8.out).alloc #[.slice B3 li.length c3, .int .i64 0, .int .i64 0] 59)
  all_goals obtain ⟨W9, hW9⟩ : ∃ W9, W9 = w8.alloc (.cells #[.slice B3 li.length c3, .int .i64 0, .int .i64 0] 59) := ⟨_, rfl⟩
  all_goals obtain ⟨gq, hgq⟩ : ∃ gq, gq = w8.heap.size := ⟨_, rfl⟩
  all_goals rw [← hW9, ← hgq] at HS9 ⊢
  all_goals clear hW9 hgq HS8 HS7 k0 k1 k2 k3 u1 u2 u3 u4 hc1
  all_goals have HQ3 : Aside0 (poolQ _ B3 c3 li inn) := ⟨HC3.out, HMX.out, fun W (hW : ReadsCells W _ B3 li.length inn ∧ KL k42 W li inn) => hW⟩
  all_goals have HP := asiD (pictureP_calls (.int .i64 (2 * numV b 0 3)) (.int .i64 (2 * numV b 3 3)) (.int .i64 (numV b 6 3 + 1)) (.int .i64 (numV b 9 3 + 1)) (.int .i64 (numV b 12 3)) (.bool (bit8 (rd b 15) 2)) (.bool (bit8 (rd b 15) 1)) (.int .i64 0) (.slice none 0 0) (.slice none 0 0) HQ3.out HS9.out)
  all_goals clear HS9
  all_goals go_upto_region 14 with (first
    | (go_at_call 74; refine HP.out.mono ?_; rintro e w10 ⟨B8, c8, B9, c9, A3, c3', zs3, rfl, hl8, hC8, hl9, hC9, hq3, hs⟩; have HR := asiD (rest_calls hq3 hs); have HA3 := asiD hC8; have HA4 := asiD hl8; have HA5 := asiD hC9; have HA6 := asiD hl9; have HA7 := asiD hq3; clear HP hs hq3 hl8 hC8 hl9 hC9)
    | (go_at_call 73; refine HR.out.mono ?_; rintro e w11 ⟨rfl, hs⟩; have h11 := (show St w w11 (Asrt.blk gq 59 _ * (pin w _ * (Asrt.blk gf 44 _ * (Asrt.blk g 59 _ * (pin w Q * (Asrt.blk gr 44 _ * r)))))) from hs).rot3; have q10 := (h11.cell 10).trans (show _ = some (Value.slice none 0 0) from rfl); have f10 := h11.frozen 10; have HS11 := asiD (h11.set 10 (.slice A3 (dataP li 0).2.2.1.length c3')); clear HR hs h11))
  all_goals clear q10 f10
  all_goals obtain ⟨W12, hW12⟩ : ∃ W12, W12 = w11.setCell ⟨gf, 10, none⟩ (.slice A3 (dataP li 0).2.2.1.length c3') := ⟨_, rfl⟩
  all_goals rw [← hW12] at HS11 ⊢
  all_goals clear hW12
  all_goals have m2 := (HS11.out.swap.cell 2).trans (show _ = some (Value.int .i64 (restE (dataP li 0).2.2.1 (dataP li 0).2.2.2)) from rfl)
  all_goals have HFC := asiD (fail_calls (restE (dataP li 0).2.2.1 (dataP li 0).2.2.2) HS11.out.qback)
  all_goals go_upto_region 15 with (go_at_call 37; refine HFC.out.mono ?_; rintro e w13 ⟨rfl, hs⟩; have HS13 := asiD (show St w w13 (Asrt.blk g 59 _ * (pin w Q * (Asrt.blk gf 44 #[.int .i64 (2 * numV b 0 3), .int .i64 (2 * numV b 3 3), .int .i64 (numV b 6 3 + 1), .int .i64 (numV b 9 3 + 1), .int .i64 (numV b 12 3), .bool (bit8 (rd b 15) 2), .bool (bit8 (rd b 15) 1), .int .i64 (kindP (alphaP li 0).2.1 (alphaP li 0).2.2), .slice B8 (alphaP li 0).1.length c8, .slice B9 (dataP li 0).1.length c9, .slice A3 (dataP li 0).2.2.1.length c3'] * (pin w _ * (Asrt.blk gr 44 _ * r))))) from hs); clear hs)
  all_goals clear m2 HFC HS11
  all_goals have z1 := fun i => HS13.out.rot3.cell i
  all_goals have z2 := fun i => HS13.out.drop.drop.rot3.cell i
  all_goals have z3 := fun i => HS13.out.drop.drop.rot3.frozen i
  all_goals have HS14 := asiD (HS13.out.rot3.drop.rot4.put11 (.int .i64 (2 * numV b 0 3)) (.int .i64 (2 * numV b 3 3)) (.int .i64 (numV b 6 3 + 1)) (.int .i64 (numV b 9 3 + 1)) (.int .i64 (numV b 12 3)) (.bool (bit8 (rd b 15) 2)) (.bool (bit8 (rd b 15) 1)) (.int .i64 (kindP (alphaP li 0).2.1 (alphaP li 0).2.2)) (.slice B8 (alphaP li 0).1.length c8) (.slice B9 (dataP li 0).1.length c9) (.slice A3 (dataP li 0).2.2.1.length c3'))
  all_goals clear HS13
  all_goals go_wp2_with fail
  all_goals refine bodyPost_ret (results_cell_row rfl _ _ gr 44 #[.int .i64 (2 * numV b 0 3), .int .i64 (2 * numV b 3 3), .int .i64 (numV b 6 3 + 1), .int .i64 (numV b 9 3 + 1), .int .i64 (numV b 12 3), .bool (bit8 (rd b 15) 2), .bool (bit8 (rd b 15) 1), .int .i64 (kindP (alphaP li 0).2.1 (alphaP li 0).2.2), .slice B8 (alphaP li 0).1.length c8, .slice B9 (dataP li 0).1.length c9, .slice A3 (dataP li 0).2.2.1.length c3'] (0, 0) _ rfl HS14.out.blk Try.underlying44 rfl (by kernel_rfl)) rfl ?_
  all_goals rw [HF.out.1, HF.out.2]
  all_goals exact ⟨[.int .i64 (2 * numV b 0 3), .int .i64 (2 * numV b 3 3), .int .i64 (numV b 6 3 + 1), .int .i64 (numV b 9 3 + 1), .int .i64 (numV b 12 3), .bool (bit8 (rd b 15) 2), .bool (bit8 (rd b 15) 1), .int .i64 (kindP (alphaP li 0).2.1 (alphaP li 0).2.2), .slice B8 (alphaP li 0).1.length c8, .slice B9 (dataP li 0).1.length c9, .slice A3 (dataP li 0).2.2.1.length c3'], _, A', c', zs', rfl, fun _ h => h.2, fun W hW => k44_mk W (frameQ b (alphaP li 0) (dataP li 0)) HA4.out (HA3.out W hW.1) HA6.out (HA5.out W hW.1) HA7.out.le (HA7.out.C hW.1), HQ2.out.imp fun _ h => h.2, HS14.out.drop.rot3.swap2.pinAnd.swap⟩
end
theorem wu32 {n : Int} (h0 : 0 ≤ n) (h1 : n ≤ 4294967295) : IntKind.u32.wrap n = n := by simp [IntKind.wrap, IntKind.bits, IntKind.signed]; omega
def lenAt (w : World) (g : Nat) : Nat := match w.cell? ⟨g, 0, none⟩ with
  | some (.slice _ n _) => n
  | _ => 0
theorem okL_tail {x : Ch} {t : List Ch} (h : okL (x :: t)) : okL t := fun y hy => h y (List.mem_cons_of_mem _ hy)
theorem isB_true {l : List Ch} {e : Int} {nm : ByteArray} (h : isB l e nm = true) : ∃ b t, e = 0 ∧ l = ⟨nm, b⟩ :: t := by
  unfold isB headB at h
  rw [Bool.and_eq_true, decide_eq_true_iff] at h
  cases l with
  | nil => simp at h
  | cons x t =>
    have h2 : x.f0 = nm := of_decide_eq_true h.2
    exact ⟨x.f1, t, h.1, by rw [← h2]⟩
theorem next_take {nm : ByteArray} {b : List Int} {t : List Ch} : nextV (⟨nm, b⟩ :: t) 0 nm true = (b, true, t, 0) := by simp [nextV, headB]
theorem parts_go {b : List Int} {t : List Ch} {most : Int} {acc : List Fr} (hm : ¬ most ≤ (acc.length : Int)) : partsL (t.length + 1) (⟨nANMF, b⟩ :: t) 0 most acc = partsL t.length t (partE b 0) most (acc ++ [partF b]) := by
  rw [partsL, if_pos (by simp [isB, headB]), if_neg hm, next_take]
theorem parts_lim {b : List Int} {t : List Ch} {most : Int} {acc : List Fr} (hm : most ≤ (acc.length : Int)) : partsL (t.length + 1) (⟨nANMF, b⟩ :: t) 0 most acc = (acc, ⟨nANMF, b⟩ :: t, 4) := by
  rw [partsL, if_pos (by simp [isB, headB]), if_pos hm]
  rfl
theorem parts_end {l : List Ch} {e most : Int} {acc : List Fr} (h : isB l e nANMF = false) : partsL l.length l e most acc = (acc, l, e) := by
  cases l with
  | nil => rfl
  | cons x t => rw [List.length_cons, partsL, if_neg (by rw [h]; simp)]
section
variable {w W : World} {g gd : Nat} {l l1 : List Ch} {most e e1 : Int} {b : List Int} {ok : Bool} {A : Option Addr} {c : Nat} {Q : World → Prop} {r : Asrt}
set_option maxHeartbeats 8000000 in
set_option maxRecDepth 100000 in
theorem parts_calls (a0 a1 a2 a3 a4 a7 a8 a9 a10 a11 a12 a14 : Value) {zs : List Value} (hq : poolQ Q A c l zs) (hn : nextV l e nANIM true = (b, ok, l1, e1)) (hB : Bytes b) (hlen : b.length ≤ 1000000000) (hl1 : okL l1) (hll : l1.length ≤ 1000000000)
    (hS : St w W (parA w g l most e A c Q (Asrt.blk gd 27 #[a0, a1, a2, a3, a4, .int .u32 0, .int .i64 0, a7, a8, a9, a10, a11, a12, .slice none 0 0, a14] * r))) :
    Calls Try.prog 72 #[.pointer (some ⟨g, 0, none⟩), .pointer (some ⟨gd, 0, none⟩)] W fun x w' => ∃ (Q' : World → Prop) (B : Option Addr) (cB : Nat) (xs : List Value) (A' : Option Addr) (c' : Nat) (zs' : List Value), x = .returned (.tuple #[]) ∧
      (∀ W, Q' W → Q W) ∧ poolQ Q' A' c' (movesV b ok l1 e1 most).2.2.2.1 zs' ∧ (∀ W, Q' W → KL k44 W (movesV b ok l1 e1 most).2.2.1 xs) ∧
      St w w' (parA w g (movesV b ok l1 e1 most).2.2.2.1 most (movesV b ok l1 e1 most).2.2.2.2 A' c' Q' (Asrt.blk gd 27 #[a0, a1, a2, a3, a4, .int .u32 (movesV b ok l1 e1 most).1, .int .i64 (movesV b ok l1 e1 most).2.1, a7, a8, a9, a10, a11, a12, .slice B (movesV b ok l1 e1 most).2.2.1.length cB, a14] * (Asrt.row 44 11 (.slice B (movesV b ok l1 e1 most).2.2.1.length cB) (movesV b ok l1 e1 most).2.2.1.length xs * r))) := by
  have hN := next_calls nANIM true hq hS
  rw [hn] at hN
  have HN := asiD hN
  clear hN hS hq hn
  by_cases hok : aniOK b ok
  case neg =>
    have HF : Aside0 (movesV b ok l1 e1 most = (0, 0, [], l1, failE e1 3)) := ⟨if_neg hok⟩
    have hc : ok = false ∨ (ok = true ∧ ((b.length : Int) != 6) = true) := by
      cases ok with
      | false => exact .inl rfl
      | true => exact .inr ⟨rfl, by simp; intro h; exact hok ⟨rfl, by omega⟩⟩
    clear hok
    rcases hc with rfl | ⟨rfl, y1⟩
    all_goals go_enter Try.func72, Try.ntmps72
    all_goals go_wp2_with (first
      | (go_at_call 71; refine HN.out.mono ?_; rintro e w2 ⟨B, cB, A', c', zs', rfl, hc8, hC8, hq2, hs⟩; have HQ2 := asiD hq2; have HF2 := asiD (fail_calls 3 hs); clear hs hq2 hC8 hc8)
      | (go_at_call 37; refine HF2.out.mono ?_; rintro e w3 ⟨rfl, hs⟩; have HS3 := asiD hs; clear hs))
    all_goals refine bodyPost_ret (results_none rfl _ _ _) rfl ?_
    all_goals rw [HF.out]
    all_goals exact ⟨Q, none, 0, [], A', c', zs', rfl, fun _ h => h, HQ2.out, fun _ _ => rfl, (HS3.out.rot3.rowNil 44 11).swap.rot4.rot4⟩
  have HF : Aside0 (movesV b ok l1 e1 most = (numV b 0 4, numV b 4 2, partsL l1.length l1 e1 most [])) := ⟨if_pos hok⟩
  obtain ⟨rfl, h6⟩ := hok
  have y1 : ((b.length : Int) != 6) = false := by simp [h6]
  have HNUM := asiD fun (B : Option Addr) (cB : Nat) (W : World) (h : (Kd.int .u8).C W B b.length b) (hc : b.length ≤ cB) (a n : Int) (ha : 0 ≤ a) (hn : n ≤ 4) => num_calls B cB b W h hc hB (by omega) a n ha hn
  have b0 := numV_bd hB 0 4 (by decide)
  have k0 : IntKind.u32.wrap (numV b 0 4) = numV b 0 4 := wu32 (by omega) (by omega)
  clear b0 h6
  go_enter Try.func72, Try.ntmps72
  go_upto_region 3 with (go_at_call 71; refine HN.out.mono ?_; rintro e w2 ⟨B, cB, A', c', zs', rfl, hc8, hC8, hq2, hs⟩; have HQ2 := asiD hq2; have HC8 := asiD hC8; have HL8 := asiD hc8; have HS2 := asiD hs; clear hs hq2 hC8 hc8)
  go_upto_region 4 with (first
      | (go_at_call 85; with_reducible refine (HNUM.out _ _ w2 (HC8.out _ HS2.out.swap.pinGet) HL8.out 0 4 (by decide) (by decide)).mono ?_; rintro e w6 ⟨rfl, ⟨n1, hw⟩⟩; have hs := HS2.out.drewN n1; rw [← hw] at hs; clear hw; have HS6 := asiD hs; clear hs)
      | (go_at_call 85; with_reducible refine (HNUM.out _ _ w6 (HC8.out _ HS6.out.swap.pinGet) HL8.out 4 2 (by decide) (by decide)).mono ?_; rintro e w7 ⟨rfl, ⟨n2, hw⟩⟩; have hs := HS6.out.drewN n2; rw [← hw] at hs; clear hw; have s0 := hs.rot3; have c1 := (s0.cell 5).trans (show _ = some (Value.int .u32 0) from rfl); have f1 := s0.frozen 5; have s1 := s0.set 5 (.int .u32 (numV b 0 4)); have c2 := (s1.cell 6).trans (show _ = some (Value.int .i64 0) from rfl); have f2 := s1.frozen 6; have HS7 := asiD ((s1.set 6 (.int .i64 (numV b 4 2))).rowNil 44 11).swap.rot4.rot4; clear hs s0 s1))
  obtain ⟨W8, hW8⟩ : ∃ W8, W8 = (w7.setCell ⟨gd, 5, none⟩ (.int .u32 (numV b 0 4))).setCell ⟨gd, 6, none⟩ (.int .i64 (numV b 4 2)) := ⟨_, rfl⟩
  rw [← hW8] at HS7 ⊢
  clear hW8 HN HS2 HS6 HC8 HL8 HNUM c1 c2 f1 f2
  have HOL := asiD hl1
  go_loopw [] (fun wr => ∃ (Qk : World → Prop) (lk : List Ch) (ek : Int) (Ak : Option Addr) (ck : Nat) (zk : List Value) (acc : List Fr) (B : Option Addr) (cB : Nat) (xs : List Value),
    (∀ W, Qk W → Q W) ∧ poolQ Qk Ak ck lk zk ∧ okL lk ∧ (∀ W, Qk W → KL k44 W acc xs) ∧ partsL l1.length l1 e1 most [] = partsL lk.length lk ek most acc ∧ acc.length + lk.length ≤ 1000000000 ∧
    St w wr (parA w g lk most ek Ak ck Qk (Asrt.blk gd 27 #[a0, a1, a2, a3, a4, .int .u32 (numV b 0 4), .int .i64 (numV b 4 2), a7, a8, a9, a10, a11, a12, .slice B acc.length cB, a14] * (Asrt.row 44 11 (.slice B acc.length cB) acc.length xs * r)))) (fun wr => lenAt wr g)
  case atStart => exact ⟨Q, l1, e1, A', c', zs', [], none, 0, [], fun _ h => h, HQ2.out, HOL.out, fun _ _ => rfl, rfl, by simpa using hll, HS7.out⟩
  case round =>
    obtain ⟨Qk, lk, ek, Ak, ck, zk, acc, B, cB, xs, hQ, hq, hol, hk, hpl, hle, hs⟩ := hrel
    clear HS7
    have HI := asiD (is_calls nANMF hq hs)
    cases hB : isB lk ek nANMF with
    | false =>
      rw [hB] at HI
      have HE : Aside0 (movesV b true l1 e1 most = (numV b 0 4, numV b 4 2, acc, lk, ek)) := ⟨by rw [HF.out, hpl, parts_end hB]⟩
      have H1 := asiD hQ
      have H2 := asiD hq
      have H3 := asiD hk
      clear hQ hq hk hs hpl hB hle
      go_wp2_with (go_at_call 34; refine HI.out.mono ?_; rintro e w9 ⟨rfl, hs⟩; have HS9 := asiD hs; clear hs)
      go_end0
      rw [HE.out]
      exact ⟨Qk, B, cB, xs, Ak, ck, zk, rfl, H1.out, H2.out, H3.out, HS9.out⟩
    | true =>
      rw [hB] at HI
      obtain ⟨bx, t, rfl, rfl⟩ := isB_true hB
      have hbx := hol _ List.mem_cons_self
      by_cases hm : most ≤ (acc.length : Int)
      · have HE : Aside0 (movesV b true l1 e1 most = (numV b 0 4, numV b 4 2, acc, ⟨nANMF, bx⟩ :: t, 4)) := ⟨by rw [HF.out, hpl, List.length_cons, parts_lim hm]⟩
        have y2 : decide (most ≤ (acc.length : Int)) = true := decide_eq_true hm
        have H1 := asiD hQ
        have H2 := asiD hq
        have H3 := asiD hk
        clear hQ hq hk hs hpl hB hle hm
        go_upto_region 5 with (go_at_call 34; refine HI.out.mono ?_; rintro e w9 ⟨rfl, hs⟩; have HS9 := asiD (show St w w9 (Asrt.blk g 59 _ * (pin w Qk * (Asrt.blk gd 27 _ * _))) from hs); clear hs)
        have m1 := (HS9.out.cell 1).trans (show _ = some (Value.int .i64 most) from rfl)
        have m13 := (HS9.out.rot3.cell 13).trans (show _ = some (Value.slice B acc.length cB) from rfl)
        go_quiet (fail)
        have HFC := asiD (fail_calls 4 (HS9.out.drewN nq))
        clear m1 m13
        go_wp2_with (go_at_call 37; refine HFC.out.mono ?_; rintro e w10 ⟨rfl, hs⟩; have HS10 := asiD hs; clear hs)
        refine bodyPost_ret (results_none rfl _ _ _) rfl ?_
        rw [HE.out]
        exact ⟨Qk, B, cB, xs, Ak, ck, zk, rfl, H1.out, H2.out, H3.out, HS10.out⟩
      · have HE := asiD (hpl.trans (parts_go hm))
        have y2 : decide (most ≤ (acc.length : Int)) = false := decide_eq_false hm
        have HLW : Aside0 (lenAt wr g = t.length + 1) := ⟨by unfold lenAt; rw [hs.cell 0]; rfl⟩
        have HBD : Aside0 (acc.length + 1 + t.length ≤ 1000000000) := ⟨by rw [List.length_cons] at hle; omega⟩
        have hcap : (acc.length + 1) * 128 ≤ 140737488355328 := by have := HBD.out; omega
        have HCAP := asiD hcap
        have HT := asiD (okL_tail hol)
        have HBX := asiD hbx
        have H1 := asiD hQ
        have H2 := asiD hq
        have H3 := asiD hk
        clear hQ hq hk hs hpl hB hle hm hol hbx hcap
        go_upto_region 5 with (go_at_call 34; refine HI.out.mono ?_; rintro e w9 ⟨rfl, hs⟩; have HS9 := asiD (show St w w9 (Asrt.blk g 59 _ * (pin w Qk * (Asrt.blk gd 27 _ * _))) from hs); clear hs)
        have m1 := (HS9.out.cell 1).trans (show _ = some (Value.int .i64 most) from rfl)
        have m13 := (HS9.out.rot3.cell 13).trans (show _ = some (Value.slice B acc.length cB) from rfl)
        go_quiet (fail)
        have hs := HS9.out.drewN nq
        clear HI HS9 m1 m13
        generalize w9.drewN nq = W10 at hs ⊢
        have ft := (hs.rot3.cell 13).trans (show _ = some (Value.slice B acc.length cB) from rfl)
        have HP := asiD (part_calls H2.out next_take HBX.out.1 HBX.out.2 hs.drew)
        clear hs
        go_upto_region 7 with (fail)
        go_region_law (first
          | (go_simp; go_at_call 86; refine HP.out.mono ?_; rintro e w11 ⟨cs, Q2, A2, c2, zs2, rfl, hQ2, hK2, hq2, hs⟩; obtain ⟨A8, c8, A9, c9, A10, c10, rfl, l8, g8, l9, g9, l10, g10⟩ := k44_open (hK2 _ hs.swap.pinGet); clear g8 g9 g10; have pt := (hs.rot3.cell 13).trans (show _ = some (Value.slice B acc.length cB) from rfl); have pu := ((hs.rot3.alloc #[.int .i64 (partF bx).f0, .int .i64 (partF bx).f1, .int .i64 (partF bx).f2, .int .i64 (partF bx).f3, .int .i64 (partF bx).f4, .bool (partF bx).f5, .bool (partF bx).f6, .int .i64 (partF bx).f7, .slice A8 (partF bx).f8.length c8, .slice A9 (partF bx).f9.length c9, .slice A10 (partF bx).f10.length c10] 44).swap.cell 13).trans (show _ = some (Value.slice B acc.length cB) from rfl); have HS11 := asiD hs.rot4; have HQ2 := asiD hQ2; have HK2 := asiD hK2; have HP2 := asiD hq2; clear hs hQ2 hK2 hq2)
          | (refine St.append_cells_step (w0 := w) (by rfl) (.tmp 49) (.tmp 52) 24 44 (.agg #[.int .i64 0, .int .i64 0, .int .i64 0, .int .i64 0, .int .i64 0, .bool false, .bool false, .int .i64 0, .slice none 0 0, .slice none 0 0, .slice none 0 0]) 11 128 rfl Try.underlying24 (by kernel_rfl) rfl (by decide) (by decide) _ acc.length xs [.int .i64 (partF bx).f0, .int .i64 (partF bx).f1, .int .i64 (partF bx).f2, .int .i64 (partF bx).f3, .int .i64 (partF bx).f4, .bool (partF bx).f5, .bool (partF bx).f6, .int .i64 (partF bx).f7, .slice A8 (partF bx).f8.length c8, .slice A9 (partF bx).f9.length c9, .slice A10 (partF bx).f10.length c10] (some ⟨_, 0, none⟩) 1 1 rfl rfl ((HS11.out.allocCells 44 11 1 [.int .i64 (partF bx).f0, .int .i64 (partF bx).f1, .int .i64 (partF bx).f2, .int .i64 (partF bx).f3, .int .i64 (partF bx).f4, .bool (partF bx).f5, .bool (partF bx).f6, .int .i64 (partF bx).f7, .slice A8 (partF bx).f8.length c8, .slice A9 (partF bx).f9.length c9, .slice A10 (partF bx).f10.length c10] rfl (by decide)).swap) (rowReadsC (HS11.out.allocCells 44 11 1 [.int .i64 (partF bx).f0, .int .i64 (partF bx).f1, .int .i64 (partF bx).f2, .int .i64 (partF bx).f3, .int .i64 (partF bx).f4, .bool (partF bx).f5, .bool (partF bx).f6, .int .i64 (partF bx).f7, .slice A8 (partF bx).f8.length c8, .slice A9 (partF bx).f9.length c9, .slice A10 (partF bx).f10.length c10] rfl (by decide)) (by simp [Value.oneCell'])) HCAP.out ?_; intro B10 c10' w12 hs; have HS12 := asiD hs.swap.drop; have r0 := (hs.swap.drop.rot4.cell 13).trans (show _ = some (Value.slice B acc.length cB) from rfl); have r1 := hs.swap.drop.rot4.frozen 13; clear hs))
        all_goals have HS13 := asiD (HS12.out.rot4.set 13 (.slice B10 (acc.length + 1) c10')).rot4.rot4
        all_goals clear HS12 HS11 r0 r1 pt pu
        all_goals go_roundw
        all_goals first
          | (rw [HLW.out]; unfold lenAt; rw [HS13.out.cell 0]; exact Nat.lt_succ_self _)
          | (refine ⟨_, _, _, _, _, _, _, _, _, _, _, _, _, _, _, _, _, _, _, _, _, _, _, _, _, ⟨Q2, t, partE bx 0, A2, c2, zs2, acc ++ [partF bx], B10, c10', xs ++ [.int .i64 (partF bx).f0, .int .i64 (partF bx).f1, .int .i64 (partF bx).f2, .int .i64 (partF bx).f3, .int .i64 (partF bx).f4, .bool (partF bx).f5, .bool (partF bx).f6, .int .i64 (partF bx).f7, .slice A8 (partF bx).f8.length c8, .slice A9 (partF bx).f9.length c9, .slice A10 (partF bx).f10.length c10], fun W h => H1.out W (HQ2.out W h), HP2.out, HT.out, fun W h => KL_app (H3.out W (HQ2.out W h)) (KL_fr1 (HK2.out W h)), HE.out, (by rw [List.length_append]; exact HBD.out), by rw [List.length_append]; exact HS13.out⟩, rfl⟩)
end
theorem St.pinRowC {w0 w : World} {A : Asrt} {e : TypeId} {size n c : Nat} {B : Option Addr} {xs : List Value} (h : St w0 w (Asrt.row e size (.slice B n c) n xs * A)) (h1 : ∀ u ∈ xs, u.oneCell' = true) : St w0 w (pin w0 (fun W => ReadsCells W size B n xs) * A) := by
  have ho := h.row
  exact St.move h fun F hF _ => ⟨F, ⟨fun k hk => own_lt hF.1 k ((hF.2 k).1 hk), fun W hB hm => rowReadsC ((St.refl w0).newRow hB (own_move ho fun k hk => hm k ((hF.2 k).2 hk)) (Nat.le_refl _)) h1⟩, ⟨rfl, rfl, rfl, Nat.le_refl _, fun _ _ _ => rfl, fun k hk => .inl hk⟩⟩
theorem next_len {l : List Ch} {e : Int} {nm : ByteArray} {wt : Bool} : (nextV l e nm wt).2.2.1.length ≤ l.length := by
  unfold nextV
  split
  · split
    · show (l.drop 1).length ≤ _
      rw [List.length_drop]; omega
    · exact Nat.le_refl _
  · exact Nat.le_refl _
section
variable {w W : World} {g : Nat} {l : List Ch} {most e : Int} {A : Option Addr} {c : Nat} {Q : World → Prop} {r : Asrt}
set_option maxHeartbeats 8000000 in
set_option maxRecDepth 100000 in
theorem doc_calls {zs : List Value} (hq : poolQ Q A c l zs) (hol : okL l) (hll : l.length ≤ 1000000000) (hS : St w W (parA w g l most e A c Q r)) :
    Calls Try.prog 35 #[.pointer (some ⟨g, 0, none⟩)] W fun x w' => ∃ (ds : List Value) (Q' : World → Prop) (A' : Option Addr) (c' : Nat) (zs' : List Value), x = .returned (.agg ds.toArray) ∧
      (∀ W, Q' W → Q W) ∧ (∀ W, Q' W → k27.K W (docV l e most).1 ds) ∧ poolQ Q' A' c' (docV l e most).1.f14 zs' ∧ St w w' (parA w g (docV l e most).1.f14 most (docV l e most).2 A' c' Q' r) := by
  have hS0 := ((hS.alloc #[.bool false, .int .i64 0, .int .i64 0, .bool false, .bool false, .int .u32 0, .int .i64 0, .slice none 0 0, .slice none 0 0, .slice none 0 0, .bool false, .bool false, .bool false, .slice none 0 0, .slice none 0 0] 27).unrot3.alloc #[.bool false, .int .i64 0, .int .i64 0, .bool false, .bool false, .int .u32 0, .int .i64 0, .slice none 0 0, .slice none 0 0, .slice none 0 0, .bool false, .bool false, .bool false, .slice none 0 0, .slice none 0 0] 27).unrot3
  obtain ⟨gr, hgr⟩ : ∃ gr, gr = W.heap.size := ⟨_, rfl⟩
  obtain ⟨W1, hW1⟩ : ∃ W1, W1 = W.alloc (.cells #[.bool false, .int .i64 0, .int .i64 0, .bool false, .bool false, .int .u32 0, .int .i64 0, .slice none 0 0, .slice none 0 0, .slice none 0 0, .bool false, .bool false, .bool false, .slice none 0 0, .slice none 0 0] 27) := ⟨_, rfl⟩
  rw [← hW1, ← hgr] at hS0
  obtain ⟨gd, hgd⟩ : ∃ gd, gd = W1.heap.size := ⟨_, rfl⟩
  obtain ⟨W2, hW2⟩ : ∃ W2, W2 = W1.alloc (.cells #[.bool false, .int .i64 0, .int .i64 0, .bool false, .bool false, .int .u32 0, .int .i64 0, .slice none 0 0, .slice none 0 0, .slice none 0 0, .bool false, .bool false, .bool false, .slice none 0 0, .slice none 0 0] 27) := ⟨_, rfl⟩
  rw [← hW2, ← hgd] at hS0
  have hgd' : gd = gr + 1 := by rw [hgd, hW1, hgr]; simp
  have HE := asiD (And.intro hgr (And.intro hW1 (And.intro hgd' hW2)))
  have o1 := @next_ok l e nVP8X true hol
  have n1 := @next_len l e nVP8X true
  have hd : docV l e most = bodyV (headN (nextV l e nVP8X true).1 (nextV l e nVP8X true).2.1) (headW (nextV l e nVP8X true).1 (nextV l e nVP8X true).2.1 4) (headW (nextV l e nVP8X true).1 (nextV l e nVP8X true).2.1 7) (nextV l e nVP8X true).2.2.1 (headE (nextV l e nVP8X true).1 (nextV l e nVP8X true).2.1 (nextV l e nVP8X true).2.2.2) most := rfl
  obtain ⟨⟨b, ok, l1, e0⟩, hn1⟩ : ∃ n, nextV l e nVP8X true = n := ⟨_, rfl⟩
  have HH := asiD (head_calls (gd := gd) hq hn1 (by rw [hn1] at o1; exact o1.1.1) (by rw [hn1] at o1; exact o1.1.2) hS0)
  rw [hn1] at o1 n1 hd
  dsimp only at o1 n1 hd HH
  generalize headN b ok = N at hd HH
  generalize headW b ok 4 = Wd at hd HH
  generalize headW b ok 7 = Hd at hd HH
  generalize headE b ok e0 = e1 at hd HH
  have o2 := @next_ok l1 e1 nICCP (flagB N 32) o1.2
  have n2 := @next_len l1 e1 nICCP (flagB N 32)
  unfold bodyV at hd
  obtain ⟨⟨pr, ok2, l2, e2⟩, hn2⟩ : ∃ n, nextV l1 e1 nICCP (flagB N 32) = n := ⟨_, rfl⟩
  rw [hn2] at o2 n2 hd
  dsimp only at o2 n2 hd
  obtain ⟨⟨bk, lp, fs, l3, e3⟩, hF⟩ : ∃ F, framesV (flagB N 2) l2 e2 most Wd Hd = F := ⟨_, rfl⟩
  rw [hF] at hd
  dsimp only at hd
  obtain ⟨⟨ex, xm, l5, e5⟩, hT⟩ : ∃ T, tailV N l3 e3 = T := ⟨_, rfl⟩
  rw [hT] at hd
  have HD : Aside0 (docV l e most = (⟨false, Wd, Hd, flagB N 16, flagB N 2, bk, lp, pr, ex, xm, flagB N 32, flagB N 8, flagB N 4, fs, l5⟩, e5)) := ⟨hd⟩
  have HFR := asiD hF
  have HTL := asiD hT
  have HN2 := asiD hn2
  have HO2 := asiD o2.2
  have HL2 : Aside0 (l2.length ≤ 1000000000) := ⟨by omega⟩
  clear hS hS0 hq hol hll hgr hW1 hgd hgd' hW2 o1 n1 o2 n2 hd hF hT hn1 hn2
  go_enter Try.func35, Try.ntmps35
  go_upto_region 2 with (fail)
  rw [← HE.out.1, ← HE.out.2.1, ← HE.out.2.2.1, ← HE.out.2.2.2]
  go_upto_region 3 with (go_at_call 70; refine HH.out.mono ?_; rintro e w3 ⟨A3, c3, z3, rfl, hq3, hs⟩; have HQ3 := asiD hq3; have HS3 := asiD hs; have m10 := ((show St w w3 (Asrt.blk g 59 _ * (pin w Q * (Asrt.blk gd 27 _ * _))) from hs).rot3.cell 10).trans (show _ = some (Value.bool (flagB N 32)) from rfl); clear hs hq3)
  clear HE HH
  have hx := next_calls nICCP (flagB N 32) HQ3.out HS3.out
  rw [HN2.out] at hx
  have HX := asiD hx
  clear hx
  go_upto_region 4 with (go_at_call 71; refine HX.out.mono ?_; rintro e w4 ⟨B7, c7, A4, c4, z4, rfl, hl7, hC7, hq4, hs⟩; have h4 := (show St w w4 (Asrt.blk g 59 _ * (pin w Q * (Asrt.blk gd 27 _ * _))) from hs).rot3; have m7 := (h4.cell 7).trans (show _ = some (Value.slice none 0 0) from rfl); have f7 := h4.frozen 7; have HS4 := asiD (h4.set 7 (.slice B7 pr.length c7)); have HQ4 := asiD hq4; have HC7 := asiD hC7; have HL7 := asiD hl7; clear hs h4 hq4 hC7 hl7)
  clear HX HS3 HQ3 m10 m7 f7
  obtain ⟨W4, hW4⟩ : ∃ W4, W4 = w4.setCell ⟨gd, 7, none⟩ (.slice B7 pr.length c7) := ⟨_, rfl⟩
  rw [← hW4] at HS4 ⊢
  clear hW4
  have m4 := (HS4.out.cell 4).trans (show _ = some (Value.bool (flagB N 2)) from rfl)
  go_upto_if 15 with (fail)
  go_cut [] from 15 to 19 (fun wc => ∃ (Q5 : World → Prop) (B : Option Addr) (cB : Nat) (xs : List Value) (A5 : Option Addr) (c5 : Nat) (z5 : List Value), (∀ W, Q5 W → Q W) ∧ poolQ Q5 A5 c5 l3 z5 ∧ (∀ W, Q5 W → KL k44 W fs xs) ∧
    St w wc (parA w g l3 most e3 A5 c5 Q5 (Asrt.blk gd 27 #[.bool false, .int .i64 Wd, .int .i64 Hd, .bool (flagB N 16), .bool (flagB N 2), .int .u32 bk, .int .i64 lp, .slice B7 pr.length c7, .slice none 0 0, .slice none 0 0, .bool (flagB N 32), .bool (flagB N 8), .bool (flagB N 4), .slice B fs.length cB, .slice none 0 0] * (Asrt.row 44 11 (.slice B fs.length cB) fs.length xs * (Asrt.blk gr 27 #[.bool false, .int .i64 0, .int .i64 0, .bool false, .bool false, .int .u32 0, .int .i64 0, .slice none 0 0, .slice none 0 0, .slice none 0 0, .bool false, .bool false, .bool false, .slice none 0 0, .slice none 0 0] * r)))))
  case first =>
    rcases Bool.eq_false_or_eq_true (flagB N 2) with hmv | hmv
    · rw [hmv] at m4
      have hF := HFR.out
      have o4 := @next_ok l2 e2 nANIM true HO2.out
      have n4 := @next_len l2 e2 nANIM true
      unfold framesV at hF
      rw [if_pos hmv] at hF
      obtain ⟨⟨b4, ok4, l4, e4⟩, hn4⟩ : ∃ n, nextV l2 e2 nANIM true = n := ⟨_, rfl⟩
      rw [hn4] at o4 n4 hF
      dsimp only at o4 n4 hF
      have hp := parts_calls _ _ _ _ _ _ _ _ _ _ _ _ HQ4.out hn4 o4.1.1 o4.1.2 o4.2 (by have := HL2.out; omega) HS4.out.rot3.rot3
      rw [hF] at hp
      have HP := asiD hp
      clear hp hF o4 n4 hn4
      rw [hmv]
      go_wp2_with (go_at_call 72; refine HP.out.mono ?_; rintro e w5 ⟨Q5, B, cB, xs, A5, c5, z5, rfl, h1, h2, h3, hs⟩; have H1 := asiD h1; have H2 := asiD h2; have H3 := asiD h3; have HS5 := asiD hs; clear h1 h2 h3 hs)
      go_meet
      case rel => exact ⟨Q5, B, cB, xs, A5, c5, z5, H1.out, H2.out, H3.out, HS5.out⟩
    · have hF := HFR.out
      unfold framesV at hF
      rw [if_neg (by rw [hmv]; simp)] at hF
      have hst : stillV l2 e2 most Wd Hd = (fs, l3, e3) ∧ bk = 0 ∧ lp = 0 := by
        injection hF with h1 h2
        injection h2 with h2 h3
        exact ⟨h3, h1.symm, h2.symm⟩
      have HB0 := asiD hst.2
      have hp := still_calls Wd Hd _ _ _ _ _ _ _ _ _ _ _ _ HQ4.out HS4.out.rot3.rot3
      rw [hst.1] at hp
      have HP := asiD hp
      clear hp hF hst
      rw [hmv]
      go_wp2_with (go_at_call 36; refine HP.out.mono ?_; rintro e w5 ⟨B, cB, xs, A5, c5, z5, rfl, h2, h3, hs⟩; have H2 := asiD h2; have H3 := asiD h3; have HS5 := asiD hs; clear h2 h3 hs)
      go_meet
      case rel => rw [HB0.out.1, HB0.out.2]; exact ⟨Q, B, cB, xs, A5, c5, z5, fun _ h => h, H2.out, H3.out, HS5.out⟩
  case rest =>
    clear HS4 HQ4 HFR HO2 HL2 m4
    obtain ⟨Q5, B, cB, xs, A5, c5, z5, h1, h2, h3, hs⟩ := hcut
    have H1 := asiD h1
    have H3 := asiD h3
    have m11 := ((show St w wc (Asrt.blk g 59 _ * (pin w Q5 * (Asrt.blk gd 27 _ * _))) from hs).rot3.cell 11).trans (show _ = some (Value.bool (flagB N 8)) from rfl)
    have hT := HTL.out
    unfold tailV at hT
    have hx := next_calls nEXIF (flagB N 8) h2 hs
    obtain ⟨⟨ex2, ok6, l6, e6⟩, hn6⟩ : ∃ n, nextV l3 e3 nEXIF (flagB N 8) = n := ⟨_, rfl⟩
    rw [hn6] at hx hT
    dsimp only at hx hT
    obtain ⟨⟨xm2, ok7, l7, e7⟩, hn7⟩ : ∃ n, nextV l6 e6 nXMP (flagB N 4) = n := ⟨_, rfl⟩
    rw [hn7] at hT
    dsimp only at hT
    injection hT with t1 t2
    injection t2 with t2 t3
    injection t3 with t3 t4
    subst t1 t2 t3
    have HE5 := asiD t4
    have HX := asiD hx
    have HN7 := asiD hn7
    clear h1 h2 h3 hs hx hn6 hn7 t4 HTL
    go_upto_region 8 with (go_at_call 71; refine HX.out.mono ?_; rintro e w6 ⟨B8, c8, A6, c6, z6, rfl, hl8, hC8, hq6, hs⟩; have h6 := (show St w w6 (Asrt.blk g 59 _ * (pin w Q5 * (Asrt.blk gd 27 _ * _))) from hs).rot3; have m8 := (h6.cell 8).trans (show _ = some (Value.slice none 0 0) from rfl); have f8 := h6.frozen 8; have HS6 := asiD (h6.set 8 (.slice B8 ex2.length c8)); have HQ6 := asiD hq6; have HC8 := asiD hC8; have HL8 := asiD hl8; clear hs h6 hq6 hC8 hl8)
    clear HX m8 f8 m11
    obtain ⟨W6, hW6⟩ : ∃ W6, W6 = w6.setCell ⟨gd, 8, none⟩ (.slice B8 ex2.length c8) := ⟨_, rfl⟩
    rw [← hW6] at HS6 ⊢
    clear hW6
    have m12 := (HS6.out.cell 12).trans (show _ = some (Value.bool (flagB N 4)) from rfl)
    have hx := next_calls nXMP (flagB N 4) HQ6.out HS6.out.rot3.rot3
    rw [HN7.out] at hx
    have HX := asiD hx
    clear hx
    go_upto_region 9 with (go_at_call 71; refine HX.out.mono ?_; rintro e w7 ⟨B9, c9, A7, c7', z7, rfl, hl9, hC9, hq7, hs⟩; have h7 := (show St w w7 (Asrt.blk g 59 _ * (pin w Q5 * (Asrt.blk gd 27 _ * _))) from hs).rot3; have m9 := (h7.cell 9).trans (show _ = some (Value.slice none 0 0) from rfl); have f9 := h7.frozen 9; have HS7 := asiD (h7.set 9 (.slice B9 xm2.length c9)); have HQ7 := asiD hq7; have HC9 := asiD hC9; have HL9 := asiD hl9; clear hs h7 hq7 hC9 hl9)
    clear HX m9 f9 m12 HS6 HQ6
    obtain ⟨W7, hW7⟩ : ∃ W7, W7 = w7.setCell ⟨gd, 9, none⟩ (.slice B9 xm2.length c9) := ⟨_, rfl⟩
    rw [← hW7] at HS7 ⊢
    clear hW7
    have hx := rest_calls HQ7.out HS7.out.rot3.rot3
    rw [HE5.out] at hx
    have HX := asiD hx
    clear hx
    go_upto_region 10 with (go_at_call 73; refine HX.out.mono ?_; rintro e w8 ⟨rfl, hs⟩; have h8 := (show St w w8 (Asrt.blk g 59 _ * (pin w Q5 * (Asrt.blk gd 27 _ * _))) from hs).rot3; have m14 := (h8.cell 14).trans (show _ = some (Value.slice none 0 0) from rfl); have f14 := h8.frozen 14; have HS8 := asiD (h8.set 14 (.slice A7 l7.length c7')); clear hs h8)
    clear HX m14 f14 HS7
    obtain ⟨W8, hW8⟩ : ∃ W8, W8 = w8.setCell ⟨gd, 14, none⟩ (.slice A7 l7.length c7') := ⟨_, rfl⟩
    rw [← hW8] at HS8 ⊢
    clear hW8
    have h8 := (show St w W8 (Asrt.blk gd 27 #[.bool false, .int .i64 Wd, .int .i64 Hd, .bool (flagB N 16), .bool (flagB N 2), .int .u32 bk, .int .i64 lp, .slice B7 pr.length c7, .slice B8 ex2.length c8, .slice B9 xm2.length c9, .bool (flagB N 32), .bool (flagB N 8), .bool (flagB N 4), .slice B fs.length cB, .slice A7 l7.length c7'] * (Asrt.blk g 59 _ * (pin w Q5 * (Asrt.row 44 11 _ _ xs * (Asrt.blk gr 27 _ * r))))) from HS8.out)
    have z1 := fun i => h8.cell i
    have h9 := h8.drop.rot4
    have z2 := fun i => h9.cell i
    have z3 := fun i => h9.frozen i
    have HS9 := asiD (h9.put15 (.bool false) (.int .i64 Wd) (.int .i64 Hd) (.bool (flagB N 16)) (.bool (flagB N 2)) (.int .u32 bk) (.int .i64 lp) (.slice B7 pr.length c7) (.slice B8 ex2.length c8) (.slice B9 xm2.length c9) (.bool (flagB N 32)) (.bool (flagB N 8)) (.bool (flagB N 4)) (.slice B fs.length cB) (.slice A7 l7.length c7'))
    clear h8 h9 HS8
    go_wp2_with fail
    refine bodyPost_ret (results_cell_row rfl _ _ gr 27 #[.bool false, .int .i64 Wd, .int .i64 Hd, .bool (flagB N 16), .bool (flagB N 2), .int .u32 bk, .int .i64 lp, .slice B7 pr.length c7, .slice B8 ex2.length c8, .slice B9 xm2.length c9, .bool (flagB N 32), .bool (flagB N 8), .bool (flagB N 4), .slice B fs.length cB, .slice A7 l7.length c7'] (0, 0) _ rfl HS9.out.blk Try.underlying27 rfl (by kernel_rfl)) rfl ?_
    rw [HD.out]
    dsimp only
    have h10 := HS9.out.drop.rot3
    have hle := own_le h10.row
    have hmx : fs.length ≤ 9223372036854775807 := by
      rcases h10.row.2 with ⟨_, h⟩ | ⟨_, cap, _, _, _, _, h1, h2, _⟩
      · omega
      · simp only [maxLen] at h2; omega
    have h11 := (h10.pinRowC (KL_one (H3.out _ h10.rot3.pinGet))).swap2.pinAnd.swap
    exact ⟨[.bool false, .int .i64 Wd, .int .i64 Hd, .bool (flagB N 16), .bool (flagB N 2), .int .u32 bk, .int .i64 lp, .slice B7 pr.length c7, .slice B8 ex2.length c8, .slice B9 xm2.length c9, .bool (flagB N 32), .bool (flagB N 8), .bool (flagB N 4), .slice B fs.length cB, .slice A7 l7.length c7'], _, A7, c7', z7, rfl, fun W h => H1.out W h.2, fun W h => k27_mk W ⟨false, Wd, Hd, flagB N 16, flagB N 2, bk, lp, pr, ex2, xm2, flagB N 32, flagB N 8, flagB N 4, fs, l7⟩ HL7.out (HC7.out W (H1.out W h.2)) HL8.out (HC8.out W h.2) HL9.out (HC9.out W h.2) hle (C_of_KL (H3.out W h.2) rfl hmx h.1) HQ7.out.le (HQ7.out.C h.2), HQ7.out.imp fun _ h => h.2, h11⟩
end
end Go.Proofs.Ythkocpcjcpohcaa.P
end
section
namespace Go.Proofs.Ythkocpcjcpohcaa.P
open Go Go.RowKit Go.Proofs.YthkocpcjcpohcaaW.PrintWords Go.Proofs.YthkocpcjcpohcaaW.PrintLast Go.Proofs.YthkocpcjcpohcaaW.PrintMore Go.Proofs.Ythkocpcjcpohcaa.U Go.Proofs.Ythkocpcjcpohcaa.Pure
theorem one_good {b : List Int} (h : Bytes b) (h0 : (one b).2.2.2 = 0) : okName (one b).1 = true ∧ Bytes (one b).2.1 := by
  revert h0
  unfold one
  repeat' split
  all_goals first
    | (intro h0; exact absurd h0 (by decide))
    | (intro _; exact ⟨by simpa using ‹¬ okName _ = false›, (h.take _).drop _⟩)
theorem inner_good (d : Nat) : ∀ (b : List Int) (acc : List Ch), Bytes b → (∀ x ∈ acc, okName x.f0 = true ∧ Bytes x.f1) → ∀ x ∈ (inner d b acc).1, okName x.f0 = true ∧ Bytes x.f1 := by
  induction d with
  | zero => intro b acc _ ha; exact ha
  | succ d ih =>
    intro b acc hb ha
    rw [inner]
    by_cases c : b.length = 0
    · rw [if_pos c]; exact ha
    rw [if_neg c]
    by_cases c2 : (one b).2.2.2 = 0
    · rw [if_pos c2]
      refine ih _ _ (hb.drop _) fun x hx => ?_
      rcases List.mem_append.1 hx with h | h
      · exact ha x h
      · rw [List.mem_singleton.1 h]; exact one_good hb c2
    · rw [if_neg c2]
      exact fun x hx => by simp at hx
def datB (n : Nat) (l : List Int) : Prop := Bytes l ∧ l.length ≤ n
structure chB (n : Nat) (l : List Ch) : Prop where
  len : l.length ≤ n
  all : ∀ x ∈ l, okName x.f0 = true ∧ datB n x.f1
theorem chB_inner {n : Nat} {b : List Int} (hb : datB n b) : chB n (inner b.length b []).1 := by
  have h1 := inner_len b.length b [] b.length hb.1 (Nat.le_refl _) (fun x hx => by simp at hx)
  have h2 := inner_good b.length b [] hb.1 (fun x hx => by simp at hx)
  exact ⟨Nat.le_trans h1.1 (by simpa using hb.2), fun x hx => ⟨(h2 x hx).1, (h2 x hx).2, Nat.le_trans (h1.2 x hx) hb.2⟩⟩
theorem chB_nil (n : Nat) : chB n [] := ⟨Nat.zero_le _, fun x hx => by simp at hx⟩
theorem datB_nil (n : Nat) : datB n [] := ⟨fun x hx => by simp at hx, Nat.zero_le _⟩
theorem chB_scan {n : Nat} {b : List Int} (hb : datB n b) : chB n (scan b).1 := by
  have h1 := scan_len hb.1
  refine ⟨Nat.le_trans h1.1 hb.2, fun x hx => ?_⟩
  have h2 : okName x.f0 = true ∧ Bytes x.f1 := by
    revert hx
    unfold scan
    repeat' split
    all_goals first | (intro hx; simp at hx; done) | exact fun hx => inner_good _ _ [] ((hb.1.take _).drop _) (fun x hx => by simp at hx) x hx
  exact ⟨h2.1, h2.2, Nat.le_trans (h1.2 x hx) hb.2⟩
section
variable {n : Nat} {l : List Ch} {e most : Int}
theorem chB.okL (h : chB n l) (hn : n ≤ 1000000000) : okL l := fun x hx => ⟨(h.all x hx).2.1, Nat.le_trans (h.all x hx).2.2 hn⟩
theorem chB.next {nm : ByteArray} {wt : Bool} (h : chB n l) : datB n (nextV l e nm wt).1 ∧ chB n (nextV l e nm wt).2.2.1 := by
  unfold nextV
  split
  · split
    · cases l with
      | nil => exact ⟨datB_nil n, chB_nil n⟩
      | cons x t => exact ⟨(h.all x List.mem_cons_self).2, ⟨by have := h.len; simp at this; show t.length ≤ n; omega, fun y hy => h.all y (List.mem_cons_of_mem _ hy)⟩⟩
    · exact ⟨datB_nil n, h⟩
  · exact ⟨datB_nil n, h⟩
theorem chB.alpha (h : chB n l) : datB n (alphaP l e).1 ∧ chB n (alphaP l e).2.1 := by
  unfold alphaP
  split
  · exact h.next
  · exact ⟨datB_nil n, h⟩
theorem chB.data (h : chB n l) : datB n (dataP l e).1 ∧ chB n (dataP l e).2.2.1 := h.alpha.2.next
structure frB (n : Nat) (f : Fr) : Prop where
  i0 : 0 ≤ f.f0 ∧ f.f0 ≤ 10000000000
  i1 : 0 ≤ f.f1 ∧ f.f1 ≤ 10000000000
  i2 : 0 ≤ f.f2 ∧ f.f2 ≤ 10000000000
  i3 : 0 ≤ f.f3 ∧ f.f3 ≤ 10000000000
  i4 : 0 ≤ f.f4 ∧ f.f4 ≤ 10000000000
  i7 : 0 ≤ f.f7 ∧ f.f7 ≤ 2
  al : datB n f.f8
  da : datB n f.f9
  mo : chB n f.f10
theorem kind_bd : 0 ≤ kindP l e ∧ kindP l e ≤ 2 := by
  unfold kindP
  split <;> exact ⟨by decide, by decide⟩
theorem frB_zero : frB n z44 := by
  have z : (0 : Int) ≤ 0 ∧ (0 : Int) ≤ 10000000000 := by decide
  exact ⟨z, z, z, z, z, (by decide : (0 : Int) ≤ 0 ∧ (0 : Int) ≤ 2), datB_nil n, datB_nil n, chB_nil n⟩
theorem frB_part {b : List Int} (hb : datB n b) : frB n (partF b) := by
  unfold partF
  split
  · have hi := chB_inner (n := n) (b := b.drop 16) ⟨hb.1.drop 16, by have := hb.2; rw [List.length_drop]; omega⟩
    have h0 := numV_bd hb.1 0 3 (by decide)
    have h1 := numV_bd hb.1 3 3 (by decide)
    have h2 := numV_bd hb.1 6 3 (by decide)
    have h3 := numV_bd hb.1 9 3 (by decide)
    have h4 := numV_bd hb.1 12 3 (by decide)
    refine ⟨?_, ?_, ?_, ?_, ?_, kind_bd, hi.alpha.1, hi.data.1, hi.data.2⟩
    · show 0 ≤ 2 * numV b 0 3 ∧ 2 * numV b 0 3 ≤ _; omega
    · show 0 ≤ 2 * numV b 3 3 ∧ 2 * numV b 3 3 ≤ _; omega
    · show 0 ≤ numV b 6 3 + 1 ∧ numV b 6 3 + 1 ≤ _; omega
    · show 0 ≤ numV b 9 3 + 1 ∧ numV b 9 3 + 1 ≤ _; omega
    · show 0 ≤ numV b 12 3 ∧ numV b 12 3 ≤ _; omega
  · exact frB_zero
theorem parts_bd (d : Nat) : ∀ (l : List Ch) (e most : Int) (acc : List Fr), chB n l → (∀ f ∈ acc, frB n f) → acc.length + l.length ≤ n →
    (partsL d l e most acc).1.length ≤ n ∧ (∀ f ∈ (partsL d l e most acc).1, frB n f) ∧ chB n (partsL d l e most acc).2.1 := by
  induction d with
  | zero => intro l e most acc hl ha hn; exact ⟨by simp only [partsL]; omega, ha, hl⟩
  | succ d ih =>
    intro l e most acc hl ha hn
    rw [partsL]
    split
    · rename_i hB
      split
      · exact ⟨by simp only; omega, ha, hl⟩
      · have hx := hl.next (e := e) (nm := nANMF) (wt := true)
        refine ih _ _ _ _ hx.2 (fun f hf => ?_) ?_
        · rcases List.mem_append.1 hf with h | h
          · exact ha f h
          · rw [List.mem_singleton.1 h]; exact frB_part hx.1
        · unfold isB headB at hB
          rw [Bool.and_eq_true, decide_eq_true_iff] at hB
          cases l with
          | nil => simp at hB
          | cons x t =>
            have hh : headB (x :: t) nANMF = true := hB.2
            unfold nextV
            rw [if_pos ⟨rfl, hB.1⟩, if_pos hh]
            simp only [List.length_append, List.length_cons, List.length_nil, List.drop_succ_cons, List.drop_zero] at hn ⊢
            omega
    · exact ⟨by simp only; omega, ha, hl⟩
theorem still_bd {Wd Hd : Int} (h : chB n l) (hn : 1 ≤ n) (hW : 0 ≤ Wd ∧ Wd ≤ 10000000000) (hH : 0 ≤ Hd ∧ Hd ≤ 10000000000) : (stillV l e most Wd Hd).1.length ≤ n ∧ (∀ f ∈ (stillV l e most Wd Hd).1, frB n f) ∧ chB n (stillV l e most Wd Hd).2.1 := by
  have z : (0 : Int) ≤ 0 ∧ (0 : Int) ≤ 10000000000 := by decide
  unfold stillV
  split
  · exact ⟨by simp, fun f hf => by simp at hf, h⟩
  · refine ⟨by simpa using hn, fun f hf => ?_, h.data.2⟩
    rw [List.mem_singleton.1 hf]
    exact ⟨z, z, hW, hH, z, kind_bd, h.alpha.1, h.data.1, chB_nil n⟩
structure docB (n : Nat) (y : Dc) : Prop where
  i1 : 0 ≤ y.f1 ∧ y.f1 ≤ 10000000000
  i2 : 0 ≤ y.f2 ∧ y.f2 ≤ 10000000000
  i5 : 0 ≤ y.f5 ∧ y.f5 ≤ 4294967295
  i6 : 0 ≤ y.f6 ∧ y.f6 ≤ 10000000000
  pr : datB n y.f7
  ex : datB n y.f8
  xm : datB n y.f9
  fr : y.f13.length ≤ n ∧ ∀ f ∈ y.f13, frB n f
  mo : chB n y.f14
theorem headW_bd {b : List Int} {ok : Bool} {i : Int} (h : Bytes b) : 0 ≤ headW b ok i ∧ headW b ok i ≤ 10000000000 := by
  have := numV_bd h i 3 (by decide)
  unfold headW
  split <;> omega
theorem frames_bd {mv : Bool} {Wd Hd : Int} (h : chB n l) (hn : 1 ≤ n) (hW : 0 ≤ Wd ∧ Wd ≤ 10000000000) (hH : 0 ≤ Hd ∧ Hd ≤ 10000000000) :
    (0 ≤ (framesV mv l e most Wd Hd).1 ∧ (framesV mv l e most Wd Hd).1 ≤ 4294967295) ∧ (0 ≤ (framesV mv l e most Wd Hd).2.1 ∧ (framesV mv l e most Wd Hd).2.1 ≤ 10000000000) ∧ (framesV mv l e most Wd Hd).2.2.1.length ≤ n ∧ (∀ f ∈ (framesV mv l e most Wd Hd).2.2.1, frB n f) ∧ chB n (framesV mv l e most Wd Hd).2.2.2.1 := by
  unfold framesV
  split
  · have hx := h.next (e := e) (nm := nANIM) (wt := true)
    have h1 := numV_bd hx.1.1 0 4 (by decide)
    have h2 := numV_bd hx.1.1 4 2 (by decide)
    unfold movesV
    split
    · have hp := parts_bd (nextV l e nANIM true).2.2.1.length _ (nextV l e nANIM true).2.2.2 most [] hx.2 (fun f hf => by simp at hf) (by simpa using hx.2.len)
      refine ⟨⟨h1.1, ?_⟩, ⟨h2.1, ?_⟩, hp.1, hp.2.1, hp.2.2⟩
      · show numV _ 0 4 ≤ _; omega
      · show numV _ 4 2 ≤ _; omega
    · exact ⟨(by decide : (0 : Int) ≤ 0 ∧ (0 : Int) ≤ 4294967295), (by decide : (0 : Int) ≤ 0 ∧ (0 : Int) ≤ 10000000000), by simp, fun f hf => by simp at hf, hx.2⟩
  · have hs := still_bd (e := e) (most := most) h hn hW hH
    exact ⟨(by decide : (0 : Int) ≤ 0 ∧ (0 : Int) ≤ 4294967295), (by decide : (0 : Int) ≤ 0 ∧ (0 : Int) ≤ 10000000000), hs.1, hs.2.1, hs.2.2⟩
theorem doc_bd (h : chB n l) (hn : 1 ≤ n) : docB n (docV l e most).1 := by
  have h1 := h.next (e := e) (nm := nVP8X) (wt := true)
  unfold docV bodyV
  generalize nextV l e nVP8X true = v at h1 ⊢
  have hW := headW_bd (ok := v.2.1) (i := 4) h1.1.1
  have hH := headW_bd (ok := v.2.1) (i := 7) h1.1.1
  generalize headW v.1 v.2.1 4 = Wd at hW ⊢
  generalize headW v.1 v.2.1 7 = Hd at hH ⊢
  generalize headN v.1 v.2.1 = N
  generalize headE v.1 v.2.1 v.2.2.2 = e1
  have h2 := h1.2.next (e := e1) (nm := nICCP) (wt := flagB N 32)
  generalize nextV v.2.2.1 e1 nICCP (flagB N 32) = p at h2 ⊢
  have h3 := frames_bd (e := p.2.2.2) (most := most) (mv := flagB N 2) h2.2 hn hW hH
  generalize framesV (flagB N 2) p.2.2.1 p.2.2.2 most Wd Hd = f at h3 ⊢
  have h4 := h3.2.2.2.2.next (e := f.2.2.2.2) (nm := nEXIF) (wt := flagB N 8)
  have h5 := h4.2.next (e := (nextV f.2.2.2.1 f.2.2.2.2 nEXIF (flagB N 8)).2.2.2) (nm := nXMP) (wt := flagB N 4)
  exact ⟨hW, hH, h3.1, h3.2.1, h2.1, h4.1, h5.1, ⟨h3.2.2.1, h3.2.2.2.1⟩, h5.2⟩
theorem read_bd (h : chB n l) (hn : 1 ≤ n) : docB n (readV l most).1 := by
  unfold readV
  split
  · exact doc_bd h hn
  · have z : (0 : Int) ≤ 0 ∧ (0 : Int) ≤ 10000000000 := by decide
    have hs := still_bd (e := 0) (most := most) h hn z z
    exact ⟨z, z, (by decide : (0 : Int) ≤ 0 ∧ (0 : Int) ≤ 4294967295), z, datB_nil n, datB_nil n, datB_nil n, ⟨hs.1, hs.2.1⟩, chB_nil n⟩
end
theorem name_size {s : ByteArray} (h : okName s = true) : s.size = 4 := by
  unfold okName at h
  have := (of_decide_eq_true h).1
  rwa [bytesOf_length] at this
theorem datB.dat {n : Nat} {l : List Int} (h : datB n l) (hn : n ≤ 1000000) : datL l := ⟨h.1, by have := h.2; omega⟩
theorem chB.chs {n : Nat} {l : List Ch} (h : chB n l) (hn : n ≤ 1000000) : chsL l := ⟨by have := h.len; omega, fun c hc => ⟨by rw [name_size (h.all c hc).1]; decide, (h.all c hc).2.dat hn⟩⟩
theorem frB.fr {n : Nat} {f : Fr} (h : frB n f) (hn : n ≤ 1000000) : okFr f := by
  obtain ⟨h0, h1, h2, h3, h4, h7, al, da, mo⟩ := h
  exact ⟨⟨by omega, by omega⟩, ⟨by omega, by omega⟩, ⟨by omega, by omega⟩, ⟨by omega, by omega⟩, ⟨by omega, by omega⟩, ⟨by omega, by omega⟩, al.dat hn, da.dat hn, mo.chs hn⟩
theorem docB.ok {n : Nat} {y : Dc} (h : docB n y) (hn : n ≤ 1000000) : okDc y := by
  obtain ⟨h1, h2, h5, h6, pr, ex, xm, fr, mo⟩ := h
  exact ⟨⟨by omega, by omega⟩, ⟨by omega, by omega⟩, h5, ⟨by omega, by omega⟩, pr.dat hn, ex.dat hn, xm.dat hn, ⟨by omega, fun f hf => (fr.2 f hf).fr hn⟩, mo.chs hn⟩
theorem flat_len {α β : Type} {g : α → List β} {m : Nat} : ∀ {l : List α}, (∀ x ∈ l, (g x).length ≤ m) → (l.flatMap g).length ≤ l.length * m
  | [], _ => by simp
  | x :: l, h => by
    have h1 := h x List.mem_cons_self
    have h2 := flat_len (l := l) fun y hy => h y (List.mem_cons_of_mem _ hy)
    rw [List.flatMap_cons, List.length_append, List.length_cons, Nat.add_mul, Nat.one_mul]
    omega
theorem sumW_le {α : Type} {g : α → Int} {m : Int} : ∀ {l : List α}, (∀ x ∈ l, g x ≤ m) → sumW g l ≤ l.length * m
  | [], _ => by simp [sumW]
  | x :: l, h => by
    have h1 := h x List.mem_cons_self
    have h2 := sumW_le (l := l) fun y hy => h y (List.mem_cons_of_mem _ hy)
    have e : ((x :: l).length : Int) * m = (l.length : Int) * m + m := by rw [List.length_cons]; push_cast; rw [Int.add_mul, Int.one_mul]
    rw [sumW, e]
    omega
theorem docB.all {n : Nat} {y : Dc} (h : docB n y) (hn : n ≤ 1000000) : (allCh y).length ≤ 1000001000000 ∧ ∀ c ∈ allCh y, okName c.f0 = true ∧ datB n c.f1 := by
  have hf := flat_len (l := y.f13) (g := fun f : Fr => f.f10) (m := 1000000) fun f hf => Nat.le_trans (h.fr.2 f hf).mo.len hn
  have h2 : y.f13.length * 1000000 ≤ 1000000 * 1000000 := Nat.mul_le_mul_right _ (Nat.le_trans h.fr.1 hn)
  have h3 := h.mo.len
  have e : allCh y = y.f14 ++ y.f13.flatMap (fun f : Fr => f.f10) := rfl
  refine ⟨by rw [e, List.length_append]; omega, fun c hc => ?_⟩
  unfold allCh at hc
  rcases List.mem_append.1 hc with hc | hc
  · exact h.mo.all c hc
  · obtain ⟨f, hf, hc⟩ := List.mem_flatMap.1 hc
    exact (h.fr.2 f hf).mo.all c hc
theorem docB.weight {n : Nat} {y : Dc} (h : docB n y) (hn : n ≤ 1000000) : weightI y ≤ 4611686018427387904 := by
  have ha := h.all hn
  have h1 : sumW wFr y.f13 ≤ y.f13.length * 2000032 := sumW_le fun f hf => by
    have h1 := (h.fr.2 f hf).al.2
    have h2 := (h.fr.2 f hf).da.2
    unfold wFr
    omega
  have h2 : sumW wCh (allCh y) ≤ (allCh y).length * 1000008 := sumW_le fun c hc => by
    have h1 := (ha.2 c hc).2.2
    have h2 := name_size (ha.2 c hc).1
    unfold wCh
    omega
  have h3 := h.fr.1
  have h4 := h.pr.2
  have h5 := h.ex.2
  have h6 := h.xm.2
  have h7 := ha.1
  unfold weightI
  omega
end Go.Proofs.Ythkocpcjcpohcaa.P
end
