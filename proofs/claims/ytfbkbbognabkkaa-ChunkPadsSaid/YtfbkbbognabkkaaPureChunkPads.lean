/- A byte that fills up has to be nothing: one that is another thing is told. -/
import Derived.Test.YtfbkbbognabkkaaChunk4
import Derived.Test.YtfbkbbognabkkaaMark
namespace Go.Proofs.Ytfbkbbognabkkaa.Pure
open Go Go.RowKit Go.Proofs.Ytfbkbbognabkkaa.P Go.Proofs.YtfbkbbognabkkaaW.PrintWords Go.Proofs.YtfbkbbognabkkaaW.PrintLast Go.Proofs.YtfbkbbognabkkaaW.PrintMore Go.Proofs.Ytfbkbbognabkkaa.U
set_option linter.unusedVariables false
set_option linter.unusedSimpArgs false
attribute [local go_sem] max2_int min2_int max_two min_two max_three min_three max_four min_four
def abcd : ByteArray := ⟨#[97, 98, 99, 100]⟩
theorem abcd_ok : okName abcd = true := by decide +kernel
theorem pads_one {l : List Int} (c : Int) (h0 : 0 ≤ c) (h1 : c ≤ 255) (hb : Bytes l) (hl : l.length ≤ 300) (ho : l.length % 2 = 1) :
    Bytes ((lay [⟨abcd, l⟩]).set ((lay [⟨abcd, l⟩]).length - 1) c) ∧ inner ((lay [⟨abcd, l⟩]).set ((lay [⟨abcd, l⟩]).length - 1) c).length ((lay [⟨abcd, l⟩]).set ((lay [⟨abcd, l⟩]).length - 1) c) [] = if c = 0 then ([⟨abcd, l⟩], 0) else ([], 3) := by
  have hn : (bytesOf abcd).length = 4 := rfl
  have hl4 := bytes_len 4 (l.length : Int)
  have e0 : lay [⟨abcd, l⟩] = (bytesOf abcd ++ bytes 4 l.length ++ l) ++ [0] := by simp only [lay, layOne, pad, if_pos ho, List.append_nil]
  have hlen : (bytesOf abcd ++ bytes 4 l.length ++ l).length = 8 + l.length := by simp only [List.length_append, hn, hl4]
  have e1 : (lay [⟨abcd, l⟩]).set ((lay [⟨abcd, l⟩]).length - 1) c = (bytesOf abcd ++ bytes 4 l.length ++ l) ++ [c] := by
    rw [e0, List.length_append, List.length_singleton, Nat.add_sub_cancel, List.set_append_right _ _ (Nat.le_refl _), Nat.sub_self]
    rfl
  rw [e1]
  have hby : Bytes ((bytesOf abcd ++ bytes 4 l.length ++ l) ++ [c]) := (((bytesOf_bytes _).app (bytes_bytes 4 _)).app hb).app (fun x hx => by rw [List.mem_singleton.1 hx]; omega)
  refine ⟨hby, ?_⟩
  by_cases cz : c = 0
  · rw [if_pos cz, cz, ← e0, inner_lay _ _ [] (fun x hx => by rw [List.mem_singleton.1 hx]; exact abcd_ok) (fun x hx => by rw [List.mem_singleton.1 hx]; exact ⟨hb, by show l.length < _; omega⟩) (Nat.le_refl _)]
    rfl
  rw [if_neg cz]
  obtain ⟨b, hbe⟩ : ∃ b, b = (bytesOf abcd ++ bytes 4 l.length ++ l) ++ [c] := ⟨_, rfl⟩
  have e2 : b = bytesOf abcd ++ (bytes 4 l.length ++ (l ++ [c])) := by rw [hbe]; simp only [List.append_assoc]
  have hbl : b.length = 9 + l.length := by rw [hbe, List.length_append, hlen, List.length_singleton]; omega
  rw [← hbe]
  have t1 : b.take 4 = bytesOf abcd := by rw [e2, take_left hn]
  have t2 : num ((b.drop 4).take 4) = l.length := by
    rw [e2, drop_left hn, take_left hl4]
    exact num_bytes 4 _ (by omega) (by rw [show (256 : Int) ^ 4 = 4294967296 by decide]; omega)
  have t3 : rd b (8 + (l.length : Int)) = c := by
    rw [show (8 : Int) + (l.length : Int) = ((8 + l.length : Nat) : Int) by omega, rd_nat (by omega)]
    have : b[8 + l.length]'(by omega) = ((bytesOf abcd ++ bytes 4 l.length ++ l) ++ [c])[8 + l.length]'(by rw [← hbe]; omega) := by simp only [hbe]
    rw [this, List.getElem_append_right (by omega)]
    simp
  have hone : one b = no 3 := one_pad (by rw [t1, strOf_bytesOf, abcd_ok]; decide) (by rw [t2]; omega) (by rw [t2]; omega) (by rw [t2]; omega) (by rw [t2, t3]; exact cz)
  rw [hbl, show 9 + l.length = (8 + l.length) + 1 by omega, inner, if_neg (by omega), hone]
  rfl
theorem lit_C {w : World} {h : Nat} {nm : ByteArray} {A : Option Addr} {c : Nat} {l : List Int} (hC : Kd.C (Kd.int .u8) w A l.length l) (hc : l.length ≤ c) (h2 : w.heap[h]? = some (.cells #[.string nm, .slice A l.length c] 35 (0, 0))) : Kd.C k35 w (some ⟨h, 0, none⟩) 1 [(⟨nm, l⟩ : Ch)] := by
  have ha : ∀ (g i : Nat), (⟨g, 0, none⟩ : Addr).add i = ⟨g, i, none⟩ := fun g i => by unfold Addr.add; split <;> simp_all
  refine ⟨rfl, by decide, fun _ => ⟨_, rfl, fun j p hj => ?_⟩⟩
  obtain rfl : j = 0 := by have := (List.getElem?_eq_some_iff.1 hj).1; simp at this; omega
  injection hj with hj
  subst hj
  refine ⟨[.string nm, .slice A l.length c], rfl, k35_mk w _ (A1 := A) (c1 := c) hc hC, fun i u hu => ?_⟩
  rw [ha, cell_of_row _ _ _ _ _ _ h2, Nat.zero_mul, Nat.zero_add]
  simpa using hu
set_option maxHeartbeats 800000 in
set_option maxRecDepth 100000 in
theorem ChunkPads (A : Option Addr) (c : Nat) (l : List Int) (b : Int) (w : World)
    (h1 : l.length ≤ maxLen) (h2 : l.length * 1 ≤ 140737488351232) (h3 : ∀ y ∈ l, (Lit.int .u8 y).wf = true) (h4 : (Lit.int .u8 b).wf = true)
    (g0 : Kd.C (Kd.int .u8) w A l.length l) (l0 : l.length ≤ c) :
    Calls Try.prog 7 #[.slice A l.length c, .int .u8 b] w fun e w' => e = .returned (.bool true) ∧ Below w.heap.size w w' := by
  have hb := bytes_wf h3
  have hc := wf_u8 h4
  clear h1 h2 h3 h4
  have G0 := Aside0.mk g0; clear g0
  have L0 := Aside0.mk l0; clear l0
  by_cases c1 : 300 < l.length
  · have t1 : decide ((300 : Int) < l.length) = true := decide_eq_true (by omega)
    go_enter Try.func7, Try.ntmps7
    go_wp2_with fail
    refine (marquetrylaw24_answers.calls true _ rfl).mono ?_; rintro e w7 ⟨rfl, hb⟩
    have HB7 := Aside0.mk hb; clear hb
    go_wp2_with fail
    go_ret
    exact ⟨rfl, HB7.out⟩
  have t1 : decide ((300 : Int) < l.length) = false := decide_eq_false (by omega)
  by_cases c2 : l.length % 2 = 0
  · have t2 : ((l.length : Int) % 2 == 0) = true := by simp; omega
    clear c2
    go_enter Try.func7, Try.ntmps7
    go_wp2_with fail
    refine (marquetrylaw24_answers.calls true _ rfl).mono ?_; rintro e w7 ⟨rfl, hb⟩
    have HB7 := Aside0.mk hb; clear hb
    go_wp2_with fail
    go_ret
    exact ⟨rfl, HB7.out⟩
  have t2 : ((l.length : Int) % 2 == 0) = false := by simp; omega
  obtain ⟨p1, p2⟩ := pads_one b hc.1 hc.2 hb (by omega) (by omega)
  obtain ⟨kl, hkl⟩ := (ref_Lay_ev (l := [⟨abcd, l⟩]) (by simp only [weight, List.length_cons, List.length_nil]; have : abcd.size = 4 := rfl; omega)).rounds
  have hL : (lay [⟨abcd, l⟩]).length = l.length + 9 := by
    simp only [lay, List.append_nil, layOne_len]
    have : abcd.size = 4 := rfl
    omega
  obtain ⟨L, hLe⟩ : ∃ L, L = lay [⟨abcd, l⟩] := ⟨_, rfl⟩
  rw [← hLe] at p1 p2 hkl hL
  clear hLe
  have hi := chunk_Inner_ev p1 (by rw [List.length_set]; omega)
  rw [p2] at hi
  obtain ⟨ki, hki⟩ := hi.rounds
  have hs1 := (St.refl w).alloc #[.string abcd, .slice A l.length c] 35
  have hC := lit_C (Kd.C_below G0.out hs1.below) L0.out hs1.blk
  have HC := Aside0.mk hC; clear hC
  have HS := Aside0.mk hs1; clear hs1
  have KL := Aside0.mk hkl; clear hkl
  have KI := Aside0.mk hki; clear hki
  have HL := Aside0.mk hL; clear hL
  have HB := Aside0.mk hc; clear hc
  have c1 := Aside0.mk c1
  have c2 := Aside0.mk c2
  clear p1 p2 hi hb G0
  go_enter Try.func7, Try.ntmps7
  go_wp2_with fail
  refine (marquetryref24_Lay.calls kl (some ⟨w.heap.size, 0, none⟩) 1 [⟨abcd, l⟩] L _ HC.out (Nat.le_refl 1) KL.out).mono ?_; rintro e w1 ⟨v, rfl, ho, hb⟩
  have hs := HS.out.newRow hb (Kd.own_of_R ho) (Nat.le_refl _)
  obtain ⟨B, cB, rfl⟩ := Kd.R_slice ho
  obtain ⟨g, hg⟩ := hs.rowForm (by have := HL.out; omega)
  subst hg
  have hat := hs.rowAt ((L.length : Int) - 1) (by have := HL.out; omega) (by omega)
  have hset := hs.rowSet ((L.length : Int) - 1) b
  have q1 : 9 ≤ L.length := by have := HL.out; omega
  have q2 : L.length ≤ 309 := by have := HL.out; have := c1.out; omega
  rw [show ((L.length : Int) - 1).toNat = L.length - 1 by omega] at hset hat
  have hat1 := hat.1
  have hat2 := hat.2
  obtain ⟨M, hM⟩ : ∃ M, M = L.set (L.length - 1) b := ⟨_, rfl⟩
  have hMl : M.length = L.length := by rw [hM, List.length_set]
  have hki := KI.out
  rw [← hM] at hset hki
  have KI := Aside0.mk hki; clear hki hM
  have HM := Aside0.mk hMl; clear hMl
  have HS2 := Aside0.mk hset; clear hset hs ho hb hat
  go_wp2_with fail
  have r2 := Kd.R_V (base' := (w1.setCell ⟨g, L.length - 1, none⟩ (.int .u8 b)).heap.size) HS2.out.toR
  have hs3 := HS2.out.below
  rw [← HM.out] at r2 hs3 ⊢
  have HS3 := Aside0.mk hs3; clear hs3
  have R2 := Aside0.mk r2; clear r2
  by_cases cz : b = 0
  · have ki := KI.out
    rw [if_pos cz] at ki
    have KI2 := Aside0.mk ki; clear ki
    have t3 : (b == 0) = true := by simp [cz]
    refine (chunk_Inner.calls ki _ (some ⟨g, 0, none⟩) cB M _ _ _ R2.out KI2.out).mono ?_; rintro e w2 ⟨v, rfl, ho, hb⟩
    have HB2 := Aside0.mk (below_then HS3.out HS3.out.size hb)
    obtain ⟨Z, cz', rfl⟩ := Kd.R_slice (Kd.S_R ho)
    clear ho hb
    go_wp2_with fail
    refine (marquetrylaw24_answers.calls true _ rfl).mono ?_; rintro e w7 ⟨rfl, hb⟩
    have HB7 := Aside0.mk (below_then HB2.out HB2.out.size hb); clear hb
    go_wp2_with fail
    go_ret
    exact ⟨rfl, HB7.out⟩
  · have ki := KI.out
    rw [if_neg cz] at ki
    have KI2 := Aside0.mk ki; clear ki
    have t3 : (b == 0) = false := by simp [cz]
    refine (chunk_Inner.calls ki _ (some ⟨g, 0, none⟩) cB M _ _ _ R2.out KI2.out).mono ?_; rintro e w2 ⟨v, rfl, ho, hb⟩
    have HB2 := Aside0.mk (below_then HS3.out HS3.out.size hb)
    obtain ⟨Z, cz', rfl⟩ := Kd.R_slice (Kd.S_R ho)
    clear ho hb
    go_wp2_with fail
    refine (marquetrylaw24_answers.calls true _ rfl).mono ?_; rintro e w7 ⟨rfl, hb⟩
    have HB7 := Aside0.mk (below_then HB2.out HB2.out.size hb); clear hb
    go_wp2_with fail
    go_ret
    exact ⟨rfl, HB7.out⟩
end Go.Proofs.Ytfbkbbognabkkaa.Pure
