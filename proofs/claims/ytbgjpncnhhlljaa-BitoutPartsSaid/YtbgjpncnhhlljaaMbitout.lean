/- A writer of bits: what its ways come to. -/
import Derived.Test.YtbgjpncnhhlljaaSl
import Derived.Test.YtbgjpncnhhlljaaPack
import Derived.WalkSpells
import Derived.Deep.RegionHeld3
namespace Go.Proofs.Ytbgjpncnhhlljaa.P
open Go Go.RowKit Go.Proofs.YtbgjpncnhhlljaaW.PrintWords Go.Proofs.YtbgjpncnhhlljaaW.PrintLast Go.Proofs.YtbgjpncnhhlljaaW.PrintMore Go.Proofs.Ytbgjpncnhhlljaa.Pure Go.Proofs.Ytbgjpncnhhlljaa.U
set_option linter.unusedVariables false
set_option linter.unusedSimpArgs false
attribute [local go_sem] max2_int min2_int max_two min_two max_three min_three max_four min_four

/-- A writer at block g: its bits. -/
def writerA (g : Nat) (L : List Int) : Asrt := Asrt.ex fun v => Asrt.blk g 42 #[v, .int .i64 L.length] * Asrt.row 5 1 v (pack L).length (nums .u8 (pack L))
theorem writerA_open {w0 w : World} {g : Nat} {L : List Int} {r : Asrt} (h : St w0 w (writerA g L * r)) : ∃ A c, St w0 w (Asrt.blk g 42 #[.slice A (pack L).length c, .int .i64 L.length] * (Asrt.row 5 1 (.slice A (pack L).length c) (pack L).length (nums .u8 (pack L)) * r)) := by
  obtain ⟨v, hv⟩ := h.ex
  obtain ⟨A, c, e⟩ := own_slice hv.assoc.swap.row
  subst e
  exact ⟨A, c, hv.assoc⟩
theorem writerA_shut {w0 w : World} {g : Nat} {L : List Int} {v : Value} {r : Asrt} (h : St w0 w (Asrt.blk g 42 #[v, .int .i64 L.length] * (Asrt.row 5 1 v (pack L).length (nums .u8 (pack L)) * r))) : St w0 w (writerA g L * r) := St.toEx (f := fun v => Asrt.blk g 42 #[v, .int .i64 L.length] * Asrt.row 5 1 v (pack L).length (nums .u8 (pack L))) v h.assoc'

set_option maxHeartbeats 1000000 in
set_option maxRecDepth 100000 in
theorem bitout_New (r : Asrt) (w0 w : World) (hs : St w0 w r) :
    Calls Try.prog 8 #[] w fun e w' => ∃ g, e = .returned (.pointer (some ⟨g, 0, none⟩)) ∧ St w0 w' (writerA g [] * r) := by
  have HS := Aside0.mk hs; clear hs
  go_enter Try.func8, Try.ntmps8
  go_wp2
  go_ret
  exact ⟨_, rfl, writerA_shut (v := .slice none 0 0) ((HS.out.rowNil 5 1).alloc #[.slice none 0 0, .int .i64 0] 42)⟩
set_option maxHeartbeats 1000000 in
set_option maxRecDepth 100000 in
theorem bitout_Len_none (w : World) :
    Calls Try.prog 11 #[.pointer none] w fun e w' => e = .returned (.int .i64 0) ∧ w = w' := by
  go_enter Try.func11, Try.ntmps11
  go_wp2
  go_ret
  exact ⟨rfl, rfl⟩
set_option maxHeartbeats 1000000 in
set_option maxRecDepth 100000 in
theorem bitout_Len (g : Nat) (L : List Int) (r : Asrt) (w0 w : World) (hs : St w0 w (writerA g L * r)) :
    Calls Try.prog 11 #[.pointer (some ⟨g, 0, none⟩)] w fun e w' => e = .returned (.int .i64 L.length) ∧ w = w' := by
  obtain ⟨A, c, hb⟩ := writerA_open hs
  have c1 := (hb.cell 1).trans rfl
  clear hs hb
  go_enter Try.func11, Try.ntmps11
  go_wp2
  go_ret
  exact ⟨rfl, rfl⟩
set_option maxHeartbeats 1000000 in
set_option maxRecDepth 100000 in
theorem bitout_Bytes_none (w : World) :
    Calls Try.prog 10 #[.pointer none] w fun e w' => e = .returned (.slice none 0 0) ∧ w = w' := by
  go_enter Try.func10, Try.ntmps10
  go_wp2
  go_ret
  exact ⟨rfl, rfl⟩
set_option maxHeartbeats 1000000 in
set_option maxRecDepth 100000 in
/-- What is cloned stands by itself. -/
theorem bytes_Clone (A : Option Addr) (n c : Nat) (b : List Int) (r : Asrt) (w0 w : World) (hr : ReadsInt w .u8 A n b) (hn : n ≤ 140737488351232) (hs : St w0 w r) :
    Calls Try.prog 16 #[.slice A n c] w fun e w' => ∃ B c', e = .returned (.slice B n c') ∧ St w0 w' (Asrt.row 5 1 (.slice B n c') n (nums .u8 b) * r) := by
  have HS := Aside0.mk hs; clear hs
  have HR := Aside0.mk hr; clear hr
  have hnil := fun (w : World) => Lib.run_eql_slice_nil (P := Try.prog) w 27 5 A n c 0 0 Try.underlying27
  rcases A with _ | ad
  · have h0 : n = 0 := by
      rcases Nat.eq_zero_or_pos n with h0 | h0
      · exact h0
      · obtain ⟨ad, h, _⟩ := HR.out.2.2 h0
        cases h
    subst h0
    obtain rfl : b = [] := List.eq_nil_of_length_eq_zero HR.out.1
    go_enter Try.func16, Try.ntmps16
    go_wp2_with fail
    go_ret
    exact ⟨none, 0, rfl, HS.out.rowNil 5 1⟩
  · have HS2 := Aside0.mk (HS.out.allocRow 5 .u8 [] (by decide)); clear HS
    go_enter Try.func16, Try.ntmps16
    go_wp2_with (at_builtin; refine St.append_row rfl (.tmp 5) (.tmp 6) 27 5 .u8 1 rfl Try.underlying27 (by kernel_rfl) (by decide) (.slice (some ⟨w.heap.size, 0, none⟩) 0 0) 0 [] b (some ad) n c rfl rfl HS2.out (HR.out.allocS _) (by omega) ?_; intro A2 c2 v1 hs1; rw [Nat.zero_add] at hs1 ⊢; have HS1 := Aside0.mk hs1; clear hs1)
    go_ret
    exact ⟨A2, c2, rfl, HS1.out⟩
set_option maxHeartbeats 1000000 in
set_option maxRecDepth 100000 in
theorem bitout_Bytes (g : Nat) (L : List Int) (r : Asrt) (w0 w : World) (hl : L.length ≤ 140737488351232) (hs : St w0 w (writerA g L * r)) :
    Calls Try.prog 10 #[.pointer (some ⟨g, 0, none⟩)] w fun e w' => ∃ B c', e = .returned (.slice B (pack L).length c') ∧ St w0 w' (Asrt.row 5 1 (.slice B (pack L).length c') (pack L).length (nums .u8 (pack L)) * (writerA g L * r)) := by
  obtain ⟨A, c, hb⟩ := writerA_open hs
  have c0 := (hb.cell 0).trans rfl
  have HR := Aside0.mk (rowReads hb.swap)
  have HS := Aside0.mk hs; clear hs hb
  have hp := pack_length L
  have HP := Aside0.mk hp; clear hp
  go_enter Try.func10, Try.ntmps10
  go_wp2_with fail
  refine (bytes_Clone A _ c (pack L) _ _ _ HR.out (by rw [HP.out]; omega) HS.out).mono ?_; rintro e w1 ⟨B, c', rfl, hs1⟩
  have HS1 := Aside0.mk hs1; clear hs1
  go_wp2_with fail
  go_ret
  exact ⟨B, c', rfl, HS1.out⟩

set_option maxHeartbeats 4000000 in
set_option maxRecDepth 100000 in
/-- A bit more. -/
theorem bitout_one (g : Nat) (L : List Int) (x : Int) (r : Asrt) (w0 w : World) (hx : 0 ≤ x ∧ x ≤ 4294967295) (hL : Bin L) (hl : L.length ≤ 1000000000000) (hs : St w0 w (writerA g L * r)) :
    Calls Try.prog 15 #[.pointer (some ⟨g, 0, none⟩), .int .u32 x] w fun e w' => e = .returned (.tuple #[]) ∧ St w0 w' (writerA g (L ++ [x % 2]) * r) := by
  have hand : Go.bits .and .u32 x 1 = x % 2 := bits_mask .u32 32 (by decide) (fun n h0 h1 => by simp [IntKind.wrap, IntKind.bits, IntKind.signed]; omega) 1 (by omega) x hx.1 (by omega)
  have hx2 : x % 2 = 0 ∨ x % 2 = 1 := by omega
  obtain ⟨A, c, hb⟩ := writerA_open hs
  have c0 := (hb.cell 0).trans rfl
  have c1 := (hb.cell 1).trans rfl
  have f0 := hb.frozen 0
  have hp := pack_length L
  have hrl := room_length L
  have hps := pack_snoc L (x % 2)
  have hlast := room_last_bd hL
  obtain ⟨y, hy⟩ : ∃ y, x % 2 = y := ⟨_, rfl⟩
  rw [hy] at hx2 hps hand ⊢
  obtain ⟨old, hold⟩ : ∃ old, rd (room L) ((L.length / 8 : Nat) : Int) = old := ⟨_, rfl⟩
  rw [hold] at hps hlast
  have hq8 : (2 : Int) ^ (L.length % 8) ≤ 128 := by have := pow_le (a := L.length % 8) (b := 7) (by omega); omega
  have hqp := pow_pos (L.length % 8)
  have hor : Go.bits .or .u8 old (IntKind.u8.wrap (y * 2 ^ ((L.length : Int) % 8).toNat)) = old + y * 2 ^ (L.length % 8) := by
    rw [show ((L.length : Int) % 8).toNat = L.length % 8 by omega]
    have hm : 0 ≤ y * 2 ^ (L.length % 8) ∧ y * 2 ^ (L.length % 8) ≤ 128 := by rcases hx2 with rfl | rfl <;> omega
    rw [show IntKind.u8.wrap (y * 2 ^ (L.length % 8)) = y * 2 ^ (L.length % 8) by simp [IntKind.wrap, IntKind.bits, IntKind.signed]; omega]
    exact or_u8 (i := L.length % 8) (by omega) hlast.1 hlast.2 hm.1 (by simp) (by omega)
  have HOR := Aside0.mk hor; clear hor hq8 hqp hlast
  have HY := Aside0.mk hy; clear hy
  have HPS := Aside0.mk hps; clear hps
  have HOLD := Aside0.mk hold; clear hold
  have HL := Aside0.mk hL; clear hL
  have HB := Aside0.mk hb; clear hs hb
  by_cases h8 : L.length % 8 = 0
  · have t0 : (((L.length : Int) % 8) == 0) = true := by simp; omega
    have hroom : room L = pack L ++ [0] := if_pos h8
    have hlen : (pack L).length + 1 = L.length / 8 + 1 := by omega
    have HS0 := Aside0.mk HB.out.swap
    have hbd : ((pack L).length + 1) * 1 ≤ 140737488355328 := by omega
    have HL1 := Aside0.mk hlen; clear hlen
    have HRO := Aside0.mk hroom; clear hroom
    have HRL := Aside0.mk hrl; clear hrl
    have HP := Aside0.mk hp; clear hp h8
    go_enter Try.func15, Try.ntmps15
    go_wp2_with (at_builtin; refine St.append_num rfl (.tmp 14) (.tmp 15) 27 5 .u8 1 rfl Try.underlying27 (by kernel_rfl) (by decide) _ (pack L).length (pack L) 0 rfl rfl HS0.out hbd ?_; intro A1 k1 w1 hs1; have d0 := hs1.swap.cell 0; have d1 := hs1.swap.cell 1; have e0 := hs1.swap.frozen 0; have HS1 := Aside0.mk hs1; clear hs1)
    have hs2 := HS1.out.swap.set 0 (.slice A1 ((pack L).length + 1) k1)
    rw [HL1.out, ← HRO.out] at hs2
    rw [HL1.out]
    clear d0 d1 e0 HS1 HS0 HB c0 c1 f0 t0
    have hs2 : St w0 (w1.setCell ⟨g, 0, none⟩ (.slice A1 (L.length / 8 + 1) k1)) (Asrt.blk g 42 #[.slice A1 (L.length / 8 + 1) k1, .int .i64 L.length] * (Asrt.row 5 1 (.slice A1 (L.length / 8 + 1) k1) (L.length / 8 + 1) (nums .u8 (room L)) * r)) := hs2
    generalize w1.setCell ⟨g, 0, none⟩ (.slice A1 (L.length / 8 + 1) k1) = W at *
    obtain ⟨h, hA⟩ := hs2.swap.rowForm (by omega)
    subst hA
    have d0 := (hs2.cell 0).trans rfl
    have d1 := (hs2.cell 1).trans rfl
    have e1 := hs2.frozen 1
    have hat := hs2.swap.rowAt ((L.length / 8 : Nat) : Int) (by omega) (by omega)
    rw [HOLD.out, show (((L.length / 8 : Nat) : Int)).toNat = ((L.length : Int) / 8).toNat by omega] at hat
    have hcell := hat.1
    have hfr := hat.2
    clear hat
    have b0 : (0 : Int) ≤ (L.length : Int) / 8 := by omega
    have b1 : (L.length : Int) / 8 < (L.length : Int) / 8 + 1 := by omega
    have ew : IntKind.i64.wrap ((L.length : Int) / 8) = (L.length : Int) / 8 := wi64 (by omega) (by omega)
    have hne := hs2.blkRowNe
    have hne2 : ¬ (h = g) := fun e => hne e.symm
    have em : Int.tmod (L.length : Int) 8 = (L.length : Int) % 8 := Int.tmod_eq_emod_of_nonneg (by omega)
    have em0 : (0 : Int) ≤ (L.length : Int) % 8 := by omega
    have wy : IntKind.u8.wrap y = y := by simp [IntKind.wrap, IntKind.bits, IntKind.signed]; omega
    have HS2 := Aside0.mk hs2; clear hs2
    go_wp2_with fail
    go_still_tail 22, (by kernel_rfl)
    rw [HOR.out]
    go_wp2_with fail
    go_end0
    refine ⟨rfl, ?_⟩
    have hst := ((HS2.out.swap.rowSet ((L.length / 8 : Nat) : Int) (old + y * 2 ^ (L.length % 8))).swap).set 1 (.int .i64 ((L.length : Int) + 1))
    rw [Int.toNat_natCast, ← HPS.out] at hst
    have e9 : (pack (L ++ [y])).length = L.length / 8 + 1 := by rw [HPS.out, List.length_set, HRL.out]
    have e8 : ((L ++ [y]).length : Int) = (L.length : Int) + 1 := by simp
    refine writerA_shut (v := .slice (some ⟨h, 0, none⟩) (L.length / 8 + 1) k1) ?_
    rw [e9, e8]
    exact hst.drew
  · have t0 : (((L.length : Int) % 8) == 0) = false := by simp; omega
    have hroom : room L = pack L := if_neg h8
    have hlen : (pack L).length = L.length / 8 + 1 := by omega
    have hs2 := HB.out
    rw [hlen, ← hroom] at hs2
    rw [hlen] at c0
    have HL1 := Aside0.mk hlen; clear hlen
    have HRO := Aside0.mk hroom; clear hroom
    have HRL := Aside0.mk hrl; clear hrl
    have HP := Aside0.mk hp; clear hp
    clear HB c0 c1 f0
    obtain ⟨h, hA⟩ := hs2.swap.rowForm (by omega)
    subst hA
    have d0 := (hs2.cell 0).trans rfl
    have d1 := (hs2.cell 1).trans rfl
    have e1 := hs2.frozen 1
    have hat := hs2.swap.rowAt ((L.length / 8 : Nat) : Int) (by omega) (by omega)
    rw [HOLD.out, show (((L.length / 8 : Nat) : Int)).toNat = ((L.length : Int) / 8).toNat by omega] at hat
    have hcell := hat.1
    have hfr := hat.2
    clear hat
    have b0 : (0 : Int) ≤ (L.length : Int) / 8 := by omega
    have b1 : (L.length : Int) / 8 < (L.length : Int) / 8 + 1 := by omega
    have ew : IntKind.i64.wrap ((L.length : Int) / 8) = (L.length : Int) / 8 := wi64 (by omega) (by omega)
    have hne := hs2.blkRowNe
    have hne2 : ¬ (h = g) := fun e => hne e.symm
    have em : Int.tmod (L.length : Int) 8 = (L.length : Int) % 8 := Int.tmod_eq_emod_of_nonneg (by omega)
    have em0 : (0 : Int) ≤ (L.length : Int) % 8 := by omega
    have wy : IntKind.u8.wrap y = y := by simp [IntKind.wrap, IntKind.bits, IntKind.signed]; omega
    have HS2 := Aside0.mk hs2; clear hs2
    go_enter Try.func15, Try.ntmps15
    go_wp2_with fail
    go_still_tail 22, (by kernel_rfl)
    rw [HOR.out]
    go_wp2_with fail
    go_end0
    refine ⟨rfl, ?_⟩
    have hst := ((HS2.out.swap.rowSet ((L.length / 8 : Nat) : Int) (old + y * 2 ^ (L.length % 8))).swap).set 1 (.int .i64 ((L.length : Int) + 1))
    rw [Int.toNat_natCast, ← HPS.out] at hst
    have e9 : (pack (L ++ [y])).length = L.length / 8 + 1 := by rw [HPS.out, List.length_set, HRL.out]
    have e8 : ((L ++ [y]).length : Int) = (L.length : Int) + 1 := by simp
    refine writerA_shut (v := .slice (some ⟨h, 0, none⟩) (L.length / 8 + 1) c) ?_
    rw [e9, e8]
    exact hst.drew

/-- A number's lowest bits. -/
def bitsV (v : Int) (n : Nat) : List Int := (List.range n).map fun k => v / 2 ^ k % 2
theorem bitsV_length (v : Int) (n : Nat) : (bitsV v n).length = n := by simp [bitsV]
theorem bitsV_succ (v : Int) (n : Nat) : bitsV v (n + 1) = bitsV v n ++ [v / 2 ^ n % 2] := by simp [bitsV, List.range_succ]
theorem bitsV_bin (v : Int) (n : Nat) : Bin (bitsV v n) := by
  intro y hy
  obtain ⟨k, _, rfl⟩ := List.mem_map.1 hy
  omega
set_option maxHeartbeats 1000000 in
set_option maxRecDepth 100000 in
theorem bitout_Bits_none (v n : Int) (w : World) :
    Calls Try.prog 9 #[.pointer none, .int .u32 v, .int .i64 n] w fun e w' => e = .returned (.bool false) ∧ w = w' := by
  go_enter Try.func9, Try.ntmps9
  go_wp2
  go_ret
  exact ⟨rfl, rfl⟩
set_option maxHeartbeats 1000000 in
set_option maxRecDepth 100000 in
theorem bitout_Bits_no (g : Nat) (v n : Int) (w : World) (hv : 0 ≤ v ∧ v ≤ 4294967295) (h : n < 0 ∨ 32 < n ∨ 2 ^ n.toNat ≤ v) :
    Calls Try.prog 9 #[.pointer (some ⟨g, 0, none⟩), .int .u32 v, .int .i64 n] w fun e w' => e = .returned (.bool false) ∧ w = w' := by
  by_cases h0 : n < 0
  · have t0 : decide (n < 0) = true := decide_eq_true h0
    go_enter Try.func9, Try.ntmps9
    go_wp2
    go_ret
    exact ⟨rfl, rfl⟩
  · have t0 : decide (n < 0) = false := decide_eq_false h0
    by_cases h1 : 32 < n
    · have t1 : decide (32 < n) = true := decide_eq_true h1
      go_enter Try.func9, Try.ntmps9
      go_wp2
      go_ret
      exact ⟨rfl, rfl⟩
    · have t1 : decide (32 < n) = false := decide_eq_false h1
      have hn0 : 0 ≤ n := by omega
      have hn1 : n ≤ 32 := by omega
      have hle : 2 ^ n.toNat ≤ v := by omega
      have hq : 1 ≤ v / 2 ^ n.toNat := by
        have := pow_pos n.toNat
        rw [Int.le_ediv_iff_mul_le this]
        omega
      have t2 : (v / 2 ^ n.toNat != 0) = true := by simp; omega
      clear h hle
      go_enter Try.func9, Try.ntmps9
      go_wp2
      go_ret
      exact ⟨rfl, rfl⟩
set_option maxHeartbeats 4000000 in
set_option maxRecDepth 100000 in
theorem bitout_Bits_ok (g : Nat) (L : List Int) (v n : Int) (r : Asrt) (w0 w : World) (hv : 0 ≤ v ∧ v ≤ 4294967295) (h0 : 0 ≤ n) (h1 : n ≤ 32) (hn : v < 2 ^ n.toNat) (hL : Bin L) (hl : L.length ≤ 900000000000) (hs : St w0 w (writerA g L * r)) :
    Calls Try.prog 9 #[.pointer (some ⟨g, 0, none⟩), .int .u32 v, .int .i64 n] w fun e w' => e = .returned (.bool true) ∧ St w0 w' (writerA g (L ++ bitsV v n.toNat) * r) := by
  obtain ⟨K, rfl⟩ := Int.eq_ofNat_of_zero_le h0
  rw [Int.toNat_natCast] at *
  have t0 : decide ((K : Int) < 0) = false := decide_eq_false (by omega)
  have t1 : decide (32 < (K : Int)) = false := decide_eq_false (by omega)
  have t2 : (v / 2 ^ K != 0) = false := by rw [Int.ediv_eq_zero_of_lt hv.1 hn]; rfl
  have HL := Aside0.mk hL; clear hL hn
  have HS := Aside0.mk hs; clear hs
  go_enter Try.func9, Try.ntmps9
  go_wp2_with fail
  go_loopw [26] (fun i wr => ∃ k : Nat, k ≤ K ∧ i = .int .i64 k ∧ St w0 wr (writerA g (L ++ bitsV v k) * r)) (fun i _ => K - (intOf i).toNat)
  case atStart => exact ⟨0, by omega, rfl, by simpa [bitsV] using HS.out⟩
  case round =>
    obtain ⟨k, hk, rfl, hsk⟩ := hrel
    clear HS
    have HS := Aside0.mk hsk; clear hsk
    by_cases hlt : k < K
    · have tl : decide ((k : Int) < K) = true := decide_eq_true (by omega)
      have hx : 0 ≤ v / 2 ^ k ∧ v / 2 ^ k ≤ 4294967295 := ⟨Int.ediv_nonneg hv.1 (by have := pow_pos k; omega), by have := Int.ediv_le_self (2 ^ k) hv.1; omega⟩
      go_wp2_with fail
      refine (bitout_one g (L ++ bitsV v k) (v / 2 ^ k) _ _ _ hx (HL.out.app (bitsV_bin v k)) (by rw [List.length_append, bitsV_length]; omega) HS.out).mono ?_; rintro e w3 ⟨rfl, hs3⟩
      rw [List.append_assoc, ← bitsV_succ] at hs3
      have HS3 := Aside0.mk hs3; clear hs3
      go_wp2_with fail
      go_roundw
      case rel => exact ⟨k + 1, by omega, by go_num, HS3.out⟩
      case measure => simp [intOf]; omega
    · have tl : decide ((k : Int) < K) = false := decide_eq_false (by omega)
      obtain rfl : k = K := by omega
      go_wp2_with fail
      go_ret
      exact ⟨rfl, HS.out⟩
set_option maxHeartbeats 1000000 in
set_option maxRecDepth 100000 in
theorem bitout_Join_none (p : Option Addr) (w : World) :
    Calls Try.prog 14 #[.pointer none, .pointer p] w fun e w' => e = .returned (.tuple #[]) ∧ w = w' := by
  go_enter Try.func14, Try.ntmps14
  go_wp2
  refine bodyPost_ret (results_none rfl _ _ _) rfl ?_
  exact ⟨rfl, rfl⟩
set_option maxHeartbeats 1000000 in
set_option maxRecDepth 100000 in
theorem bitout_Join_no (g : Nat) (w : World) :
    Calls Try.prog 14 #[.pointer (some ⟨g, 0, none⟩), .pointer none] w fun e w' => e = .returned (.tuple #[]) ∧ w = w' := by
  go_enter Try.func14, Try.ntmps14
  go_wp2
  refine bodyPost_ret (results_none rfl _ _ _) rfl ?_
  exact ⟨rfl, rfl⟩

set_option maxHeartbeats 4000000 in
set_option maxRecDepth 100000 in
theorem bitout_Join_any (g g' : Nat) (L M : List Int) (A : Option Addr) (c : Nat) (r : Asrt) (w0 w : World) (hL : Bin L) (hM : Bin M) (hl : L.length + M.length ≤ 900000000000)
    (c0 : w.cell? ⟨g', 0, none⟩ = some (.slice A (pack M).length c)) (c1 : w.cell? ⟨g', 1, none⟩ = some (.int .i64 M.length)) (hr : ReadsInt w .u8 A (pack M).length (pack M)) (hs : St w0 w (writerA g L * r)) :
    Calls Try.prog 14 #[.pointer (some ⟨g, 0, none⟩), .pointer (some ⟨g', 0, none⟩)] w fun e w' => e = .returned (.tuple #[]) ∧ St w0 w' (writerA g (L ++ M) * r) := by
  have hp : (pack M).length ≤ 140737488351232 := by rw [pack_length]; omega
  have HR := Aside0.mk hr; clear hr
  have HS := Aside0.mk hs; clear hs
  have HL := Aside0.mk hL; clear hL
  have HM := Aside0.mk hM; clear hM
  go_enter Try.func14, Try.ntmps14
  go_wp2_with fail
  go_region_held3 (fun w' => w'.cell? ⟨g', 0, none⟩ = some (.slice A (pack M).length c) ∧ w'.cell? ⟨g', 1, none⟩ = some (.int .i64 M.length)) (go_keep) (first | (go_at_call 16; refine (bytes_Clone A _ c (pack M) Asrt.emp _ _ (by exact HR.out) hp (St.refl _)).mono ?_; rintro e w1 ⟨B, c', rfl, hs1⟩; have d0 := pw_cell_below hs1.below c0; have d1 := pw_cell_below hs1.below c1; have HS1 := Aside0.mk hs1; clear hs1))
  have hs2 := ((HS.out.drew.frame HS1.out).assoc.swap.drop).swap
  clear HS1 d0 d1 c0 c1
  have HS2 := Aside0.mk hs2; clear hs2 HS HR
  go_wp2_with fail
  go_loopw [23] (fun i wr => ∃ k : Nat, k ≤ M.length ∧ i = .int .i64 k ∧ St w0 wr (writerA g (L ++ M.take k) * (Asrt.row 5 1 (.slice B (pack M).length c') (pack M).length (nums .u8 (pack M)) * r))) (fun i _ => M.length - (intOf i).toNat)
  case atStart => exact ⟨0, by omega, rfl, by simpa using HS2.out⟩
  case round =>
    obtain ⟨k, hk, rfl, hsk⟩ := hrel
    clear HS2
    by_cases hlt : k < M.length
    · have tl : decide ((k : Int) < M.length) = true := decide_eq_true (by omega)
      have hpl := pack_length M
      obtain ⟨h, hB⟩ := hsk.swap.rowForm (by omega)
      subst hB
      have hbit := pack_bit HM.out k hlt
      have hx8 := pack_bytes HM.out (rd (pack M) ((k / 8 : Nat) : Int)) (rd_mem (by omega) (by omega))
      have hcell := (hsk.swap.rowAt ((k / 8 : Nat) : Int) (by omega) (by omega)).1
      obtain ⟨x, hx⟩ : ∃ x, rd (pack M) ((k / 8 : Nat) : Int) = x := ⟨_, rfl⟩
      rw [hx] at hcell hx8 hbit
      rw [Int.toNat_natCast] at hcell
      have hpm : (k : Int) / 8 < ((pack M).length : Int) := by omega
      have hxs : 0 ≤ x / 2 ^ (k % 8) ∧ x / 2 ^ (k % 8) ≤ 255 := ⟨Int.ediv_nonneg hx8.1 (by have := pow_pos (k % 8); omega), by have := Int.ediv_le_self (2 ^ (k % 8)) hx8.1; omega⟩
      have e8 : ((k : Int) % 8).toNat = k % 8 := by omega
      have HX := Aside0.mk hx; clear hx
      have HBI := Aside0.mk hbit; clear hbit
      have HPL := Aside0.mk hpl; clear hpl
      have HSK := Aside0.mk hsk; clear hsk
      go_wp2_with fail
      refine (bitout_one g (L ++ M.take k) _ _ _ _ ⟨hxs.1, by omega⟩ (HL.out.app (fun y hy => HM.out y (List.mem_of_mem_take hy))) (by rw [List.length_append, List.length_take]; omega) HSK.out).mono ?_; rintro e w3 ⟨rfl, hs3⟩
      rw [HBI.out, List.append_assoc, ← take_snoc hlt] at hs3
      have HS3 := Aside0.mk hs3; clear hs3
      go_wp2_with fail
      go_roundw
      case rel => exact ⟨k + 1, by omega, by go_num, HS3.out⟩
      case measure => simp [intOf]; omega
    · have tl : decide ((k : Int) < M.length) = false := decide_eq_false (by omega)
      obtain rfl : k = M.length := by omega
      have hd := hsk.swap.drop
      rw [List.take_length] at hd
      have HD := Aside0.mk hd; clear hd hsk
      go_wp2_with fail
      first | (go_end0; exact ⟨rfl, HD.out⟩) | (refine bodyPost_ret (results_none rfl _ _ _) rfl ?_; exact ⟨rfl, HD.out⟩)

theorem bitout_Join (g g' : Nat) (L M : List Int) (r : Asrt) (w0 w : World) (hL : Bin L) (hM : Bin M) (hl : L.length + M.length ≤ 900000000000) (hs : St w0 w (writerA g L * (writerA g' M * r))) :
    Calls Try.prog 14 #[.pointer (some ⟨g, 0, none⟩), .pointer (some ⟨g', 0, none⟩)] w fun e w' => e = .returned (.tuple #[]) ∧ St w0 w' (writerA g (L ++ M) * (writerA g' M * r)) := by
  obtain ⟨A, c, hb⟩ := writerA_open hs.swap
  exact bitout_Join_any g g' L M A c _ w0 w hL hM hl ((hb.cell 0).trans rfl) ((hb.cell 1).trans rfl) (rowReads hb.swap) hs
theorem bitout_Join_own (g : Nat) (L : List Int) (r : Asrt) (w0 w : World) (hL : Bin L) (hl : L.length + L.length ≤ 900000000000) (hs : St w0 w (writerA g L * r)) :
    Calls Try.prog 14 #[.pointer (some ⟨g, 0, none⟩), .pointer (some ⟨g, 0, none⟩)] w fun e w' => e = .returned (.tuple #[]) ∧ St w0 w' (writerA g (L ++ L) * r) := by
  obtain ⟨A, c, hb⟩ := writerA_open hs
  exact bitout_Join_any g g L L A c _ w0 w hL hL hl ((hb.cell 0).trans rfl) ((hb.cell 1).trans rfl) (rowReads hb.swap) hs

set_option maxHeartbeats 4000000 in
set_option maxRecDepth 100000 in
theorem ref_Same_yes (A B : Option Addr) (n c d : Nat) (l : List Int) (w : World) (ha : ReadsInt w .u8 A n l) (hb : ReadsInt w .u8 B n l) :
    Calls Try.prog 12 #[.slice A n c, .slice B n d] w fun e w' => e = .returned (.bool true) ∧ Drawn0 w w' := by
  have hn := ha.2.1
  have HA := Aside0.mk ha; clear ha
  have HB := Aside0.mk hb; clear hb
  go_enter Try.func12, Try.ntmps12
  go_wp2_with fail
  go_loopw [4, 5] (fun r i wr => r = .bool false ∧ ∃ k m : Nat, k ≤ n ∧ i = .int .i64 k ∧ wr = w.drewN m) (fun _ i _ => n - (intOf i).toNat)
  case atStart => exact ⟨rfl, 0, 0, by omega, rfl, rfl⟩
  case round =>
    obtain ⟨rfl, k, m, hk, rfl, rfl⟩ := hrel
    by_cases hlt : k < n
    · have tl : decide ((k : Int) < n) = true := decide_eq_true (by omega)
      obtain ⟨ad, hA, hat⟩ := HA.out.2.2 (by omega)
      subst hA
      obtain ⟨bd, hB, hbt⟩ := HB.out.2.2 (by omega)
      subst hB
      have c0 := hat k hlt
      have c1 := hbt k hlt
      generalize l.getD k 0 = x at *
      clear hat hbt
      go_wp2_with fail
      go_quiet (fail)
      go_wp2_with fail
      go_roundw
      case rel => exact ⟨rfl, k + 1, _, by omega, by go_num, rfl⟩
      case measure => simp [intOf]; omega
    · have tl : decide ((k : Int) < n) = false := decide_eq_false (by omega)
      go_wp2_with fail
      go_ret
      exact ⟨rfl, ⟨_, rfl⟩⟩
set_option maxHeartbeats 4000000 in
set_option maxRecDepth 100000 in
theorem ref_Bytes (A : Option Addr) (c : Nat) (l : List Int) (r : Asrt) (w0 w : World) (hr : ReadsInt w .u8 A l.length l) (hn : l.length ≤ 1000000000) (hb : Bin l) (hs : St w0 w r) :
    Calls Try.prog 13 #[.slice A l.length c] w fun e w' => ∃ B c', e = .returned (.slice B (pack l).length c') ∧ St w0 w' (Asrt.row 5 1 (.slice B (pack l).length c') (pack l).length (nums .u8 (pack l)) * r) := by
  have HB := Aside0.mk hb; clear hb
  have HS0 := Aside0.mk hs; clear hs
  have HS := Aside0.mk ((St.refl w).rowNil 5 1)
  have HR := Aside0.mk hr; clear hr
  go_enter Try.func13, Try.ntmps13
  go_wp2_with fail
  go_loopw [3, 4] (fun v i wr => ∃ (k : Nat) (B : Option Addr) (c' : Nat), k ≤ l.length ∧ i = .int .i64 k ∧ v = .slice B (pack (l.take k)).length c' ∧ St w wr (Asrt.row 5 1 (.slice B (pack (l.take k)).length c') (pack (l.take k)).length (nums .u8 (pack (l.take k))) * Asrt.emp)) (fun _ i _ => l.length - (intOf i).toNat)
  case atStart => exact ⟨0, none, 0, by omega, rfl, by simp [pack], by simpa [pack, nums] using HS.out⟩
  case round =>
    obtain ⟨k, B, c', hk, rfl, rfl, hsk⟩ := hrel
    clear HS
    by_cases hlt : k < l.length
    · have tl : decide ((k : Int) < l.length) = true := decide_eq_true (by omega)
      obtain ⟨ad, hA, hat⟩ := HR.out.2.2 (by omega)
      subst hA
      have hc := hat k hlt
      rw [show l.getD k 0 = rd l k from (rd_nat l k).symm] at hc
      clear hat
      have hsn := pack_snoc (l.take k) (rd l k)
      rw [← take_snoc hlt] at hsn
      have hkl : (l.take k).length = k := by rw [List.length_take]; omega
      rw [hkl] at hsn
      have hx := rd_bin HB.out k
      have hlb : Bin (l.take k) := fun y hy => HB.out y (List.mem_of_mem_take hy)
      generalize rd l k = x at *
      generalize l.take k = L at *
      have hpl := pack_length L
      rw [hkl] at hpl
      have HLB := Aside0.mk hlb; clear hlb
      have HC := Aside0.mk hc; clear hc
      have HXB := Aside0.mk hx; clear hx
      have HSN := Aside0.mk hsn; clear hsn
      have HSK := Aside0.mk hsk; clear hsk
      by_cases h8 : k % 8 = 0
      · have t8 : (((k : Int) % 8) == 0) = true := by simp; omega
        have hroom : room L = pack L ++ [0] := if_pos (by rw [hkl]; exact h8)
        have hlen : (pack L).length + 1 = k / 8 + 1 := by omega
        have hbd : ((pack L).length + 1) * 1 ≤ 140737488355328 := by omega
        have HL1 := Aside0.mk hlen; clear hlen
        have HRO := Aside0.mk hroom; clear hroom
        have HKL := Aside0.mk hkl; clear hkl
        have HP := Aside0.mk hpl; clear hpl h8
        go_upto_region 7 with (at_builtin; refine St.append_num rfl (.tmp 14) (.tmp 15) 27 5 .u8 1 rfl Try.underlying27 (by kernel_rfl) (by decide) _ (pack L).length (pack L) 0 rfl rfl HSK.out hbd ?_; intro A1 k1 w1 hs1; have HS1 := Aside0.mk hs1; clear hs1)
        have hs2 := HS1.out
        rw [HL1.out, ← HRO.out] at hs2
        rw [HL1.out]
        clear HS1 HSK
        have hrl : (room L).length = k / 8 + 1 := by rw [room_length, HKL.out]
        have hcell := pw_cell_below hs2.below HC.out
        rcases HXB.out with rfl | rfl
        · have t1 : ((0 : Int) == 1) = false := by decide
          have hfin : pack (l.take (k + 1)) = room L := by
            rw [HSN.out, Int.zero_mul, Int.add_zero]
            refine ext_rd (by simp) fun i hi => ?_
            rw [rd_setN _ _ _ _ (by omega)]
            by_cases e : i = k / 8
            · rw [if_pos e, e]
            · rw [if_neg e]
          have HF := Aside0.mk hfin; clear hfin
          have HRL := Aside0.mk hrl; clear hrl
          have HS2 := Aside0.mk hs2; clear hs2
          go_wp2_with fail
          go_roundw
          case rel => exact ⟨k + 1, _, _, by omega, by go_num, by rw [HF.out, HRL.out], by rw [HF.out, HRL.out]; exact HS2.out⟩
          case measure => simp [intOf]; omega
        · have t1 : ((1 : Int) == 1) = true := by decide
          obtain ⟨h, hA1⟩ := hs2.rowForm (by omega)
          subst hA1
          have hlast := room_last_bd HLB.out
          rw [HKL.out] at hlast
          obtain ⟨old, hold⟩ : ∃ old, rd (room L) ((k / 8 : Nat) : Int) = old := ⟨_, rfl⟩
          have hrow := hs2.rowAt ((k / 8 : Nat) : Int) (by omega) (by omega)
          rw [hold] at hlast hrow
          rw [Int.toNat_natCast] at hrow
          have hw := hrow.1
          have hf := hrow.2
          clear hrow
          have hq8 : (2 : Int) ^ (k % 8) ≤ 128 := by have := pow_le (a := k % 8) (b := 7) (by omega); omega
          have hqp := pow_pos (k % 8)
          have ew : (2 : Int) ^ (k % 8) % 256 = 2 ^ (k % 8) := by omega
          have ew2 : (old + 2 ^ (k % 8)) % 256 = old + 2 ^ (k % 8) := by omega
          have hfin : pack (l.take (k + 1)) = (room L).set (k / 8) (old + 2 ^ (k % 8)) := by rw [HSN.out, Int.one_mul, hold]
          have hfl : (pack (l.take (k + 1))).length = k / 8 + 1 := by rw [hfin, List.length_set, hrl]
          have HF := Aside0.mk hfin; clear hfin
          have HFL := Aside0.mk hfl; clear hfl
          have HRL := Aside0.mk hrl; clear hrl
          have HS2 := Aside0.mk hs2; clear hs2
          have HO := Aside0.mk hold; clear hold
          go_wp2_with fail
          have hst := HS2.out.rowSet ((k / 8 : Nat) : Int) (old + 2 ^ (k % 8))
          rw [Int.toNat_natCast, ← HF.out] at hst
          exact ⟨⟨k + 1, some ⟨h, 0, none⟩, _, by omega, by go_num, by rw [HFL.out], by rw [HFL.out]; exact hst⟩, by simp [intOf]; omega⟩
      · have t8 : (((k : Int) % 8) == 0) = false := by simp; omega
        have hroom : room L = pack L := if_neg (by rw [hkl]; exact h8)
        have hlen : (pack L).length = k / 8 + 1 := by omega
        have HKL := Aside0.mk hkl; clear hkl
        have hs2 := HSK.out
        rw [hlen, ← hroom] at hs2
        rw [hlen]
        clear HSK hpl hlen hroom
        have hrl : (room L).length = k / 8 + 1 := by rw [room_length, HKL.out]
        have hcell := pw_cell_below hs2.below HC.out
        rcases HXB.out with rfl | rfl
        · have t1 : ((0 : Int) == 1) = false := by decide
          have hfin : pack (l.take (k + 1)) = room L := by
            rw [HSN.out, Int.zero_mul, Int.add_zero]
            refine ext_rd (by simp) fun i hi => ?_
            rw [rd_setN _ _ _ _ (by omega)]
            by_cases e : i = k / 8
            · rw [if_pos e, e]
            · rw [if_neg e]
          have HF := Aside0.mk hfin; clear hfin
          have HRL := Aside0.mk hrl; clear hrl
          have HS2 := Aside0.mk hs2; clear hs2
          go_wp2_with fail
          go_roundw
          case rel => exact ⟨k + 1, _, _, by omega, by go_num, by rw [HF.out, HRL.out], by rw [HF.out, HRL.out]; exact HS2.out⟩
          case measure => simp [intOf]; omega
        · have t1 : ((1 : Int) == 1) = true := by decide
          obtain ⟨h, hA1⟩ := hs2.rowForm (by omega)
          subst hA1
          have hlast := room_last_bd HLB.out
          rw [HKL.out] at hlast
          obtain ⟨old, hold⟩ : ∃ old, rd (room L) ((k / 8 : Nat) : Int) = old := ⟨_, rfl⟩
          have hrow := hs2.rowAt ((k / 8 : Nat) : Int) (by omega) (by omega)
          rw [hold] at hlast hrow
          rw [Int.toNat_natCast] at hrow
          have hw := hrow.1
          have hf := hrow.2
          clear hrow
          have hq8 : (2 : Int) ^ (k % 8) ≤ 128 := by have := pow_le (a := k % 8) (b := 7) (by omega); omega
          have hqp := pow_pos (k % 8)
          have ew : (2 : Int) ^ (k % 8) % 256 = 2 ^ (k % 8) := by omega
          have ew2 : (old + 2 ^ (k % 8)) % 256 = old + 2 ^ (k % 8) := by omega
          have hfin : pack (l.take (k + 1)) = (room L).set (k / 8) (old + 2 ^ (k % 8)) := by rw [HSN.out, Int.one_mul, hold]
          have hfl : (pack (l.take (k + 1))).length = k / 8 + 1 := by rw [hfin, List.length_set, hrl]
          have HF := Aside0.mk hfin; clear hfin
          have HFL := Aside0.mk hfl; clear hfl
          have HRL := Aside0.mk hrl; clear hrl
          have HS2 := Aside0.mk hs2; clear hs2
          have HO := Aside0.mk hold; clear hold
          go_wp2_with fail
          have hst := HS2.out.rowSet ((k / 8 : Nat) : Int) (old + 2 ^ (k % 8))
          rw [Int.toNat_natCast, ← HF.out] at hst
          exact ⟨⟨k + 1, some ⟨h, 0, none⟩, _, by omega, by go_num, by rw [HFL.out], by rw [HFL.out]; exact hst⟩, by simp [intOf]; omega⟩
    · have tl : decide ((k : Int) < l.length) = false := decide_eq_false (by omega)
      obtain rfl : k = l.length := by omega
      rw [List.take_length] at hsk ⊢
      have HSK := Aside0.mk hsk; clear hsk
      go_wp2_with fail
      go_ret
      exact ⟨_, _, rfl, (HS0.out.frame HSK.out).imp (Asrt.mono_l (Asrt.emp_r _))⟩
end Go.Proofs.Ytbgjpncnhhlljaa.P
