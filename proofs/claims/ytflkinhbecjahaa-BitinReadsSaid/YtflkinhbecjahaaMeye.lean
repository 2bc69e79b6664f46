/- The document's eye on bits: what its ways come to. -/
import Derived.Test.YtflkinhbecjahaaSl
import Derived.Test.YtflkinhbecjahaaBitNum
namespace Go.Proofs.Ytflkinhbecjahaa.P
open Go Go.RowKit Go.Proofs.YtflkinhbecjahaaW.PrintWords Go.Proofs.YtflkinhbecjahaaW.PrintLast Go.Proofs.YtflkinhbecjahaaW.PrintMore Go.Proofs.Ytflkinhbecjahaa.Pure Go.Proofs.Ytflkinhbecjahaa.U
set_option linter.unusedVariables false
set_option linter.unusedSimpArgs false
attribute [local go_sem] max2_int min2_int max_two min_two max_three min_three max_four min_four

/-- The first n bits of some bytes. -/
def bitsN (b : List Int) (n : Nat) : List Int := (List.range n).map (bitAt b)
theorem bitsN_length (b : List Int) (n : Nat) : (bitsN b n).length = n := by simp [bitsN]
theorem bitsN_succ (b : List Int) (n : Nat) : bitsN b (n + 1) = bitsN b n ++ [bitAt b n] := by simp [bitsN, List.range_succ]
theorem bitsN_rd (b : List Int) (n i : Nat) (h : i < n) : rd (bitsN b n) i = bitAt b i := by simp [rd, bitsN, h]

set_option maxHeartbeats 4000000 in
set_option maxRecDepth 100000 in
theorem ref_Bits (A : Option Addr) (c : Nat) (b : List Int) (r : Asrt) (w0 w : World) (hr : ReadsInt w0 .u8 A b.length b) (hn : b.length ≤ 10000000) (hb8 : ∀ y ∈ b, 0 ≤ y ∧ y ≤ 255) (hs : St w0 w r) :
    Calls Try.prog 14 #[.slice A b.length c] w fun e w' => ∃ B c', e = .returned (.slice B (8 * b.length) c') ∧ St w0 w' (Asrt.row 5 1 (.slice B (8 * b.length) c') (8 * b.length) (nums .u8 (bitsN b (8 * b.length))) * r) := by
  have HS := Aside0.mk (hs.rowNil 5 1); clear hs
  have HR := Aside0.mk hr; clear hr
  have HB8 := Aside0.mk hb8; clear hb8
  go_enter Try.func14, Try.ntmps14
  go_wp2_with fail
  go_loopw [3, 4] (fun v i wr => ∃ (j : Nat) (B : Option Addr) (c' : Nat), j ≤ b.length ∧ i = .int .i64 j ∧ v = .slice B (8 * j) c' ∧ St w0 wr (Asrt.row 5 1 (.slice B (8 * j) c') (8 * j) (nums .u8 (bitsN b (8 * j))) * r)) (fun _ i _ => b.length - (intOf i).toNat)
  case atStart => exact ⟨0, none, 0, by omega, rfl, rfl, HS.out⟩
  case round =>
    obtain ⟨j, B, c', hj, rfl, rfl, hsj⟩ := hrel
    clear HS
    have HS := Aside0.mk hsj; clear hsj
    by_cases hlt : j < b.length
    · have tl : decide ((j : Int) < b.length) = true := decide_eq_true (by omega)
      obtain ⟨ad, hA, hat⟩ := HR.out.2.2 (show 0 < b.length by omega)
      subst hA
      obtain ⟨x, hx⟩ : ∃ x, rd b j = x := ⟨_, rfl⟩
      have hcell := pw_cell_below HS.out.below (hat j hlt)
      rw [show b.getD j 0 = x from hx] at hcell
      have hx8 : 0 ≤ x ∧ x ≤ 255 := by rw [← hx]; exact HB8.out _ (rd_mem (by omega) (by omega))
      have HX := Aside0.mk hx; clear hx hat
      go_wp2_with fail
      go_loopw [3, 5, 6] (fun v y i wr2 => ∃ (k : Nat) (B : Option Addr) (c' : Nat), k ≤ 8 ∧ i = .int .i64 k ∧ y = .int .u8 (x / 2 ^ k) ∧ v = .slice B (8 * j + k) c' ∧ St w0 wr2 (Asrt.row 5 1 (.slice B (8 * j + k) c') (8 * j + k) (nums .u8 (bitsN b (8 * j + k))) * r)) (fun _ _ i _ => 8 - (intOf i).toNat)
      case atStart => exact ⟨0, B, c', by omega, rfl, by simp, rfl, HS.out⟩
      case round =>
        obtain ⟨k, B2, c2, hk, rfl, rfl, rfl, hsk⟩ := hrel
        clear HS
        have HS := Aside0.mk hsk; clear hsk
        by_cases hlt8 : k < 8
        · have tl8 : decide ((k : Int) < 8) = true := decide_eq_true (by omega)
          have et : Int.tmod (x / 2 ^ k) 2 = bitAt b (8 * j + k) := by
            have hq := pow_pos k
            rw [Int.tmod_eq_emod_of_nonneg (Int.ediv_nonneg hx8.1 (by omega))]
            unfold bitAt
            rw [show (8 * j + k) / 8 = j by omega, show (8 * j + k) % 8 = k by omega, HX.out]
          have ed : Int.tdiv (x / 2 ^ k) 2 = x / 2 ^ (k + 1) := by
            have hq := pow_pos k
            rw [Int.tdiv_eq_ediv_of_nonneg (Int.ediv_nonneg hx8.1 (by omega)), Int.ediv_ediv_of_nonneg (by omega), pow_add]
            rfl
          have ET := Aside0.mk et; clear et
          go_wp2_with (at_builtin; refine St.append_num rfl (.tmp 21) (.tmp 24) 22 5 .u8 1 rfl Try.underlying22 (by kernel_rfl) (by decide) _ (8 * j + k) (bitsN b (8 * j + k)) (Int.tmod (x / 2 ^ k) 2) rfl rfl HS.out (by omega) ?_; intro A1 c1 w1 hs1; have HS1 := Aside0.mk hs1; clear hs1)
          have e8 : x / 2 ^ (k + 1) % 256 = x / 2 ^ (k + 1) := by
            have hq := pow_pos (k + 1)
            exact Int.emod_eq_of_lt (Int.ediv_nonneg hx8.1 (by omega)) (by have := Int.ediv_le_self (2 ^ (k + 1)) hx8.1; omega)
          have hs2 := HS1.out
          rw [ET.out, ← bitsN_succ] at hs2
          refine ⟨⟨k + 1, A1, c1, by omega, by go_num, by rw [e8], rfl, hs2⟩, by simp [intOf]; omega⟩
        · obtain rfl : k = 8 := by omega
          have tl8 : decide ((8 : Int) < 8) = false := by decide
          go_wp2_with fail
          refine ⟨⟨j + 1, B2, c2, by omega, by go_num, rfl, HS.out⟩, by simp [intOf]; omega⟩
    · have tl : decide ((j : Int) < b.length) = false := decide_eq_false (by omega)
      obtain rfl : j = b.length := by omega
      go_wp2_with fail
      go_ret
      exact ⟨_, _, rfl, HS.out⟩

/-- An eye at block g, on the first n bits. -/
def eyeA (g : Nat) (b : List Int) (n p : Nat) (short : Bool) : Asrt := Asrt.ex fun v => Asrt.blk g 38 #[v, .int .i64 p, .bool short] * Asrt.row 5 1 v n (nums .u8 (bitsN b n))
theorem eyeA_open {w0 w : World} {g n p : Nat} {b : List Int} {short : Bool} {r : Asrt} (h : St w0 w (eyeA g b n p short * r)) : ∃ A c, St w0 w (Asrt.blk g 38 #[.slice A n c, .int .i64 p, .bool short] * (Asrt.row 5 1 (.slice A n c) n (nums .u8 (bitsN b n)) * r)) := by
  obtain ⟨v, hv⟩ := h.ex
  obtain ⟨A, c, e⟩ := own_slice hv.assoc.swap.row
  subst e
  exact ⟨A, c, hv.assoc⟩
theorem eyeA_shut {w0 w : World} {g n p : Nat} {b : List Int} {short : Bool} {v : Value} {r : Asrt} (h : St w0 w (Asrt.blk g 38 #[v, .int .i64 p, .bool short] * (Asrt.row 5 1 v n (nums .u8 (bitsN b n)) * r))) : St w0 w (eyeA g b n p short * r) := St.toEx (f := fun v => Asrt.blk g 38 #[v, .int .i64 p, .bool short] * Asrt.row 5 1 v n (nums .u8 (bitsN b n))) v h.assoc'
set_option maxHeartbeats 4000000 in
set_option maxRecDepth 100000 in
theorem ref_Look (A : Option Addr) (c : Nat) (b : List Int) (r : Asrt) (w0 w : World) (hr : ReadsInt w0 .u8 A b.length b) (hn : b.length ≤ 10000000) (hb8 : ∀ y ∈ b, 0 ≤ y ∧ y ≤ 255) (hs : St w0 w r) :
    Calls Try.prog 10 #[.slice A b.length c] w fun e w' => ∃ g, e = .returned (.pointer (some ⟨g, 0, none⟩)) ∧ St w0 w' (eyeA g b (8 * b.length) 0 false * r) := by
  have HS := Aside0.mk hs; clear hs
  have HR := Aside0.mk hr; clear hr
  have HB8 := Aside0.mk hb8; clear hb8
  go_enter Try.func10, Try.ntmps10
  go_wp2_with fail
  refine (ref_Bits A c b _ _ _ HR.out hn HB8.out HS.out).mono ?_; rintro e w1 ⟨B, c', rfl, hs1⟩
  have HS1 := Aside0.mk hs1; clear hs1
  go_wp2_with fail
  go_ret
  exact ⟨_, rfl, eyeA_shut (HS1.out.alloc #[.slice B (8 * b.length) c', .int .i64 0, .bool false] 38)⟩
/-- Bits that ran out. -/
def shortE (n p : Nat) (short : Bool) (k : Nat) : Prop := 0 < k ∧ (short = true ∨ n < p + k)
set_option maxHeartbeats 4000000 in
set_option maxRecDepth 100000 in
theorem ref_Num_end (g : Nat) (b : List Int) (n p : Nat) (short : Bool) (k : Int) (r : Asrt) (w0 w : World) (hp : p ≤ n) (hn : n ≤ 80000000) (h0 : 0 ≤ k) (h1 : k ≤ 32) (hk : shortE n p short k.toNat) (hs : St w0 w (eyeA g b n p short * r)) :
    Calls Try.prog 11 #[.pointer (some ⟨g, 0, none⟩), .int .i64 k] w fun e w' => e = .returned (.int .i64 0) ∧ St w0 w' (eyeA g b n p true * r) := by
  obtain ⟨A, c, hb⟩ := eyeA_open hs
  have c0 := (hb.cell 0).trans rfl
  have c1 := (hb.cell 1).trans rfl
  have c2 := (hb.cell 2).trans rfl
  have f2 := hb.frozen 2
  have HB := Aside0.mk hb; clear hb hs
  have t0 : decide (0 < k) = true := decide_eq_true (by have := hk.1; omega)
  cases short
  · have e1 : IntKind.i64.wrap ((n : Int) - p) = (n : Int) - p := wi64 (by omega) (by omega)
    have t1 : decide ((n : Int) - p < k) = true := decide_eq_true (by rcases hk.2 with h | h; cases h; omega)
    go_enter Try.func11, Try.ntmps11
    go_wp2_with fail
    go_quiet (fail)
    go_wp2_with fail
    go_ret
    exact ⟨rfl, eyeA_shut (v := .slice A n c) ((HB.out.drewN _).set 2 (.bool true))⟩
  · go_enter Try.func11, Try.ntmps11
    go_wp2_with fail
    go_quiet (fail)
    go_wp2_with fail
    go_ret
    exact ⟨rfl, eyeA_shut (v := .slice A n c) ((HB.out.drewN _).set 2 (.bool true))⟩

set_option maxHeartbeats 4000000 in
set_option maxRecDepth 100000 in
theorem ref_Num_ok (g : Nat) (b : List Int) (n p : Nat) (short : Bool) (k : Int) (r : Asrt) (w0 w : World) (hp : p ≤ n) (hn : n ≤ 80000000) (h0 : 0 ≤ k) (h1 : k ≤ 32) (hk : ¬ shortE n p short k.toNat) (hs : St w0 w (eyeA g b n p short * r)) :
    Calls Try.prog 11 #[.pointer (some ⟨g, 0, none⟩), .int .i64 k] w fun e w' => e = .returned (.int .i64 (numAt b p k.toNat)) ∧ St w0 w' (eyeA g b n (p + k.toNat) short * r) := by
  obtain ⟨K, rfl⟩ := Int.eq_ofNat_of_zero_le h0
  rw [Int.toNat_natCast] at *
  have hkn : K = 0 ∨ (short = false ∧ p + K ≤ n) := by
    unfold shortE at hk
    cases short <;> simp at hk ⊢ <;> omega
  obtain ⟨A, c, hb⟩ := eyeA_open hs
  have c0 := (hb.cell 0).trans rfl
  have c1 := (hb.cell 1).trans rfl
  have c2 := (hb.cell 2).trans rfl
  have HB := Aside0.mk hb; clear hb hs hk
  rcases Nat.eq_zero_or_pos K with rfl | hpos
  · go_enter Try.func11, Try.ntmps11
    go_wp2_with fail
    go_quiet (fail)
    go_wp2_with fail
    refine wp_loop_rounds 1 ?_
    rw [rounds_succ]
    go_wp2_with fail
    go_ret
    exact ⟨rfl, eyeA_shut (v := .slice A n c) (HB.out.drewN _)⟩
  · obtain ⟨rfl, hle⟩ : short = false ∧ p + K ≤ n := hkn.resolve_left (by omega)
    have t0 : decide (0 < (K : Int)) = true := decide_eq_true (by omega)
    have e1 : IntKind.i64.wrap ((n : Int) - p) = (n : Int) - p := wi64 (by omega) (by omega)
    have t1 : decide ((n : Int) - p < K) = false := decide_eq_false (by omega)
    go_enter Try.func11, Try.ntmps11
    go_wp2_with fail
    go_quiet (fail)
    go_wp2_with fail
    have HB2 := Aside0.mk (HB.out.drewN nq); clear HB c0 c1 c2 e1
    go_loopw [5, 6] (fun v i wr => ∃ q : Nat, q ≤ K ∧ i = .int .i64 q ∧ v = .int .i64 (numAt b p q) ∧ St w0 wr (Asrt.blk g 38 #[.slice A n c, .int .i64 (p + q : Nat), .bool false] * (Asrt.row 5 1 (.slice A n c) n (nums .u8 (bitsN b n)) * r))) (fun _ i _ => K - (intOf i).toNat)
    case atStart => exact ⟨0, by omega, rfl, rfl, HB2.out⟩
    case round =>
      obtain ⟨q, hq, rfl, rfl, hsq⟩ := hrel
      clear HB2
      by_cases hlt : q < K
      · have tl : decide ((q : Int) < K) = true := decide_eq_true (by omega)
        obtain ⟨m, hm⟩ : ∃ m, p + q = m := ⟨_, rfl⟩
        rw [hm] at hsq
        have c0 := (hsq.cell 0).trans rfl
        have c1 := (hsq.cell 1).trans rfl
        have f1 := hsq.frozen 1
        obtain ⟨ad, hA, hat⟩ := (rowReads hsq.swap).2.2 (by omega)
        subst hA
        have hcell := hat m (by omega)
        rw [show (bitsN b n).getD m 0 = bitAt b m from bitsN_rd b n m (by omega)] at hcell
        clear hat
        have hmn : m < n := by omega
        have b0 : (0 : Int) ≤ m := by omega
        have b1 : (m : Int) < n := by omega
        have hx := bitAt_bd b m
        have hbd := numAt_bd b p q
        have h32 := pow_le (a := q) (b := 32) (by omega)
        have hpq := pow_pos q
        have hnext : numAt b p (q + 1) = numAt b p q + bitAt b m * 2 ^ q := by rw [← hm]; rfl
        have HM := Aside0.mk hm; clear hm
        generalize bitAt b m = x at *
        have hxq : 0 ≤ x * 2 ^ q ∧ x * 2 ^ q ≤ 2 ^ q := by
          rcases (by omega : x = 0 ∨ x = 1) with rfl | rfl <;> omega
        have e2 : IntKind.i64.wrap (x * 2 ^ q) = x * 2 ^ q := wi64 (by omega) (by omega)
        have e3 : IntKind.i64.wrap (numAt b p q + x * 2 ^ q) = numAt b p q + x * 2 ^ q := wi64 (by omega) (by omega)
        have HN := Aside0.mk hnext; clear hnext hbd h32 hpq hxq
        have HSQ := Aside0.mk hsq; clear hsq
        go_wp2_with fail
        go_quiet (fail)
        go_wp2_with fail
        have hst := (HSQ.out.drewN nq).set 1 (.int .i64 ((m : Int) + 1))
        refine ⟨⟨q + 1, by omega, by go_num, by rw [HN.out], ?_⟩, by simp [intOf]; omega⟩
        have e9 : ((p + (q + 1) : Nat) : Int) = (m : Int) + 1 := by have := HM.out; omega
        rw [e9]
        exact hst
      · obtain rfl : q = K := by omega
        have tl : decide ((q : Int) < q) = false := decide_eq_false (by omega)
        have HSQ := Aside0.mk hsq; clear hsq
        go_wp2_with fail
        go_ret
        exact ⟨rfl, eyeA_shut HSQ.out⟩
/-- What is left, as the eye tells. -/
theorem eye_cells {w0 w : World} {g n p : Nat} {b : List Int} {short : Bool} {r : Asrt} (h : St w0 w (eyeA g b n p short * r)) : ∃ A c, w.cell? ⟨g, 0, none⟩ = some (.slice A n c) ∧ w.cell? ⟨g, 1, none⟩ = some (.int .i64 p) ∧ w.cell? ⟨g, 2, none⟩ = some (.bool short) := by
  obtain ⟨A, c, hb⟩ := eyeA_open h
  exact ⟨A, c, (hb.cell 0).trans rfl, (hb.cell 1).trans rfl, (hb.cell 2).trans rfl⟩
end Go.Proofs.Ytflkinhbecjahaa.P
