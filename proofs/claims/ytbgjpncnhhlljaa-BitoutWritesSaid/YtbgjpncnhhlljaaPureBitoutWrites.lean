/- Whatever is written: the bits, one by one, and which numbers do not fit. -/
import Derived.Test.YtbgjpncnhhlljaaBitoutLaw
namespace Go.Proofs.Ytbgjpncnhhlljaa.Pure
open Go Go.RowKit Go.Proofs.Ytbgjpncnhhlljaa.P Go.Proofs.YtbgjpncnhhlljaaW.PrintWords Go.Proofs.YtbgjpncnhhlljaaW.PrintLast Go.Proofs.YtbgjpncnhhlljaaW.PrintMore Go.Proofs.Ytbgjpncnhhlljaa.U
set_option linter.unusedVariables false
set_option linter.unusedSimpArgs false
theorem and63 {n : Int} (h0 : 0 ≤ n) (h1 : n ≤ 32) : Go.bits .and .i64 n 63 = n := by
  obtain ⟨k, rfl⟩ := Int.eq_ofNat_of_zero_le h0
  have : k ≤ 32 := by omega
  have H : ∀ j : Fin 33, Go.bits .and .i64 (j.val : Int) 63 = (j.val : Int) := by decide +kernel
  exact H ⟨k, by omega⟩
set_option maxHeartbeats 8000000 in
set_option maxRecDepth 100000 in
theorem BitoutWrites (A0 : Option Addr) (c0 : Nat) (l : List Int) (A1 : Option Addr) (c1 : Nat) (q : List Int) (w : World) (w0 : l.length ≤ maxLen) (w1 : l.length * 4 ≤ 140737488351232) (w2 : ∀ y ∈ l, (Lit.int .u32 y).wf = true)
    (w3 : q.length ≤ maxLen) (w4 : q.length * 8 ≤ 140737488351232) (w5 : ∀ y ∈ q, (Lit.int .i64 y).wf = true)
    (hr : Kd.C (Kd.int .u32) w A0 l.length l) (hc : l.length ≤ c0) (hr2 : Kd.C (Kd.int .i64) w A1 q.length q) (hc2 : q.length ≤ c1) :
    Calls Try.prog 3 #[.slice A0 l.length c0, .slice A1 q.length c1] w fun e w' => e = .returned (.bool true) ∧ Below w.heap.size w w' := by
  unfold maxLen at w0 w3
  by_cases h1 : 200 < l.length
  · have t0 : decide (200 < (l.length : Int)) = true := decide_eq_true (by omega)
    go_enter Try.func3, Try.ntmps3
    go_wp2_with fail
    refine (answers_calls _).mono ?_; rintro e w1 ⟨rfl, hb⟩
    go_wp2
    go_ret
    exact ⟨rfl, hb⟩
  have t0 : decide (200 < (l.length : Int)) = false := decide_eq_false (by omega)
  have HW2 := Aside0.mk w2; clear w2
  have HR := Aside0.mk hr; clear hr
  have HR2 := Aside0.mk hr2; clear hr2
  go_enter Try.func3, Try.ntmps3
  go_wp2_with fail
  refine (bitout_New _ _ _ (St.refl w)).mono ?_; rintro e v1 ⟨g, rfl, hs1⟩
  have HS := Aside0.mk (hs1.rowNil 5 1).swap; clear hs1
  go_wp2_with fail
  go_loopw [4, 6, 7] (fun res v i wr => res = .bool false ∧ ∃ (k : Nat) (L : List Int) (B : Option Addr) (c' : Nat), k ≤ l.length ∧ i = .int .i64 k ∧ v = .slice B L.length c' ∧ Bin L ∧ L.length ≤ 32 * k ∧ St w wr (writerA g L * (Asrt.row 5 1 (.slice B L.length c') L.length (nums .u8 L) * Asrt.emp))) (fun _ _ i _ => l.length - (intOf i).toNat)
  case atStart => exact ⟨rfl, 0, [], none, 0, by omega, rfl, rfl, Bin.nil, by simp, HS.out⟩
  case round =>
    obtain ⟨rfl, k, L, B, c', hk, rfl, rfl, hL, hLl, hsk⟩ := hrel
    clear HS
    have HL := Aside0.mk hL; clear hL
    by_cases hlt : k < l.length ∧ k < q.length
    · obtain ⟨hlt1, hlt2⟩ := hlt
      have tl1 : decide ((k : Int) < l.length) = true := decide_eq_true (by omega)
      have tl2 : decide ((k : Int) < q.length) = true := decide_eq_true (by omega)
      obtain ⟨ad, hA, hat⟩ := C_int_at HR.out (by omega)
      subst hA
      obtain ⟨ad2, hA2, hat2⟩ := C_int_at HR2.out (by omega)
      subst hA2
      have hcell := pw_cell_below hsk.below (hat k hlt1)
      have hcell2 := pw_cell_below hsk.below (hat2 k hlt2)
      have hx := wf_u32 (HW2.out _ (rd_mem (l := l) (i := k) (by omega) (by omega)))
      clear hat hat2
      generalize rd l k = x at *
      generalize rd q k = n at *
      obtain ⟨hx0, hx1⟩ := hx
      have HSK := Aside0.mk hsk; clear hsk
      by_cases hmay : 0 ≤ n ∧ n ≤ 32 ∧ x < 2 ^ n.toNat
      · obtain ⟨hn0, hn1, hxn⟩ := hmay
        have tn0 : decide (0 ≤ n) = true := decide_eq_true hn0
        have tn1 : decide (n ≤ 32) = true := decide_eq_true hn1
        have tn2 : decide (x < 2 ^ n.toNat) = true := decide_eq_true hxn
        have e63 := and63 hn0 hn1
        have pn := pow_le (a := n.toNat) (b := 32) (by omega)
        have pn0 : (0 : Int) < 2 ^ n.toNat := pow_pos _
        go_wp2_with fail
        go_quiet (fail)
        have HSK2 := Aside0.mk (HSK.out.drewN nq); clear HSK
        have hcell' : (wr.drewN nq).cell? (ad.add k) = _ := hcell
        clear hcell hcell2
        generalize wr.drewN nq = W at *
        go_wp2_with fail
        refine (bitout_Bits_ok g L x n _ _ _ ⟨hx0, hx1⟩ hn0 hn1 hxn HL.out (by omega) HSK2.out).mono ?_; rintro e v3 ⟨rfl, hs3⟩
        have HS3 := Aside0.mk hs3.swap; clear hs3 HSK2 hcell' e63 tn0 tn1 tn2
        obtain ⟨K, rfl⟩ := Int.eq_ofNat_of_zero_le hn0
        rw [Int.toNat_natCast] at *
        generalize hM : L ++ bitsV x K = M at *
        have hMb : Bin M := by rw [← hM]; exact HL.out.app (bitsV_bin _ _)
        have hMl : M.length ≤ 32 * (k + 1) := by rw [← hM, List.length_append, bitsV_length]; omega
        have HM := Aside0.mk hM
        have HMB := Aside0.mk hMb
        have HML := Aside0.mk hMl
        clear hM hMb hMl
        go_wp2_with fail
        go_loopw [6, 9, 11] (fun v y i wr2 => ∃ (j : Nat) (B2 : Option Addr) (c2 : Nat), j ≤ K ∧ i = .int .i64 j ∧ y = .int .u64 (x / 2 ^ j) ∧ v = .slice B2 (L.length + j) c2 ∧ St w wr2 (Asrt.row 5 1 (.slice B2 (L.length + j) c2) (L.length + j) (nums .u8 (L ++ bitsV x j)) * (writerA g M * Asrt.emp))) (fun _ _ i _ => K - (intOf i).toNat)
        case atStart => exact ⟨0, B, c', by omega, rfl, by simp, rfl, by simpa [bitsV] using HS3.out⟩
        case round =>
          obtain ⟨j, B2, c2, hj, rfl, rfl, rfl, hsj⟩ := hrel
          clear HS3
          have HS3 := Aside0.mk hsj; clear hsj
          by_cases hlt : j < K
          · have tj : decide ((j : Int) < K) = true := decide_eq_true (by omega)
            have pj := pow_pos j
            have hy0 : 0 ≤ x / 2 ^ j := Int.ediv_nonneg hx0 (by omega)
            have hy1 : x / 2 ^ j ≤ 4294967295 := by have := Int.ediv_le_self (2 ^ j) hx0; omega
            have et : Int.tmod (x / 2 ^ j) 2 = x / 2 ^ j % 2 := Int.tmod_eq_emod_of_nonneg hy0
            have ed : Int.tdiv (x / 2 ^ j) 2 = x / 2 ^ (j + 1) := by
              rw [Int.tdiv_eq_ediv_of_nonneg hy0, Int.ediv_ediv_of_nonneg (by omega), pow_add]
              rfl
            have pj1 := pow_pos (j + 1)
            have hz0 : 0 ≤ x / 2 ^ (j + 1) := Int.ediv_nonneg hx0 (by omega)
            have hz1 : x / 2 ^ (j + 1) ≤ 4294967295 := by have := Int.ediv_le_self (2 ^ (j + 1)) hx0; omega
            have hbd : (L.length + j + 1) * 1 ≤ 140737488355328 := by omega
            go_upto_region 16 with (at_builtin; refine St.append_num rfl (.tmp 71) (.tmp 75) 27 5 .u8 1 rfl Try.underlying27 (by kernel_rfl) (by decide) _ (L.length + j) (L ++ bitsV x j) (x / 2 ^ j % 2) rfl rfl HS3.out hbd ?_; intro A1 k1 w1 hs1; have HS1 := Aside0.mk hs1; clear hs1)
            go_wp2_with fail
            have hs2 := HS1.out
            rw [List.append_assoc, ← bitsV_succ] at hs2
            exact ⟨⟨j + 1, A1, k1, by omega, by go_num, rfl, rfl, hs2⟩, by simp [intOf]; omega⟩
          · have tj : decide ((j : Int) < K) = false := decide_eq_false (by omega)
            obtain rfl : j = K := by omega
            have hs2 := HS3.out.swap
            rw [HM.out] at hs2
            have hML : M.length = L.length + j := by rw [← HM.out, List.length_append, bitsV_length]
            rw [← hML] at hs2 ⊢
            have HS2 := Aside0.mk hs2; clear hs2 HS3 hML
            go_wp2_with fail
            go_roundw
            case rel => exact ⟨rfl, k + 1, M, B2, c2, by omega, by go_num, rfl, HMB.out, HML.out, HS2.out⟩
            case measure => simp [intOf]; omega
      · have hno : n < 0 ∨ 32 < n ∨ 2 ^ n.toNat ≤ x := by omega
        by_cases hn0 : 0 ≤ n
        · by_cases hn1 : n ≤ 32
          · have hge : 2 ^ n.toNat ≤ x := by omega
            have tn0 : decide (0 ≤ n) = true := decide_eq_true hn0
            have tn1 : decide (n ≤ 32) = true := decide_eq_true hn1
            have tn2 : decide (x < 2 ^ n.toNat) = false := decide_eq_false (by omega)
            have e63 := and63 hn0 hn1
            have pn := pow_le (a := n.toNat) (b := 32) (by omega)
            have pn0 : (0 : Int) < 2 ^ n.toNat := pow_pos _
            obtain ⟨b0, tb⟩ : ∃ b0, decide (0 < n) = b0 := ⟨_, rfl⟩
            have HNO := Aside0.mk hno
            rcases b0 with _ | _
            all_goals
              go_wp2_with fail
              go_quiet (fail)
              have HSK2 := Aside0.mk (HSK.out.drewN nq); clear HSK
              have hcell' : (wr.drewN nq).cell? (ad.add k) = _ := hcell
              clear hcell hcell2
              generalize wr.drewN nq = W at *
              go_wp2_with fail
              refine (bitout_Bits_no g x n _ ⟨hx0, hx1⟩ HNO.out).mono ?_; rintro e v3 ⟨rfl, rfl⟩
              go_wp2_with fail
              refine wp_loop_rounds 1 ?_
              rw [rounds_succ]
              go_wp2_with fail
              go_roundw
              case rel => exact ⟨rfl, k + 1, L, B, c', by omega, by go_num, rfl, HL.out, by omega, HSK2.out⟩
              case measure => simp [intOf]; omega
          · skip
            have tn0 : decide (0 ≤ n) = true := decide_eq_true hn0
            have tn1 : decide (n ≤ 32) = false := decide_eq_false hn1
            obtain ⟨b0, tb⟩ : ∃ b0, decide (0 < n) = b0 := ⟨_, rfl⟩
            have HNO := Aside0.mk hno
            rcases b0 with _ | _
            all_goals
              go_wp2_with fail
              go_quiet (fail)
              have HSK2 := Aside0.mk (HSK.out.drewN nq); clear HSK
              have hcell' : (wr.drewN nq).cell? (ad.add k) = _ := hcell
              clear hcell hcell2
              generalize wr.drewN nq = W at *
              go_wp2_with fail
              refine (bitout_Bits_no g x n _ ⟨hx0, hx1⟩ HNO.out).mono ?_; rintro e v3 ⟨rfl, rfl⟩
              go_wp2_with fail
              refine wp_loop_rounds 1 ?_
              rw [rounds_succ]
              go_wp2_with fail
              go_roundw
              case rel => exact ⟨rfl, k + 1, L, B, c', by omega, by go_num, rfl, HL.out, by omega, HSK2.out⟩
              case measure => simp [intOf]; omega
        · skip
          have tn0 : decide (0 ≤ n) = false := decide_eq_false hn0
          obtain ⟨b0, tb⟩ : ∃ b0, decide (0 < n) = b0 := ⟨_, rfl⟩
          have HNO := Aside0.mk hno
          rcases b0 with _ | _
          all_goals
            go_wp2_with fail
            go_quiet (fail)
            have HSK2 := Aside0.mk (HSK.out.drewN nq); clear HSK
            have hcell' : (wr.drewN nq).cell? (ad.add k) = _ := hcell
            clear hcell hcell2
            generalize wr.drewN nq = W at *
            go_wp2_with fail
            refine (bitout_Bits_no g x n _ ⟨hx0, hx1⟩ HNO.out).mono ?_; rintro e v3 ⟨rfl, rfl⟩
            go_wp2_with fail
            refine wp_loop_rounds 1 ?_
            rw [rounds_succ]
            go_wp2_with fail
            go_roundw
            case rel => exact ⟨rfl, k + 1, L, B, c', by omega, by go_num, rfl, HL.out, by omega, HSK2.out⟩
            case measure => simp [intOf]; omega
    · have HSK := Aside0.mk hsk; clear hsk
      have hLl2 : L.length ≤ 6400 := by omega
      have hpk : (pack L).length ≤ 6400 := by rw [pack_length]; omega
      by_cases ha : k < l.length
      · have hb : ¬ k < q.length := fun h => hlt ⟨ha, h⟩
        have tl1 : decide ((k : Int) < l.length) = true := decide_eq_true (by omega)
        have tl2 : decide ((k : Int) < q.length) = false := decide_eq_false (by omega)
        clear hlt
        go_wp2_with fail
        refine (bitout_Bytes g L _ _ _ (by omega) HSK.out).mono ?_; rintro e v3 ⟨B2, k2, rfl, hs3⟩
        have HS3 := Aside0.mk hs3; clear hs3
        go_wp2_with fail
        go_loopw [13] (fun i wr2 => ∃ (j : Nat) (xs : List Int), j ≤ (pack L).length ∧ i = .int .i64 j ∧ St w wr2 (Asrt.row 5 1 (.slice B2 (pack L).length k2) (pack L).length (nums .u8 xs) * (writerA g L * (Asrt.row 5 1 (.slice B L.length c') L.length (nums .u8 L) * Asrt.emp)))) (fun i _ => (pack L).length - (intOf i).toNat)
        case atStart => exact ⟨0, _, by omega, rfl, HS3.out⟩
        case round =>
          obtain ⟨j, xs, hj, rfl, hsj⟩ := hrel
          clear HS3
          by_cases hlt : j < (pack L).length
          · have tl : decide ((j : Int) < (pack L).length) = true := decide_eq_true (by omega)
            obtain ⟨h, hA⟩ := hsj.rowForm (by omega)
            subst hA
            have hat := hsj.rowAt (j : Int) (by omega) (by omega)
            rw [Int.toNat_natCast] at hat
            have hcell := hat.1
            have hfr := hat.2
            clear hat
            have HSJ := Aside0.mk hsj; clear hsj
            go_wp2_with fail
            have hst := HSJ.out.rowSet (j : Int) ((rd xs j + 1) % 256)
            rw [Int.toNat_natCast] at hst
            exact ⟨⟨j + 1, _, by omega, by go_num, hst⟩, by simp [intOf]; omega⟩
          · have tl : decide ((j : Int) < (pack L).length) = false := decide_eq_false (by omega)
            have HSJ := Aside0.mk hsj.drop; clear hsj
            go_wp2_with fail
            refine (answers_calls _).mono ?_; rintro e v4 ⟨rfl, hb⟩
            have HS4 := Aside0.mk (HSJ.out.belowR hb); clear hb HSJ
            go_wp2_with fail
            refine (bitout_Len g L _ _ _ HS4.out).mono ?_; rintro e v5 ⟨rfl, rfl⟩
            go_wp2_with fail
            refine (bitout_Bytes g L _ _ _ (by omega) HS4.out).mono ?_; rintro e v6 ⟨B3, k3, rfl, hs6⟩
            have HS6 := Aside0.mk hs6; clear hs6
            go_wp2_with fail
            refine (ref_Bytes B c' L _ _ _ (rowReads HS6.out.rot3) (by omega) HL.out HS6.out).mono ?_; rintro e v7 ⟨B4, k4, rfl, hs7⟩
            have HS7 := Aside0.mk hs7; clear hs7
            go_wp2_with fail
            refine (ref_Same_yes B3 B4 _ _ _ (pack L) _ (rowReads HS7.out.swap) (rowReads HS7.out)).mono ?_; rintro e v9 ⟨rfl, ⟨nd, rfl⟩⟩
            go_wp2_with fail
            go_ret
            exact ⟨rfl, pw_below_drewN HS7.out.below _⟩
      · have tl1 : decide ((k : Int) < l.length) = false := decide_eq_false (by omega)
        clear hlt
        go_wp2_with fail
        refine (bitout_Bytes g L _ _ _ (by omega) HSK.out).mono ?_; rintro e v3 ⟨B2, k2, rfl, hs3⟩
        have HS3 := Aside0.mk hs3; clear hs3
        go_wp2_with fail
        go_loopw [13] (fun i wr2 => ∃ (j : Nat) (xs : List Int), j ≤ (pack L).length ∧ i = .int .i64 j ∧ St w wr2 (Asrt.row 5 1 (.slice B2 (pack L).length k2) (pack L).length (nums .u8 xs) * (writerA g L * (Asrt.row 5 1 (.slice B L.length c') L.length (nums .u8 L) * Asrt.emp)))) (fun i _ => (pack L).length - (intOf i).toNat)
        case atStart => exact ⟨0, _, by omega, rfl, HS3.out⟩
        case round =>
          obtain ⟨j, xs, hj, rfl, hsj⟩ := hrel
          clear HS3
          by_cases hlt : j < (pack L).length
          · have tl : decide ((j : Int) < (pack L).length) = true := decide_eq_true (by omega)
            obtain ⟨h, hA⟩ := hsj.rowForm (by omega)
            subst hA
            have hat := hsj.rowAt (j : Int) (by omega) (by omega)
            rw [Int.toNat_natCast] at hat
            have hcell := hat.1
            have hfr := hat.2
            clear hat
            have HSJ := Aside0.mk hsj; clear hsj
            go_wp2_with fail
            have hst := HSJ.out.rowSet (j : Int) ((rd xs j + 1) % 256)
            rw [Int.toNat_natCast] at hst
            exact ⟨⟨j + 1, _, by omega, by go_num, hst⟩, by simp [intOf]; omega⟩
          · have tl : decide ((j : Int) < (pack L).length) = false := decide_eq_false (by omega)
            have HSJ := Aside0.mk hsj.drop; clear hsj
            go_wp2_with fail
            refine (answers_calls _).mono ?_; rintro e v4 ⟨rfl, hb⟩
            have HS4 := Aside0.mk (HSJ.out.belowR hb); clear hb HSJ
            go_wp2_with fail
            refine (bitout_Len g L _ _ _ HS4.out).mono ?_; rintro e v5 ⟨rfl, rfl⟩
            go_wp2_with fail
            refine (bitout_Bytes g L _ _ _ (by omega) HS4.out).mono ?_; rintro e v6 ⟨B3, k3, rfl, hs6⟩
            have HS6 := Aside0.mk hs6; clear hs6
            go_wp2_with fail
            refine (ref_Bytes B c' L _ _ _ (rowReads HS6.out.rot3) (by omega) HL.out HS6.out).mono ?_; rintro e v7 ⟨B4, k4, rfl, hs7⟩
            have HS7 := Aside0.mk hs7; clear hs7
            go_wp2_with fail
            refine (ref_Same_yes B3 B4 _ _ _ (pack L) _ (rowReads HS7.out.swap) (rowReads HS7.out)).mono ?_; rintro e v9 ⟨rfl, ⟨nd, rfl⟩⟩
            go_wp2_with fail
            go_ret
            exact ⟨rfl, pw_below_drewN HS7.out.below _⟩
end Go.Proofs.Ytbgjpncnhhlljaa.Pure
