/- Whatever is read of any bytes, by any numbers of bits: the numbers, how many are left, and the end. -/
import Derived.Test.YtflkinhbecjahaaBitinLaw
import Derived.Test.YtflkinhbecjahaaMeye
namespace Go.Proofs.Ytflkinhbecjahaa.Pure
open Go Go.RowKit Go.Proofs.Ytflkinhbecjahaa.P Go.Proofs.YtflkinhbecjahaaW.PrintWords Go.Proofs.YtflkinhbecjahaaW.PrintLast Go.Proofs.YtflkinhbecjahaaW.PrintMore Go.Proofs.Ytflkinhbecjahaa.U
set_option linter.unusedVariables false
set_option linter.unusedSimpArgs false
theorem quiet_drawn {P : Program} {f : FuncId} {args : Array Value} {w : World} {n : Nat} {v : Value} (h : Calls P f args (w.drewN n) fun e w' => e = .returned v ∧ Drawn0 (w.drewN n) w') : Calls P f args (w.drewN n) fun e w' => e = .returned v ∧ ∃ m, w' = w.drewN m := by
  refine h.mono fun e w' ⟨he, hd⟩ => ⟨he, ?_⟩
  obtain ⟨m, rfl⟩ := hd.out
  exact ⟨n + m, by first | rfl | simp⟩
theorem ok_short (b : List Int) (p : Nat) (over : Bool) (n : Nat) (hp : p ≤ 8 * b.length) : okB b p over n ↔ ¬ shortE (8 * b.length) p over n := by
  unfold okB shortE leftN
  cases over <;> simp <;> omega
set_option maxHeartbeats 8000000 in
set_option maxRecDepth 100000 in
theorem BitinReads (A0 : Option Addr) (c0 : Nat) (l : List Int) (A1 : Option Addr) (c1 : Nat) (q : List Int) (w : World) (w0 : l.length ≤ maxLen) (w1 : l.length * 1 ≤ 140737488351232) (w2 : ∀ y ∈ l, (Lit.int .u8 y).wf = true)
    (w3 : q.length ≤ maxLen) (w4 : q.length * 8 ≤ 140737488351232) (w5 : ∀ y ∈ q, (Lit.int .i64 y).wf = true)
    (hr : Kd.C (Kd.int .u8) w A0 l.length l) (hc : l.length ≤ c0) (hr2 : Kd.C (Kd.int .i64) w A1 q.length q) (hc2 : q.length ≤ c1) :
    Calls Try.prog 4 #[.slice A0 l.length c0, .slice A1 q.length c1] w fun e w' => e = .returned (.bool true) ∧ Below w.heap.size w w' := by
  have hb8 := bytes_wf w2
  unfold maxLen at w0 w3
  clear w2
  by_cases h1 : 1000 < l.length
  · have t0 : decide (1000 < (l.length : Int)) = true := decide_eq_true (by omega)
    go_enter Try.func4, Try.ntmps4
    go_wp2_with fail
    refine (answers_calls _).mono ?_; rintro e w1 ⟨rfl, hb⟩
    go_wp2
    go_ret
    exact ⟨rfl, hb⟩
  have t0 : decide (1000 < (l.length : Int)) = false := decide_eq_false (by omega)
  by_cases h2 : 300 < q.length
  · have t1 : decide (300 < (q.length : Int)) = true := decide_eq_true (by omega)
    go_enter Try.func4, Try.ntmps4
    go_wp2_with fail
    refine (answers_calls _).mono ?_; rintro e w1 ⟨rfl, hb⟩
    go_wp2
    go_ret
    exact ⟨rfl, hb⟩
  have t1 : decide (300 < (q.length : Int)) = false := decide_eq_false (by omega)
  have HB8 := Aside0.mk hb8; clear hb8
  have HR := Aside0.mk (C_reads hr); clear hr
  have HR2 := Aside0.mk hr2; clear hr2
  have HS := Aside0.mk ((St.refl w).allocRow 5 .u8 [] (by decide))
  go_enter Try.func4, Try.ntmps4
  go_wp2_with (at_builtin; refine St.append_row rfl (.tmp 24) (.tmp 25) 22 5 .u8 1 rfl Try.underlying22 (by kernel_rfl) (by decide) (.slice (some ⟨w.heap.size, 0, none⟩) 0 0) 0 [] l A0 l.length c0 rfl rfl HS.out (HR.out.allocS _) (by omega) ?_; intro A2 c2 v1 hs1; rw [Nat.zero_add] at hs1 ⊢; have HS1 := Aside0.mk hs1; clear hs1)
  refine (bitin_New _ _ _ l _ _ _ (rowReads HS1.out) (by omega) HS1.out).mono ?_; rintro e v2 ⟨g, rfl, hs2⟩
  have HS2 := Aside0.mk hs2; clear hs2 HS HS1
  go_wp2_with fail
  go_loopw [7] (fun i wr => ∃ (j : Nat) (xs : List Int), j ≤ l.length ∧ i = .int .i64 j ∧ St w wr (readerA g l 0 false * (Asrt.row 5 1 (.slice A2 l.length c2) l.length (nums .u8 xs) * Asrt.emp))) (fun i _ => l.length - (intOf i).toNat)
  case atStart => exact ⟨0, _, by omega, rfl, HS2.out⟩
  case round =>
    obtain ⟨j, xs, hj, rfl, hsj⟩ := hrel
    clear HS2
    have hxs : xs.length = l.length := by have := hsj.swap.row.1; simpa [nums] using this
    by_cases hlt : j < l.length
    · have tl : decide ((j : Int) < l.length) = true := decide_eq_true (by omega)
      obtain ⟨h, hA⟩ := hsj.swap.rowForm (by omega)
      subst hA
      have hcell := (hsj.swap.rowAt j (by omega) (by omega)).1
      have hfr := (hsj.swap.rowAt j (by omega) (by omega)).2
      rw [Int.toNat_natCast] at hcell hfr
      have HSJ := Aside0.mk hsj; clear hsj
      have HX := Aside0.mk hxs; clear hxs
      go_wp2_with fail
      have hst := (HSJ.out.swap.rowSet (j : Int) ((rd xs j + 1) % 256)).swap
      rw [Int.toNat_natCast] at hst
      exact ⟨⟨j + 1, _, by omega, by go_num, hst⟩, by simp [intOf]; omega⟩
    · have tl : decide ((j : Int) < l.length) = false := decide_eq_false (by omega)
      clear hxs
      have HSJ := Aside0.mk hsj; clear hsj
      go_wp2_with fail
      refine (ref_Look A0 c0 l _ _ _ HR.out (by omega) HB8.out HSJ.out).mono ?_; rintro e v3 ⟨g2, rfl, hs3⟩
      have HS3 := Aside0.mk hs3; clear hs3 HSJ
      generalize (Asrt.row 5 1 (.slice A2 l.length c2) l.length (nums .u8 xs) * Asrt.emp) = R at *
      go_wp2_with fail
      go_loopw [4, 9] (fun res i wr => res = .bool false ∧ ∃ (k p : Nat) (over : Bool), k ≤ q.length ∧ p ≤ 8 * l.length ∧ i = .int .i64 k ∧ St w wr (readerA g l p over * (eyeA g2 l (8 * l.length) p over * R))) (fun _ i _ => q.length - (intOf i).toNat)
      case atStart => exact ⟨rfl, 0, 0, false, by omega, by omega, rfl, HS3.out.swap⟩
      case round =>
        obtain ⟨rfl, k, p, over, hk, hp, rfl, hsk⟩ := hrel
        clear HS3
        have HSK := Aside0.mk hsk; clear hsk
        by_cases hlt2 : k < q.length
        · have tl2 : decide ((k : Int) < q.length) = true := decide_eq_true (by omega)
          obtain ⟨ad, hA, hat⟩ := C_int_at HR2.out (by omega)
          subst hA
          obtain ⟨n, hn⟩ : ∃ n, rd q k = n := ⟨_, rfl⟩
          have hcell := pw_cell_below HSK.out.below (hat k hlt2)
          rw [hn] at hcell
          clear hat hn
          by_cases harg : n < 0 ∨ 32 < n
          · have HAT := Aside0.mk harg
            by_cases hn0 : n < 0
            · have tn0 : decide (n < 0) = true := decide_eq_true hn0
              clear harg
              go_wp2_with fail
              refine (bitin_Bits_arg g n _ HAT.out).mono ?_; rintro e v5 ⟨rfl, rfl⟩
              go_wp2_with fail
              go_roundw
              case rel => exact ⟨rfl, k + 1, p, over, by omega, hp, by go_num, HSK.out⟩
              case measure => simp [intOf]; omega
            · have tn0 : decide (n < 0) = false := decide_eq_false hn0
              have tn1 : decide (32 < n) = true := decide_eq_true (by omega)
              clear harg
              go_wp2_with fail
              refine (bitin_Bits_arg g n _ HAT.out).mono ?_; rintro e v5 ⟨rfl, rfl⟩
              go_wp2_with fail
              go_roundw
              case rel => exact ⟨rfl, k + 1, p, over, by omega, hp, by go_num, HSK.out⟩
              case measure => simp [intOf]; omega
          · have hn0 : 0 ≤ n := by omega
            have hn1 : n ≤ 32 := by omega
            have tn0 : decide (n < 0) = false := decide_eq_false (by omega)
            have tn1 : decide (32 < n) = false := decide_eq_false (by omega)
            clear harg
            by_cases hok : okB l p over n.toNat
            · have hsh := (ok_short l p over n.toNat hp).1 hok
              have hpn : p + n.toNat ≤ 8 * l.length := by
                unfold okB leftN at hok
                cases over <;> simp at hok <;> omega
              obtain ⟨v, hv⟩ : ∃ v, numAt l p n.toNat = v := ⟨_, rfl⟩
              have hvb : 0 ≤ v ∧ v ≤ 4294967295 := by
                have h1 := numAt_bd l p n.toNat
                have h2 := pow_le (a := n.toNat) (b := 32) (by omega)
                rw [hv] at h1
                omega
              obtain ⟨hv0, hv1⟩ := hvb
              have HV := Aside0.mk hv; clear hv
              obtain ⟨m, hm⟩ : ∃ m, p + n.toNat = m := ⟨_, rfl⟩
              rw [hm] at hpn
              have HM := Aside0.mk hm; clear hm
              obtain ⟨b0, tn2⟩ : ∃ b0, decide (0 < n) = b0 := ⟨_, rfl⟩
              have hbad : ¬ (over = true ∧ b0 = true) := by
                rintro ⟨rfl, rfl⟩
                have := of_decide_eq_true tn2
                unfold okB leftN at hok
                simp at hok
                omega
              have e1 : IntKind.i64.wrap (8 * (l.length : Int) - m) = 8 * (l.length : Int) - m := wi64 (by omega) (by omega)
              have HB := Aside0.mk hbad; clear hbad
              rcases over with _ | _ <;> rcases b0 with _ | _
              rotate_right 1
              · exact absurd ⟨rfl, rfl⟩ HB.out
              all_goals
                go_wp2_with fail
                refine (bitin_Bits_ok g l p _ n _ _ _ hp (by omega) HB8.out HSK.out hn0 hn1 hok).mono ?_; rintro e v5 ⟨rfl, hs5⟩
                rw [HV.out]
                rw [HM.out] at hs5
                have HS5 := Aside0.mk hs5.swap; clear hs5 HSK
                go_wp2_with fail
                refine (ref_Num_ok g2 l (8 * l.length) p _ n _ _ _ hp (by omega) hn0 hn1 hsh HS5.out).mono ?_; rintro e v6 ⟨rfl, hs6⟩
                rw [HV.out]
                rw [HM.out] at hs6
                obtain ⟨Ae, ce, d0, d1, d2⟩ := eye_cells hs6
                have HS6 := Aside0.mk hs6.swap; clear hs6 HS5
                go_wp2_with fail
                go_quiet (fail)
                go_wp2_with fail
                have HS7 := Aside0.mk (HS6.out.drewN nq)
                have d2' : (v6.drewN nq).cell? ⟨g2, 2, none⟩ = _ := d2
                clear HS6 d0 d1 d2
                generalize v6.drewN nq = v7 at *
                have el0 : leftN l m false = 8 * (l.length : Int) - m := rfl
                have el1 : leftN l m true = 0 := rfl
                go_quiet (first | (go_at_call 12; exact quiet_drawn (bitin_Left g l m _ _ _ _ hpn (by omega) (HS7.out.drewN _))) | (go_at_call 13; exact Calls.quiet_of_same (still_of (bitin_Over g l m _ _ _ _ (HS7.out.drewN _)))))
                go_wp2_with fail
                go_roundw
                case rel => exact ⟨rfl, k + 1, m, _, by omega, hpn, by go_num, HS7.out.drewN _⟩
                case measure => simp [intOf]; omega
            · have hsh := Classical.not_not.1 (fun h => hok ((ok_short l p over n.toNat hp).2 h))
              have hpos : 0 < n := by have := hsh.1; omega
              have tn2 : decide (0 < n) = true := decide_eq_true hpos
              have e1 : IntKind.i64.wrap (8 * (l.length : Int) - p) = 8 * (l.length : Int) - p := wi64 (by omega) (by omega)
              go_wp2_with fail
              refine (bitin_Bits_no g l p over n _ _ _ hp (by omega) HSK.out hn0 hn1 hok).mono ?_; rintro e v5 ⟨rfl, hs5⟩
              have HS5 := Aside0.mk hs5.swap; clear hs5 HSK
              go_wp2_with fail
              refine (ref_Num_end g2 l (8 * l.length) p over n _ _ _ hp (by omega) hn0 hn1 hsh HS5.out).mono ?_; rintro e v6 ⟨rfl, hs6⟩
              obtain ⟨Ae, ce, d0, d1, d2⟩ := eye_cells hs6
              have HS6 := Aside0.mk hs6.swap; clear hs6 HS5
              go_wp2_with fail
              go_quiet (fail)
              go_wp2_with fail
              have HS7 := Aside0.mk (HS6.out.drewN nq)
              have d2' : (v6.drewN nq).cell? ⟨g2, 2, none⟩ = _ := d2
              clear HS6 d0 d1 d2
              generalize v6.drewN nq = v7 at *
              have el1 : leftN l p true = 0 := rfl
              go_quiet (first | (go_at_call 12; exact quiet_drawn (bitin_Left g l p _ _ _ _ hp (by omega) (HS7.out.drewN _))) | (go_at_call 13; exact Calls.quiet_of_same (still_of (bitin_Over g l p _ _ _ _ (HS7.out.drewN _)))))
              go_wp2_with fail
              go_roundw
              case rel => exact ⟨rfl, k + 1, p, _, by omega, hp, by go_num, HS7.out.drewN _⟩
              case measure => simp [intOf]; omega
        · have tl2 : decide ((k : Int) < q.length) = false := decide_eq_false (by omega)
          go_wp2_with fail
          refine (answers_calls _).mono ?_; rintro e v5 ⟨rfl, hb⟩
          go_wp2
          go_ret
          exact ⟨rfl, below_step HSK.out.below hb⟩
end Go.Proofs.Ytflkinhbecjahaa.Pure
