/- Bits that are read at once are those that are read in two parts. -/
import Derived.Test.YtflkinhbecjahaaBitinLaw
namespace Go.Proofs.Ytflkinhbecjahaa.Pure
open Go Go.RowKit Go.Proofs.Ytflkinhbecjahaa.P Go.Proofs.YtflkinhbecjahaaW.PrintWords Go.Proofs.YtflkinhbecjahaaW.PrintLast Go.Proofs.YtflkinhbecjahaaW.PrintMore Go.Proofs.Ytflkinhbecjahaa.U
set_option linter.unusedVariables false
set_option linter.unusedSimpArgs false
set_option maxHeartbeats 4000000 in
set_option maxRecDepth 100000 in
theorem BitinParts (A0 : Option Addr) (c0 : Nat) (l : List Int) (k n m : Int) (w : World) (w0 : l.length ≤ maxLen) (w1 : l.length * 1 ≤ 140737488351232) (w2 : ∀ y ∈ l, (Lit.int .u8 y).wf = true) (wk : (Lit.int .u8 k).wf = true) (wn : (Lit.int .u8 n).wf = true) (wm : (Lit.int .u8 m).wf = true)
    (hr : Kd.C (Kd.int .u8) w A0 l.length l) (hc : l.length ≤ c0) :
    Calls Try.prog 3 #[.slice A0 l.length c0, .int .u8 k, .int .u8 n, .int .u8 m] w fun e w' => e = .returned (.bool true) ∧ Below w.heap.size w w' := by
  have hk := wf_u8 wk
  have hn := wf_u8 wn
  have hm := wf_u8 wm
  have hb8 := bytes_wf w2
  unfold maxLen at w0
  clear wk wn wm w2
  by_cases h1 : 100 < l.length
  · have t0 : decide (100 < (l.length : Int)) = true := decide_eq_true (by omega)
    go_enter Try.func3, Try.ntmps3
    go_wp2_with fail
    refine (answers_calls _).mono ?_; rintro e w1 ⟨rfl, hb⟩
    go_wp2
    go_ret
    exact ⟨rfl, hb⟩
  have t0 : decide (100 < (l.length : Int)) = false := decide_eq_false (by omega)
  have e1 : Int.tmod k 9 = k % 9 := Int.tmod_eq_emod_of_nonneg hk.1
  have e2 : Int.tmod n 17 = n % 17 := Int.tmod_eq_emod_of_nonneg hn.1
  have e3 : Int.tmod m 17 = m % 17 := Int.tmod_eq_emod_of_nonneg hm.1
  obtain ⟨s, hs⟩ : ∃ s, k % 9 = s := ⟨_, rfl⟩
  obtain ⟨x, hx⟩ : ∃ x, n % 17 = x := ⟨_, rfl⟩
  obtain ⟨y, hy⟩ : ∃ y, m % 17 = y := ⟨_, rfl⟩
  have s0 : 0 ≤ s ∧ s ≤ 8 := by omega
  have x0 : 0 ≤ x ∧ x ≤ 16 := by omega
  have y0 : 0 ≤ y ∧ y ≤ 16 := by omega
  have HB8 := Aside0.mk hb8; clear hb8
  have HR := Aside0.mk (C_reads hr); clear hr
  go_enter Try.func3, Try.ntmps3
  go_wp2_with fail
  refine (bitin_New _ _ _ l _ _ _ HR.out (by omega) (St.refl w)).mono ?_; rintro e v1 ⟨g, rfl, hs1⟩
  have HS := Aside0.mk hs1; clear hs1
  go_wp2_with fail
  refine (bitin_New _ _ _ l _ _ _ (HR.out.below HS.out.below) (by omega) HS.out).mono ?_; rintro e v2 ⟨g2, rfl, hs2⟩
  have HS2 := Aside0.mk hs2; clear hs2 HS
  go_wp2_with fail
  obtain ⟨p1, o1, hyes, hno, hp1⟩ : ∃ (p1 : Nat) (o1 : Bool), (okB l 0 false s.toNat → p1 = 0 + s.toNat ∧ o1 = false) ∧ (¬ okB l 0 false s.toNat → p1 = 0 ∧ o1 = true) ∧ p1 ≤ 8 * l.length := by
    by_cases h : okB l 0 false s.toNat
    · refine ⟨0 + s.toNat, false, fun _ => ⟨rfl, rfl⟩, fun h' => absurd h h', ?_⟩
      rcases h with h | h
      · omega
      · simp [leftN] at h; omega
    · exact ⟨0, true, fun h' => absurd h' h, fun _ => ⟨rfl, rfl⟩, Nat.zero_le _⟩
  refine (bitin_Bits_go g l 0 false s _ _ _ (by omega) (by omega) HB8.out HS2.out.swap s0.1 (by omega) p1 o1 hyes hno).mono ?_; rintro e v3 ⟨za, zb, rfl, hs3⟩
  have HS3 := Aside0.mk hs3; clear hs3 HS2
  go_wp2_with fail
  refine (bitin_Bits_go g2 l 0 false s _ _ _ (by omega) (by omega) HB8.out HS3.out.swap s0.1 (by omega) p1 o1 hyes hno).mono ?_; rintro e v4 ⟨zc, zd, rfl, hs4⟩
  have HS4 := Aside0.mk hs4; clear hs4 HS3 hyes hno
  have ex : (x + y).toNat = x.toNat + y.toNat := by omega
  have el : leftN l p1 o1 = if o1 then 0 else 8 * (l.length : Int) - p1 := rfl
  by_cases hA : okB l p1 o1 (x + y).toNat
  · have hX : okB l p1 o1 x.toNat := by
      unfold okB at hA ⊢
      omega
    have hY : okB l (p1 + x.toNat) o1 y.toNat := by
      unfold okB leftN at *
      cases o1 <;> simp at * <;> omega
    have hadd := numAt_add l p1 x.toNat y.toNat
    have bd0 := numAt_bd l p1 x.toNat
    have bd1 := numAt_bd l (p1 + x.toNat) y.toNat
    have bd2 := numAt_bd l p1 (x.toNat + y.toNat)
    have le0 := pow_le (a := x.toNat) (b := 16) (by omega)
    have le1 := pow_le (a := y.toNat) (b := 16) (by omega)
    have le2 := pow_le (a := x.toNat + y.toNat) (b := 32) (by omega)
    have pp := pow_pos x.toNat
    have hpx : p1 + x.toNat ≤ 8 * l.length := by
      unfold okB leftN at hX
      cases o1 <;> simp at hX <;> omega
    obtain ⟨va, hva⟩ : ∃ v, numAt l p1 (x + y).toNat = v := ⟨_, rfl⟩
    obtain ⟨vc, hvc⟩ : ∃ v, numAt l p1 x.toNat = v := ⟨_, rfl⟩
    obtain ⟨vd, hvd⟩ : ∃ v, numAt l (p1 + x.toNat) y.toNat = v := ⟨_, rfl⟩
    rw [ex] at hva
    rw [hva, hvc, hvd] at hadd
    rw [hva] at bd2
    rw [hvc] at bd0
    rw [hvd] at bd1
    have hmul : 2 ^ x.toNat * vd ≤ 65536 * 65535 := Int.mul_le_mul (by omega) (by omega) bd1.1 (by omega)
    have hmul0 : 0 ≤ 2 ^ x.toNat * vd := Int.mul_nonneg (by omega) bd1.1
    have hc1 : IntKind.u64.wrap (vd * 2 ^ x.toNat) = 2 ^ x.toNat * vd := by rw [Int.mul_comm]; exact wu64 hmul0 (by omega)
    rw [← ex] at hva
    have b1 : 0 ≤ va := bd2.1
    have b2 : va ≤ 4294967295 := by omega
    have b3 : 0 ≤ vc := bd0.1
    have b4 : vc ≤ 65535 := by omega
    have b5 : 0 ≤ vd := bd1.1
    have b6 : vd ≤ 65535 := by omega
    have hfin : IntKind.u64.wrap (vc + 2 ^ x.toNat * vd) = va := by rw [← hadd]; exact wu64 (by omega) (by omega)
    have HVA := Aside0.mk hva; clear hva
    have HVC := Aside0.mk hvc; clear hvc
    have HVD := Aside0.mk hvd; clear hvd
    clear hadd bd0 bd1 bd2 le0 le1 le2 pp hmul hmul0 ex el
    go_wp2_with fail
    refine (bitin_Bits_ok g l p1 o1 (x + y) _ _ _ hp1 (by omega) HB8.out HS4.out.swap (by omega) (by omega) hA).mono ?_; rintro e v5 ⟨rfl, hs5⟩
    rw [HVA.out]
    have HS5 := Aside0.mk hs5.swap; clear hs5 HS4
    go_wp2_with fail
    refine (bitin_Bits_ok g2 l p1 o1 x _ _ _ hp1 (by omega) HB8.out HS5.out (by omega) (by omega) hX).mono ?_; rintro e v6 ⟨rfl, hs6⟩
    rw [HVC.out]
    have HS6 := Aside0.mk hs6; clear hs6 HS5
    go_wp2_with fail
    refine (bitin_Bits_ok g2 l (p1 + x.toNat) o1 y _ _ _ hpx (by omega) HB8.out HS6.out (by omega) (by omega) hY).mono ?_; rintro e v7 ⟨rfl, hs7⟩
    rw [HVD.out]
    have HS7 := Aside0.mk hs7.below; clear hs7 HS6
    go_wp2_with fail
    refine (answers_calls _).mono ?_; rintro e v8 ⟨rfl, hb⟩
    go_wp2_with fail
    go_ret
    exact ⟨rfl, below_step HS7.out hb⟩
  · clear ex
    by_cases hX : okB l p1 o1 x.toNat
    · have hY : ¬ okB l (p1 + x.toNat) o1 y.toNat := by
        unfold okB leftN at *
        cases o1 <;> simp at * <;> omega
      have hpx : p1 + x.toNat ≤ 8 * l.length := by
        unfold okB leftN at hX
        cases o1 <;> simp at hX <;> omega
      clear el
      go_wp2_with fail
      refine (bitin_Bits_no g l p1 o1 (x + y) _ _ _ hp1 (by omega) HS4.out.swap (by omega) (by omega) hA).mono ?_; rintro e v5 ⟨rfl, hs5⟩
      have HS5 := Aside0.mk hs5.swap; clear hs5 HS4
      go_wp2_with fail
      refine (bitin_Bits_ok g2 l p1 o1 x _ _ _ hp1 (by omega) HB8.out HS5.out (by omega) (by omega) hX).mono ?_; rintro e v6 ⟨rfl, hs6⟩
      have HS6 := Aside0.mk hs6; clear hs6 HS5
      go_wp2_with fail
      refine (bitin_Bits_no g2 l (p1 + x.toNat) o1 y _ _ _ hpx (by omega) HS6.out (by omega) (by omega) hY).mono ?_; rintro e v7 ⟨rfl, hs7⟩
      have HS7 := Aside0.mk hs7.below; clear hs7 HS6
      go_wp2_with fail
      refine (answers_calls _).mono ?_; rintro e v8 ⟨rfl, hb⟩
      go_wp2_with fail
      go_ret
      exact ⟨rfl, below_step HS7.out hb⟩
    · clear el
      go_wp2_with fail
      refine (bitin_Bits_no g l p1 o1 (x + y) _ _ _ hp1 (by omega) HS4.out.swap (by omega) (by omega) hA).mono ?_; rintro e v5 ⟨rfl, hs5⟩
      have HS5 := Aside0.mk hs5.swap; clear hs5 HS4
      go_wp2_with fail
      refine (bitin_Bits_no g2 l p1 o1 x _ _ _ hp1 (by omega) HS5.out (by omega) (by omega) hX).mono ?_; rintro e v6 ⟨rfl, hs6⟩
      have HS6 := Aside0.mk hs6; clear hs6 HS5
      go_wp2_with fail
      refine (bitin_Bits_go g2 l p1 true y _ _ _ hp1 (by omega) HB8.out HS6.out (by omega) (by omega) (if okB l p1 true y.toNat then p1 + y.toNat else p1) true (fun h => by rw [if_pos h]; exact ⟨rfl, rfl⟩) (fun h => by rw [if_neg h]; exact ⟨rfl, rfl⟩)).mono ?_; rintro e v7 ⟨zx, zy, rfl, hs7⟩
      have HS7 := Aside0.mk hs7.below; clear hs7 HS6
      go_wp2_with fail
      refine (answers_calls _).mono ?_; rintro e v8 ⟨rfl, hb⟩
      go_wp2_with fail
      go_ret
      exact ⟨rfl, below_step HS7.out hb⟩
end Go.Proofs.Ytflkinhbecjahaa.Pure
