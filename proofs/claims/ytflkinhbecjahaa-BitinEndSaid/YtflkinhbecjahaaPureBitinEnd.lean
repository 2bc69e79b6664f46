/- Behind its end a reader tells nothing more, however few bits are asked for. -/
import Derived.Test.YtflkinhbecjahaaBitinLaw
namespace Go.Proofs.Ytflkinhbecjahaa.Pure
open Go Go.RowKit Go.Proofs.Ytflkinhbecjahaa.P Go.Proofs.YtflkinhbecjahaaW.PrintWords Go.Proofs.YtflkinhbecjahaaW.PrintLast Go.Proofs.YtflkinhbecjahaaW.PrintMore Go.Proofs.Ytflkinhbecjahaa.U
set_option linter.unusedVariables false
set_option linter.unusedSimpArgs false
set_option maxHeartbeats 4000000 in
set_option maxRecDepth 100000 in
theorem BitinEnd (A0 : Option Addr) (c0 : Nat) (l : List Int) (n m : Int) (w : World) (w0 : l.length ≤ maxLen) (w1 : l.length * 1 ≤ 140737488351232) (w2 : ∀ y ∈ l, (Lit.int .u8 y).wf = true) (wn : (Lit.int .u8 n).wf = true) (wm : (Lit.int .u8 m).wf = true)
    (hr : Kd.C (Kd.int .u8) w A0 l.length l) (hc : l.length ≤ c0) :
    Calls Try.prog 6 #[.slice A0 l.length c0, .int .u8 n, .int .u8 m] w fun e w' => e = .returned (.bool true) ∧ Below w.heap.size w w' := by
  have hn := wf_u8 wn
  have hm := wf_u8 wm
  have hb8 := bytes_wf w2
  unfold maxLen at w0
  clear wn wm w2
  by_cases h1 : 100 < l.length
  · have t0 : decide (100 < (l.length : Int)) = true := decide_eq_true (by omega)
    go_enter Try.func6, Try.ntmps6
    go_wp2_with fail
    refine (answers_calls _).mono ?_; rintro e w1 ⟨rfl, hb⟩
    go_wp2
    go_ret
    exact ⟨rfl, hb⟩
  have t0 : decide (100 < (l.length : Int)) = false := decide_eq_false (by omega)
  have e2 : Int.tmod n 8 = n % 8 := Int.tmod_eq_emod_of_nonneg hn.1
  have e3 : Int.tmod m 32 = m % 32 := Int.tmod_eq_emod_of_nonneg hm.1
  obtain ⟨x, hx⟩ : ∃ x, n % 8 = x := ⟨_, rfl⟩
  obtain ⟨y, hy⟩ : ∃ y, m % 32 = y := ⟨_, rfl⟩
  have x0 : 0 ≤ x ∧ x ≤ 7 := by omega
  have y0 : 0 ≤ y ∧ y ≤ 31 := by omega
  have HB8 := Aside0.mk hb8; clear hb8
  have HR := Aside0.mk (C_reads hr); clear hr
  go_enter Try.func6, Try.ntmps6
  go_wp2_with fail
  refine (bitin_New _ _ _ l _ _ _ HR.out (by omega) (St.refl w)).mono ?_; rintro e v1 ⟨g, rfl, hs1⟩
  have HS := Aside0.mk hs1; clear hs1
  go_wp2_with fail
  go_loopw [8, 9] (fun kk i wr => ∃ j p q : Nat, (j : Int) ≤ x ∧ i = .int .i64 j ∧ kk = .int .i64 q ∧ q + p = 8 * l.length ∧ St w wr (readerA g l p false * Asrt.emp)) (fun _ i _ => (x - intOf i).toNat)
  case atStart => exact ⟨0, 0, 8 * l.length, by omega, rfl, by go_num, rfl, HS.out⟩
  case round =>
    obtain ⟨j, p, q, hj, rfl, rfl, hq, hs⟩ := hrel
    clear HS
    have HS := Aside0.mk hs; clear hs
    have HQ := Aside0.mk hq
    have hq2 : q ≤ 8 * l.length := by omega
    have hp2 : p ≤ 8 * l.length := by omega
    have hlq : leftN l p false = q := by unfold leftN; simp; omega
    clear hq
    by_cases hlt : (j : Int) < x
    · have tl : decide ((j : Int) < x) = true := decide_eq_true hlt
      by_cases h5 : 5 ≤ q
      · have t5 : decide (5 ≤ (q : Int)) = true := decide_eq_true (by omega)
        have hok : okB l p false (5 : Int).toNat := .inr (by rw [hlq]; omega)
        clear hlq
        go_wp2_with fail
        refine (bitin_Bits_ok g l p false 5 _ _ _ hp2 (by omega) HB8.out HS.out (by omega) (by omega) hok).mono ?_; rintro e v5 ⟨rfl, hs5⟩
        have HS5 := Aside0.mk hs5; clear hs5
        go_wp2_with fail
        go_roundw
        case rel => exact ⟨j + 1, p + 5, q - 5, by omega, by go_num, by go_num, by have := HQ.out; omega, HS5.out⟩
        case measure => simp [intOf]; omega
      · have t5 : decide (5 ≤ (q : Int)) = false := decide_eq_false (by omega)
        clear hlq
        go_wp2_with fail
        go_roundw
        case rel => exact ⟨j + 1, p, q, by omega, by go_num, rfl, HQ.out, HS.out⟩
        case measure => simp [intOf]; omega
    · have tl : decide ((j : Int) < x) = false := decide_eq_false hlt
      by_cases h32 : q < 32
      · have t5 : decide ((q : Int) < 32) = true := decide_eq_true (by omega)
        have hno : ¬ okB l p false (32 : Int).toNat := by
          unfold okB
          rw [hlq]
          omega
        have hno2 : ¬ okB l p true (1 + y).toNat := by
          unfold okB leftN
          simp
          omega
        clear hlq
        go_wp2_with fail
        refine (bitin_Bits_no g l p false 32 _ _ _ hp2 (by omega) HS.out (by omega) (by omega) hno).mono ?_; rintro e v5 ⟨rfl, hs5⟩
        have HS5 := Aside0.mk hs5; clear hs5
        go_wp2_with fail
        refine (bitin_Bits_no g l p true (1 + y) _ _ _ hp2 (by omega) HS5.out (by omega) (by omega) hno2).mono ?_; rintro e v6 ⟨rfl, hs6⟩
        have HS6 := Aside0.mk hs6; clear hs6
        go_wp2_with fail
        refine (bitin_Bits_zero g _).mono ?_; rintro e v7 ⟨rfl, rfl⟩
        go_wp2_with fail
        refine (answers_calls _).mono ?_; rintro e v8 ⟨rfl, hb⟩
        have HS8 := Aside0.mk (HS6.out.belowR hb); clear hb
        go_wp2_with fail
        refine (bitin_Left g l p true _ _ _ hp2 (by omega) HS8.out).mono ?_; rintro e v9 ⟨rfl, ⟨nd, rfl⟩⟩
        rw [show leftN l p true = 0 from rfl]
        go_wp2_with fail
        refine (bitin_Over g l p true _ _ _ (HS8.out.drewN nd)).mono ?_; rintro e v9 ⟨rfl, rfl⟩
        go_wp2_with fail
        go_ret
        exact ⟨rfl, (HS8.out.drewN nd).below⟩
      · have t5 : decide ((q : Int) < 32) = false := decide_eq_false (by omega)
        have HLQ := Aside0.mk hlq; clear hlq
        go_wp2_with fail
        refine (answers_calls _).mono ?_; rintro e v8 ⟨rfl, hb⟩
        have HS8 := Aside0.mk (HS.out.belowR hb); clear hb
        go_wp2_with fail
        refine (bitin_Left g l p false _ _ _ hp2 (by omega) HS8.out).mono ?_; rintro e v9 ⟨rfl, ⟨nd, rfl⟩⟩
        rw [HLQ.out]
        go_wp2_with fail
        refine (bitin_Over g l p false _ _ _ (HS8.out.drewN nd)).mono ?_; rintro e v9 ⟨rfl, rfl⟩
        go_wp2_with fail
        go_ret
        exact ⟨rfl, (HS8.out.drewN nd).below⟩
end Go.Proofs.Ytflkinhbecjahaa.Pure
