/- Any colour's place, of any bits, is the document's; with more bits it is near the old one. -/
import Derived.Test.YtimkemfiiodafaaCacheLaw
namespace Go.Proofs.Ytimkemfiiodafaa.Pure
open Go Go.RowKit Go.Proofs.Ytimkemfiiodafaa.P Go.Proofs.YtimkemfiiodafaaW.PrintWords Go.Proofs.YtimkemfiiodafaaW.PrintLast Go.Proofs.YtimkemfiiodafaaW.PrintMore Go.Proofs.Ytimkemfiiodafaa.U
set_option linter.unusedVariables false
set_option linter.unusedSimpArgs false
theorem slot_half (a b : Int) (h0 : 1 ≤ b) (h1 : b ≤ 10) : slotR a (b + 1) / 2 = slotR a b := by
  unfold slotR
  rw [if_pos (by omega), if_pos (by omega)]
  unfold slotN
  rw [show (32 - b).toNat = (32 - (b + 1)).toNat + 1 by omega, pow_add, Int.ediv_ediv_of_nonneg (by have := pow_pos (32 - (b + 1)).toNat; omega)]
  rfl
theorem slotR_bd (a b : Int) : 0 ≤ slotR a b ∧ slotR a b < 2048 := by
  unfold slotR
  by_cases h : 1 ≤ b ∧ b ≤ 11
  · rw [if_pos h]
    exact ⟨(slotN_bd h.1 h.2).1, slotN_small h.1 h.2⟩
  · rw [if_neg h]
    decide
theorem slotR_lt (a b : Int) (h0 : 1 ≤ b) (h1 : b ≤ 11) : slotR a b < 2 ^ b.toNat := by
  unfold slotR
  rw [if_pos ⟨h0, h1⟩]
  exact (slotN_bd h0 h1).2
set_option maxHeartbeats 1000000 in
set_option maxRecDepth 100000 in
theorem CacheSlots (a b : Int) (w : World) (wa : (Lit.int .u32 a).wf = true) (wb : (Lit.int .i64 b).wf = true) :
    Calls Try.prog 3 #[.int .u32 a, .int .i64 b] w fun e w' => e = .returned (.bool true) ∧ Below w.heap.size w w' := by
  have ha := wf_u32 wa
  have hb := wf_i64 wb
  clear wa wb
  have hs := slotR_bd a b
  by_cases h : b < 1 ∨ 10 < b
  · have te : (slotR a b == slotR a b) = true := by simp
    by_cases h0 : b < 1
    · have t0 : decide (b < 1) = true := decide_eq_true h0
      clear h h0
      go_enter Try.func3, Try.ntmps3
      go_wp2_with fail
      refine (slot_calls _ _ _ ha).mono ?_; rintro e w1 ⟨rfl, rfl⟩
      go_wp2_with fail
      refine (answers_calls _).mono ?_; rintro e w1 ⟨rfl, hb⟩
      go_wp2_with fail
      refine (ref_slot_calls _ _ _ ha).mono ?_; rintro e w2 ⟨rfl, ⟨nd, rfl⟩⟩
      go_wp2
      go_ret
      exact ⟨rfl, pw_below_drewN hb _⟩
    · have t0 : decide (b < 1) = false := decide_eq_false h0
      have t1 : decide (10 < b) = true := decide_eq_true (by omega)
      clear h h0
      go_enter Try.func3, Try.ntmps3
      go_wp2_with fail
      refine (slot_calls _ _ _ ha).mono ?_; rintro e w1 ⟨rfl, rfl⟩
      go_wp2_with fail
      refine (answers_calls _).mono ?_; rintro e w1 ⟨rfl, hb⟩
      go_wp2_with fail
      refine (ref_slot_calls _ _ _ ha).mono ?_; rintro e w2 ⟨rfl, ⟨nd, rfl⟩⟩
      go_wp2
      go_ret
      exact ⟨rfl, pw_below_drewN hb _⟩
  · have ht0 : decide (b < 1) = false := decide_eq_false (by omega)
    have ht1 : decide (10 < b) = false := decide_eq_false (by omega)
    have hb0 : 1 ≤ b := by omega
    have hb1 : b ≤ 10 := by omega
    clear h
    have hh := slot_half a b hb0 hb1
    have hs1 := slotR_bd a (b + 1)
    obtain ⟨m, hm, hm2, hm3⟩ := pow11 hb0 (show b ≤ 11 by omega)
    have hlt : slotR a b < (m : Int) := by rw [hm2]; exact_mod_cast slotR_lt a b hb0 (by omega)
    clear hm2
    have HH := Aside0.mk hh
    clear hh
    have te : (slotR a b == slotR a b) = true := by simp
    go_enter Try.func3, Try.ntmps3
    go_wp2_with fail
    refine (slot_calls _ _ _ ha).mono ?_; rintro e w1 ⟨rfl, rfl⟩
    go_wp2_with fail
    refine (answers_calls _).mono ?_; rintro e w1 ⟨rfl, hb⟩
    go_wp2_with fail
    refine (ref_slot_calls _ _ _ ha).mono ?_; rintro e w2 ⟨rfl, ⟨nd, rfl⟩⟩
    go_wp2_with fail
    refine (slot_calls _ _ _ ha).mono ?_; rintro e w3 ⟨rfl, rfl⟩
    go_wp2
    go_ret
    refine ⟨?_, pw_below_drewN hb _⟩
    simp [HH.out]
end Go.Proofs.Ytimkemfiiodafaa.Pure
