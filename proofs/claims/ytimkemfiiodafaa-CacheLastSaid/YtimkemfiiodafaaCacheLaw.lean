/- What the laws of the cache have in common: the answers; where the document lays a colour. -/
import Derived.Test.YtimkemfiiodafaaMcache
import Derived.Test.YtimkemfiiodafaaPx
import Derived.Test.YtimkemfiiodafaaU
namespace Go.Proofs.Ytimkemfiiodafaa.Pure
open Go Go.RowKit Go.Proofs.Ytimkemfiiodafaa.P Go.Proofs.YtimkemfiiodafaaW.PrintWords Go.Proofs.YtimkemfiiodafaaW.PrintLast Go.Proofs.YtimkemfiiodafaaW.PrintMore Go.Proofs.Ytimkemfiiodafaa.U
set_option linter.unusedVariables false
set_option linter.unusedSimpArgs false
attribute [local go_sem] max2_int min2_int max_two min_two max_three min_three max_four min_four

set_option maxHeartbeats 1000000 in
set_option maxRecDepth 100000 in
theorem answers_calls (w : World) : Calls Try.prog 8 #[] w fun e w' => e = .returned (.bool true) ∧ Below w.heap.size w w' := by
  go_enter Try.func8, Try.ntmps8
  go_wp2_with fail
  refine (cache_New_in 3 _ _ _ (by decide) (by decide) (St.refl w)).mono ?_; rintro e w1 ⟨g, rfl, hs⟩
  go_wp2_with fail
  refine (cache_Add_in g 3 77 _ _ _ _ (by decide) (by decide) (by decide) (by simp) hs).mono ?_; rintro e w2 ⟨rfl, hs2⟩
  clear hs
  go_wp2_with fail
  refine (cache_Find_hit g 3 77 _ _ _ _ (by decide) (by decide) (by decide) (by simp) hs2 (by decide +kernel)).mono ?_; rintro e w3 ⟨rfl, ⟨nd, rfl⟩⟩
  have hs3 := hs2.drewN nd
  clear hs2
  go_wp2_with fail
  refine (cache_Slot_in 77 3 _ (by decide) (by decide) (by decide)).mono ?_; rintro e w4 ⟨rfl, rfl⟩
  go_wp2
  go_ret
  refine ⟨?_, hs3.below⟩
  simp

/-- The document's way: halves, as many as bits are over. -/
theorem ref_loop (x1 p : Int) (h1 : 1 ≤ x1 ∧ x1 ≤ 11) (hp : 0 ≤ p ∧ p < 4294967296) (d : Nat) : ∀ i : Nat, (i : Int) + d = 32 - x1 → Ev (fun k => marquetryref01_Slot.l0 k x1 (p / 2 ^ i) i) (p / 2 ^ (32 - x1).toNat) := by
  induction d with
  | zero =>
    intro i hi
    refine Ev.succ ?_
    simp only [marquetryref01_Slot.l0]
    have hq : 0 ≤ p / 2 ^ i := Int.ediv_nonneg hp.1 (by have := pow_pos i; omega)
    have hq2 : p / 2 ^ i ≤ p := Int.ediv_le_self _ hp.1
    rw [w64 (n := 32 - x1) (by omega) (by omega)]
    refine Ev.ite_neg (by omega) (Ev.fin ?_)
    rw [w64 (by omega) (by omega), show (32 - x1).toNat = i by omega]
  | succ d ih =>
    intro i hi
    refine Ev.succ ?_
    simp only [marquetryref01_Slot.l0]
    have hq : 0 ≤ p / 2 ^ i := Int.ediv_nonneg hp.1 (by have := pow_pos i; omega)
    have hq2 : p / 2 ^ i ≤ p := Int.ediv_le_self _ hp.1
    rw [w64 (n := 32 - x1) (by omega) (by omega), w64 (n := (i : Int) + 1) (by omega) (by omega), Int.tdiv_eq_ediv_of_nonneg hq, wu64 (by omega) (by omega)]
    refine Ev.ite_pos (by omega) ?_
    have e : p / 2 ^ i / 2 = p / 2 ^ (i + 1) := by rw [Int.ediv_ediv_of_nonneg (by have := pow_pos i; omega), pow_add]; rfl
    rw [e]
    exact_mod_cast ih (i + 1) (by omega)
def slotR (argb bits : Int) : Int := if 1 ≤ bits ∧ bits ≤ 11 then slotN argb bits else 0
theorem ref_slot (argb bits : Int) (hu : 0 ≤ argb ∧ argb ≤ 4294967295) : Ev (fun k => marquetryref01_Slot.f k argb bits) (slotR argb bits) := by
  unfold marquetryref01_Slot.f slotR
  by_cases h1 : bits < 1
  · rw [if_neg (by omega)]
    refine Ev.ite_pos h1 (Ev.succ ?_)
    simp only [marquetryref01_Slot.j0]
    exact Ev.ite_pos trivial (Ev.fin rfl)
  · refine Ev.ite_neg h1 (Ev.succ ?_)
    simp only [marquetryref01_Slot.j0]
    by_cases h2 : bits > 11
    · rw [if_neg (by omega)]
      exact Ev.ite_pos (by simpa using h2) (Ev.fin rfl)
    · rw [if_pos (by omega)]
      refine Ev.ite_neg (by simpa using h2) ?_
      have e : Int.tmod (IntKind.u64.wrap ((IntKind.u64.wrap argb) * 506832829)) 4294967296 = (506832829 * argb) % 4294967296 := by
        rw [wu64 (n := argb) (by omega) (by omega), wu64 (by omega) (by omega), Int.tmod_eq_emod_of_nonneg (by omega), Int.mul_comm]
      rw [e]
      have := ref_loop bits ((506832829 * argb) % 4294967296) (by omega) (by omega) (32 - bits).toNat 0 (by omega)
      simpa [slotN] using this
theorem ref_slot_calls (argb bits : Int) (w : World) (hu : 0 ≤ argb ∧ argb ≤ 4294967295) :
    Calls Try.prog 9 #[.int .u32 argb, .int .i64 bits] w fun e w' => e = .returned (.int .i64 (slotR argb bits)) ∧ Drawn0 w w' := by
  obtain ⟨k, hk⟩ := (ref_slot argb bits hu).rounds
  exact marquetryref01_Slot.calls k argb bits _ w hk
theorem ref_slot_in (argb bits : Int) (w : World) (hu : 0 ≤ argb ∧ argb ≤ 4294967295) (h0 : 1 ≤ bits) (h1 : bits ≤ 11) :
    Calls Try.prog 9 #[.int .u32 argb, .int .i64 bits] w fun e w' => e = .returned (.int .i64 (slotN argb bits)) ∧ Drawn0 w w' := by
  have := ref_slot_calls argb bits w hu
  rwa [show slotR argb bits = slotN argb bits from if_pos ⟨h0, h1⟩] at this
theorem slot_calls (argb bits : Int) (w : World) (hu : 0 ≤ argb ∧ argb ≤ 4294967295) :
    Calls Try.prog 7 #[.int .u32 argb, .int .i64 bits] w fun e w' => e = .returned (.int .i64 (slotR argb bits)) ∧ w = w' := by
  unfold slotR
  by_cases h : 1 ≤ bits ∧ bits ≤ 11
  · rw [if_pos h]
    exact cache_Slot_in _ _ _ h.1 h.2 hu
  · rw [if_neg h]
    exact cache_Slot_out _ _ _ (by omega)
end Go.Proofs.Ytimkemfiiodafaa.Pure
