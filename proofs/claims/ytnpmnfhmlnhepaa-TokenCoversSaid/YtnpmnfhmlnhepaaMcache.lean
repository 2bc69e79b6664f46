/- The cache of colours: what its ways come to. -/
import Derived.Test.YtnpmnfhmlnhepaaSl
namespace Go.Proofs.Ytnpmnfhmlnhepaa.P
open Go Go.RowKit Go.Proofs.YtnpmnfhmlnhepaaW.PrintWords Go.Proofs.YtnpmnfhmlnhepaaW.PrintLast Go.Proofs.YtnpmnfhmlnhepaaW.PrintMore
set_option linter.unusedVariables false
set_option linter.unusedSimpArgs false
attribute [local go_sem] max2_int min2_int max_two min_two max_three min_three max_four min_four

/-- A cache at block g: its bits, its colours. -/
def cacheA (g : Nat) (bits : Int) (l : List Int) : Asrt := Asrt.ex fun b => Asrt.blk g 77 #[.int .i64 bits, .slice (some ⟨b, 0, none⟩) l.length l.length] * Asrt.blk b 35 (nums .u32 l).toArray

theorem cacheA_open {w0 w : World} {g : Nat} {bits : Int} {l : List Int} {r : Asrt} (h : St w0 w (cacheA g bits l * r)) : ∃ b, St w0 w (Asrt.blk g 77 #[.int .i64 bits, .slice (some ⟨b, 0, none⟩) l.length l.length] * (Asrt.blk b 35 (nums .u32 l).toArray * r)) := by
  obtain ⟨b, hb⟩ := h.ex
  exact ⟨b, hb.assoc⟩
theorem cacheA_shut {w0 w : World} {g b : Nat} {bits : Int} {l : List Int} {r : Asrt} (h : St w0 w (Asrt.blk g 77 #[.int .i64 bits, .slice (some ⟨b, 0, none⟩) l.length l.length] * (Asrt.blk b 35 (nums .u32 l).toArray * r))) : St w0 w (cacheA g bits l * r) := St.toEx b h.assoc'

set_option maxHeartbeats 1000000 in
set_option maxRecDepth 100000 in
theorem cache_Get_none (i : Int) (w : World) :
    Calls Try.prog 32 #[.pointer none, .int .i64 i] w fun e w' => e = .returned (.tuple #[.int .u32 0, .bool false]) ∧ w = w' := by
  go_enter Try.func32, Try.ntmps32
  go_wp2
  go_ret2
  exact ⟨rfl, rfl⟩


set_option maxHeartbeats 1000000 in
set_option maxRecDepth 100000 in
theorem cache_Get_in (g : Nat) (bits : Int) (l : List Int) (i : Int) (r : Asrt) (w0 w : World) (h0 : 0 ≤ i) (h1 : i < l.length) (hs : St w0 w (cacheA g bits l * r)) :
    Calls Try.prog 32 #[.pointer (some ⟨g, 0, none⟩), .int .i64 i] w fun e w' => e = .returned (.tuple #[.int .u32 (rd l i), .bool true]) ∧ w = w' := by
  obtain ⟨b, hb⟩ := cacheA_open hs
  have c0 := (hb.cell 0).trans rfl
  have c1 := (hb.cell 1).trans rfl
  have d0 := (hb.swap.cell i.toNat).trans (nums_at _ l i h0 h1)
  have t0 : decide (i < 0) = false := decide_eq_false (by omega)
  have t1 : decide ((l.length : Int) ≤ i) = false := decide_eq_false (by omega)
  clear hs hb
  go_enter Try.func32, Try.ntmps32
  go_wp2
  go_ret2
  exact ⟨rfl, rfl⟩

set_option maxHeartbeats 1000000 in
set_option maxRecDepth 100000 in
theorem cache_Get_out (g : Nat) (bits : Int) (l : List Int) (i : Int) (r : Asrt) (w0 w : World) (h0 : i < 0 ∨ l.length ≤ i) (hs : St w0 w (cacheA g bits l * r)) :
    Calls Try.prog 32 #[.pointer (some ⟨g, 0, none⟩), .int .i64 i] w fun e w' => e = .returned (.tuple #[.int .u32 0, .bool false]) ∧ w = w' := by
  obtain ⟨b, hb⟩ := cacheA_open hs
  have c0 := (hb.cell 0).trans rfl
  have c1 := (hb.cell 1).trans rfl
  clear hs hb
  rcases h0 with h0 | h0
  · have t0 : decide (i < 0) = true := decide_eq_true (by omega)
    go_enter Try.func32, Try.ntmps32
    go_wp2
    go_ret2
    exact ⟨rfl, rfl⟩
  · have t0 : decide (i < 0) = false := decide_eq_false (by omega)
    have t1 : decide ((l.length : Int) ≤ i) = true := decide_eq_true (by omega)
    go_enter Try.func32, Try.ntmps32
    go_wp2
    go_ret2
    exact ⟨rfl, rfl⟩

/-- Where a colour stands, of bits that may be. -/
def slotN (argb bits : Int) : Int := (506832829 * argb) % 4294967296 / 2 ^ (32 - bits).toNat
theorem slotN_bd {argb bits : Int} (h0 : 1 ≤ bits) (h1 : bits ≤ 11) : 0 ≤ slotN argb bits ∧ slotN argb bits < 2 ^ bits.toNat := by
  unfold slotN
  have hp : (0 : Int) < 2 ^ (32 - bits).toNat := Int.pow_pos (by decide)
  refine ⟨Int.ediv_nonneg (by omega) (by omega), ?_⟩
  rw [Int.ediv_lt_iff_lt_mul hp, ← Int.pow_add, show bits.toNat + (32 - bits).toNat = 32 by omega]
  omega
theorem slotN_small {argb bits : Int} (h0 : 1 ≤ bits) (h1 : bits ≤ 11) : slotN argb bits < 2048 := by
  have := (slotN_bd (argb := argb) h0 h1).2
  have h2 : (2 : Int) ^ bits.toNat ≤ 2 ^ 11 := by
    have : (2 : Nat) ^ bits.toNat ≤ 2 ^ 11 := Nat.pow_le_pow_right (by decide) (by omega)
    exact_mod_cast this
  omega

set_option maxRecDepth 100000 in
theorem cache_good_yes (bits : Int) (w : World) (h0 : 1 ≤ bits) (h1 : bits ≤ 11) :
    Calls Try.prog 34 #[.int .i64 bits] w fun e w' => e = .returned (.bool true) ∧ w = w' := by
  have t0 : decide (1 ≤ bits) = true := decide_eq_true h0
  have t1 : decide (bits ≤ 11) = true := decide_eq_true h1
  go_enter Try.func34, Try.ntmps34
  go_wp2
  go_ret
  exact ⟨rfl, rfl⟩
set_option maxRecDepth 100000 in
theorem cache_good_no (bits : Int) (w : World) (h : bits < 1 ∨ 11 < bits) :
    Calls Try.prog 34 #[.int .i64 bits] w fun e w' => e = .returned (.bool false) ∧ w = w' := by
  by_cases h0 : 1 ≤ bits
  · have t0 : decide (1 ≤ bits) = true := decide_eq_true h0
    have t1 : decide (bits ≤ 11) = false := decide_eq_false (by omega)
    go_enter Try.func34, Try.ntmps34
    go_wp2
    go_ret
    exact ⟨rfl, rfl⟩
  · have t0 : decide (1 ≤ bits) = false := decide_eq_false h0
    go_enter Try.func34, Try.ntmps34
    go_wp2
    go_ret
    exact ⟨rfl, rfl⟩

set_option maxHeartbeats 1000000 in
set_option maxRecDepth 100000 in
theorem cache_Slot_in (argb bits : Int) (w : World) (h0 : 1 ≤ bits) (h1 : bits ≤ 11) (hu : 0 ≤ argb ∧ argb ≤ 4294967295) :
    Calls Try.prog 35 #[.int .u32 argb, .int .i64 bits] w fun e w' => e = .returned (.int .i64 (slotN argb bits)) ∧ w = w' := by
  have hb0 := (slotN_bd (argb := argb) h0 h1).1
  have hb1 := slotN_small (argb := argb) h0 h1
  go_enter Try.func35, Try.ntmps35
  go_wp2_with fail
  refine (cache_good_yes _ _ h0 h1).mono ?_; rintro e w' ⟨rfl, rfl⟩
  go_wp2
  go_ret
  have e : wrap64 (506832829 * argb % 4294967296 / 2 ^ (32 - bits).toNat) = slotN argb bits := by
    show wrap64 (slotN argb bits) = _
    unfold wrap64
    omega
  refine ⟨congrArg (fun z => Ending.returned (.int .i64 z)) e, rfl⟩
set_option maxHeartbeats 1000000 in
set_option maxRecDepth 100000 in
theorem cache_Slot_out (argb bits : Int) (w : World) (h : bits < 1 ∨ 11 < bits) :
    Calls Try.prog 35 #[.int .u32 argb, .int .i64 bits] w fun e w' => e = .returned (.int .i64 0) ∧ w = w' := by
  go_enter Try.func35, Try.ntmps35
  go_wp2_with fail
  refine (cache_good_no _ _ h).mono ?_; rintro e w' ⟨rfl, rfl⟩
  go_wp2
  go_ret
  exact ⟨rfl, rfl⟩

set_option maxHeartbeats 1000000 in
set_option maxRecDepth 100000 in
theorem cache_New_out (bits : Int) (w : World) (h : bits < 1 ∨ 11 < bits) :
    Calls Try.prog 23 #[.int .i64 bits] w fun e w' => e = .returned (.tuple #[.pointer none, .int .i64 1]) ∧ w = w' := by
  go_enter Try.func23, Try.ntmps23
  go_wp2_with fail
  refine (cache_good_no _ _ h).mono ?_; rintro e w' ⟨rfl, rfl⟩
  go_wp2
  go_ret2
  exact ⟨rfl, rfl⟩

theorem pow11 {bits : Int} (h0 : 1 ≤ bits) (h1 : bits ≤ 11) : ∃ m : Nat, wrap64 (2 ^ bits.toNat) = (m : Int) ∧ m = 2 ^ bits.toNat ∧ m ≤ 2048 := by
  refine ⟨2 ^ bits.toNat, ?_, rfl, ?_⟩
  · have h2 : (2 : Nat) ^ bits.toNat ≤ 2 ^ 11 := Nat.pow_le_pow_right (by decide) (by omega)
    have e : ((2 ^ bits.toNat : Nat) : Int) = 2 ^ bits.toNat := by simp
    rw [← e]
    clear e
    generalize (2 : Nat) ^ bits.toNat = m at *
    unfold wrap64
    omega
  · exact Nat.pow_le_pow_right (n := 2) (by decide) (show bits.toNat ≤ 11 by omega)

set_option maxHeartbeats 1000000 in
set_option maxRecDepth 100000 in
theorem cache_New_in (bits : Int) (r : Asrt) (w0 w : World) (h0 : 1 ≤ bits) (h1 : bits ≤ 11) (hs : St w0 w r) :
    Calls Try.prog 23 #[.int .i64 bits] w fun e w' => ∃ g, e = .returned (.tuple #[.pointer (some ⟨g, 0, none⟩), .int .i64 0]) ∧ St w0 w' (cacheA g bits (List.replicate (2 ^ bits.toNat) 0) * r) := by
  obtain ⟨m, hm, hm2, hm3⟩ := pow11 h0 h1
  have hmk := print_make (P := Try.prog) 24 35 .u32 4 Try.underlying24 (by kernel_rfl) (by decide) m (by omega)
  have HS := Aside0.mk hs; clear hs
  have HM := Aside0.mk hm2; clear hm2
  go_enter Try.func23, Try.ntmps23
  go_wp2_with fail
  refine (cache_good_yes _ _ h0 h1).mono ?_; rintro e w' ⟨rfl, rfl⟩
  go_wp2
  go_ret2
  refine ⟨_, rfl, ?_⟩
  have e : (madeCells #[Value.int .u32 0] m) = (nums .u32 (List.replicate (2 ^ bits.toNat) 0)).toArray := by
    rw [← HM.out]
    have h1 : (madeCells #[Value.int .u32 0] m).toList = nums .u32 (List.replicate m 0) := by
      apply List.ext_getElem
      · simp [nums, madeCells]
      · intro i h1 h2
        simp [nums, madeCells, Nat.mod_one]
    rw [← h1]
  have h2 := (HS.out.alloc (madeCells #[Value.int .u32 0] m) 35).alloc #[.int .i64 bits, .slice (some ⟨w.heap.size, 0, none⟩) m m] 77
  rw [e] at h2
  refine cacheA_shut (b := w.heap.size) ?_
  have hl : (List.replicate (2 ^ bits.toNat) (0 : Int)).length = m := by simp [HM.out]
  rw [hl]
  simpa [e] using h2

set_option maxHeartbeats 1000000 in
set_option maxRecDepth 100000 in
theorem cache_Add_none (argb : Int) (w : World) :
    Calls Try.prog 25 #[.pointer none, .int .u32 argb] w fun e w' => e = .returned (.tuple #[]) ∧ w = w' := by
  go_enter Try.func25, Try.ntmps25
  go_wp2
  go_end0
  exact ⟨rfl, rfl⟩
set_option maxHeartbeats 1000000 in
set_option maxRecDepth 100000 in
theorem cache_Find_none (argb : Int) (w : World) :
    Calls Try.prog 24 #[.pointer none, .int .u32 argb] w fun e w' => e = .returned (.tuple #[.int .i64 0, .bool false]) ∧ Drawn0 w w' := by
  go_enter Try.func24, Try.ntmps24
  go_wp2
  go_quiet (fail)
  go_wp2
  go_ret2
  exact ⟨rfl, ⟨_, rfl⟩⟩
/-- Colours that come, one behind the other. -/
def playN (bits : Int) (c l : List Int) : List Int := l.foldl (fun c x => c.set (slotN x bits).toNat x) c
theorem playN_length (bits : Int) (l : List Int) : ∀ c, (playN bits c l).length = c.length := by
  induction l with
  | nil => exact fun _ => rfl
  | cons a l ih => exact fun c => (ih _).trans (by simp)
theorem playN_snoc (bits : Int) (c l : List Int) (x : Int) : playN bits c (l ++ [x]) = (playN bits c l).set (slotN x bits).toNat x := by simp [playN]
theorem rd_set_same (l : List Int) (i x : Int) (h0 : 0 ≤ i) (h1 : i < l.length) : rd (l.set i.toNat x) i = x := by
  have : i.toNat < l.length := by omega
  simp [rd, this]
theorem rd_set_ne (l : List Int) (i j x : Int) (h0 : 0 ≤ i) (h1 : 0 ≤ j) (h : i ≠ j) : rd (l.set i.toNat x) j = rd l j := by
  have : i.toNat ≠ j.toNat := by omega
  simp [rd, this]
set_option maxHeartbeats 1000000 in
set_option maxRecDepth 100000 in
theorem cache_Add_in (g : Nat) (bits argb : Int) (l : List Int) (r : Asrt) (w0 w : World) (h0 : 1 ≤ bits) (h1 : bits ≤ 11) (hu : 0 ≤ argb ∧ argb ≤ 4294967295) (hl : l.length = 2 ^ bits.toNat) (hs : St w0 w (cacheA g bits l * r)) :
    Calls Try.prog 25 #[.pointer (some ⟨g, 0, none⟩), .int .u32 argb] w fun e w' => e = .returned (.tuple #[]) ∧ St w0 w' (cacheA g bits (l.set (slotN argb bits).toNat argb) * r) := by
  have hb0 := (slotN_bd (argb := argb) h0 h1).1
  have hb1 : slotN argb bits < l.length := by have := (slotN_bd (argb := argb) h0 h1).2; rw [hl]; exact_mod_cast this
  obtain ⟨b, hb⟩ := cacheA_open hs
  have c0 := (hb.cell 0).trans rfl
  have c1 := (hb.cell 1).trans rfl
  have d0 := (hb.swap.cell (slotN argb bits).toNat).trans (nums_at _ l _ hb0 hb1)
  have f0 := hb.swap.frozen (slotN argb bits).toNat
  clear hs hl
  have HB := Aside0.mk hb; clear hb
  go_enter Try.func25, Try.ntmps25
  go_wp2_with fail
  go_still_tail 12, (by kernel_rfl)
  still_call (still_of (cache_Slot_in _ _ _ h0 h1 hu))
  repeat still_step
  refine wpStill_nil ?_
  go_wp2
  go_end0
  refine ⟨rfl, ?_⟩
  have h2 := ((HB.out.drew.swap).set (slotN argb bits).toNat (.int .u32 argb)).swap
  rw [nums_set] at h2
  refine cacheA_shut (b := b) ?_
  rw [List.length_set]
  exact h2
set_option maxHeartbeats 1000000 in
set_option maxRecDepth 100000 in
theorem cache_Find_hit (g : Nat) (bits argb : Int) (l : List Int) (r : Asrt) (w0 w : World) (h0 : 1 ≤ bits) (h1 : bits ≤ 11) (hu : 0 ≤ argb ∧ argb ≤ 4294967295) (hl : l.length = 2 ^ bits.toNat) (hs : St w0 w (cacheA g bits l * r)) (hc : rd l (slotN argb bits) = argb) :
    Calls Try.prog 24 #[.pointer (some ⟨g, 0, none⟩), .int .u32 argb] w fun e w' => e = .returned (.tuple #[.int .i64 (slotN argb bits), .bool true]) ∧ Drawn0 w w' := by
  have hb0 := (slotN_bd (argb := argb) h0 h1).1
  have hb1 : slotN argb bits < l.length := by have := (slotN_bd (argb := argb) h0 h1).2; rw [hl]; exact_mod_cast this
  obtain ⟨b, hb⟩ := cacheA_open hs
  have c0 := (hb.cell 0).trans rfl
  have c1 := (hb.cell 1).trans rfl
  have d0 := (hb.swap.cell (slotN argb bits).toNat).trans (nums_at _ l _ hb0 hb1)
  clear hs hl hb
  rw [hc] at d0
  have t0 : (argb != argb) = false := by simp
  clear hc
  go_enter Try.func24, Try.ntmps24
  go_wp2
  go_quiet ((exact Calls.quiet_of_same (still_of (cache_Slot_in _ _ _ h0 h1 hu))))
  go_wp2_with fail
  refine (cache_Slot_in _ _ _ h0 h1 hu).mono ?_; rintro e w' ⟨rfl, rfl⟩
  go_wp2
  go_ret2
  exact ⟨rfl, ⟨_, rfl⟩⟩
set_option maxHeartbeats 1000000 in
set_option maxRecDepth 100000 in
theorem cache_Find_miss (g : Nat) (bits argb : Int) (l : List Int) (r : Asrt) (w0 w : World) (h0 : 1 ≤ bits) (h1 : bits ≤ 11) (hu : 0 ≤ argb ∧ argb ≤ 4294967295) (hl : l.length = 2 ^ bits.toNat) (hs : St w0 w (cacheA g bits l * r)) (hc : rd l (slotN argb bits) ≠ argb) :
    Calls Try.prog 24 #[.pointer (some ⟨g, 0, none⟩), .int .u32 argb] w fun e w' => e = .returned (.tuple #[.int .i64 0, .bool false]) ∧ Drawn0 w w' := by
  have hb0 := (slotN_bd (argb := argb) h0 h1).1
  have hb1 : slotN argb bits < l.length := by have := (slotN_bd (argb := argb) h0 h1).2; rw [hl]; exact_mod_cast this
  obtain ⟨b, hb⟩ := cacheA_open hs
  have c0 := (hb.cell 0).trans rfl
  have c1 := (hb.cell 1).trans rfl
  have d0 := (hb.swap.cell (slotN argb bits).toNat).trans (nums_at _ l _ hb0 hb1)
  clear hs hl hb
  have t0 : (rd l (slotN argb bits) != argb) = true := by simp [hc]
  clear hc
  go_enter Try.func24, Try.ntmps24
  go_wp2
  go_quiet ((exact Calls.quiet_of_same (still_of (cache_Slot_in _ _ _ h0 h1 hu))))
  go_wp2
  go_ret2
  exact ⟨rfl, ⟨_, rfl⟩⟩
end Go.Proofs.Ytnpmnfhmlnhepaa.P
