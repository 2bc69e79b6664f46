/- Small lemmas on numbers, rounds and shifts, of use in every pure statement. -/
import Derived.Test.YtnpmnfhmlnhepaaWMore
import Derived.Laws.BitsLemmas
namespace Go.Proofs.Ytnpmnfhmlnhepaa.U
open Go Go.RowKit Go.Proofs.YtnpmnfhmlnhepaaW.PrintWords Go.Proofs.YtnpmnfhmlnhepaaW.PrintLast

theorem w64 {n : Int} (h0 : -9223372036854775808 ≤ n) (h1 : n ≤ 9223372036854775807) : wrap64 n = n := by unfold wrap64; omega
theorem wu64 {n : Int} (h0 : 0 ≤ n) (h1 : n ≤ 18446744073709551615) : IntKind.u64.wrap n = n := by simp [IntKind.wrap, IntKind.bits, IntKind.signed]; omega
theorem wu64_def (n : Int) : IntKind.u64.wrap n = n % 18446744073709551616 := by simp [IntKind.wrap, IntKind.bits, IntKind.signed]
theorem wi64 {n : Int} (h0 : -9223372036854775808 ≤ n) (h1 : n ≤ 9223372036854775807) : IntKind.i64.wrap n = n := by rw [IntKind.wrap_i64]; omega
theorem wf_i64 {n : Int} (h : (Lit.int .i64 n).wf = true) : -9223372036854775808 ≤ n ∧ n ≤ 9223372036854775807 := by
  simp [Lit.wf, IntKind.min, IntKind.max, IntKind.bits, IntKind.signed] at h; omega
theorem wf_u64 {n : Int} (h : (Lit.int .u64 n).wf = true) : 0 ≤ n ∧ n ≤ 18446744073709551615 := by
  simp [Lit.wf, IntKind.min, IntKind.max, IntKind.bits, IntKind.signed] at h; omega
theorem wf_u32 {n : Int} (h : (Lit.int .u32 n).wf = true) : 0 ≤ n ∧ n ≤ 4294967295 := by
  simp [Lit.wf, IntKind.min, IntKind.max, IntKind.bits, IntKind.signed] at h; omega
theorem wf_u16 {n : Int} (h : (Lit.int .u16 n).wf = true) : 0 ≤ n ∧ n ≤ 65535 := by
  simp [Lit.wf, IntKind.min, IntKind.max, IntKind.bits, IntKind.signed] at h; omega
theorem wf_u8 {n : Int} (h : (Lit.int .u8 n).wf = true) : 0 ≤ n ∧ n ≤ 255 := by
  simp [Lit.wf, IntKind.min, IntKind.max, IntKind.bits, IntKind.signed] at h; omega
theorem wf_i8 {n : Int} (h : (Lit.int .i8 n).wf = true) : -128 ≤ n ∧ n ≤ 127 := by
  simp [Lit.wf, IntKind.min, IntKind.max, IntKind.bits, IntKind.signed] at h; omega

section
variable {α : Type} {r : α}
theorem Ev.ite_pos {c : Prop} [Decidable c] {A B : Nat → Option α} (h : c) (e : Ev A r) : Ev (fun k => if c then A k else B k) r := by
  simpa only [if_pos h] using e
theorem Ev.ite_neg {c : Prop} [Decidable c] {A B : Nat → Option α} (h : ¬ c) (e : Ev B r) : Ev (fun k => if c then A k else B k) r := by
  simpa only [if_neg h] using e
theorem Ev.succ {g : Nat → Option α} (e : Ev (fun k => g (k + 1)) r) : Ev g r := Ev.step (fun _ => rfl) e
theorem Ev.fin {x : α} (h : x = r) : Ev (fun _ => some x) r := h ▸ Ev.now x
theorem Ev.bindo {β : Type} {o : Option β} {b : β} {f : Nat → β → Option α} (h : o = some b) (k : Ev (fun n => f n b) r) : Ev (fun n => o.bind (f n)) r := by
  subst h; exact k
end

theorem shl_i64 {x y : Int} (h1 : y ≤ 64) : shl .i64 x y = wrap64 (x * 2 ^ y.toNat) := by
  unfold shl
  rw [Nat.min_eq_left (by simp [IntKind.bits]; omega), i64_w]
theorem shr_any {k : IntKind} {x y : Int} (h1 : y ≤ k.bits) : shr k x y = x / 2 ^ y.toNat := by
  unfold shr
  rw [Nat.min_eq_left (by omega)]
theorem shl_u64 {x y : Int} (h1 : y ≤ 64) : shl .u64 x y = (x * 2 ^ y.toNat) % 18446744073709551616 := by
  unfold shl
  rw [Nat.min_eq_left (by simp [IntKind.bits]; omega), wu64_def]
theorem shl_u32 {x y : Int} (h1 : y ≤ 32) : shl .u32 x y = (x * 2 ^ y.toNat) % 4294967296 := by
  unfold shl
  rw [Nat.min_eq_left (by simp [IntKind.bits]; omega), IntKind.wrap_u32]

theorem pow_pos (n : Nat) : (0 : Int) < 2 ^ n := Int.pow_pos (by decide)
theorem pow_le {a b : Nat} (h : a ≤ b) : (2 : Int) ^ a ≤ 2 ^ b := by
  have : (2 : Nat) ^ a ≤ 2 ^ b := Nat.pow_le_pow_right (by decide) h
  exact_mod_cast this
theorem pow_add (a b : Nat) : (2 : Int) ^ (a + b) = 2 ^ a * 2 ^ b := Int.pow_add _ _ _

/-- 'or' of a low part and a high one is their sum. -/
theorem or_u64 {x y : Int} {i : Nat} (hi : i ≤ 64) (hx0 : 0 ≤ x) (hx : x < 2 ^ i) (hy0 : 0 ≤ y) (hy : y % 2 ^ i = 0) (hy1 : y < 18446744073709551616) : Go.bits .or .u64 x y = x + y := by
  have hw : ∀ n : Int, 0 ≤ n → n < 2 ^ 64 → IntKind.u64.wrap n = n := fun n h0 h1 => wu64 h0 (by omega)
  obtain ⟨a, rfl⟩ := Int.eq_ofNat_of_zero_le hx0
  obtain ⟨b, rfl⟩ := Int.eq_ofNat_of_zero_le hy0
  have ha' : (a : Int) < 2 ^ 64 := Int.lt_of_lt_of_le hx (pow_le hi)
  have ha : a < 2 ^ 64 := by exact_mod_cast ha'
  have hb : b < 2 ^ 64 := by omega
  rw [(bits_nat .u64 64 (by decide) hw a b ha hb).2]
  have hlt : a < 2 ^ i := by exact_mod_cast hx
  have hmod : b % 2 ^ i = 0 := by exact_mod_cast hy
  have hq : b = 2 ^ i * (b / 2 ^ i) := by have := Nat.div_add_mod b (2 ^ i); omega
  have : a ||| b = b + a := by
    rw [Nat.or_comm, hq, ← Nat.two_pow_add_eq_or_of_lt hlt]
  rw [this, Int.natCast_add, Int.add_comm]
theorem and_u64 {x : Int} {i : Nat} (hi : i ≤ 64) (h0 : 0 ≤ x) (h1 : x ≤ 18446744073709551615) : Go.bits .and .u64 x (2 ^ i - 1) = x % 2 ^ i :=
  bits_mask .u64 64 (by decide) (fun n h0 h1 => wu64 h0 (by omega)) i hi x h0 (by omega)
end Go.Proofs.Ytnpmnfhmlnhepaa.U
