/- Bits laid into bytes: plain arithmetic. -/
import Derived.Test.YtbgjpncnhhlljaaU
namespace Go.Proofs.Ytbgjpncnhhlljaa.Pure
open Go Go.RowKit Go.Proofs.YtbgjpncnhhlljaaW.PrintWords Go.Proofs.YtbgjpncnhhlljaaW.PrintLast Go.Proofs.Ytbgjpncnhhlljaa.U

def Bin (L : List Int) : Prop := ∀ y ∈ L, y = 0 ∨ y = 1
theorem rd_nat (L : List Int) (i : Nat) : rd L (i : Int) = L.getD i 0 := by rw [rd, Int.toNat_natCast]
theorem rd_bin {L : List Int} (h : Bin L) (i : Nat) : rd L i = 0 ∨ rd L i = 1 := by
  rw [rd_nat, List.getD_eq_getElem?_getD]
  rcases Nat.lt_or_ge i L.length with hi | hi
  · rw [List.getElem?_eq_getElem hi]; exact h _ (List.getElem_mem hi)
  · rw [List.getElem?_eq_none hi]; exact .inl rfl
theorem rd_out {L : List Int} {i : Nat} (h : L.length ≤ i) : rd L i = 0 := by
  rw [rd_nat, List.getD_eq_getElem?_getD, List.getElem?_eq_none h]; rfl
theorem rd_snoc (L : List Int) (x : Int) (i : Nat) : rd (L ++ [x]) i = if i < L.length then rd L i else if i = L.length then x else 0 := by
  rw [rd_nat, rd_nat, List.getD_eq_getElem?_getD, List.getD_eq_getElem?_getD]
  by_cases h : i < L.length
  · rw [if_pos h, List.getElem?_append_left h]
  · rw [if_neg h, List.getElem?_append_right (by omega)]
    by_cases h2 : i = L.length
    · rw [if_pos h2, h2]; simp
    · rw [if_neg h2, List.getElem?_eq_none (by simp; omega)]; rfl
theorem rd_setN (L : List Int) (j i : Nat) (x : Int) (hj : j < L.length) : rd (L.set j x) i = if i = j then x else rd L i := by
  rw [rd_nat, rd_nat, List.getD_eq_getElem?_getD, List.getD_eq_getElem?_getD, List.getElem?_set]
  by_cases h : i = j
  · rw [if_pos h.symm, if_pos h, if_pos (by omega)]; rfl
  · rw [if_neg (fun e => h e.symm), if_neg h]
theorem ext_rd {L M : List Int} (hl : L.length = M.length) (h : ∀ i : Nat, i < L.length → rd L i = rd M i) : L = M := by
  apply List.ext_getElem hl
  intro i h1 h2
  have := h i h1
  rw [rd_nat, rd_nat, List.getD_eq_getElem?_getD, List.getD_eq_getElem?_getD, List.getElem?_eq_getElem h1, List.getElem?_eq_getElem h2] at this
  exact this
theorem Bin.snoc {L : List Int} (h : Bin L) {x : Int} (hx : x = 0 ∨ x = 1) : Bin (L ++ [x]) := by
  intro y hy
  rcases List.mem_append.1 hy with hy | hy
  · exact h y hy
  · rw [List.mem_singleton.1 hy]; exact hx
theorem Bin.app {L M : List Int} (h : Bin L) (k : Bin M) : Bin (L ++ M) := fun y hy => (List.mem_append.1 hy).elim (h y) (k y)

/-- The first m bits of byte j. -/
def byteN (L : List Int) (j : Nat) : Nat → Int
  | 0 => 0
  | m + 1 => byteN L j m + rd L ((8 * j + m : Nat) : Int) * 2 ^ m
/-- Bits as bytes, the last one filled with 0. -/
def pack (L : List Int) : List Int := (List.range ((L.length + 7) / 8)).map fun j => byteN L j 8
theorem pack_length (L : List Int) : (pack L).length = (L.length + 7) / 8 := by simp [pack]
theorem pack_rd {L : List Int} {j : Nat} (h : j < (L.length + 7) / 8) : rd (pack L) j = byteN L j 8 := by
  rw [rd_nat, List.getD_eq_getElem?_getD]
  simp [pack, h]
theorem byteN_bd {L : List Int} (h : Bin L) (j m : Nat) : 0 ≤ byteN L j m ∧ byteN L j m < 2 ^ m := by
  induction m with
  | zero => simp [byteN]
  | succ m ih =>
    have hp := pow_pos m
    rw [byteN, Int.pow_succ]
    rcases rd_bin h (8 * j + m) with e | e <;> rw [e] <;> omega
theorem byteN_snoc (L : List Int) (x : Int) (j m : Nat) : byteN (L ++ [x]) j m = byteN L j m + if 8 * j ≤ L.length ∧ L.length < 8 * j + m then x * 2 ^ (L.length - 8 * j) else 0 := by
  induction m with
  | zero => rw [if_neg (by omega)]; simp [byteN]
  | succ m ih =>
    rw [byteN, byteN, ih, rd_snoc]
    by_cases h1 : 8 * j + m < L.length
    · rw [if_pos h1, if_neg (by omega), if_neg (by omega)]; omega
    · rw [if_neg h1, rd_out (L := L) (i := 8 * j + m) (by omega)]
      by_cases h2 : 8 * j + m = L.length
      · rw [if_pos h2, if_neg (by omega), if_pos (by omega), show L.length - 8 * j = m by omega]; omega
      · rw [if_neg h2]
        by_cases h3 : 8 * j ≤ L.length
        · rw [if_pos (by omega), if_pos (by omega)]; omega
        · rw [if_neg (by omega), if_neg (by omega)]; omega
theorem byteN_more {L : List Int} {j r : Nat} (h : L.length ≤ 8 * j + r) (m : Nat) (hm : r ≤ m) : byteN L j m = byteN L j r := by
  obtain ⟨k, rfl⟩ := Nat.exists_eq_add_of_le hm
  induction k with
  | zero => rfl
  | succ k ih => rw [← Nat.add_assoc, byteN, ih (by omega), rd_out (by omega)]; omega
/-- Where a bit goes: the bytes with room for it. -/
def room (L : List Int) : List Int := if L.length % 8 = 0 then pack L ++ [0] else pack L
theorem room_length (L : List Int) : (room L).length = L.length / 8 + 1 := by
  unfold room
  split
  · rw [List.length_append, pack_length]; simp; omega
  · rw [pack_length]; omega
theorem room_rd {L : List Int} {j : Nat} (h : j < L.length / 8 + 1) : rd (room L) j = byteN L j 8 := by
  unfold room
  split
  · rename_i h0
    rw [rd_snoc, pack_length]
    by_cases h1 : j < (L.length + 7) / 8
    · rw [if_pos h1, pack_rd h1]
    · have e := byteN_more (L := L) (j := j) (r := 0) (by omega) 8 (by omega)
      rw [if_neg h1, e]
      simp [byteN]
  · exact pack_rd (by omega)
theorem room_last_bd {L : List Int} (h : Bin L) : 0 ≤ rd (room L) ((L.length / 8 : Nat) : Int) ∧ rd (room L) ((L.length / 8 : Nat) : Int) < 2 ^ (L.length % 8) := by
  rw [room_rd (by omega), byteN_more (r := L.length % 8) (by omega) 8 (by omega)]
  exact byteN_bd h _ _
theorem pack_snoc (L : List Int) (x : Int) : pack (L ++ [x]) = (room L).set (L.length / 8) (rd (room L) ((L.length / 8 : Nat) : Int) + x * 2 ^ (L.length % 8)) := by
  refine ext_rd (by rw [pack_length, List.length_set, room_length, List.length_append]; simp; omega) fun i hi => ?_
  rw [pack_length, List.length_append] at hi
  simp at hi
  rw [pack_rd (by rw [List.length_append]; simpa using hi), rd_setN _ _ _ _ (by rw [room_length]; omega), byteN_snoc]
  by_cases h : i = L.length / 8
  · rw [if_pos (by omega), if_pos h, h, room_rd (by omega), show L.length - 8 * (L.length / 8) = L.length % 8 by omega]
  · rw [if_neg (by omega), if_neg h, room_rd (by omega)]; omega
theorem or_u8 {x y : Int} {i : Nat} (hi : i ≤ 8) (hx0 : 0 ≤ x) (hx : x < 2 ^ i) (hy0 : 0 ≤ y) (hy : y % 2 ^ i = 0) (hy1 : y < 256) : Go.bits .or .u8 x y = x + y := by
  have hw : ∀ n : Int, 0 ≤ n → n < 2 ^ 8 → IntKind.u8.wrap n = n := fun n h0 h1 => by simp [IntKind.wrap, IntKind.bits, IntKind.signed]; omega
  obtain ⟨a, rfl⟩ := Int.eq_ofNat_of_zero_le hx0
  obtain ⟨b, rfl⟩ := Int.eq_ofNat_of_zero_le hy0
  have ha' : (a : Int) < 2 ^ 8 := Int.lt_of_lt_of_le hx (pow_le hi)
  have ha : a < 2 ^ 8 := by exact_mod_cast ha'
  have hb : b < 2 ^ 8 := by omega
  rw [(bits_nat .u8 8 (by decide) hw a b ha hb).2]
  have hlt : a < 2 ^ i := by exact_mod_cast hx
  have hmod : b % 2 ^ i = 0 := by exact_mod_cast hy
  have hq : b = 2 ^ i * (b / 2 ^ i) := by have := Nat.div_add_mod b (2 ^ i); omega
  have : a ||| b = b + a := by
    rw [Nat.or_comm, hq, ← Nat.two_pow_add_eq_or_of_lt hlt]
  rw [this, Int.natCast_add, Int.add_comm]
theorem pack_bytes {L : List Int} (h : Bin L) : ∀ y ∈ pack L, 0 ≤ y ∧ y ≤ 255 := by
  intro y hy
  obtain ⟨j, _, rfl⟩ := List.mem_map.1 hy
  have := byteN_bd h j 8
  omega
/-- A byte's bit, above those that are shifted out. -/
theorem byteN_bit {L : List Int} (h : Bin L) (j k m : Nat) (hk : k < m) : byteN L j m / 2 ^ k % 2 = rd L ((8 * j + k : Nat) : Int) := by
  induction m with
  | zero => omega
  | succ m ih =>
    have hp := pow_pos k
    rw [byteN]
    by_cases e : k = m
    · subst e
      have hb := byteN_bd h j k
      rw [Int.add_mul_ediv_right _ _ (by omega), Int.ediv_eq_zero_of_lt hb.1 hb.2]
      rcases rd_bin h (8 * j + k) with e | e <;> rw [e] <;> rfl
    · rw [show m = k + 1 + (m - k - 1) by omega, pow_add, pow_add, ← Int.mul_assoc, show (2 : Int) ^ k * 2 ^ 1 = 2 ^ k * 2 from rfl]
      have e2 : rd L ((8 * j + (k + 1 + (m - k - 1)) : Nat) : Int) * (2 ^ k * 2) * 2 ^ (m - k - 1) = (rd L ((8 * j + (k + 1 + (m - k - 1)) : Nat) : Int) * 2 ^ (m - k - 1) * 2) * 2 ^ k := by
        generalize rd L ((8 * j + (k + 1 + (m - k - 1)) : Nat) : Int) = a
        generalize (2 : Int) ^ (m - k - 1) = b
        generalize (2 : Int) ^ k = c
        ac_rfl
      rw [e2, Int.add_mul_ediv_right _ _ (by omega), Int.add_mul_emod_self_right, show k + 1 + (m - k - 1) = m by omega]
      exact ih (by omega)
theorem pack_bit {L : List Int} (h : Bin L) (k : Nat) (hk : k < L.length) : rd (pack L) ((k / 8 : Nat) : Int) / 2 ^ (k % 8) % 2 = rd L k := by
  rw [pack_rd (by omega), byteN_bit h _ _ 8 (by omega), show 8 * (k / 8) + k % 8 = k by omega]
end Go.Proofs.Ytbgjpncnhhlljaa.Pure
