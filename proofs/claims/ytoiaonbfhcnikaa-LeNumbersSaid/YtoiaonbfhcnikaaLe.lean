/- What the functions of 'le' and their references come to, as plain numbers and lists. -/
import Derived.Test.YtoiaonbfhcnikaaPx
import Derived.Test.YtoiaonbfhcnikaaU
namespace Go.Proofs.Ytoiaonbfhcnikaa.Pure
open Go Go.RowKit Go.Proofs.Ytoiaonbfhcnikaa.P Go.Proofs.YtoiaonbfhcnikaaW.PrintWords Go.Proofs.YtoiaonbfhcnikaaW.PrintLast Go.Proofs.YtoiaonbfhcnikaaW.PrintMore Go.Proofs.Ytoiaonbfhcnikaa.U

/-! ### Blocks -/
def blocks (n b : Int) : Int := if 0 ≤ n ∧ n ≤ 16777216 ∧ 0 ≤ b ∧ b ≤ 30 then (n + 2 ^ b.toNat - 1) / 2 ^ b.toNat else 0

theorem pow30 {b : Int} (h : b ≤ 30) : (2 : Int) ^ b.toNat ≤ 1073741824 := by
  have := pow_le (a := b.toNat) (b := 30) (by omega)
  simpa using this

theorem le_Blocks_eq (n b : Int) : le_Blocks.f n b = some (blocks n b) := by
  unfold le_Blocks.f blocks
  by_cases h1 : n < 0
  · rw [if_pos h1, if_neg (by omega)]
  rw [if_neg h1]
  by_cases h2 : n > 16777216
  · rw [if_pos h2, if_neg (by omega)]
  rw [if_neg h2]
  by_cases h3 : b < 0
  · rw [if_pos h3, if_neg (by omega)]
  rw [if_neg h3]
  by_cases h4 : b > 30
  · rw [if_pos h4, if_neg (by omega)]
  rw [if_neg h4, if_pos (by omega), if_pos (by omega)]
  have hp := pow_pos b.toNat
  have hq := pow30 (b := b) (by omega)
  rw [shl_i64 (by omega), shr_any (by simp [IntKind.bits]; omega), Int.one_mul, w64 (n := 2 ^ b.toNat) (by omega) (by omega), w64 (n := n + _) (by omega) (by omega), w64 (by omega) (by omega)]

theorem ref_Blocks_loop (n b : Int) (hn : 0 ≤ n) (hn' : n ≤ 16777216) (hb : b ≤ 30) (d : Nat) : ∀ i : Int, 0 ≤ i → i ≤ b → b - i = d →
    Ev (fun k => marquetryref01_Blocks.l0 k n b (2 ^ i.toNat) i) ((n + 2 ^ b.toNat - 1) / 2 ^ b.toNat) := by
  induction d with
  | zero =>
    intro i h0 h1 hd
    obtain rfl : i = b := by omega
    refine Ev.succ ?_
    simp only [marquetryref01_Blocks.l0]
    have hp := pow_pos i.toNat
    have hq := pow30 hb
    refine Ev.ite_neg (by omega) (Ev.ite_neg (by omega) ?_)
    rw [Int.tmod_eq_emod_of_nonneg hn, Int.tdiv_eq_ediv_of_nonneg hn]
    generalize (2 : Int) ^ i.toNat = s at *
    have hd1 : 0 ≤ n / s := Int.ediv_nonneg hn (by omega)
    have hd2 : n / s ≤ n := Int.ediv_le_self _ hn
    have e := Int.mul_ediv_add_emod n s
    have m0 := Int.emod_nonneg n (b := s) (by omega)
    have m1 := Int.emod_lt_of_pos n hp
    by_cases hz : n % s = 0
    · refine Ev.ite_pos hz (Ev.fin ?_)
      rw [w64 (by omega) (by omega)]
      symm
      rw [show n + s - 1 = (s - 1) + s * (n / s) by omega, Int.add_mul_ediv_left _ _ (by omega), Int.ediv_eq_zero_of_lt (by omega) (by omega)]
      omega
    · refine Ev.ite_neg hz (Ev.fin ?_)
      rw [w64 (n := n / s) (by omega) (by omega), w64 (by omega) (by omega)]
      symm
      rw [show n + s - 1 = (n % s - 1) + s * (n / s + 1) by rw [Int.mul_add]; omega, Int.add_mul_ediv_left _ _ (by omega), Int.ediv_eq_zero_of_lt (by omega) (by omega)]
      omega
  | succ d ih =>
    intro i h0 h1 hd
    refine Ev.succ ?_
    simp only [marquetryref01_Blocks.l0]
    refine Ev.ite_pos (by omega) ?_
    have hq := pow30 (b := i + 1) (by omega)
    have hp := pow_pos i.toNat
    have e : (2 : Int) ^ (i + 1).toNat = 2 ^ i.toNat * 2 := by
      rw [show (i + 1).toNat = i.toNat + 1 by omega, Int.pow_succ]
    rw [w64 (n := 2 ^ i.toNat * 2) (by omega) (by omega), ← e, w64 (by omega) (by omega)]
    exact ih (i + 1) (by omega) (by omega) (by omega)

theorem ref_Blocks_ev (n b : Int) : Ev (fun k => marquetryref01_Blocks.f k n b) (blocks n b) := by
  unfold marquetryref01_Blocks.f blocks
  have bad : Ev (fun k => marquetryref01_Blocks.j0 k n b true) 0 := by
    refine Ev.succ ?_
    simp only [marquetryref01_Blocks.j0]
    simp only [if_true]
    exact Ev.now _
  by_cases h1 : n < 0
  · rw [if_neg (by omega)]; exact Ev.ite_pos h1 bad
  refine Ev.ite_neg h1 ?_
  by_cases h2 : n > 16777216
  · rw [if_neg (by omega)]; exact Ev.ite_pos h2 bad
  refine Ev.ite_neg h2 ?_
  by_cases h3 : b < 0
  · rw [if_neg (by omega)]; exact Ev.ite_pos h3 bad
  refine Ev.ite_neg h3 ?_
  by_cases h4 : b > 30
  · rw [if_neg (by omega)]; simp only [h4, decide_true]; exact bad
  rw [if_pos (by omega)]
  simp only [h4, decide_false]
  refine Ev.succ ?_
  simp only [marquetryref01_Blocks.j0]
  refine Ev.ite_neg (by decide) ?_
  exact ref_Blocks_loop n b (by omega) (by omega) (by omega) b.toNat 0 (by omega) (by omega) (by omega)

/-! ### Get -/
/-- The number of bytes, the lowest first. -/
def num : List Int → Int
  | [] => 0
  | b :: r => b + 256 * num r
def Bytes (l : List Int) : Prop := ∀ x ∈ l, 0 ≤ x ∧ x ≤ 255
theorem bytes_wf {l : List Int} (h : ∀ x ∈ l, (Lit.int .u8 x).wf = true) : Bytes l := fun x hx => wf_u8 (h x hx)
theorem Bytes.tail {b : Int} {l : List Int} (h : Bytes (b :: l)) : Bytes l := fun x hx => h x (List.mem_cons_of_mem _ hx)
theorem Bytes.take {l : List Int} (h : Bytes l) (n : Nat) : Bytes (l.take n) := fun x hx => h x (List.mem_of_mem_take hx)
theorem Bytes.drop {l : List Int} (h : Bytes l) (n : Nat) : Bytes (l.drop n) := fun x hx => h x (List.mem_of_mem_drop hx)
theorem num_bd {l : List Int} (h : Bytes l) : 0 ≤ num l ∧ num l < 256 ^ l.length := by
  induction l with
  | nil => simp [num]
  | cons b r ih =>
    have hb := h b (by simp)
    have hi := ih h.tail
    have e : (256 : Int) ^ (b :: r).length = 256 * 256 ^ r.length := by rw [List.length_cons, Int.pow_succ, Int.mul_comm]
    unfold num
    omega
theorem num_snoc (l : List Int) (b : Int) : num (l ++ [b]) = num l + b * 256 ^ l.length := by
  induction l with
  | nil => simp [num]
  | cons c r ih =>
    have e : (256 : Int) ^ (c :: r).length = 256 * 256 ^ r.length := by rw [List.length_cons, Int.pow_succ, Int.mul_comm]
    simp only [List.cons_append, num, ih, e]
    rw [Int.mul_add, ← Int.mul_assoc, ← Int.mul_assoc, Int.mul_comm 256 b]
    omega
theorem rd_mem {l : List Int} {i : Int} (h0 : 0 ≤ i) (h : i < l.length) : rd l i ∈ l := by
  unfold rd
  rw [List.getD_eq_getElem?_getD, List.getElem?_eq_getElem (by omega)]
  exact List.getElem_mem _
theorem take_rd {l : List Int} {a k : Nat} (h : a + k < l.length) : (l.drop a).take (k + 1) = (l.drop a).take k ++ [rd l ((a : Int) + k)] := by
  have : ((a : Int) + k).toNat = a + k := by omega
  unfold rd
  rw [this, List.take_succ_eq_append_getElem (by simp; omega), List.getElem_drop, List.getD_eq_getElem?_getD, List.getElem?_eq_getElem h]
  rfl
def get (l : List Int) (at_ n : Int) : Int × Bool := if 1 ≤ n ∧ n ≤ 8 ∧ 0 ≤ at_ ∧ at_ ≤ l.length ∧ n ≤ l.length - at_ then (num ((l.drop at_.toNat).take n.toNat), true) else (0, false)

theorem get_bad {l : List Int} {a n : Int} (h : ¬ (1 ≤ n ∧ n ≤ 8 ∧ 0 ≤ a ∧ a ≤ l.length ∧ n ≤ l.length - a)) : get l a n = (0, false) := if_neg h
theorem get_good {l : List Int} {a n : Int} (h : 1 ≤ n ∧ n ≤ 8 ∧ 0 ≤ a ∧ a ≤ l.length ∧ n ≤ l.length - a) : get l a n = (num ((l.drop a.toNat).take n.toNat), true) := if_pos h
theorem pow256 {i : Nat} (h : i ≤ 8) : (256 : Int) ^ i ≤ 18446744073709551616 ∧ (256 : Int) ^ i = 2 ^ (8 * i) := by
  have h1 : (256 : Int) ^ i = 2 ^ (8 * i) := by rw [Int.pow_mul]; rfl
  refine ⟨?_, h1⟩
  rw [h1]
  have := pow_le (a := 8 * i) (b := 64) (by omega)
  simpa using this

theorem le_Get_loop {l : List Int} (hl : Bytes l) (hlen : l.length ≤ 140737488351232) {a : Nat} {n : Nat} (hn : n ≤ 8) (ha : a + n ≤ l.length) (d : Nat) : ∀ i : Nat, i + d = n →
    Ev (fun k => le_Get.l0 k l a (num ((l.drop a).take i)) n i) (num ((l.drop a).take n), true) := by
  induction d with
  | zero =>
    intro i hd
    obtain rfl : i = n := by omega
    refine Ev.succ ?_
    simp only [le_Get.l0]
    exact Ev.ite_neg (by omega) (Ev.now _)
  | succ d ih =>
    intro i hd
    refine Ev.succ ?_
    simp only [le_Get.l0]
    have e1 : wrap64 ((a : Int) + i) = a + i := w64 (by omega) (by omega)
    have e2 : wrap64 (8 * (i : Int)) = 8 * i := w64 (by omega) (by omega)
    simp only [e1, e2]
    refine Ev.ite_pos (by omega) (Ev.ite_pos (by omega) (Ev.ite_pos (by omega) (Ev.ite_pos (by omega) ?_)))
    have hr := hl _ (rd_mem (l := l) (i := (a : Int) + i) (by omega) (by omega))
    have hb := num_bd ((hl.drop a).take i)
    have hlen' : ((l.drop a).take i).length = i := by simp; omega
    rw [hlen'] at hb
    have hp := pow256 (i := i) (by omega)
    have hp1 := pow256 (i := i + 1) (by omega)
    have hs : (256 : Int) ^ (i + 1) = 256 ^ i * 256 := Int.pow_succ _ _
    have e3 : (8 * (i : Int)).toNat = 8 * i := by omega
    have h2 := ih (i + 1) (by omega)
    rw [take_rd (by omega), num_snoc, hlen', show ((i + 1 : Nat) : Int) = (i : Int) + 1 by omega] at h2
    rw [wu64 (by omega) (by omega), shl_u64 (by omega), e3, ← hp.2]
    generalize rd l ((a : Int) + i) = r at *
    have hm : 0 ≤ r * 256 ^ i ∧ r * 256 ^ i ≤ 255 * 256 ^ i := by
      have := pow_pos (8 * i); rw [← hp.2] at this
      exact ⟨Int.mul_nonneg hr.1 (by omega), Int.mul_le_mul_of_nonneg_right hr.2 (by omega)⟩
    rw [Int.emod_eq_of_lt hm.1 (by omega), or_u64 (i := 8 * i) (by omega) hb.1 (by rw [← hp.2]; exact hb.2) hm.1 (by rw [← hp.2]; exact Int.mul_emod_left _ _) (by omega)]
    rw [w64 (n := (i : Int) + 1) (by omega) (by omega)]
    exact h2

theorem le_Get_ev {l : List Int} (hl : Bytes l) (hlen : l.length ≤ 140737488351232) (a n : Int) (ha : -9223372036854775808 ≤ a) : Ev (fun k => le_Get.f k l a n) (get l a n) := by
  unfold le_Get.f le_size.f
  have bad : Ev (fun k => le_Get.j0 k l a n true) (0, false) := by
    refine Ev.succ ?_
    simp only [le_Get.j0, if_true]
    exact Ev.now _
  by_cases h1 : 1 ≤ n
  · simp only [ge_iff_le, if_pos h1, Option.bind_some]
    by_cases h2 : n ≤ 8
    · simp only [h2, decide_true, if_true]
      by_cases h3 : a < 0
      · rw [get_bad (by omega)]; exact Ev.ite_pos h3 bad
      refine Ev.ite_neg h3 ?_
      by_cases h4 : a > (l.length : Int)
      · rw [get_bad (by omega)]; exact Ev.ite_pos h4 bad
      refine Ev.ite_neg h4 ?_
      rw [w64 (by omega) (by omega)]
      by_cases h5 : (l.length : Int) - a < n
      · rw [get_bad (by omega)]; simp only [h5, decide_true]; exact bad
      rw [get_good (by omega)]
      simp only [h5, decide_false]
      refine Ev.succ ?_
      simp only [le_Get.j0]
      refine Ev.ite_neg (by decide) ?_
      obtain ⟨n, rfl⟩ := Int.eq_ofNat_of_zero_le (show 0 ≤ n by omega)
      obtain ⟨a, rfl⟩ := Int.eq_ofNat_of_zero_le (show 0 ≤ a by omega)
      have := le_Get_loop hl hlen (a := a) (n := n) (by omega) (by omega) n 0 (by omega)
      simpa [num] using this
    · rw [get_bad (by omega)]
      simp only [h2, decide_false]
      exact Ev.ite_neg (by decide) bad
  · rw [get_bad (by omega)]
    simp only [ge_iff_le, if_neg h1, Option.bind_some]
    exact Ev.ite_neg (by decide) bad

theorem ref_Get_loop {l : List Int} (hl : Bytes l) (hlen : l.length ≤ 140737488351232) {a : Nat} {n : Nat} (hn : n ≤ 8) (ha : a + n ≤ l.length) : ∀ i : Nat, i ≤ n →
    Ev (fun k => marquetryref01_Get.l0 k l a (num ((l.drop (a + i)).take (n - i))) ((i : Int) - 1)) (num ((l.drop a).take n), true) := by
  intro i
  induction i with
  | zero =>
    intro _
    refine Ev.succ ?_
    simp only [marquetryref01_Get.l0]
    exact Ev.ite_neg (by show ¬ ((0 : Int) - 1 ≥ 0); omega) (Ev.now _)
  | succ i ih =>
    intro hd
    refine Ev.succ ?_
    simp only [marquetryref01_Get.l0]
    have e0 : ((i + 1 : Nat) : Int) - 1 = i := by omega
    have e1 : wrap64 ((a : Int) + i) = a + i := w64 (by omega) (by omega)
    simp only [e0, e1]
    refine Ev.ite_pos (by omega) (Ev.ite_pos (by omega) (Ev.ite_pos (by omega) ?_))
    have hr := hl _ (rd_mem (l := l) (i := (a : Int) + i) (by omega) (by omega))
    have hlen' : ((l.drop (a + (i + 1))).take (n - (i + 1))).length = n - (i + 1) := by simp; omega
    have hb := num_bd ((hl.drop (a + (i + 1))).take (n - (i + 1)))
    rw [hlen'] at hb
    have hs : (256 : Int) ^ (n - (i + 1) + 1) = 256 ^ (n - (i + 1)) * 256 := Int.pow_succ _ _
    have hp1 := pow256 (i := n - (i + 1) + 1) (by omega)
    have e2 : (l.drop (a + i)).take (n - i) = rd l ((a : Int) + i) :: (l.drop (a + (i + 1))).take (n - (i + 1)) := by
      rw [show n - i = (n - (i + 1)) + 1 by omega, List.drop_eq_getElem_cons (by omega), List.take_succ_cons]
      unfold rd
      rw [show ((a : Int) + i).toNat = a + i by omega, List.getD_eq_getElem?_getD, List.getElem?_eq_getElem (by omega)]
      rfl
    have h2 := ih (by omega)
    rw [e2] at h2
    simp only [num] at h2
    generalize num ((l.drop (a + (i + 1))).take (n - (i + 1))) = z at *
    rw [wu64 (n := rd l _) (by omega) (by omega), wu64 (n := z * 256) (by omega) (by omega), wu64 (by omega) (by omega), w64 (by omega) (by omega)]
    rw [show z * 256 + rd l (↑a + ↑i) = rd l (↑a + ↑i) + 256 * z by omega]
    exact h2

theorem ref_Get_ev {l : List Int} (hl : Bytes l) (hlen : l.length ≤ 140737488351232) (a n : Int) (ha : -9223372036854775808 ≤ a) : Ev (fun k => marquetryref01_Get.f k l a n) (get l a n) := by
  unfold marquetryref01_Get.f
  have bad : Ev (fun k => marquetryref01_Get.j0 k l a n true) (0, false) := by
    refine Ev.succ ?_
    simp only [marquetryref01_Get.j0, if_true]
    exact Ev.now _
  by_cases h1 : n < 1
  · rw [get_bad (by omega)]; exact Ev.ite_pos h1 bad
  refine Ev.ite_neg h1 ?_
  by_cases h2 : n > 8
  · rw [get_bad (by omega)]; exact Ev.ite_pos h2 bad
  refine Ev.ite_neg h2 ?_
  by_cases h3 : a < 0
  · rw [get_bad (by omega)]; exact Ev.ite_pos h3 bad
  refine Ev.ite_neg h3 ?_
  by_cases h4 : a > (l.length : Int)
  · rw [get_bad (by omega)]; exact Ev.ite_pos h4 bad
  refine Ev.ite_neg h4 ?_
  rw [w64 (by omega) (by omega)]
  by_cases h5 : n > (l.length : Int) - a
  · rw [get_bad (by omega)]; simp only [h5, decide_true]; exact bad
  rw [get_good (by omega)]
  simp only [h5, decide_false]
  refine Ev.succ ?_
  simp only [marquetryref01_Get.j0]
  refine Ev.ite_neg (by decide) ?_
  obtain ⟨n, rfl⟩ := Int.eq_ofNat_of_zero_le (show 0 ≤ n by omega)
  obtain ⟨a, rfl⟩ := Int.eq_ofNat_of_zero_le (show 0 ≤ a by omega)
  have := ref_Get_loop hl hlen (a := a) (n := n) (by omega) (by omega) n (by omega)
  rw [w64 (by omega) (by omega)]
  simpa [num] using this

/-! ### Len64 -/
def IsLen (v r : Int) : Prop := 0 ≤ r ∧ r ≤ 64 ∧ ∀ m : Nat, r ≤ m ↔ v < 2 ^ m
set_option maxRecDepth 100000 in
def T8 : ByteArray := ⟨#[0, 1, 2, 2, 3, 3, 3, 3, 4, 4, 4, 4, 4, 4, 4, 4, 5, 5, 5, 5, 5, 5, 5, 5, 5, 5, 5, 5, 5, 5, 5, 5, 6, 6, 6, 6, 6, 6, 6, 6, 6, 6, 6, 6, 6, 6, 6, 6, 6, 6, 6, 6, 6, 6, 6, 6, 6, 6, 6, 6, 6, 6, 6, 6, 7, 7, 7, 7, 7, 7, 7, 7, 7, 7, 7, 7, 7, 7, 7, 7, 7, 7, 7, 7, 7, 7, 7, 7, 7, 7, 7, 7, 7, 7, 7, 7, 7, 7, 7, 7, 7, 7, 7, 7, 7, 7, 7, 7, 7, 7, 7, 7, 7, 7, 7, 7, 7, 7, 7, 7, 7, 7, 7, 7, 7, 7, 7, 7, 8, 8, 8, 8, 8, 8, 8, 8, 8, 8, 8, 8, 8, 8, 8, 8, 8, 8, 8, 8, 8, 8, 8, 8, 8, 8, 8, 8, 8, 8, 8, 8, 8, 8, 8, 8, 8, 8, 8, 8, 8, 8, 8, 8, 8, 8, 8, 8, 8, 8, 8, 8, 8, 8, 8, 8, 8, 8, 8, 8, 8, 8, 8, 8, 8, 8, 8, 8, 8, 8, 8, 8, 8, 8, 8, 8, 8, 8, 8, 8, 8, 8, 8, 8, 8, 8, 8, 8, 8, 8, 8, 8, 8, 8, 8, 8, 8, 8, 8, 8, 8, 8, 8, 8, 8, 8, 8, 8, 8, 8, 8, 8, 8, 8, 8, 8, 8, 8, 8, 8, 8, 8, 8, 8, 8, 8, 8, 8]⟩
set_option maxRecDepth 100000 in
theorem j0_eq (k : Nat) (x0 x2 : Int) : bits_Len64.j0 (k + 1) x0 x2 = if x0 ≥ 65536 then (if (x0 / 65536) ≥ 256 then (if 0 ≤ (((x0 / 65536) / 256) % 256) then (if (((x0 / 65536) / 256) % 256) < 256 then (some (wrap64 ((wrap64 ((wrap64 (x2 + 16)) + 8)) + (wrap64 (bt T8 (((x0 / 65536) / 256) % 256)))))) else (none)) else (none)) else (if 0 ≤ ((x0 / 65536) % 256) then (if ((x0 / 65536) % 256) < 256 then (some (wrap64 ((wrap64 (x2 + 16)) + (wrap64 (bt T8 ((x0 / 65536) % 256)))))) else (none)) else (none))) else (if x0 ≥ 256 then (if 0 ≤ ((x0 / 256) % 256) then (if ((x0 / 256) % 256) < 256 then (some (wrap64 ((wrap64 (x2 + 8)) + (wrap64 (bt T8 ((x0 / 256) % 256)))))) else (none)) else (none)) else (if 0 ≤ ((x0) % 256) then (if ((x0) % 256) < 256 then (some (wrap64 (x2 + (wrap64 (bt T8 ((x0) % 256)))))) else (none)) else (none))) := rfl
set_option maxRecDepth 100000 in
theorem len8 (i : Int) (h0 : 0 ≤ i) (h1 : i < 256) : 0 ≤ bt T8 i ∧ bt T8 i ≤ 8 ∧ i < 2 ^ (bt T8 i).toNat ∧ (bt T8 i = 0 ∧ i = 0 ∨ 1 ≤ bt T8 i ∧ 2 ^ ((bt T8 i).toNat - 1) ≤ i) := by
  have H : ∀ j : Fin 256, 0 ≤ bt T8 j.val ∧ bt T8 j.val ≤ 8 ∧ (j.val : Int) < 2 ^ (bt T8 j.val).toNat ∧ (bt T8 j.val = 0 ∧ (j.val : Int) = 0 ∨ 1 ≤ bt T8 j.val ∧ 2 ^ ((bt T8 j.val).toNat - 1) ≤ (j.val : Int)) := by decide +kernel
  have := H ⟨i.toNat, by omega⟩
  simpa [Int.toNat_of_nonneg h0] using this

/-- What a length of bits is, from its two ends. -/
theorem isLen_of {v r : Int} (h0 : 0 ≤ r) (h1 : r ≤ 64) (h2 : v < 2 ^ r.toNat) (h3 : r = 0 ∨ 2 ^ (r.toNat - 1) ≤ v) : IsLen v r := by
  refine ⟨h0, h1, fun m => ⟨fun h => Int.lt_of_lt_of_le h2 (pow_le (by omega)), fun h => ?_⟩⟩
  rcases h3 with rfl | h3
  · omega
  · apply Classical.byContradiction
    intro hn
    have := pow_le (a := m) (b := r.toNat - 1) (by omega)
    omega
/-- Higher by s bits. -/
theorem isLen_up {v q : Int} (s : Nat) (hq : q = v / 2 ^ s) (h1 : 1 ≤ q) {r : Int} (hr0 : 0 ≤ r) (hs : r + s ≤ 64) (h2 : q < 2 ^ r.toNat) (h3 : r = 0 ∨ 2 ^ (r.toNat - 1) ≤ q) : IsLen v (r + s) := by
  have hp := pow_pos s
  have e := Int.mul_ediv_add_emod v (2 ^ s)
  have m0 := Int.emod_nonneg v (b := 2 ^ s) (by omega)
  have m1 := Int.emod_lt_of_pos v hp
  rw [← hq] at e
  have hr1 : 1 ≤ r.toNat := by
    apply Classical.byContradiction
    intro hn
    have : r.toNat = 0 := by omega
    rw [this] at h2
    omega
  refine isLen_of (by omega) hs ?_ (.inr ?_)
  · rw [show (r + s).toNat = s + r.toNat by omega, pow_add]
    have : 2 ^ s * q ≤ 2 ^ s * (2 ^ r.toNat - 1) := Int.mul_le_mul_of_nonneg_left (by omega) (by omega)
    rw [Int.mul_sub] at this
    omega
  · rw [show (r + s).toNat - 1 = s + (r.toNat - 1) by omega, pow_add]
    have h3' : 2 ^ (r.toNat - 1) ≤ q := by rcases h3 with h | h <;> omega
    have : 2 ^ s * 2 ^ (r.toNat - 1) ≤ 2 ^ s * q := Int.mul_le_mul_of_nonneg_left h3' (by omega)
    omega
set_option maxRecDepth 100000 in
theorem len64_j (v x : Int) (s : Nat) (hs : s ≤ 32) (hx : x = v / 2 ^ s) (h1 : s = 0 ∨ 1 ≤ x) (hx1 : x < 4294967296) (h0 : 0 ≤ v) :
    ∃ r, IsLen v r ∧ Ev (fun k => bits_Len64.j0 k x s) r := by
  have hx0 : 0 ≤ x := by rw [hx]; exact Int.ediv_nonneg h0 (by have := pow_pos s; omega)
  have main : ∀ (t : Nat) (y : Int), t = 0 ∨ t = 8 ∨ t = 16 ∨ t = 24 → y = x / 2 ^ t → (t = 0 ∨ 1 ≤ y) → y < 256 → ∀ b, b = bt T8 y → IsLen v (b + t + s) := by
    intro t y ht hy hy1 hy2 b hb
    have hy0 : 0 ≤ y := by rw [hy]; exact Int.ediv_nonneg hx0 (by have := pow_pos t; omega)
    obtain ⟨b0, b8, b1, b2⟩ := len8 y hy0 hy2
    rw [← hb] at b0 b8 b1 b2
    have hyv : y = v / 2 ^ (s + t) := by
      rw [hy, hx, pow_add, Int.ediv_ediv_of_nonneg]
      have := pow_pos s; omega
    by_cases hz : 1 ≤ y
    · have := isLen_up (s + t) hyv hz b0 (by omega) b1 (by rcases b2 with b2 | b2; exact .inl b2.1; exact .inr b2.2)
      rw [show b + (t : Int) + s = b + ((s + t : Nat) : Int) by omega]
      exact this
    · obtain rfl : t = 0 := by omega
      have hx' : x = y := by rw [hy]; simp
      obtain rfl : s = 0 := by omega
      have hv : v = y := by rw [← hx', hx]; simp
      obtain rfl : b = 0 := by
        rcases b2 with b2 | b2
        · exact b2.1
        · have := pow_pos (b.toNat - 1); omega
      refine isLen_of (by omega) (by omega) ?_ (.inl (by omega))
      rw [hv]; simp; omega
  by_cases c1 : x ≥ 65536
  · by_cases c2 : x / 65536 ≥ 256
    · have y2 : x / 65536 / 256 % 256 = x / 65536 / 256 := by omega
      obtain ⟨b0, b8, -, -⟩ := len8 (x / 65536 / 256) (by omega) (by omega)
      refine ⟨_, main 24 (x / 65536 / 256) (by omega) (by rw [Int.ediv_ediv_of_nonneg (by omega)]; rfl) (by omega) (by omega) _ rfl, ?_⟩
      refine Ev.succ ?_
      simp only [j0_eq]
      refine Ev.ite_pos c1 (Ev.ite_pos c2 (Ev.ite_pos (by omega) (Ev.ite_pos (by omega) (Ev.fin ?_))))
      rw [y2, w64 (n := (s : Int) + 16) (by omega) (by omega), w64 (n := (s : Int) + 16 + 8) (by omega) (by omega), w64 (n := bt _ _) (by omega) (by omega), w64 (by omega) (by omega)]
      omega
    · have y2 : x / 65536 % 256 = x / 65536 := by omega
      obtain ⟨b0, b8, -, -⟩ := len8 (x / 65536) (by omega) (by omega)
      refine ⟨_, main 16 (x / 65536) (by omega) rfl (by omega) (by omega) _ rfl, ?_⟩
      refine Ev.succ ?_
      simp only [j0_eq]
      refine Ev.ite_pos c1 (Ev.ite_neg c2 (Ev.ite_pos (by omega) (Ev.ite_pos (by omega) (Ev.fin ?_))))
      rw [y2, w64 (n := (s : Int) + 16) (by omega) (by omega), w64 (n := bt _ _) (by omega) (by omega), w64 (by omega) (by omega)]
      omega
  · by_cases c2 : x ≥ 256
    · have y2 : x / 256 % 256 = x / 256 := by omega
      obtain ⟨b0, b8, -, -⟩ := len8 (x / 256) (by omega) (by omega)
      refine ⟨_, main 8 (x / 256) (by omega) rfl (by omega) (by omega) _ rfl, ?_⟩
      refine Ev.succ ?_
      simp only [j0_eq]
      refine Ev.ite_neg c1 (Ev.ite_pos c2 (Ev.ite_pos (by omega) (Ev.ite_pos (by omega) (Ev.fin ?_))))
      rw [y2, w64 (n := (s : Int) + 8) (by omega) (by omega), w64 (n := bt _ _) (by omega) (by omega), w64 (by omega) (by omega)]
      omega
    · have y2 : x % 256 = x := by omega
      obtain ⟨b0, b8, -, -⟩ := len8 x (by omega) (by omega)
      refine ⟨_, main 0 x (by omega) (by simp) (by omega) (by omega) _ rfl, ?_⟩
      refine Ev.succ ?_
      simp only [j0_eq]
      refine Ev.ite_neg c1 (Ev.ite_neg c2 (Ev.ite_pos (by omega) (Ev.ite_pos (by omega) (Ev.fin ?_))))
      rw [y2, w64 (n := bt _ _) (by omega) (by omega), w64 (by omega) (by omega)]
      omega
theorem len64_ev (v : Int) (h0 : 0 ≤ v) (h1 : v ≤ 18446744073709551615) : ∃ r, IsLen v r ∧ Ev (fun k => bits_Len64.f k v) r := by
  unfold bits_Len64.f
  by_cases c : v ≥ 4294967296
  · obtain ⟨r, hr, he⟩ := len64_j v (v / 4294967296) 32 (by omega) rfl (by omega) (by omega) h0
    exact ⟨r, hr, Ev.ite_pos c he⟩
  · obtain ⟨r, hr, he⟩ := len64_j v v 0 (by omega) (by simp) (by omega) (by omega) h0
    exact ⟨r, hr, Ev.ite_neg c he⟩

/-! ### Put -/
def bytes : Nat → Int → List Int
  | 0, _ => []
  | n + 1, v => v % 256 :: bytes n (v / 256)
theorem bytes_len (n : Nat) : ∀ v, (bytes n v).length = n := by
  induction n with
  | zero => intro v; rfl
  | succ n ih => intro v; simp [bytes, ih]
theorem bytes_snoc (n : Nat) : ∀ v : Int, 0 ≤ v → bytes (n + 1) v = bytes n v ++ [v / 256 ^ n % 256] := by
  induction n with
  | zero => intro v _; simp [bytes]
  | succ n ih =>
    intro v hv
    rw [bytes, ih _ (by omega), bytes, Int.ediv_ediv_of_nonneg (by omega), List.cons_append, Int.pow_succ, Int.mul_comm]
theorem bytes_bytes (n : Nat) : ∀ v, Bytes (bytes n v) := by
  induction n with
  | zero => intro v x hx; simp [bytes] at hx
  | succ n ih =>
    intro v x hx
    simp only [bytes, List.mem_cons] at hx
    rcases hx with rfl | hx
    · omega
    · exact ih _ x hx
theorem num_bytes (n : Nat) : ∀ v : Int, 0 ≤ v → v < 256 ^ n → num (bytes n v) = v := by
  induction n with
  | zero => intro v h0 h1; simp at h1; simp [bytes, num]; omega
  | succ n ih =>
    intro v h0 h1
    rw [Int.pow_succ] at h1
    rw [bytes, num, ih _ (by omega) (by omega)]
    omega
def put (v n : Int) : List Int × Bool := if 1 ≤ n ∧ n ≤ 8 ∧ v < 256 ^ n.toNat then (bytes n.toNat v, true) else ([], false)

theorem put_bad {v n : Int} (h : ¬ (1 ≤ n ∧ n ≤ 8 ∧ v < 256 ^ n.toNat)) : put v n = ([], false) := if_neg h
theorem put_good {v n : Int} (h : 1 ≤ n ∧ n ≤ 8 ∧ v < 256 ^ n.toNat) : put v n = (bytes n.toNat v, true) := if_pos h
theorem le_Put_loop (v : Int) (h0 : 0 ≤ v) {n : Nat} (hn : n ≤ 8) (d : Nat) : ∀ i : Nat, i + d = n →
    Ev (fun k => le_Put.l0 k v (bytes i v ++ List.replicate d 0) n i) (bytes n v, true) := by
  induction d with
  | zero =>
    intro i hd
    obtain rfl : i = n := by omega
    refine Ev.succ ?_
    simp only [le_Put.l0]
    refine Ev.ite_neg (by omega) (Ev.fin (by simp))
  | succ d ih =>
    intro i hd
    refine Ev.succ ?_
    simp only [le_Put.l0]
    have e2 : wrap64 (8 * (i : Int)) = 8 * i := w64 (by omega) (by omega)
    have e3 : wrap64 ((i : Int) + 1) = (i + 1 : Nat) := w64 (by omega) (by omega)
    have hl := bytes_len i v
    simp only [e2, e3]
    refine Ev.ite_pos (by omega) (Ev.ite_pos (by omega) (Ev.ite_pos (by omega) (Ev.ite_pos (by simp [hl]; omega) ?_)))
    have hp := pow256 (i := i) (by omega)
    rw [shr_any (by simp [IntKind.bits]; omega), show (8 * (i : Int)).toNat = 8 * i by omega, ← hp.2]
    have e4 : (bytes i v ++ List.replicate (d + 1) 0).set (i : Int).toNat (v / 256 ^ i % 256) = bytes (i + 1) v ++ List.replicate d 0 := by
      rw [bytes_snoc i v h0, List.set_append_right _ _ (by omega), hl, List.replicate_succ, List.append_assoc]
      simp
    rw [e4]
    exact ih (i + 1) (by omega)

theorem le_Put_ev (v n : Int) (h0 : 0 ≤ v) (h1 : v ≤ 18446744073709551615) : Ev (fun k => le_Put.f k v n) (put v n) := by
  unfold le_Put.f le_size.f
  have bad : Ev (fun k => le_Put.j0 k v n true) ([], false) := by
    refine Ev.succ ?_
    simp only [le_Put.j0, if_true]
    exact Ev.now _
  by_cases c1 : 1 ≤ n
  · simp only [ge_iff_le, if_pos c1, Option.bind_some]
    by_cases c2 : n ≤ 8
    · simp only [c2, decide_true, if_true]
      obtain ⟨r, hr, he⟩ := len64_ev v h0 h1
      refine Ev.bind he ?_
      rw [w64 (by omega) (by omega)]
      obtain ⟨n, rfl⟩ := Int.eq_ofNat_of_zero_le (show 0 ≤ n by omega)
      have hk := hr.2.2 (8 * n)
      have hp := pow256 (i := n) (by omega)
      rw [← hp.2] at hk
      by_cases c3 : r > 8 * (n : Int)
      · rw [put_bad (by simp; omega)]
        simp only [c3, decide_true]; exact bad
      · rw [put_good (by simp; omega)]
        simp only [c3, decide_false]
        refine Ev.succ ?_
        simp only [le_Put.j0]
        refine Ev.ite_neg (by decide) (Ev.ite_pos (by omega) (Ev.ite_pos (by omega) ?_))
        simp only [Option.bind_some, Int.toNat_natCast, List.length_replicate]
        have := le_Put_loop v h0 (n := n) (by omega) n 0 (by omega)
        simpa [bytes] using this
    · rw [put_bad (by omega)]
      simp only [c2, decide_false]
      exact Ev.ite_neg (by decide) bad
  · rw [put_bad (by omega)]
    simp only [ge_iff_le, if_neg c1, Option.bind_some]
    exact Ev.ite_neg (by decide) bad

theorem ref_Put_loop (v : Int) (h0 : 0 ≤ v) (h1 : v ≤ 18446744073709551615) {n : Nat} (hn : n ≤ 8) (d : Nat) : ∀ i : Nat, i + d = n →
    Ev (fun k => marquetryref01_Put.l0 k (v / 256 ^ i) n (bytes i v) i) (if v < 256 ^ n then (bytes n v, true) else ([], false)) := by
  induction d with
  | zero =>
    intro i hd
    obtain rfl : i = n := by omega
    refine Ev.succ ?_
    simp only [marquetryref01_Put.l0]
    refine Ev.ite_neg (by omega) ?_
    have hp : (0 : Int) < 256 ^ i := by rw [(pow256 (i := i) (by omega)).2]; exact pow_pos _
    by_cases c : v < 256 ^ i
    · rw [if_pos c]
      exact Ev.ite_pos (Int.ediv_eq_zero_of_lt h0 c) (Ev.now _)
    · rw [if_neg c]
      refine Ev.ite_neg ?_ (Ev.now _)
      have : 1 ≤ v / 256 ^ i := (Int.le_ediv_iff_mul_le hp).2 (by omega)
      omega
  | succ d ih =>
    intro i hd
    refine Ev.succ ?_
    simp only [marquetryref01_Put.l0]
    have hl := bytes_len i v
    have hp : (0 : Int) < 256 ^ i := by rw [(pow256 (i := i) (by omega)).2]; exact pow_pos _
    have hq : 0 ≤ v / 256 ^ i := Int.ediv_nonneg h0 (by omega)
    have hq1 : v / 256 ^ i ≤ v := Int.ediv_le_self _ h0
    refine Ev.ite_pos (by omega) (Ev.ite_pos (by omega) ?_)
    rw [Int.tmod_eq_emod_of_nonneg hq, Int.tdiv_eq_ediv_of_nonneg hq, wu64 (by omega) (by omega), w64 (by omega) (by omega), Int.emod_emod, Int.ediv_ediv_of_nonneg (by omega), ← bytes_snoc i v h0, ← Int.pow_succ]
    exact ih (i + 1) (by omega)

theorem ref_Put_ev (v n : Int) (h0 : 0 ≤ v) (h1 : v ≤ 18446744073709551615) : Ev (fun k => marquetryref01_Put.f k v n) (put v n) := by
  unfold marquetryref01_Put.f
  have bad : Ev (fun k => marquetryref01_Put.j0 k v n true) ([], false) := by
    refine Ev.succ ?_
    simp only [marquetryref01_Put.j0, if_true]
    exact Ev.now _
  by_cases c1 : n < 1
  · rw [put_bad (by omega)]; exact Ev.ite_pos c1 bad
  refine Ev.ite_neg c1 ?_
  by_cases c2 : n > 8
  · rw [put_bad (by omega)]; simp only [c2, decide_true]; exact bad
  simp only [c2, decide_false]
  refine Ev.succ ?_
  simp only [marquetryref01_Put.j0]
  refine Ev.ite_neg (by decide) ?_
  obtain ⟨n, rfl⟩ := Int.eq_ofNat_of_zero_le (show 0 ≤ n by omega)
  have := ref_Put_loop v h0 h1 (n := n) (by omega) n 0 (by omega)
  by_cases c3 : v < 256 ^ n
  · rw [put_good ⟨by omega, by omega, by simpa using c3⟩]; rw [if_pos c3] at this; simpa [bytes] using this
  · rw [put_bad (fun h => c3 (by simpa using h.2.2))]; rw [if_neg c3] at this; simpa [bytes] using this

/-! ### Same -/
theorem same_loop (a : List Int) (hlen : a.length ≤ 140737488355328) (d : Nat) : ∀ i : Nat, i + d = a.length → Ev (fun k => marquetryref01_Same.l0 k a a i) true := by
  induction d with
  | zero =>
    intro i hd
    refine Ev.succ ?_
    simp only [marquetryref01_Same.l0]
    exact Ev.ite_neg (by omega) (Ev.now _)
  | succ d ih =>
    intro i hd
    refine Ev.succ ?_
    simp only [marquetryref01_Same.l0]
    rw [w64 (n := (i : Int) + 1) (by omega) (by omega)]
    refine Ev.ite_pos (by omega) (Ev.ite_pos (by omega) (Ev.ite_pos (by omega) ?_))
    simp only [if_true]
    exact ih (i + 1) (by omega)
theorem same_ev (a : List Int) (hlen : a.length ≤ 140737488355328) : Ev (fun k => marquetryref01_Same.f k a a) true := by
  unfold marquetryref01_Same.f
  refine Ev.ite_pos rfl ?_
  exact same_loop a hlen a.length 0 (by omega)

/-! ### answers -/
theorem answers_ev : Ev (fun k => marquetrylaw01_answers.f k) true := by
  unfold marquetrylaw01_answers.f
  refine Ev.bind (le_Get_ev (l := [52, 18]) (by intro x hx; simp at hx; omega) (by decide) 0 2 (by omega)) ?_
  have e : get [52, 18] 0 2 = (4660, true) := by decide
  rw [e]
  simp only [if_true, le_Blocks_eq, Option.bind_some]
  exact Ev.fin (by decide)
end Go.Proofs.Ytoiaonbfhcnikaa.Pure
