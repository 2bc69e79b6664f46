/- The numbers of bytes and the bytes of numbers, by the program and by the reference. -/
import Derived.Test.YtfbkbbognabkkaaPx
import Derived.Test.YtfbkbbognabkkaaU
import Derived.Test.YtfbkbbognabkkaaLen
namespace Go.Proofs.Ytfbkbbognabkkaa.Pure
open Go Go.RowKit Go.Proofs.Ytfbkbbognabkkaa.P Go.Proofs.YtfbkbbognabkkaaW.PrintWords Go.Proofs.YtfbkbbognabkkaaW.PrintLast Go.Proofs.YtfbkbbognabkkaaW.PrintMore Go.Proofs.Ytfbkbbognabkkaa.U

/-! ### Get -/
/-- The number of bytes, the lowest first. -/
def num : List Int → Int
  | [] => 0
  | b :: r => b + 256 * num r
def Bytes (l : List Int) : Prop := ∀ x ∈ l, 0 ≤ x ∧ x ≤ 255
theorem bytes_wf {l : List Int} (h : ∀ x ∈ l, (Lit.int .u8 x).wf = true) : Bytes l := fun x hx => wf_u8 (h x hx)
theorem Bytes.tail {b : Int} {l : List Int} (h : Bytes (b :: l)) : Bytes l := fun x hx => h x (List.mem_cons_of_mem _ hx)
theorem Bytes.take {l : List Int} (h : Bytes l) (n : Nat) : Bytes (l.take n) := fun x hx => h x (List.mem_of_mem_take hx)
theorem Bytes.drop {l : List Int} (h : Bytes l) (n : Nat) : Bytes (l.drop n) := fun x hx => h x (List.mem_of_mem_drop hx)
theorem num_bd {l : List Int} (h : Bytes l) : 0 ≤ num l ∧ num l < 256 ^ l.length := by
  induction l with
  | nil => simp [num]
  | cons b r ih =>
    have hb := h b (by simp)
    have hi := ih h.tail
    have e : (256 : Int) ^ (b :: r).length = 256 * 256 ^ r.length := by rw [List.length_cons, Int.pow_succ, Int.mul_comm]
    unfold num
    omega
theorem num_snoc (l : List Int) (b : Int) : num (l ++ [b]) = num l + b * 256 ^ l.length := by
  induction l with
  | nil => simp [num]
  | cons c r ih =>
    have e : (256 : Int) ^ (c :: r).length = 256 * 256 ^ r.length := by rw [List.length_cons, Int.pow_succ, Int.mul_comm]
    simp only [List.cons_append, num, ih, e]
    rw [Int.mul_add, ← Int.mul_assoc, ← Int.mul_assoc, Int.mul_comm 256 b]
    omega
theorem rd_mem {l : List Int} {i : Int} (h0 : 0 ≤ i) (h : i < l.length) : rd l i ∈ l := by
  unfold rd
  rw [List.getD_eq_getElem?_getD, List.getElem?_eq_getElem (by omega)]
  exact List.getElem_mem _
theorem take_rd {l : List Int} {a k : Nat} (h : a + k < l.length) : (l.drop a).take (k + 1) = (l.drop a).take k ++ [rd l ((a : Int) + k)] := by
  have : ((a : Int) + k).toNat = a + k := by omega
  unfold rd
  rw [this, List.take_succ_eq_append_getElem (by simp; omega), List.getElem_drop, List.getD_eq_getElem?_getD, List.getElem?_eq_getElem h]
  rfl
def get (l : List Int) (at_ n : Int) : Int × Bool := if 1 ≤ n ∧ n ≤ 8 ∧ 0 ≤ at_ ∧ at_ ≤ l.length ∧ n ≤ l.length - at_ then (num ((l.drop at_.toNat).take n.toNat), true) else (0, false)

theorem get_bad {l : List Int} {a n : Int} (h : ¬ (1 ≤ n ∧ n ≤ 8 ∧ 0 ≤ a ∧ a ≤ l.length ∧ n ≤ l.length - a)) : get l a n = (0, false) := if_neg h
theorem get_good {l : List Int} {a n : Int} (h : 1 ≤ n ∧ n ≤ 8 ∧ 0 ≤ a ∧ a ≤ l.length ∧ n ≤ l.length - a) : get l a n = (num ((l.drop a.toNat).take n.toNat), true) := if_pos h
theorem pow256 {i : Nat} (h : i ≤ 8) : (256 : Int) ^ i ≤ 18446744073709551616 ∧ (256 : Int) ^ i = 2 ^ (8 * i) := by
  have h1 : (256 : Int) ^ i = 2 ^ (8 * i) := by rw [Int.pow_mul]; rfl
  refine ⟨?_, h1⟩
  rw [h1]
  have := pow_le (a := 8 * i) (b := 64) (by omega)
  simpa using this

theorem le_Get_loop {l : List Int} (hl : Bytes l) (hlen : l.length ≤ 140737488351232) {a : Nat} {n : Nat} (hn : n ≤ 8) (ha : a + n ≤ l.length) (d : Nat) : ∀ i : Nat, i + d = n →
    Ev (fun k => le_Get.l0 k l a (num ((l.drop a).take i)) n i) (num ((l.drop a).take n), true) := by
  induction d with
  | zero =>
    intro i hd
    obtain rfl : i = n := by omega
    refine Ev.succ ?_
    simp only [le_Get.l0]
    exact Ev.ite_neg (by omega) (Ev.now _)
  | succ d ih =>
    intro i hd
    refine Ev.succ ?_
    simp only [le_Get.l0]
    have e1 : wrap64 ((a : Int) + i) = a + i := w64 (by omega) (by omega)
    have e2 : wrap64 (8 * (i : Int)) = 8 * i := w64 (by omega) (by omega)
    simp only [e1, e2]
    refine Ev.ite_pos (by omega) (Ev.ite_pos (by omega) (Ev.ite_pos (by omega) (Ev.ite_pos (by omega) ?_)))
    have hr := hl _ (rd_mem (l := l) (i := (a : Int) + i) (by omega) (by omega))
    have hb := num_bd ((hl.drop a).take i)
    have hlen' : ((l.drop a).take i).length = i := by simp; omega
    rw [hlen'] at hb
    have hp := pow256 (i := i) (by omega)
    have hp1 := pow256 (i := i + 1) (by omega)
    have hs : (256 : Int) ^ (i + 1) = 256 ^ i * 256 := Int.pow_succ _ _
    have e3 : (8 * (i : Int)).toNat = 8 * i := by omega
    have h2 := ih (i + 1) (by omega)
    rw [take_rd (by omega), num_snoc, hlen', show ((i + 1 : Nat) : Int) = (i : Int) + 1 by omega] at h2
    rw [wu64 (by omega) (by omega), shl_u64 (by omega), e3, ← hp.2]
    generalize rd l ((a : Int) + i) = r at *
    have hm : 0 ≤ r * 256 ^ i ∧ r * 256 ^ i ≤ 255 * 256 ^ i := by
      have := pow_pos (8 * i); rw [← hp.2] at this
      exact ⟨Int.mul_nonneg hr.1 (by omega), Int.mul_le_mul_of_nonneg_right hr.2 (by omega)⟩
    rw [Int.emod_eq_of_lt hm.1 (by omega), or_u64 (i := 8 * i) (by omega) hb.1 (by rw [← hp.2]; exact hb.2) hm.1 (by rw [← hp.2]; exact Int.mul_emod_left _ _) (by omega)]
    rw [w64 (n := (i : Int) + 1) (by omega) (by omega)]
    exact h2

theorem le_Get_ev {l : List Int} (hl : Bytes l) (hlen : l.length ≤ 140737488351232) (a n : Int) (ha : -9223372036854775808 ≤ a) : Ev (fun k => le_Get.f k l a n) (get l a n) := by
  unfold le_Get.f le_size.f
  have bad : Ev (fun k => le_Get.j0 k l a n true) (0, false) := by
    refine Ev.succ ?_
    simp only [le_Get.j0, if_true]
    exact Ev.now _
  by_cases h1 : 1 ≤ n
  · simp only [ge_iff_le, if_pos h1, Option.bind_some]
    by_cases h2 : n ≤ 8
    · simp only [h2, decide_true, if_true]
      by_cases h3 : a < 0
      · rw [get_bad (by omega)]; exact Ev.ite_pos h3 bad
      refine Ev.ite_neg h3 ?_
      by_cases h4 : a > (l.length : Int)
      · rw [get_bad (by omega)]; exact Ev.ite_pos h4 bad
      refine Ev.ite_neg h4 ?_
      rw [w64 (by omega) (by omega)]
      by_cases h5 : (l.length : Int) - a < n
      · rw [get_bad (by omega)]; simp only [h5, decide_true]; exact bad
      rw [get_good (by omega)]
      simp only [h5, decide_false]
      refine Ev.succ ?_
      simp only [le_Get.j0]
      refine Ev.ite_neg (by decide) ?_
      obtain ⟨n, rfl⟩ := Int.eq_ofNat_of_zero_le (show 0 ≤ n by omega)
      obtain ⟨a, rfl⟩ := Int.eq_ofNat_of_zero_le (show 0 ≤ a by omega)
      have := le_Get_loop hl hlen (a := a) (n := n) (by omega) (by omega) n 0 (by omega)
      simpa [num] using this
    · rw [get_bad (by omega)]
      simp only [h2, decide_false]
      exact Ev.ite_neg (by decide) bad
  · rw [get_bad (by omega)]
    simp only [ge_iff_le, if_neg h1, Option.bind_some]
    exact Ev.ite_neg (by decide) bad

theorem ref_Get_loop {l : List Int} (hl : Bytes l) (hlen : l.length ≤ 140737488351232) {a : Nat} {n : Nat} (hn : n ≤ 8) (ha : a + n ≤ l.length) : ∀ i : Nat, i ≤ n →
    Ev (fun k => marquetryref01_Get.l0 k l a (num ((l.drop (a + i)).take (n - i))) ((i : Int) - 1)) (num ((l.drop a).take n), true) := by
  intro i
  induction i with
  | zero =>
    intro _
    refine Ev.succ ?_
    simp only [marquetryref01_Get.l0]
    exact Ev.ite_neg (by show ¬ ((0 : Int) - 1 ≥ 0); omega) (Ev.now _)
  | succ i ih =>
    intro hd
    refine Ev.succ ?_
    simp only [marquetryref01_Get.l0]
    have e0 : ((i + 1 : Nat) : Int) - 1 = i := by omega
    have e1 : wrap64 ((a : Int) + i) = a + i := w64 (by omega) (by omega)
    simp only [e0, e1]
    refine Ev.ite_pos (by omega) (Ev.ite_pos (by omega) (Ev.ite_pos (by omega) ?_))
    have hr := hl _ (rd_mem (l := l) (i := (a : Int) + i) (by omega) (by omega))
    have hlen' : ((l.drop (a + (i + 1))).take (n - (i + 1))).length = n - (i + 1) := by simp; omega
    have hb := num_bd ((hl.drop (a + (i + 1))).take (n - (i + 1)))
    rw [hlen'] at hb
    have hs : (256 : Int) ^ (n - (i + 1) + 1) = 256 ^ (n - (i + 1)) * 256 := Int.pow_succ _ _
    have hp1 := pow256 (i := n - (i + 1) + 1) (by omega)
    have e2 : (l.drop (a + i)).take (n - i) = rd l ((a : Int) + i) :: (l.drop (a + (i + 1))).take (n - (i + 1)) := by
      rw [show n - i = (n - (i + 1)) + 1 by omega, List.drop_eq_getElem_cons (by omega), List.take_succ_cons]
      unfold rd
      rw [show ((a : Int) + i).toNat = a + i by omega, List.getD_eq_getElem?_getD, List.getElem?_eq_getElem (by omega)]
      rfl
    have h2 := ih (by omega)
    rw [e2] at h2
    simp only [num] at h2
    generalize num ((l.drop (a + (i + 1))).take (n - (i + 1))) = z at *
    rw [wu64 (n := rd l _) (by omega) (by omega), wu64 (n := z * 256) (by omega) (by omega), wu64 (by omega) (by omega), w64 (by omega) (by omega)]
    rw [show z * 256 + rd l (↑a + ↑i) = rd l (↑a + ↑i) + 256 * z by omega]
    exact h2

theorem ref_Get_ev {l : List Int} (hl : Bytes l) (hlen : l.length ≤ 140737488351232) (a n : Int) (ha : -9223372036854775808 ≤ a) : Ev (fun k => marquetryref01_Get.f k l a n) (get l a n) := by
  unfold marquetryref01_Get.f
  have bad : Ev (fun k => marquetryref01_Get.j0 k l a n true) (0, false) := by
    refine Ev.succ ?_
    simp only [marquetryref01_Get.j0, if_true]
    exact Ev.now _
  by_cases h1 : n < 1
  · rw [get_bad (by omega)]; exact Ev.ite_pos h1 bad
  refine Ev.ite_neg h1 ?_
  by_cases h2 : n > 8
  · rw [get_bad (by omega)]; exact Ev.ite_pos h2 bad
  refine Ev.ite_neg h2 ?_
  by_cases h3 : a < 0
  · rw [get_bad (by omega)]; exact Ev.ite_pos h3 bad
  refine Ev.ite_neg h3 ?_
  by_cases h4 : a > (l.length : Int)
  · rw [get_bad (by omega)]; exact Ev.ite_pos h4 bad
  refine Ev.ite_neg h4 ?_
  rw [w64 (by omega) (by omega)]
  by_cases h5 : n > (l.length : Int) - a
  · rw [get_bad (by omega)]; simp only [h5, decide_true]; exact bad
  rw [get_good (by omega)]
  simp only [h5, decide_false]
  refine Ev.succ ?_
  simp only [marquetryref01_Get.j0]
  refine Ev.ite_neg (by decide) ?_
  obtain ⟨n, rfl⟩ := Int.eq_ofNat_of_zero_le (show 0 ≤ n by omega)
  obtain ⟨a, rfl⟩ := Int.eq_ofNat_of_zero_le (show 0 ≤ a by omega)
  have := ref_Get_loop hl hlen (a := a) (n := n) (by omega) (by omega) n (by omega)
  rw [w64 (by omega) (by omega)]
  simpa [num] using this

/-! ### Put -/
def bytes : Nat → Int → List Int
  | 0, _ => []
  | n + 1, v => v % 256 :: bytes n (v / 256)
theorem bytes_len (n : Nat) : ∀ v, (bytes n v).length = n := by
  induction n with
  | zero => intro v; rfl
  | succ n ih => intro v; simp [bytes, ih]
theorem bytes_snoc (n : Nat) : ∀ v : Int, 0 ≤ v → bytes (n + 1) v = bytes n v ++ [v / 256 ^ n % 256] := by
  induction n with
  | zero => intro v _; simp [bytes]
  | succ n ih =>
    intro v hv
    rw [bytes, ih _ (by omega), bytes, Int.ediv_ediv_of_nonneg (by omega), List.cons_append, Int.pow_succ, Int.mul_comm]
theorem bytes_bytes (n : Nat) : ∀ v, Bytes (bytes n v) := by
  induction n with
  | zero => intro v x hx; simp [bytes] at hx
  | succ n ih =>
    intro v x hx
    simp only [bytes, List.mem_cons] at hx
    rcases hx with rfl | hx
    · omega
    · exact ih _ x hx
theorem num_bytes (n : Nat) : ∀ v : Int, 0 ≤ v → v < 256 ^ n → num (bytes n v) = v := by
  induction n with
  | zero => intro v h0 h1; simp at h1; simp [bytes, num]; omega
  | succ n ih =>
    intro v h0 h1
    rw [Int.pow_succ] at h1
    rw [bytes, num, ih _ (by omega) (by omega)]
    omega
def put (v n : Int) : List Int × Bool := if 1 ≤ n ∧ n ≤ 8 ∧ v < 256 ^ n.toNat then (bytes n.toNat v, true) else ([], false)

theorem put_bad {v n : Int} (h : ¬ (1 ≤ n ∧ n ≤ 8 ∧ v < 256 ^ n.toNat)) : put v n = ([], false) := if_neg h
theorem put_good {v n : Int} (h : 1 ≤ n ∧ n ≤ 8 ∧ v < 256 ^ n.toNat) : put v n = (bytes n.toNat v, true) := if_pos h
theorem le_Put_loop (v : Int) (h0 : 0 ≤ v) {n : Nat} (hn : n ≤ 8) (d : Nat) : ∀ i : Nat, i + d = n →
    Ev (fun k => le_Put.l0 k v (bytes i v ++ List.replicate d 0) n i) (bytes n v, true) := by
  induction d with
  | zero =>
    intro i hd
    obtain rfl : i = n := by omega
    refine Ev.succ ?_
    simp only [le_Put.l0]
    refine Ev.ite_neg (by omega) (Ev.fin (by simp))
  | succ d ih =>
    intro i hd
    refine Ev.succ ?_
    simp only [le_Put.l0]
    have e2 : wrap64 (8 * (i : Int)) = 8 * i := w64 (by omega) (by omega)
    have e3 : wrap64 ((i : Int) + 1) = (i + 1 : Nat) := w64 (by omega) (by omega)
    have hl := bytes_len i v
    simp only [e2, e3]
    refine Ev.ite_pos (by omega) (Ev.ite_pos (by omega) (Ev.ite_pos (by omega) (Ev.ite_pos (by simp [hl]; omega) ?_)))
    have hp := pow256 (i := i) (by omega)
    rw [shr_any (by simp [IntKind.bits]; omega), show (8 * (i : Int)).toNat = 8 * i by omega, ← hp.2]
    have e4 : (bytes i v ++ List.replicate (d + 1) 0).set (i : Int).toNat (v / 256 ^ i % 256) = bytes (i + 1) v ++ List.replicate d 0 := by
      rw [bytes_snoc i v h0, List.set_append_right _ _ (by omega), hl, List.replicate_succ, List.append_assoc]
      simp
    rw [e4]
    exact ih (i + 1) (by omega)

theorem le_Put_ev (v n : Int) (h0 : 0 ≤ v) (h1 : v ≤ 18446744073709551615) : Ev (fun k => le_Put.f k v n) (put v n) := by
  unfold le_Put.f le_size.f
  have bad : Ev (fun k => le_Put.j0 k v n true) ([], false) := by
    refine Ev.succ ?_
    simp only [le_Put.j0, if_true]
    exact Ev.now _
  by_cases c1 : 1 ≤ n
  · simp only [ge_iff_le, if_pos c1, Option.bind_some]
    by_cases c2 : n ≤ 8
    · simp only [c2, decide_true, if_true]
      obtain ⟨r, hr, he⟩ := len64_ev v h0 h1
      refine Ev.bind he ?_
      rw [w64 (by omega) (by omega)]
      obtain ⟨n, rfl⟩ := Int.eq_ofNat_of_zero_le (show 0 ≤ n by omega)
      have hk := hr.2.2 (8 * n)
      have hp := pow256 (i := n) (by omega)
      rw [← hp.2] at hk
      by_cases c3 : r > 8 * (n : Int)
      · rw [put_bad (by simp; omega)]
        simp only [c3, decide_true]; exact bad
      · rw [put_good (by simp; omega)]
        simp only [c3, decide_false]
        refine Ev.succ ?_
        simp only [le_Put.j0]
        refine Ev.ite_neg (by decide) (Ev.ite_pos (by omega) (Ev.ite_pos (by omega) ?_))
        simp only [Option.bind_some, Int.toNat_natCast, List.length_replicate]
        have := le_Put_loop v h0 (n := n) (by omega) n 0 (by omega)
        simpa [bytes] using this
    · rw [put_bad (by omega)]
      simp only [c2, decide_false]
      exact Ev.ite_neg (by decide) bad
  · rw [put_bad (by omega)]
    simp only [ge_iff_le, if_neg c1, Option.bind_some]
    exact Ev.ite_neg (by decide) bad

theorem ref_Put_loop (v : Int) (h0 : 0 ≤ v) (h1 : v ≤ 18446744073709551615) {n : Nat} (hn : n ≤ 8) (d : Nat) : ∀ i : Nat, i + d = n →
    Ev (fun k => marquetryref01_Put.l0 k (v / 256 ^ i) n (bytes i v) i) (if v < 256 ^ n then (bytes n v, true) else ([], false)) := by
  induction d with
  | zero =>
    intro i hd
    obtain rfl : i = n := by omega
    refine Ev.succ ?_
    simp only [marquetryref01_Put.l0]
    refine Ev.ite_neg (by omega) ?_
    have hp : (0 : Int) < 256 ^ i := by rw [(pow256 (i := i) (by omega)).2]; exact pow_pos _
    by_cases c : v < 256 ^ i
    · rw [if_pos c]
      exact Ev.ite_pos (Int.ediv_eq_zero_of_lt h0 c) (Ev.now _)
    · rw [if_neg c]
      refine Ev.ite_neg ?_ (Ev.now _)
      have : 1 ≤ v / 256 ^ i := (Int.le_ediv_iff_mul_le hp).2 (by omega)
      omega
  | succ d ih =>
    intro i hd
    refine Ev.succ ?_
    simp only [marquetryref01_Put.l0]
    have hl := bytes_len i v
    have hp : (0 : Int) < 256 ^ i := by rw [(pow256 (i := i) (by omega)).2]; exact pow_pos _
    have hq : 0 ≤ v / 256 ^ i := Int.ediv_nonneg h0 (by omega)
    have hq1 : v / 256 ^ i ≤ v := Int.ediv_le_self _ h0
    refine Ev.ite_pos (by omega) (Ev.ite_pos (by omega) ?_)
    rw [Int.tmod_eq_emod_of_nonneg hq, Int.tdiv_eq_ediv_of_nonneg hq, wu64 (by omega) (by omega), w64 (by omega) (by omega), Int.emod_emod, Int.ediv_ediv_of_nonneg (by omega), ← bytes_snoc i v h0, ← Int.pow_succ]
    exact ih (i + 1) (by omega)

theorem ref_Put_ev (v n : Int) (h0 : 0 ≤ v) (h1 : v ≤ 18446744073709551615) : Ev (fun k => marquetryref01_Put.f k v n) (put v n) := by
  unfold marquetryref01_Put.f
  have bad : Ev (fun k => marquetryref01_Put.j0 k v n true) ([], false) := by
    refine Ev.succ ?_
    simp only [marquetryref01_Put.j0, if_true]
    exact Ev.now _
  by_cases c1 : n < 1
  · rw [put_bad (by omega)]; exact Ev.ite_pos c1 bad
  refine Ev.ite_neg c1 ?_
  by_cases c2 : n > 8
  · rw [put_bad (by omega)]; simp only [c2, decide_true]; exact bad
  simp only [c2, decide_false]
  refine Ev.succ ?_
  simp only [marquetryref01_Put.j0]
  refine Ev.ite_neg (by decide) ?_
  obtain ⟨n, rfl⟩ := Int.eq_ofNat_of_zero_le (show 0 ≤ n by omega)
  have := ref_Put_loop v h0 h1 (n := n) (by omega) n 0 (by omega)
  by_cases c3 : v < 256 ^ n
  · rw [put_good ⟨by omega, by omega, by simpa using c3⟩]; rw [if_pos c3] at this; simpa [bytes] using this
  · rw [put_bad (fun h => c3 (by simpa using h.2.2))]; rw [if_neg c3] at this; simpa [bytes] using this

/-! ### Same -/
theorem same_loop (a : List Int) (hlen : a.length ≤ 140737488355328) (d : Nat) : ∀ i : Nat, i + d = a.length → Ev (fun k => marquetryref01_Same.l0 k a a i) true := by
  induction d with
  | zero =>
    intro i hd
    refine Ev.succ ?_
    simp only [marquetryref01_Same.l0]
    exact Ev.ite_neg (by omega) (Ev.now _)
  | succ d ih =>
    intro i hd
    refine Ev.succ ?_
    simp only [marquetryref01_Same.l0]
    rw [w64 (n := (i : Int) + 1) (by omega) (by omega)]
    refine Ev.ite_pos (by omega) (Ev.ite_pos (by omega) (Ev.ite_pos (by omega) ?_))
    simp only [if_true]
    exact ih (i + 1) (by omega)
theorem same_ev (a : List Int) (hlen : a.length ≤ 140737488355328) : Ev (fun k => marquetryref01_Same.f k a a) true := by
  unfold marquetryref01_Same.f
  refine Ev.ite_pos rfl ?_
  exact same_loop a hlen a.length 0 (by omega)

/-! ### answers -/

end Go.Proofs.Ytfbkbbognabkkaa.Pure
