/- Chunks that were laid are read again; a file that is cut off has run out. -/
import Derived.Test.YtfbkbbognabkkaaChunk3
namespace Go.Proofs.Ytfbkbbognabkkaa.Pure
open Go Go.RowKit Go.Proofs.Ytfbkbbognabkkaa.P Go.Proofs.YtfbkbbognabkkaaW.PrintWords Go.Proofs.YtfbkbbognabkkaaW.PrintLast Go.Proofs.YtfbkbbognabkkaaW.PrintMore Go.Proofs.Ytfbkbbognabkkaa.U

theorem strOf_bytesOf (s : ByteArray) : strOfNums (bytesOf s) = s := by
  cases s with
  | mk d =>
    simp only [strOfNums, bytesOf, List.map_map]
    congr 1
    have : ((fun n : Int => UInt8.ofNat n.toNat) ∘ fun b : UInt8 => (b.toNat : Int)) = id := by
      funext b
      simp
    rw [this]
    simp
theorem riffS : (strOfNums [82, 73, 70, 70]).toList = riff := by kernel_rfl
theorem webpS : (strOfNums [87, 69, 66, 80]).toList = webp := by kernel_rfl
theorem take_left {a b : List Int} {n : Nat} (h : a.length = n) : (a ++ b).take n = a := List.take_left' h
theorem drop_left {a b : List Int} {n : Nat} (h : a.length = n) : (a ++ b).drop n = b := List.drop_left' h
theorem one_lay {x : Ch} (rest : List Int) (h : okName x.f0 = true) (_hb : Bytes x.f1) (hl : x.f1.length < 4294967296) : one (layOne x ++ rest) = (x.f0, x.f1, ((layOne x).length : Int), 0) := by
  obtain ⟨hn, _⟩ := of_decide_eq_true h
  have hln := layOne_len x
  have hs : x.f0.size = 4 := by rw [← bytesOf_length]; exact hn
  have hl4 := bytes_len 4 (x.f1.length : Int)
  have e : layOne x ++ rest = bytesOf x.f0 ++ (bytes 4 x.f1.length ++ (x.f1 ++ (pad x.f1 ++ rest))) := by simp only [layOne, List.append_assoc]
  have hp := pad_len x.f1
  have t1 : (layOne x ++ rest).take 4 = bytesOf x.f0 := by rw [e, take_left hn]
  have t2 : ((layOne x ++ rest).drop 4).take 4 = bytes 4 x.f1.length := by rw [e, drop_left hn, take_left hl4]
  have t3 : (layOne x ++ rest).drop 8 = x.f1 ++ (pad x.f1 ++ rest) := by rw [e, show (8 : Nat) = 4 + 4 by rfl, ← List.drop_drop, drop_left hn, drop_left hl4]
  have t4 : num (((layOne x ++ rest).drop 4).take 4) = x.f1.length := by
    rw [t2]
    exact num_bytes 4 _ (by omega) (by rw [show (256 : Int) ^ 4 = 4294967296 by decide]; omega)
  have t5 : ((layOne x ++ rest).take (8 + ((x.f1.length : Int)).toNat)).drop 8 = x.f1 := by
    rw [show ((x.f1.length : Int)).toNat = x.f1.length by omega, mid_eq, t3, take_left rfl]
  have t6 : ¬ okName (strOfNums ((layOne x ++ rest).take 4)) = false := by rw [t1, strOf_bytesOf]; simp [h]
  have hlen : (layOne x ++ rest).length = 8 + x.f1.length + x.f1.length % 2 + rest.length := by rw [List.length_append, hln]; omega
  have t7 : ¬ ((layOne x ++ rest).length < 8 ∨ ((layOne x ++ rest).length : Int) - 8 < num (((layOne x ++ rest).drop 4).take 4)) := by rw [t4]; omega
  by_cases c : x.f1.length % 2 = 1
  · have t8 : rd (layOne x ++ rest) (8 + (x.f1.length : Int)) = 0 := by
      have := rd_drop (layOne x ++ rest) 8 (x.f1.length : Int) (by omega)
      rw [show ((8 : Nat) : Int) = 8 by rfl] at this
      rw [← this, t3, rd_nat (by simp only [List.length_append, hp]; omega)]
      rw [List.getElem_append_right (by omega)]
      simp only [pad, if_pos c, Nat.sub_self]
      rfl
    rw [one_odd t6 t7 (by rw [t4]; omega) (by rw [t4]; omega) (by rw [t4]; exact t8), t4, t5, t1, strOf_bytesOf]
    congr 3
    omega
  · rw [one_even t6 t7 (by rw [t4]; omega), t4, t5, t1, strOf_bytesOf]
    congr 3
    omega
theorem inner_lay (l : List Ch) : ∀ (d : Nat) (acc : List Ch), ok l → (∀ x ∈ l, Bytes x.f1 ∧ x.f1.length < 4294967296) → (lay l).length ≤ d → inner d (lay l) acc = (acc ++ l, 0) := by
  induction l with
  | nil =>
    intro d acc _ _ _
    cases d with
    | zero => simp [inner]
    | succ d => rw [inner, if_pos (by simp [lay])]; simp
  | cons x r ih =>
    intro d acc hok hb hd
    have h1 := one_lay (lay r) (hok x (by simp)) (hb x (by simp)).1 (hb x (by simp)).2
    have hln := layOne_len x
    simp only [lay, List.length_append] at hd
    obtain ⟨d, rfl⟩ : ∃ m, d = m + 1 := ⟨d - 1, by omega⟩
    rw [lay, inner, if_neg (by simp only [List.length_append]; omega), h1]
    simp only [if_true]
    rw [show (((layOne x).length : Int)).toNat = (layOne x).length by omega, drop_left rfl, ih d _ (fun y hy => hok y (by simp [hy])) (fun y hy => hb y (by simp [hy])) (by omega), List.append_assoc]
    rfl
theorem file_len (l : List Ch) : (file l).length = (lay l).length + 12 := by
  simp only [file, List.length_append, bytes_len, List.length_cons, List.length_nil]
  omega
theorem file_parts (l : List Ch) (hl : (lay l).length < 4000000000) (rest : List Int) (m : Nat) (hm : 12 ≤ m) :
    ((file l ++ rest).take m).take 4 = [82, 73, 70, 70] ∧ num ((((file l ++ rest).take m).drop 4).take 4) = (lay l).length + 4 ∧ (((file l ++ rest).take m).take 12).drop 8 = [87, 69, 66, 80] := by
  have hl4 := bytes_len 4 (((lay l).length + 4 : Nat) : Int)
  have e : file l ++ rest = [82, 73, 70, 70] ++ (bytes 4 ((lay l).length + 4 : Nat) ++ ([87, 69, 66, 80] ++ (lay l ++ rest))) := by simp only [file, List.append_assoc]; rfl
  have t1 : (file l ++ rest).take 4 = [82, 73, 70, 70] := by rw [e]; rfl
  have t2 : ((file l ++ rest).drop 4).take 4 = bytes 4 ((lay l).length + 4 : Nat) := by rw [e, drop_left (a := [82, 73, 70, 70]) (n := 4) rfl, take_left hl4]
  have t3 : ((file l ++ rest).drop 8).take 4 = [87, 69, 66, 80] := by rw [e, show (8 : Nat) = 4 + 4 by rfl, ← List.drop_drop, drop_left (a := [82, 73, 70, 70]) (n := 4) rfl, drop_left hl4]; rfl
  refine ⟨?_, ?_, ?_⟩
  · rw [List.take_take, Nat.min_eq_left (by omega), t1]
  · rw [List.drop_take, List.take_take, Nat.min_eq_left (by omega), t2, num_bytes 4 _ (by omega) (by rw [show (256 : Int) ^ 4 = 4294967296 by decide]; omega)]
    omega
  · rw [List.take_take, Nat.min_eq_left (by omega), show (12 : Nat) = 8 + 4 by rfl, mid_eq, t3]
theorem scan_file {l : List Ch} (hok : ok l) (hb : ∀ x ∈ l, Bytes x.f1 ∧ x.f1.length < 4294967296) (hl : (lay l).length < 4000000000) (rest : List Int) : scan (file l ++ rest) = (l, 0) := by
  obtain ⟨p1, p2, p3⟩ := file_parts l hl rest (file l ++ rest).length (by rw [List.length_append, file_len]; omega)
  rw [List.take_length] at p1 p2 p3
  have hlen : (file l ++ rest).length = (lay l).length + 12 + rest.length := by rw [List.length_append, file_len]
  have hev := lay_even hok
  rw [scan_good (by omega) (by
    rw [p1, p2, p3]
    rintro (h | h | h | h)
    · exact h riffS
    · exact h webpS
    · omega
    · omega) (by rw [p2]; omega), p2]
  have e : ((file l ++ rest).take (8 + ((lay l).length + 4 : Int)).toNat).drop 12 = lay l := by
    rw [show (8 + ((lay l).length + 4 : Int)).toNat = 12 + (lay l).length by omega, mid_eq]
    have : (file l ++ rest).drop 12 = lay l ++ rest := by
      have e : file l ++ rest = ([82, 73, 70, 70] ++ bytes 4 ((lay l).length + 4) ++ [87, 69, 66, 80]) ++ (lay l ++ rest) := by simp only [file, List.append_assoc]
      rw [e, drop_left (by simp only [List.length_append, bytes_len, List.length_cons, List.length_nil])]
    rw [this, take_left rfl]
  rw [e, inner_lay l _ [] hok hb (by omega)]
  rfl
theorem scan_cut {l : List Ch} (hok : ok l) (hl : (lay l).length < 4000000000) {m : Nat} (hm : m < (file l).length) : scan ((file l).take m) = ([], 2) := by
  have hf := file_len l
  have hlen : ((file l).take m).length = m := by rw [List.length_take]; omega
  by_cases c : m < 12
  · exact scan_short (by omega)
  obtain ⟨p1, p2, p3⟩ := file_parts l hl [] m (by omega)
  rw [List.append_nil] at p1 p2 p3
  have hev := lay_even hok
  exact scan_out (by omega) (by
    rw [p1, p2, p3]
    rintro (h | h | h | h)
    · exact h riffS
    · exact h webpS
    · omega
    · omega) (by rw [p2]; omega)
theorem small_iff {l : List Ch} : small l = true ↔ l.length + weight l < 5000 := by unfold small; simp
theorem small_fine {l : List Ch} (hf : Fine l) (h : l.length + weight l < 5000) : ∀ x ∈ l, Bytes x.f1 ∧ x.f1.length < 4294967296 := fun x hx => ⟨(hf.2 x hx).2.2, by have := weight_mem hx; omega⟩
end Go.Proofs.Ytfbkbbognabkkaa.Pure
