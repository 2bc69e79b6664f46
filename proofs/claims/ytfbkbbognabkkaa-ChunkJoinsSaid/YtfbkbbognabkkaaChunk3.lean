/- Chunks laid as bytes, and read again. -/
import Derived.Test.YtfbkbbognabkkaaChunk2
namespace Go.Proofs.Ytfbkbbognabkkaa.Pure
open Go Go.RowKit Go.Proofs.Ytfbkbbognabkkaa.P Go.Proofs.YtfbkbbognabkkaaW.PrintWords Go.Proofs.YtfbkbbognabkkaaW.PrintLast Go.Proofs.YtfbkbbognabkkaaW.PrintMore Go.Proofs.Ytfbkbbognabkkaa.U

/-! ### small rows -/
def weight : List Ch → Nat
  | [] => 0
  | x :: r => x.f0.size + x.f1.length + weight r
theorem weight_append (a b : List Ch) : weight (a ++ b) = weight a + weight b := by
  induction a with
  | nil => simp [weight]
  | cons x r ih => simp only [List.cons_append, weight, ih]; omega
theorem weight_mem {l : List Ch} {x : Ch} (h : x ∈ l) : x.f0.size + x.f1.length ≤ weight l := by
  induction l with
  | nil => simp at h
  | cons y r ih =>
    rcases List.mem_cons.1 h with rfl | h
    · simp only [weight]; omega
    · have := ih h; simp only [weight]; omega
def small (l : List Ch) : Bool := decide (l.length + weight l < 5000)
def Fine (l : List Ch) : Prop := l.length ≤ 4000000000000 ∧ ∀ x ∈ l, x.f0.size ≤ 140737488351232 ∧ x.f1.length ≤ 140737488351232 ∧ Bytes x.f1
theorem small_loop (l : List Ch) (hl : Fine l) (d : Nat) : ∀ (i : Nat) (n : Int), i + d = l.length → n = l.length + weight (l.take i) → Ev (fun k => marquetrylaw24_small.l0 k l n i) (small l) := by
  induction d with
  | zero =>
    intro i n hd hn
    refine Ev.succ ?_
    simp only [marquetrylaw24_small.l0]
    refine Ev.ite_neg (by omega) (Ev.fin ?_)
    rw [List.take_of_length_le (by omega)] at hn
    unfold small
    exact decide_eq_decide.2 (by omega)
  | succ d ih =>
    intro i n hd hn
    have hf := hl.1
    refine Ev.succ ?_
    simp only [marquetrylaw24_small.l0]
    refine Ev.ite_pos (by omega) ?_
    have hw : weight l = weight (l.take i) + weight (l.drop i) := by rw [← weight_append, List.take_append_drop]
    by_cases c : n < 5000
    · refine Ev.ite_pos c (Ev.ite_pos (by omega) ?_)
      rw [rdT_at (by omega)]
      have hx := hl.2 _ (List.getElem_mem (l := l) (n := i) (by omega))
      have e : l.take (i + 1) = l.take i ++ [l[i]] := List.take_succ_eq_append_getElem (by omega)
      have ew : weight (l.take (i + 1)) = weight (l.take i) + (l[i].f0.size + l[i].f1.length) := by rw [e, weight_append]; simp [weight]
      rw [w64 (n := n + (l[i].f1.length : Int)) (by omega) (by omega), w64 (n := n + (l[i].f1.length : Int) + (l[i].f0.size : Int)) (by omega) (by omega), w64 (by omega) (by omega)]
      exact ih (i + 1) _ (by omega) (by omega)
    · refine Ev.ite_neg c (Ev.fin ?_)
      unfold small
      exact decide_eq_decide.2 (by omega)
theorem small_ev {l : List Ch} (hl : Fine l) : Ev (fun k => marquetrylaw24_small.f k l) (small l) := by
  unfold marquetrylaw24_small.f
  exact small_loop l hl l.length 0 _ (by omega) (by simp [weight])
theorem fine_of {l : List Ch} (h1 : l.length * 40 ≤ 140737488351232) (h2 : ∀ y ∈ l, q35 y) : Fine l :=
  ⟨by omega, fun x hx => ⟨(h2 x hx).1, by have := (h2 x hx).2.2.1; omega, bytes_wf (h2 x hx).2.2.2⟩⟩

/-! ### laid -/
def pad (d : List Int) : List Int := if d.length % 2 = 1 then [0] else []
def layOne (x : Ch) : List Int := bytesOf x.f0 ++ bytes 4 x.f1.length ++ x.f1 ++ pad x.f1
def lay : List Ch → List Int
  | [] => []
  | x :: r => layOne x ++ lay r
theorem lay_append (a b : List Ch) : lay (a ++ b) = lay a ++ lay b := by
  induction a with
  | nil => simp [lay]
  | cons x r ih => simp only [List.cons_append, lay, ih, List.append_assoc]
theorem pad_len (d : List Int) : (pad d).length = d.length % 2 := by unfold pad; split <;> simp <;> omega
theorem layOne_len (x : Ch) : (layOne x).length = x.f0.size + 4 + x.f1.length + x.f1.length % 2 := by
  simp only [layOne, List.length_append, bytesOf_length, bytes_len, pad_len]
theorem lay_len (l : List Ch) : (lay l).length ≤ weight l + 5 * l.length := by
  induction l with
  | nil => simp [lay]
  | cons x r ih => simp only [lay, List.length_append, layOne_len, weight, List.length_cons]; omega
def ok (l : List Ch) : Prop := ∀ x ∈ l, okName x.f0 = true
theorem lay_even {l : List Ch} (h : ok l) : (lay l).length % 2 = 0 := by
  induction l with
  | nil => simp [lay]
  | cons x r ih =>
    have h1 := h x (by simp)
    have h2 := ih (fun y hy => h y (by simp [hy]))
    have h3 : x.f0.size = 4 := by
      have := (of_decide_eq_true h1).1
      rw [bytesOf_length] at this
      exact this
    simp only [lay, List.length_append, layOne_len]
    omega
theorem bytesOf_bytes (s : ByteArray) : Bytes (bytesOf s) := by
  intro x hx
  obtain ⟨b, _, rfl⟩ := List.mem_map.1 hx
  have := b.toNat_lt
  omega
theorem Bytes.app {a b : List Int} (ha : Bytes a) (hb : Bytes b) : Bytes (a ++ b) := fun x hx => (List.mem_append.1 hx).elim (ha x) (hb x)
theorem pad_bytes (d : List Int) : Bytes (pad d) := by
  unfold pad
  split
  · intro x hx; rw [List.mem_singleton.1 hx]; omega
  · intro x hx; simp at hx
theorem layOne_bytes {x : Ch} (h : Bytes x.f1) : Bytes (layOne x) := (((bytesOf_bytes _).app (bytes_bytes 4 _)).app h).app (pad_bytes _)
theorem lay_bytes {l : List Ch} (h : ∀ x ∈ l, Bytes x.f1) : Bytes (lay l) := by
  induction l with
  | nil => intro x hx; simp [lay] at hx
  | cons x r ih => exact (layOne_bytes (h x (by simp))).app (ih (fun y hy => h y (by simp [hy])))
theorem put4 {n : Nat} (h : n < 4294967296) : put (n : Int) 4 = (bytes 4 n, true) := by
  refine put_good ⟨by omega, by omega, ?_⟩
  rw [show (256 : Int) ^ (4 : Int).toNat = 4294967296 by decide]
  omega
theorem Num4_ev {n : Nat} (h : n < 4294967296) : Ev (fun k => marquetryref24_Num.f k (n : Int) 4) (bytes 4 n) := by
  unfold marquetryref24_Num.f
  refine Ev.bind (ref_Put_ev n 4 (by omega) (by omega)) ?_
  rw [put4 h]
  exact Ev.now _
theorem ref_Lay_loop (l : List Ch) (hs : l.length + weight l < 20000) (d : Nat) : ∀ (i : Nat) (acc : List Int), i + d = l.length → acc.length + (lay (l.drop i)).length ≤ 1000000 → Ev (fun k => marquetryref24_Lay.l0 k l acc i) (acc ++ lay (l.drop i)) := by
  induction d with
  | zero =>
    intro i acc hd ha
    refine Ev.succ ?_
    simp only [marquetryref24_Lay.l0]
    refine Ev.ite_neg (by omega) (Ev.fin ?_)
    rw [List.drop_eq_nil_of_le (by omega)]
    simp [lay]
  | succ d ih =>
    intro i acc hd ha
    refine Ev.succ ?_
    simp only [marquetryref24_Lay.l0]
    rw [rdT_at (by omega)]
    have hi : i < l.length := by omega
    have hdrop : l.drop i = l[i] :: l.drop (i + 1) := List.drop_eq_getElem_cons hi
    have hw := weight_mem (List.getElem_mem hi)
    rw [hdrop] at ha ⊢
    generalize l[i] = x at *
    simp only [lay, List.length_append, layOne_len] at ha
    refine Ev.ite_pos (by omega) (Ev.ite_pos (by omega) (Ev.ite_pos (by omega) ?_))
    refine Ev.bindo rfl ?_
    rw [wu64 (by omega) (by omega)]
    refine Ev.bind (Num4_ev (by omega)) ?_
    have hl4 := bytes_len 4 (x.f1.length : Int)
    refine Ev.ite_pos (by simp only [List.length_append, bytesOf_length, hl4]; omega) (Ev.bindo rfl ?_)
    refine Ev.ite_pos (by simp only [List.length_append, bytesOf_length, hl4]; omega) (Ev.bindo rfl ?_)
    rw [w64 (by omega) (by omega)]
    by_cases c : x.f1.length % 2 = 1
    · refine Ev.ite_pos (by omega) (Ev.ite_pos (by simp only [List.length_append, bytesOf_length, hl4]; omega) ?_)
      have := ih (i + 1) (acc ++ bytesOf x.f0 ++ bytes 4 x.f1.length ++ x.f1 ++ [0]) (by omega) (by simp only [List.length_append, bytesOf_length, hl4, List.length_singleton]; omega)
      have e : acc ++ lay (x :: l.drop (i + 1)) = acc ++ bytesOf x.f0 ++ bytes 4 x.f1.length ++ x.f1 ++ [0] ++ lay (l.drop (i + 1)) := by
        simp only [lay, layOne, pad, if_pos c, List.append_assoc]
      rw [e]
      exact this
    · refine Ev.ite_neg (by omega) ?_
      have := ih (i + 1) (acc ++ bytesOf x.f0 ++ bytes 4 x.f1.length ++ x.f1) (by omega) (by simp only [List.length_append, bytesOf_length, hl4]; omega)
      have e : acc ++ lay (x :: l.drop (i + 1)) = acc ++ bytesOf x.f0 ++ bytes 4 x.f1.length ++ x.f1 ++ lay (l.drop (i + 1)) := by
        simp only [lay, layOne, pad, if_neg c, List.append_assoc, List.append_nil]
      rw [e]
      exact this
theorem ref_Lay_ev {l : List Ch} (hs : l.length + weight l < 20000) : Ev (fun k => marquetryref24_Lay.f k l) (lay l) := by
  unfold marquetryref24_Lay.f
  have := ref_Lay_loop l hs l.length 0 [] (by omega) (by have := lay_len l; simp only [List.length_nil, List.drop_zero]; omega)
  simpa using this

/-! ### laid by the program -/
theorem chunk_Lay_loop1 (l : List Ch) (hs : l.length + weight l < 20000) (d : Nat) : ∀ (i : Nat) (acc : List Int), i + d = l.length → acc.length + (lay (l.drop i)).length ≤ 1000000 → Ev (fun k => chunk_Lay.l1 k acc l l.length i) (acc ++ lay (l.drop i), 0) := by
  induction d with
  | zero =>
    intro i acc hd ha
    refine Ev.succ ?_
    simp only [chunk_Lay.l1]
    refine Ev.ite_neg (by omega) (Ev.fin ?_)
    rw [List.drop_eq_nil_of_le (by omega)]
    simp [lay]
  | succ d ih =>
    intro i acc hd ha
    refine Ev.succ ?_
    simp only [chunk_Lay.l1]
    rw [rdT_at (by omega)]
    have hi : i < l.length := by omega
    have hdrop : l.drop i = l[i] :: l.drop (i + 1) := List.drop_eq_getElem_cons hi
    have hw := weight_mem (List.getElem_mem hi)
    rw [hdrop] at ha ⊢
    generalize l[i] = x at *
    simp only [lay, List.length_append, layOne_len] at ha
    refine Ev.ite_pos (by omega) (Ev.ite_pos (by omega) (Ev.ite_pos (by omega) ?_))
    rw [wu64 (by omega) (by omega)]
    refine Ev.bind (le_Put_ev x.f1.length 4 (by omega) (by omega)) ?_
    rw [put4 (by omega)]
    have hl4 := bytes_len 4 (x.f1.length : Int)
    refine Ev.ite_pos (by omega) (Ev.bindo rfl ?_)
    refine Ev.ite_pos (by simp only [List.length_append, bytesOf_length, hl4]; omega) (Ev.bindo rfl ?_)
    refine Ev.ite_pos (by simp only [List.length_append, bytesOf_length, hl4]; omega) (Ev.bindo rfl ?_)
    rw [w64 (by omega) (by omega)]
    by_cases c : x.f1.length % 2 = 1
    · refine Ev.ite_pos (by omega) (Ev.ite_pos (by simp only [List.length_append, bytesOf_length, hl4]; omega) ?_)
      have := ih (i + 1) (acc ++ bytesOf x.f0 ++ bytes 4 x.f1.length ++ x.f1 ++ [0]) (by omega) (by simp only [List.length_append, bytesOf_length, hl4, List.length_singleton]; omega)
      have e : acc ++ lay (x :: l.drop (i + 1)) = acc ++ bytesOf x.f0 ++ bytes 4 x.f1.length ++ x.f1 ++ [0] ++ lay (l.drop (i + 1)) := by
        simp only [lay, layOne, pad, if_pos c, List.append_assoc]
      rw [e]
      exact this
    · refine Ev.ite_neg (by omega) ?_
      have := ih (i + 1) (acc ++ bytesOf x.f0 ++ bytes 4 x.f1.length ++ x.f1) (by omega) (by simp only [List.length_append, bytesOf_length, hl4]; omega)
      have e : acc ++ lay (x :: l.drop (i + 1)) = acc ++ bytesOf x.f0 ++ bytes 4 x.f1.length ++ x.f1 ++ lay (l.drop (i + 1)) := by
        simp only [lay, layOne, pad, if_neg c, List.append_assoc, List.append_nil]
      rw [e]
      exact this
instance (l : List Ch) : Decidable (ok l) := by unfold ok; infer_instance
def laid (l : List Ch) : List Int × Int := if ok l then (lay l, 0) else ([], 7)
theorem chunk_Lay_loop0 (l : List Ch) (hs : l.length + weight l < 20000) (d : Nat) : ∀ (i : Nat) (n : Int), i + d = l.length → 0 ≤ n → n ≤ weight (l.take i) → (∀ x ∈ l.take i, okName x.f0 = true) → Ev (fun k => chunk_Lay.l0 k l n l l.length i) (laid l) := by
  induction d with
  | zero =>
    intro i n hd h0 hn hok
    refine Ev.succ ?_
    simp only [chunk_Lay.l0]
    refine Ev.ite_neg (by omega) ?_
    rw [List.take_of_length_le (by omega)] at hok
    have := chunk_Lay_loop1 l hs l.length 0 [] (by omega) (by have := lay_len l; simp only [List.length_nil, List.drop_zero]; omega)
    unfold laid
    rw [if_pos (show ok l from hok)]
    simpa using this
  | succ d ih =>
    intro i n hd h0 hn hok
    refine Ev.succ ?_
    simp only [chunk_Lay.l0]
    have hi : i < l.length := by omega
    rw [rdT_at hi]
    have hw := weight_mem (List.getElem_mem hi)
    have e : l.take (i + 1) = l.take i ++ [l[i]] := List.take_succ_eq_append_getElem hi
    have ew : weight (l.take (i + 1)) = weight (l.take i) + (l[i].f0.size + l[i].f1.length) := by rw [e, weight_append]; simp [weight]
    have ew2 : weight l = weight (l.take (i + 1)) + weight (l.drop (i + 1)) := by rw [← weight_append, List.take_append_drop]
    refine Ev.ite_pos (by omega) (Ev.ite_pos (by omega) (Ev.ite_pos (by omega) ?_))
    refine Ev.bindo (chunk_Name_eq _) ?_
    by_cases c : okName l[i].f0 = true
    · refine Ev.ite_pos c ?_
      rw [w64 (n := n + (l[i].f1.length : Int)) (by omega) (by omega), w64 (by omega) (by omega)]
      refine Ev.ite_neg (by omega) ?_
      refine ih (i + 1) _ (by omega) (by omega) (by omega) ?_
      rw [e]
      intro x hx
      rcases List.mem_append.1 hx with h | h
      · exact hok x h
      · rw [List.mem_singleton.1 h]; exact c
    · refine Ev.ite_neg c (Ev.fin ?_)
      unfold laid
      rw [if_neg (fun h => c (h _ (List.getElem_mem hi)))]
theorem chunk_Lay_ev {l : List Ch} (hs : l.length + weight l < 20000) : Ev (fun k => chunk_Lay.f k l) (laid l) := by
  unfold chunk_Lay.f
  exact chunk_Lay_loop0 l hs l.length 0 0 (by omega) (by omega) (by simp [weight]) (fun x hx => by simp at hx)
def file (l : List Ch) : List Int := [82, 73, 70, 70] ++ bytes 4 ((lay l).length + 4) ++ [87, 69, 66, 80] ++ lay l
theorem webpB : bytesOf ⟨#[87, 69, 66, 80]⟩ = [87, 69, 66, 80] := rfl
theorem chunk_Print_ev {l : List Ch} (hs : l.length + weight l < 10000) : Ev (fun k => chunk_Print.f k l) (if ok l then (file l, 0) else ([], 7)) := by
  unfold chunk_Print.f
  have hll := lay_len l
  refine Ev.bind (chunk_Lay_ev (by omega)) ?_
  unfold laid
  by_cases c : ok l
  · rw [if_pos c, if_pos c]
    simp only [if_true]
    rw [w64 (n := 4 + ((lay l).length : Int)) (by omega) (by omega), wu64 (n := 4 + ((lay l).length : Int)) (by omega) (by omega)]
    refine Ev.bind (le_Put_ev _ 4 (by omega) (by omega)) ?_
    rw [show (4 : Int) + ((lay l).length : Int) = (((lay l).length + 4 : Nat) : Int) by omega, put4 (by omega)]
    have hl4 := bytes_len 4 (((lay l).length + 4 : Nat) : Int)
    refine Ev.ite_pos (by simp only [hl4]; omega) (Ev.ite_pos (by simp only [hl4]; omega) (Ev.fin ?_))
    rw [webpB]
    rfl
  · rw [if_neg c, if_neg c]
    exact Ev.ite_neg (by decide) (Ev.now _)
theorem File_ev {l : List Ch} (hs : l.length + weight l < 10000) : Ev (fun k => marquetryref24_File.f k l) (file l) := by
  unfold marquetryref24_File.f
  have hll := lay_len l
  refine Ev.bind (ref_Lay_ev (by omega)) ?_
  rw [w64 (by omega) (by omega), wu64 (by omega) (by omega)]
  have e : ((lay l).length : Int) + 4 = (((lay l).length + 4 : Nat) : Int) := by omega
  rw [e]
  refine Ev.bind (Num4_ev (by omega)) ?_
  have hl4 := bytes_len 4 (((lay l).length + 4 : Nat) : Int)
  refine Ev.ite_pos (by omega) (Ev.ite_pos (by omega) (Ev.fin ?_))
  rw [webpB]
  rfl
end Go.Proofs.Ytfbkbbognabkkaa.Pure
