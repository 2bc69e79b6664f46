/- Files of chunks, as plain lists: what the program's functions and the reference's come to. -/
import Derived.Test.YtfbkbbognabkkaaLe4
namespace Go.Proofs.Ytfbkbbognabkkaa.Pure
open Go Go.RowKit Go.Proofs.Ytfbkbbognabkkaa.P Go.Proofs.YtfbkbbognabkkaaW.PrintWords Go.Proofs.YtfbkbbognabkkaaW.PrintLast Go.Proofs.YtfbkbbognabkkaaW.PrintMore Go.Proofs.Ytfbkbbognabkkaa.U

/-! ### names -/
def okName (s : ByteArray) : Bool := decide ((bytesOf s).length = 4 ∧ ∀ b ∈ bytesOf s, sign b)
theorem chunk_Name_eq (s : ByteArray) : chunk_Name.f s = some (okName s) := rfl
theorem rd_nat {l : List Int} {i : Nat} (h : i < l.length) : rd l (i : Int) = l[i] := by
  unfold rd
  rw [show ((i : Int)).toNat = i by omega, List.getD_eq_getElem?_getD, List.getElem?_eq_getElem h]
  rfl
set_option maxRecDepth 100000 in
theorem Name_loop (s : ByteArray) (hs : s.size ≤ 140737488355328) (d : Nat) : ∀ i : Nat, i + d = s.size → (∀ j (h : j < (bytesOf s).length), j < i → sign (bytesOf s)[j]) → Ev (fun k => marquetryref24_Name.l0 k s i) (okName s) := by
  induction d with
  | zero =>
    intro i hd hall
    refine Ev.succ ?_
    simp only [marquetryref24_Name.l0]
    refine Ev.ite_neg (by omega) (Ev.fin ?_)
    have hl := bytesOf_length s
    have h2 : ∀ b ∈ bytesOf s, sign b := by
      intro b hb
      obtain ⟨j, hj, rfl⟩ := List.mem_iff_getElem.1 hb
      exact hall j hj (by omega)
    unfold okName
    by_cases c : s.size = 4
    · rw [decide_eq_true (by exact ⟨by omega, h2⟩)]
      simp [c]
    · rw [decide_eq_false (by rintro ⟨h, _⟩; omega)]
      simp
      omega
  | succ d ih =>
    intro i hd hall
    refine Ev.succ ?_
    simp only [marquetryref24_Name.l0]
    have hl := bytesOf_length s
    have hb : bt s (i : Int) = (bytesOf s)[i]'(by omega) := by rw [← rd_bytesOf, rd_nat (by omega)]
    have hm : (bytesOf s)[i]'(by omega) ∈ bytesOf s := List.getElem_mem _
    refine Ev.ite_pos (by omega) (Ev.ite_pos (by omega) ?_)
    have bad : ¬ sign (bytesOf s)[i] → okName s = false := fun h => decide_eq_false (fun c => h (c.2 _ hm))
    by_cases c1 : bt s (i : Int) < 32
    · refine Ev.ite_pos c1 (Ev.fin ?_)
      rw [bad (by unfold sign; omega)]
    refine Ev.ite_neg c1 ?_
    by_cases c2 : bt s (i : Int) > 126
    · refine Ev.ite_pos c2 (Ev.fin ?_)
      rw [bad (by unfold sign; omega)]
    refine Ev.ite_neg c2 ?_
    rw [w64 (by omega) (by omega)]
    refine ih (i + 1) (by omega) fun j h hj => ?_
    by_cases c : j = i
    · subst c; unfold sign; omega
    · exact hall j h (by omega)
theorem Name_ev (s : ByteArray) (hs : s.size ≤ 140737488355328) : Ev (fun k => marquetryref24_Name.f k s) (okName s) := by
  unfold marquetryref24_Name.f
  exact Name_loop s hs s.size 0 (by omega) (fun j h hj => by omega)

/-! ### one chunk -/
abbrev Ch := S35
def no (e : Int) : ByteArray × List Int × Int × Int := (⟨#[]⟩, [], 0, e)
/-- The chunk that bytes begin with, how many bytes it has, and an error. -/
def one (b : List Int) : ByteArray × List Int × Int × Int :=
  if b.length < 4 then no 2 else
  if okName (strOfNums (b.take 4)) = false then no 3 else
  if b.length < 8 ∨ (b.length : Int) - 8 < num ((b.drop 4).take 4) then no 2 else
  if num ((b.drop 4).take 4) % 2 = 0 then (strOfNums (b.take 4), (b.take (8 + (num ((b.drop 4).take 4)).toNat)).drop 8, 8 + num ((b.drop 4).take 4), 0) else
  if (b.length : Int) ≤ 8 + num ((b.drop 4).take 4) then no 2 else
  if rd b (8 + num ((b.drop 4).take 4)) = 0 then (strOfNums (b.take 4), (b.take (8 + (num ((b.drop 4).take 4)).toNat)).drop 8, 8 + num ((b.drop 4).take 4) + 1, 0) else no 3
section
variable {b : List Int}
theorem one_short (h : b.length < 4) : one b = no 2 := by unfold one; rw [if_pos h]
theorem one_name (h : ¬ b.length < 4) (h2 : okName (strOfNums (b.take 4)) = false) : one b = no 3 := by unfold one; rw [if_neg h, if_pos h2]
theorem one_end (h : ¬ b.length < 4) (h2 : ¬ okName (strOfNums (b.take 4)) = false) (h3 : b.length < 8 ∨ (b.length : Int) - 8 < num ((b.drop 4).take 4)) : one b = no 2 := by unfold one; rw [if_neg h, if_neg h2, if_pos h3]
theorem one_even (h2 : ¬ okName (strOfNums (b.take 4)) = false) (h3 : ¬ (b.length < 8 ∨ (b.length : Int) - 8 < num ((b.drop 4).take 4))) (h4 : num ((b.drop 4).take 4) % 2 = 0) :
    one b = (strOfNums (b.take 4), (b.take (8 + (num ((b.drop 4).take 4)).toNat)).drop 8, 8 + num ((b.drop 4).take 4), 0) := by unfold one; rw [if_neg (by omega), if_neg h2, if_neg h3, if_pos h4]
theorem one_out (h2 : ¬ okName (strOfNums (b.take 4)) = false) (h3 : ¬ (b.length < 8 ∨ (b.length : Int) - 8 < num ((b.drop 4).take 4))) (h4 : ¬ num ((b.drop 4).take 4) % 2 = 0) (h5 : (b.length : Int) ≤ 8 + num ((b.drop 4).take 4)) : one b = no 2 := by
  unfold one; rw [if_neg (by omega), if_neg h2, if_neg h3, if_neg h4, if_pos h5]
theorem one_odd (h2 : ¬ okName (strOfNums (b.take 4)) = false) (h3 : ¬ (b.length < 8 ∨ (b.length : Int) - 8 < num ((b.drop 4).take 4))) (h4 : ¬ num ((b.drop 4).take 4) % 2 = 0) (h5 : ¬ (b.length : Int) ≤ 8 + num ((b.drop 4).take 4)) (h6 : rd b (8 + num ((b.drop 4).take 4)) = 0) :
    one b = (strOfNums (b.take 4), (b.take (8 + (num ((b.drop 4).take 4)).toNat)).drop 8, 8 + num ((b.drop 4).take 4) + 1, 0) := by
  unfold one; rw [if_neg (by omega), if_neg h2, if_neg h3, if_neg h4, if_neg h5, if_pos h6]
theorem one_pad (h2 : ¬ okName (strOfNums (b.take 4)) = false) (h3 : ¬ (b.length < 8 ∨ (b.length : Int) - 8 < num ((b.drop 4).take 4))) (h4 : ¬ num ((b.drop 4).take 4) % 2 = 0) (h5 : ¬ (b.length : Int) ≤ 8 + num ((b.drop 4).take 4)) (h6 : ¬ rd b (8 + num ((b.drop 4).take 4)) = 0) : one b = no 3 := by
  unfold one; rw [if_neg (by omega), if_neg h2, if_neg h3, if_neg h4, if_neg h5, if_neg h6]
end
theorem num4 {b : List Int} (h : Bytes b) : 0 ≤ num ((b.drop 4).take 4) ∧ num ((b.drop 4).take 4) < 4294967296 := by
  have h1 := num_bd ((h.drop 4).take 4)
  have h2 : ((b.drop 4).take 4).length ≤ 4 := List.length_take_le _ _
  refine ⟨h1.1, Int.lt_of_lt_of_le h1.2 ?_⟩
  rw [(pow256 (i := ((b.drop 4).take 4).length) (by omega)).2]
  have h3 := pow_le (a := 8 * ((b.drop 4).take 4).length) (b := 32) (by omega)
  rw [show (2 : Int) ^ 32 = 4294967296 by decide] at h3
  exact h3
theorem get4 {b : List Int} (h : 8 ≤ b.length) : get b 4 4 = (num ((b.drop 4).take 4), true) := get_good (by omega)
theorem one_ev {b : List Int} (h : Bytes b) (hl : b.length ≤ 140737488351232) : Ev (fun k => chunk_one.f k b) (one b) := by
  unfold chunk_one.f
  have hn := num4 h
  by_cases c1 : b.length < 4
  · rw [one_short c1]
    exact Ev.ite_pos (by omega) (Ev.now _)
  refine Ev.ite_neg (by omega) (Ev.ite_pos (by omega) ?_)
  refine Ev.bindo (chunk_Name_eq _) ?_
  by_cases c2 : okName (strOfNums (b.take 4)) = false
  · rw [one_name c1 c2]
    exact Ev.ite_neg (by simp [c2]) (Ev.now _)
  refine Ev.ite_pos (by simpa using c2) ?_
  refine Ev.bind (le_Get_ev h hl 4 4 (by omega)) ?_
  have bad : ∀ x, Ev (fun k => chunk_one.j0 k b (strOfNums (b.take 4)) x true) (no 2) := fun x => by
    refine Ev.succ ?_
    simp only [chunk_one.j0, if_true]
    exact Ev.now _
  by_cases c3 : b.length < 8
  · rw [one_end c1 c2 (.inl c3), get_bad (by omega)]
    exact Ev.ite_neg (by simp) (bad _)
  rw [get4 (by omega)]
  simp only [if_true]
  rw [w64 (n := (b.length : Int) - 8) (by omega) (by omega), wu64 (n := (b.length : Int) - 8) (by omega) (by omega)]
  by_cases c4 : (b.length : Int) - 8 < num ((b.drop 4).take 4)
  · rw [one_end c1 c2 (.inr c4)]
    simp only [gt_iff_lt, c4, decide_true]
    exact bad _
  have c34 : ¬ (b.length < 8 ∨ (b.length : Int) - 8 < num ((b.drop 4).take 4)) := by omega
  simp only [gt_iff_lt, c4, decide_false]
  refine Ev.succ ?_
  simp only [chunk_one.j0]
  have e5 := one_even c2 c34
  have e6 := one_out c2 c34
  have e7 := one_odd c2 c34
  have e8 := one_pad c2 c34
  generalize num ((b.drop 4).take 4) = n at *
  have e1 : wrap64 n = n := w64 (by omega) (by omega)
  have e2 : wrap64 (8 + n) = 8 + n := w64 (by omega) (by omega)
  have e3 : wrap64 (8 + n + 1) = 8 + n + 1 := w64 (by omega) (by omega)
  simp only [e1, e2, e3, Int.tmod_eq_emod_of_nonneg hn.1]
  refine Ev.ite_neg (by simp) (Ev.ite_pos (by omega) (Ev.ite_pos (by omega) ?_))
  have e4 : (8 + n).toNat = 8 + n.toNat := by omega
  have hc : bytes_Clone.f ((b.take (8 + n).toNat).drop 8) = some ((b.take (8 + n.toNat)).drop 8) := by
    unfold bytes_Clone.f
    rw [e4, if_pos (by simp; omega)]
  refine Ev.bindo hc ?_
  by_cases c5 : n % 2 = 0
  · rw [e5 c5]
    exact Ev.ite_pos c5 (Ev.now _)
  refine Ev.ite_neg c5 ?_
  by_cases c6 : (b.length : Int) ≤ 8 + n
  · rw [e6 c5 c6]
    exact Ev.ite_pos (by omega) (Ev.now _)
  refine Ev.ite_neg (by omega) (Ev.ite_pos (by omega) (Ev.ite_pos (by omega) ?_))
  by_cases c7 : rd b (8 + n) = 0
  · rw [e7 c5 c6 c7]
    exact Ev.ite_pos c7 (Ev.now _)
  · rw [e8 c5 c6 c7]
    exact Ev.ite_neg c7 (Ev.now _)
/-! ### all chunks -/
/-- Chunks, one behind the other; of d bytes at most. -/
def inner : Nat → List Int → List Ch → List Ch × Int
  | 0, _, acc => (acc, 0)
  | d + 1, b, acc => if b.length = 0 then (acc, 0) else if (one b).2.2.2 = 0 then inner d (b.drop (one b).2.2.1.toNat) (acc ++ [⟨(one b).1, (one b).2.1⟩]) else ([], (one b).2.2.2)
theorem one_num {b : List Int} (h : Bytes b) (h0 : (one b).2.2.2 = 0) : 8 ≤ (one b).2.2.1 ∧ (one b).2.2.1 ≤ b.length ∧ (one b).2.1.length ≤ b.length := by
  have hn := num4 h
  revert h0
  unfold one
  repeat' split
  all_goals first | (intro h0; exact absurd h0 (by decide)) | (intro _; refine ⟨?_, ?_, ?_⟩ <;> dsimp only <;> first | omega | (simp only [List.length_drop, List.length_take]; omega))
theorem chunk_Inner_loop (d : Nat) : ∀ (b : List Int) (acc : List Ch), Bytes b → b.length ≤ d → b.length + acc.length ≤ 2000000000 → Ev (fun k => chunk_Inner.l0 k b acc) (inner d b acc) := by
  induction d with
  | zero =>
    intro b acc hb hd hl
    refine Ev.succ ?_
    simp only [chunk_Inner.l0, inner]
    exact Ev.ite_neg (by omega) (Ev.now _)
  | succ d ih =>
    intro b acc hb hd hl
    refine Ev.succ ?_
    simp only [chunk_Inner.l0]
    by_cases c : b.length = 0
    · have e : inner (d + 1) b acc = (acc, 0) := by unfold inner; rw [if_pos c]
      rw [e]
      exact Ev.ite_neg (by omega) (Ev.now _)
    refine Ev.ite_pos (by omega) ?_
    refine Ev.bind (one_ev hb (by omega)) ?_
    by_cases c2 : (one b).2.2.2 = 0
    · have e : inner (d + 1) b acc = inner d (b.drop (one b).2.2.1.toNat) (acc ++ [⟨(one b).1, (one b).2.1⟩]) := by rw [inner, if_neg c, if_pos c2]
      rw [e]
      have hn := one_num hb c2
      refine Ev.ite_pos c2 (Ev.ite_pos (by omega) (Ev.ite_pos (by omega) (Ev.ite_pos (by omega) ?_)))
      exact ih _ _ (hb.drop _) (by simp only [List.length_drop]; omega) (by simp only [List.length_drop, List.length_append, List.length_singleton]; omega)
    · have e : inner (d + 1) b acc = ([], (one b).2.2.2) := by rw [inner, if_neg c, if_neg c2]
      rw [e]
      exact Ev.ite_neg c2 (Ev.now _)
theorem chunk_Inner_ev {b : List Int} (h : Bytes b) (hl : b.length ≤ 1000000000) : Ev (fun k => chunk_Inner.f k b) (inner b.length b []) := by
  unfold chunk_Inner.f
  exact chunk_Inner_loop _ b [] h (Nat.le_refl _) (by simp; omega)
theorem rd_drop (l : List Int) (a : Nat) (i : Int) (h : 0 ≤ i) : rd (l.drop a) i = rd l (a + i) := by
  unfold rd
  rw [List.getD_eq_getElem?_getD, List.getD_eq_getElem?_getD, List.getElem?_drop, show ((a : Int) + i).toNat = a + i.toNat by omega]
theorem mid_eq (l : List Int) (a b : Nat) : (l.take (a + b)).drop a = (l.drop a).take b := by
  rw [List.drop_take]
  congr 1
  omega
set_option maxHeartbeats 2000000 in
theorem ref_Inner_loop (x : List Int) (hx : Bytes x) (hl : x.length ≤ 1000000000) (d : Nat) : ∀ (p : Nat) (acc : List Ch), p ≤ x.length → x.length - p ≤ d → x.length - p + acc.length ≤ 2000000000 → Ev (fun k => marquetryref24_Inner.l0 k x acc p) (inner d (x.drop p) acc) := by
  induction d with
  | zero =>
    intro p acc hp hd ha
    refine Ev.succ ?_
    simp only [marquetryref24_Inner.l0, inner]
    exact Ev.ite_neg (by omega) (Ev.now _)
  | succ d ih =>
    intro p acc hp hd ha
    refine Ev.succ ?_
    simp only [marquetryref24_Inner.l0]
    have hbl : (x.drop p).length = x.length - p := List.length_drop
    by_cases c : x.length = p
    · have e : inner (d + 1) (x.drop p) acc = (acc, 0) := by unfold inner; rw [if_pos (by omega)]
      rw [e]
      exact Ev.ite_neg (by omega) (Ev.now _)
    refine Ev.ite_pos (by omega) ?_
    have hb : Bytes (x.drop p) := hx.drop p
    have hne : ¬ (x.drop p).length = 0 := by omega
    have go : (one (x.drop p)).2.2.2 = 0 → inner (d + 1) (x.drop p) acc = inner d ((x.drop p).drop (one (x.drop p)).2.2.1.toNat) (acc ++ [⟨(one (x.drop p)).1, (one (x.drop p)).2.1⟩]) := fun h => by rw [inner, if_neg hne, if_pos h]
    have stop : ¬ (one (x.drop p)).2.2.2 = 0 → inner (d + 1) (x.drop p) acc = ([], (one (x.drop p)).2.2.2) := fun h => by rw [inner, if_neg hne, if_neg h]
    rw [w64 (n := (p : Int) + 4) (by omega) (by omega), w64 (n := (x.length : Int) - p) (by omega) (by omega), w64 (n := (x.length : Int) - p - 8) (by omega) (by omega)]
    have hn := num4 hb
    by_cases c1 : (x.drop p).length < 4
    · rw [stop (by rw [one_short c1]; decide), one_short c1]
      exact Ev.ite_pos (by omega) (Ev.now _)
    refine Ev.ite_neg (by omega) (Ev.ite_pos (by omega) (Ev.ite_pos (by omega) (Ev.ite_pos (by omega) ?_)))
    have en : (x.take ((p : Int) + 4).toNat).drop ((p : Int)).toNat = (x.drop p).take 4 := by
      rw [show ((p : Int) + 4).toNat = p + 4 by omega, show ((p : Int)).toNat = p by omega, mid_eq]
    rw [en]
    refine Ev.bind (Name_ev _ (by rw [strOfNums_size, List.length_take]; omega)) ?_
    by_cases c2 : okName (strOfNums ((x.drop p).take 4)) = false
    · rw [stop (by rw [one_name c1 c2]; decide), one_name c1 c2]
      exact Ev.ite_neg (by simp [c2]) (Ev.now _)
    refine Ev.ite_pos (by simpa using c2) ?_
    refine Ev.bind (ref_Get_ev hx (by omega) (p + 4) 4 (by omega)) ?_
    have bad : ∀ y e, e = (([] : List Ch), (2 : Int)) → Ev (fun k => marquetryref24_Inner.j1 k x acc p (strOfNums ((x.drop p).take 4)) y true) e := fun y e he => by
      subst he
      refine Ev.succ ?_
      simp only [marquetryref24_Inner.j1, if_true]
      exact Ev.now _
    by_cases c3 : (x.drop p).length < 8
    · have e := one_end c1 c2 (.inl c3)
      rw [stop (by rw [e]; decide), get_bad (by omega)]
      exact Ev.ite_neg (by simp) (bad _ _ (by rw [e]; rfl))
    have eg : get x ((p : Int) + 4) 4 = (num (((x.drop p).drop 4).take 4), true) := by
      rw [get_good (by omega), show ((p : Int) + 4).toNat = p + 4 by omega, List.drop_drop]
      rfl
    rw [eg]
    simp only [if_true]
    rw [wu64 (n := (x.length : Int) - p - 8) (by omega) (by omega)]
    by_cases c4 : ((x.drop p).length : Int) - 8 < num (((x.drop p).drop 4).take 4)
    · have e := one_end c1 c2 (.inr c4)
      rw [stop (by rw [e]; decide), e]
      have : (x.length : Int) - p - 8 < num (((x.drop p).drop 4).take 4) := by omega
      simp only [gt_iff_lt, this, decide_true]
      exact bad _ _ rfl
    have c34 : ¬ ((x.drop p).length < 8 ∨ ((x.drop p).length : Int) - 8 < num (((x.drop p).drop 4).take 4)) := by omega
    have c4' : ¬ (x.length : Int) - p - 8 < num (((x.drop p).drop 4).take 4) := by omega
    simp only [gt_iff_lt, c4', decide_false]
    refine Ev.succ ?_
    simp only [marquetryref24_Inner.j1]
    have e5 := one_even c2 c34
    have e6 := one_out c2 c34
    have e7 := one_odd c2 c34
    have e8 := one_pad c2 c34
    generalize num (((x.drop p).drop 4).take 4) = n at *
    have w1 : wrap64 n = n := w64 (by omega) (by omega)
    have w2 : wrap64 ((p : Int) + 8) = p + 8 := w64 (by omega) (by omega)
    have w3 : wrap64 ((p : Int) + 8 + n) = p + 8 + n := w64 (by omega) (by omega)
    have w4 : wrap64 ((p : Int) + 8 + n + 1) = p + 8 + n + 1 := w64 (by omega) (by omega)
    simp only [w1, w2, w3, w4, Int.tmod_eq_emod_of_nonneg hn.1]
    have ed : (x.take ((p : Int) + 8 + n).toNat).drop ((p : Int) + 8).toNat = ((x.drop p).take (8 + n.toNat)).drop 8 := by
      rw [show ((p : Int) + 8 + n).toNat = (p + 8) + n.toNat by omega, show ((p : Int) + 8).toNat = p + 8 by omega, mid_eq, mid_eq, List.drop_drop]
    rw [ed]
    have hdl : (((x.drop p).take (8 + n.toNat)).drop 8).length ≤ x.length := by simp only [List.length_drop, List.length_take]; omega
    refine Ev.ite_neg (by simp) ?_
    refine Ev.bindo rfl ?_
    refine Ev.ite_pos (by omega) (Ev.ite_pos (by omega) (Ev.ite_pos (by omega) (Ev.ite_pos (by simp only [List.length_nil]; omega) (Ev.ite_pos (by omega) ?_))))
    refine Ev.bindo rfl ?_
    simp only [List.nil_append]
    by_cases c5 : n % 2 = 0
    · rw [go (by rw [e5 c5]), e5 c5]
      refine Ev.ite_neg (by omega) ?_
      have := ih (p + (8 + n).toNat) (acc ++ [⟨strOfNums ((x.drop p).take 4), ((x.drop p).take (8 + n.toNat)).drop 8⟩]) (by omega) (by omega) (by simp only [List.length_append, List.length_singleton]; omega)
      rw [show ((p + (8 + n).toNat : Nat) : Int) = p + 8 + n by omega] at this
      rw [List.drop_drop]
      exact this
    refine Ev.ite_pos (by omega) ?_
    by_cases c6 : ((x.drop p).length : Int) ≤ 8 + n
    · rw [stop (by rw [e6 c5 c6]; decide), e6 c5 c6]
      exact Ev.ite_pos (by omega) (Ev.now _)
    refine Ev.ite_neg (by omega) (Ev.ite_pos (by omega) (Ev.ite_pos (by omega) ?_))
    have er : rd (x.drop p) (8 + n) = rd x (p + 8 + n) := by rw [rd_drop _ _ _ (by omega)]; congr 1; omega
    rw [er] at e7 e8
    by_cases c7 : rd x (p + 8 + n) = 0
    · rw [go (by rw [e7 c5 c6 c7]), e7 c5 c6 c7]
      refine Ev.ite_pos c7 ?_
      have := ih (p + (8 + n + 1).toNat) (acc ++ [⟨strOfNums ((x.drop p).take 4), ((x.drop p).take (8 + n.toNat)).drop 8⟩]) (by omega) (by omega) (by simp only [List.length_append, List.length_singleton]; omega)
      rw [show ((p + (8 + n + 1).toNat : Nat) : Int) = p + 8 + n + 1 by omega] at this
      rw [List.drop_drop]
      exact this
    · rw [stop (by rw [e8 c5 c6 c7]; decide), e8 c5 c6 c7]
      exact Ev.ite_neg c7 (Ev.now _)
theorem ref_Inner_ev {b : List Int} (h : Bytes b) (hl : b.length ≤ 1000000000) : Ev (fun k => marquetryref24_Inner.f k b) (inner b.length b []) := by
  unfold marquetryref24_Inner.f
  exact ref_Inner_loop b h hl b.length 0 [] (by omega) (by omega) (by simp; omega)
end Go.Proofs.Ytfbkbbognabkkaa.Pure
