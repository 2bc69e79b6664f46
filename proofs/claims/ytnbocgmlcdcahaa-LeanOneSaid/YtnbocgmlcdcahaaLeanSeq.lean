/- What Forth and Back come to, and the reference's Lean. -/
import Derived.Test.YtnbocgmlcdcahaaViewAt
import Derived.Test.YtnbocgmlcdcahaaBlocks
namespace Go.Proofs.Ytnbocgmlcdcahaa.Pure
open Go Go.RowKit Go.Proofs.Ytnbocgmlcdcahaa.P Go.Proofs.YtnbocgmlcdcahaaW.PrintWords Go.Proofs.YtnbocgmlcdcahaaW.PrintLast Go.Proofs.YtnbocgmlcdcahaaW.PrintMore Go.Proofs.Ytnbocgmlcdcahaa.U

theorem bits_eq (b : Int) : lean_Bits.f b = some (decide (2 ≤ b ∧ b ≤ 9)) := by
  unfold lean_Bits.f
  by_cases c : b ≥ 2
  · rw [if_pos c]; simp [show 2 ≤ b by omega]
  · rw [if_neg c]; simp [show ¬ 2 ≤ b by omega]
theorem many_bd {w h b : Int} {l : List Int} (hg : good w h l) (b0 : 2 ≤ b) (b1 : b ≤ 9) : 1 ≤ blocks w b ∧ blocks w b ≤ 16384 ∧ 1 ≤ blocks h b ∧ blocks h b ≤ 16384 ∧ 0 ≤ blocks w b * blocks h b ∧ blocks w b * blocks h b ≤ 268435456 := by
  obtain ⟨w0, w1, h0, h1, e⟩ := hg
  obtain ⟨p0, p1, p2⟩ := blocks_in w0 w1 b0 b1
  obtain ⟨q0, q1, q2⟩ := blocks_in h0 h1 b0 b1
  have a2 : blocks w b * blocks h b ≤ 16384 * 16384 := Int.mul_le_mul p1 q1 (by omega) (by omega)
  have a3 : 0 ≤ blocks w b * blocks h b := Int.mul_nonneg (by omega) (by omega)
  omega
theorem many_eq {w h b : Int} {l : List Int} (hg : good w h l) (b0 : 2 ≤ b) (b1 : b ≤ 9) : lean_Many.f w h l b = some (blocks w b * blocks h b) := by
  have := many_bd hg b0 b1
  unfold lean_Many.f
  rw [le_Blocks_eq, le_Blocks_eq, Option.bind_some, Option.bind_some, w64 (by omega) (by omega)]
theorem refMany_ev {w h b : Int} {l : List Int} (hg : good w h l) (b0 : 2 ≤ b) (b1 : b ≤ 9) : Ev (fun k => marquetryref11_Many.f k w h l b) (blocks w b * blocks h b) := by
  have := many_bd hg b0 b1
  unfold marquetryref11_Many.f
  refine Ev.bind (ref_Blocks_ev w b) (Ev.bind (ref_Blocks_ev h b) (Ev.fin ?_))
  rw [w64 (by omega) (by omega)]

/-- What Forth and Back take. -/
def sound (w h : Int) (p : List Int) (b : Int) (l : List Int) : Prop := good w h p ∧ 2 ≤ b ∧ b ≤ 9 ∧ (l.length : Int) = blocks w b * blocks h b ∧ ∀ m ∈ l, 0 ≤ m ∧ m ≤ 15
instance (w h : Int) (p : List Int) (b : Int) (l : List Int) : Decidable (sound w h p b l) := by unfold sound; infer_instance
theorem rd_drop {l : List Int} {i : Nat} (h : i < l.length) : l.drop i = rd l (i : Int) :: l.drop (i + 1) := by
  rw [List.drop_eq_getElem_cons h]
  unfold rd
  rw [Int.toNat_natCast, List.getD_eq_getElem?_getD, List.getElem?_eq_getElem h]
  rfl
theorem idx_ev (l : List Int) (hl : l.length ≤ 140737488355328) (d : Nat) : ∀ i : Nat, i + d = l.length → ∃ r : Int, Ev (fun k => slices_IndexFunc_int_int__lean_Sound_1.l0 k l (l.length : Int) (i : Int)) r ∧ (!decide (r ≥ 0)) = decide (∀ m ∈ l.drop i, 0 ≤ m ∧ m ≤ 15) := by
  induction d with
  | zero =>
    intro i hd
    refine ⟨-1, Ev.succ ?_, ?_⟩
    · simp only [slices_IndexFunc_int_int__lean_Sound_1.l0]
      exact Ev.ite_neg (by omega) (Ev.now _)
    · rw [List.drop_eq_nil_of_le (by omega)]; rfl
  | succ d ih =>
    intro i hd
    obtain ⟨r, h1, h2⟩ := ih (i + 1) (by omega)
    rw [rd_drop (l := l) (i := i) (by omega)]
    by_cases hb : 0 ≤ rd l i ∧ rd l i ≤ 15
    · refine ⟨r, Ev.succ ?_, ?_⟩
      · simp only [slices_IndexFunc_int_int__lean_Sound_1.l0]
        refine Ev.ite_pos (by omega) (Ev.ite_pos (by omega) (Ev.ite_pos (by omega) ?_))
        refine Ev.bindo (b := false) (by unfold lean_Sound_1.f; rw [if_neg (by omega), decide_eq_false (by omega)]) ?_
        refine Ev.ite_neg (by decide) ?_
        rw [w64 (n := (i : Int) + 1) (by omega) (by omega)]
        exact h1
      · rw [h2]
        refine decide_eq_decide.2 ⟨fun h m hm => ?_, fun h m hm => h m (List.mem_cons_of_mem _ hm)⟩
        rcases List.mem_cons.1 hm with rfl | hm
        · exact hb
        · exact h m hm
    · refine ⟨i, Ev.succ ?_, ?_⟩
      · simp only [slices_IndexFunc_int_int__lean_Sound_1.l0]
        refine Ev.ite_pos (by omega) (Ev.ite_pos (by omega) (Ev.ite_pos (by omega) ?_))
        refine Ev.bindo (b := true) ?_ (Ev.ite_pos rfl (Ev.now _))
        unfold lean_Sound_1.f
        by_cases c : rd l i < 0
        · rw [if_pos c]
        · rw [if_neg c, decide_eq_true (by omega)]
      · rw [decide_eq_true (show (i : Int) ≥ 0 by omega), decide_eq_false (fun h => hb (h _ List.mem_cons_self))]; rfl
theorem Sound_ev {w h b : Int} {p l : List Int} (hl : l.length ≤ 140737488355328) : Ev (fun k => lean_Sound.f k w h p b l) (decide (sound w h p b l)) := by
  unfold lean_Sound.f
  simp only [pgood_eq, Option.bind_some]
  by_cases c1 : good w h p
  · refine Ev.ite_pos (by simpa using c1) ?_
    simp only [bits_eq, Option.bind_some]
    by_cases c2 : 2 ≤ b ∧ b ≤ 9
    · refine Ev.ite_pos (by simpa using c2) ?_
      simp only [many_eq c1 c2.1 c2.2, Option.bind_some]
      by_cases c3 : (l.length : Int) = blocks w b * blocks h b
      · refine Ev.ite_pos c3 ?_
        obtain ⟨r, e1, e2⟩ := idx_ev l hl l.length 0 (by omega)
        refine Ev.bind (a := decide (r ≥ 0)) ?_ (Ev.fin ?_)
        · unfold slices_ContainsFunc_int_int__lean_Sound_1.f slices_IndexFunc_int_int__lean_Sound_1.f
          exact Ev.bind e1 (Ev.now _)
        · rw [e2, List.drop_zero]
          refine decide_eq_decide.2 ⟨fun h => ⟨c1, c2.1, c2.2, c3, h⟩, fun h => h.2.2.2.2⟩
      · exact Ev.ite_neg c3 (Ev.fin (decide_eq_false (fun h => c3 h.2.2.2.1)).symm)
    · exact Ev.ite_neg (by simpa using c2) (Ev.fin (decide_eq_false (fun h => c2 ⟨h.2.1, h.2.2.1⟩)).symm)
  · exact Ev.ite_neg (by simpa using c1) (Ev.fin (decide_eq_false (fun h => c1 h.1)).symm)
theorem modes_loop (l : List Int) (hl : l.length ≤ 140737488355328) (d : Nat) : ∀ i : Nat, i + d = l.length → Ev (fun k => marquetryref11_Modes.l0 k l (i : Int)) (decide (∀ m ∈ l.drop i, 0 ≤ m ∧ m ≤ 15)) := by
  induction d with
  | zero =>
    intro i hd
    refine Ev.succ ?_
    simp only [marquetryref11_Modes.l0]
    refine Ev.ite_neg (by omega) (Ev.fin ?_)
    rw [List.drop_eq_nil_of_le (by omega)]; rfl
  | succ d ih =>
    intro i hd
    have h1 := ih (i + 1) (by omega)
    rw [rd_drop (l := l) (i := i) (by omega)]
    refine Ev.succ ?_
    simp only [marquetryref11_Modes.l0]
    refine Ev.ite_pos (by omega) (Ev.ite_pos (by omega) ?_)
    by_cases c1 : rd l i < 0
    · exact Ev.ite_pos c1 (Ev.fin (decide_eq_false (fun h => by have := h _ List.mem_cons_self; omega)).symm)
    refine Ev.ite_neg c1 ?_
    by_cases c2 : rd l i > 15
    · exact Ev.ite_pos c2 (Ev.fin (decide_eq_false (fun h => by have := h _ List.mem_cons_self; omega)).symm)
    refine Ev.ite_neg c2 ?_
    rw [w64 (n := (i : Int) + 1) (by omega) (by omega)]
    have e : (∀ m ∈ l.drop (i + 1), 0 ≤ m ∧ m ≤ 15) ↔ (∀ m ∈ rd l i :: l.drop (i + 1), 0 ≤ m ∧ m ≤ 15) := by
      refine ⟨fun h m hm => ?_, fun h m hm => h m (List.mem_cons_of_mem _ hm)⟩
      rcases List.mem_cons.1 hm with rfl | hm
      · omega
      · exact h m hm
    rw [← decide_eq_decide.2 e]
    exact h1
theorem Modes_ev {w h b : Int} {p l : List Int} (hl : l.length ≤ 140737488355328) : Ev (fun k => marquetryref11_Modes.f k w h p b l) (decide (sound w h p b l)) := by
  have bad : Ev (fun k => marquetryref11_Modes.j0 k l true) false := by
    refine Ev.succ ?_
    simp only [marquetryref11_Modes.j0]
    simp only [if_true]
    exact Ev.now _
  unfold marquetryref11_Modes.f
  simp only [good_eq, Option.bind_some]
  by_cases c1 : good w h p
  · refine Ev.ite_pos (by simpa using c1) ?_
    by_cases c2 : b < 2
    · rw [decide_eq_false (fun h => by have := h.2.1; omega)]
      exact Ev.ite_pos c2 bad
    refine Ev.ite_neg c2 ?_
    by_cases c3 : b > 9
    · rw [decide_eq_false (fun h => by have := h.2.2.1; omega)]
      exact Ev.ite_pos c3 bad
    refine Ev.ite_neg c3 ?_
    refine Ev.bind (refMany_ev c1 (by omega) (by omega)) ?_
    by_cases c4 : (l.length : Int) = blocks w b * blocks h b
    · refine Ev.succ ?_
      simp only [marquetryref11_Modes.j0]
      refine Ev.ite_neg (by simp [c4]) ?_
      have := modes_loop l hl l.length 0 (by omega)
      rw [List.drop_zero] at this
      rw [show decide (sound w h p b l) = decide (∀ m ∈ l, 0 ≤ m ∧ m ≤ 15) from decide_eq_decide.2 ⟨fun h => h.2.2.2.2, fun h => ⟨c1, by omega, by omega, c4, h⟩⟩]
      exact this
    · rw [decide_eq_false (fun h => c4 h.2.2.2.1), show ((l.length : Int) != blocks w b * blocks h b) = true by simpa using c4]
      exact bad
  · rw [decide_eq_false (p := sound w h p b l) (fun hs => c1 hs.1)]
    exact Ev.ite_neg (by simpa using c1) bad

/-- The mode of a place. -/
def mo (w b : Int) (l : List Int) (x y : Int) : Int := rd l (y / 2 ^ b.toNat * blocks w b + x / 2 ^ b.toNat)
/-- The pixel made at place k. -/
def step13 (back : Bool) (w b : Int) (l p L : List Int) (k : Nat) : Int :=
  if back then each4 fAdd (rd p k) (at12 w L (mo w b l ((k : Int) % w) ((k : Int) / w)) ((k : Int) % w) ((k : Int) / w)) 0
  else each4 fSub (rd p k) (at12 w p (mo w b l ((k : Int) % w) ((k : Int) / w)) ((k : Int) % w) ((k : Int) / w)) 0
/-- The pixels behind k places. -/
def lean13 (back : Bool) (w b : Int) (l p : List Int) : Nat → List Int
  | 0 => List.replicate p.length 0
  | k + 1 => (lean13 back w b l p k).set k (step13 back w b l p (lean13 back w b l p k) k)
theorem lean13_len (back : Bool) (w b : Int) (l p : List Int) (k : Nat) : (lean13 back w b l p k).length = p.length := by
  induction k with
  | zero => simp [lean13]
  | succ k ih => simp [lean13, ih]
theorem step13_u32 (back : Bool) (w b : Int) (l p L : List Int) (k : Nat) : U32 (step13 back w b l p L k) := by
  unfold step13
  split <;> exact u32_each _ _ _ _
theorem lean13_u32 (back : Bool) (w b : Int) (l p : List Int) (k : Nat) : U32s (lean13 back w b l p k) := by
  induction k with
  | zero =>
    intro x hx
    rw [(List.mem_replicate.1 hx).2]
    decide
  | succ k ih =>
    intro x hx
    rcases List.mem_or_eq_of_mem_set hx with h | rfl
    · exact ih x h
    · exact step13_u32 _ _ _ _ _ _ _
theorem good_of_len {w h : Int} {p q : List Int} (hg : good w h p) (e : q.length = p.length) : good w h q := by
  obtain ⟨a, b, c, d, f⟩ := hg
  exact ⟨a, b, c, d, by rw [e]; exact f⟩
theorem u32_ite {c : Prop} [Decidable c] {a b : Int} (h1 : U32 a) (h2 : U32 b) : U32 (if c then a else b) := by split <;> assumption
theorem at12_u32 {w m x y : Int} {l : List Int} (hl : U32s l) : U32 (at12 w l m x y) := by
  unfold at12
  split
  · decide
  split
  · exact rd_u32 hl _
  split
  · exact rd_u32 hl _
  · unfold guess
    have t : U32 (tr12 w l x y) := by unfold tr12; split <;> exact rd_u32 hl _
    have := rd_u32 hl
    unfold pick4
    repeat' first | exact this _ | exact t | exact u32_each _ _ _ _ | refine u32_ite ?_ ?_ | decide
theorem place {w h : Int} {p : List Int} (hg : good w h p) {k : Nat} (hk : k < p.length) : (0 ≤ (k : Int) % w ∧ (k : Int) % w < w) ∧ 0 ≤ (k : Int) / w ∧ (k : Int) / w < h := by
  have hl := good_len hg
  obtain ⟨w0, w1, h0, h1, e⟩ := hg
  have k0 : (0 : Int) ≤ k := by omega
  refine ⟨⟨Int.emod_nonneg _ (by omega), Int.emod_lt_of_pos _ (by omega)⟩, Int.ediv_nonneg k0 (by omega), ?_⟩
  refine Int.ediv_lt_of_lt_mul (by omega) ?_
  rw [Int.mul_comm, ← e]; omega
theorem At_mo {w h b x y : Int} {p l : List Int} (hs : sound w h p b l) (hx : 0 ≤ x ∧ x < w) (hy : 0 ≤ y ∧ y < h) : lean_Blocks_int_At.f w b l x y = some (mo w b l x y) := by
  obtain ⟨⟨w0, w1, h0, h1, e⟩, b0, b1, hn, _⟩ := hs
  obtain ⟨c0, c1, c2, c3, c4⟩ := block_in w0 w1 h0 h1 b0 b1 hx hy
  unfold lean_Blocks_int_At.f lean_Block.f mo
  rw [if_pos (by omega), le_Blocks_eq, Option.bind_some, shr_any (by simp [IntKind.bits]; omega), shr_any (by simp [IntKind.bits]; omega)]
  rw [w64 (n := y / 2 ^ b.toNat * blocks w b) (by omega) (by omega), w64 (by omega) (by omega), Option.bind_some, if_pos c0, if_pos (by omega)]
theorem refBlock_ev {w h b x y : Int} {p l : List Int} (hs : sound w h p b l) (hx : 0 ≤ x ∧ x < w) (hy : 0 ≤ y ∧ y < h) : Ev (fun k => marquetryref11_Block.f k w b x y) (y / 2 ^ b.toNat * blocks w b + x / 2 ^ b.toNat) := by
  obtain ⟨⟨w0, w1, h0, h1, e⟩, b0, b1, hn, _⟩ := hs
  obtain ⟨c0, c1, c2, c3, c4⟩ := block_in w0 w1 h0 h1 b0 b1 hx hy
  have hp := pow_pos b.toNat
  have hq := pow30 (b := b) (by omega)
  have x0 : 0 ≤ x / 2 ^ b.toNat := Int.ediv_nonneg hx.1 (by omega)
  have y0 : 0 ≤ y / 2 ^ b.toNat := Int.ediv_nonneg hy.1 (by omega)
  have x1 : x / 2 ^ b.toNat ≤ x := Int.ediv_le_self _ hx.1
  have y1 : y / 2 ^ b.toNat ≤ y := Int.ediv_le_self _ hy.1
  unfold marquetryref11_Block.f
  rw [wu64 (by omega) (by omega), shl_i64 (by omega), Int.one_mul, w64 (n := 2 ^ b.toNat) (by omega) (by omega), Int.tdiv_eq_ediv_of_nonneg hy.1, Int.tdiv_eq_ediv_of_nonneg hx.1, w64 (n := y / 2 ^ b.toNat) (by omega) (by omega), w64 (n := x / 2 ^ b.toNat) (by omega) (by omega)]
  refine Ev.ite_pos (by omega) (Ev.ite_neg (by omega) ?_)
  refine Ev.bind (ref_Blocks_ev w b) (Ev.fin ?_)
  rw [w64 (n := y / 2 ^ b.toNat * blocks w b) (by omega) (by omega), w64 (by omega) (by omega)]
section
variable {w h b : Int} {p l : List Int} (hs : sound w h p b l) (hp : U32s p)
include hs hp
theorem refLean_row (back : Bool) (w' h' : Int) (R : Int × Int × List Int) (y : Int) (hy : 0 ≤ y ∧ y < h)
    (hn : Ev (fun k => marquetryref11_Lean.l0 k b l back (y + 1) w h p w' h' (lean13 back w b l p ((y + 1) * w).toNat)) R) (d : Nat) :
    ∀ x : Int, 0 ≤ x → x + d = w → Ev (fun k => marquetryref11_Lean.l1 k b l back y x w h p w' h' (lean13 back w b l p (y * w + x).toNat)) R := by
  have hg := hs.1
  obtain ⟨p0, p1, p2, p3⟩ := place_bd hg hy
  have hw : w ≤ 16384 := hg.2.1
  have hh : h ≤ 16384 := hg.2.2.2.1
  induction d with
  | zero =>
    intro x hx hd
    refine Ev.succ ?_
    simp only [marquetryref11_Lean.l1]
    refine Ev.ite_neg (by omega) ?_
    rw [w64 (n := y + 1) (by omega) (by omega), show y * w + x = (y + 1) * w by rw [Int.add_mul, Int.one_mul]; omega]
    exact hn
  | succ d ih =>
    intro x hx hd
    have hx' : 0 ≤ x ∧ x < w := by omega
    obtain ⟨w0, w1, h0, h1, e⟩ := id hg
    obtain ⟨c0, c1, c2, c3, c4⟩ := block_in w0 w1 h0 h1 hs.2.1 hs.2.2.1 hx' hy
    have hn1 := hs.2.2.2.1
    have nx := ih (x + 1) (by omega) (by omega)
    rw [show (y * w + (x + 1)).toNat = (y * w + x).toNat + 1 by omega] at nx
    obtain ⟨k, hk⟩ : ∃ k : Nat, y * w + x = k := ⟨(y * w + x).toNat, by omega⟩
    have em : (k : Int) % w = x := by rw [← hk, Int.add_comm, Int.add_mul_emod_self_right, Int.emod_eq_of_lt hx'.1 hx'.2]
    have ed : (k : Int) / w = y := by rw [← hk, Int.add_comm, Int.add_mul_ediv_right _ _ (by omega), Int.ediv_eq_zero_of_lt hx'.1 hx'.2, Int.zero_add]
    refine Ev.succ ?_
    simp only [marquetryref11_Lean.l1]
    refine Ev.ite_pos (by omega) ?_
    refine Ev.bind (refBlock_ev hs hx' hy) ?_
    refine Ev.ite_pos c0 (Ev.ite_pos (by omega) ?_)
    rw [w64 (n := y * w) (by omega) (by omega), w64 (n := y * w + x) (by omega) (by omega), w64 (n := x + 1) (by omega) (by omega)]
    rw [hk] at nx ⊢
    rw [Int.toNat_natCast] at nx ⊢
    have hlen := lean13_len back w b l p k
    have hu := lean13_u32 back w b l p k
    rw [show lean13 back w b l p (k + 1) = (lean13 back w b l p k).set k (step13 back w b l p (lean13 back w b l p k) k) from rfl] at nx
    unfold step13 at nx
    rw [em, ed] at nx
    generalize lean13 back w b l p k = L at *
    cases back with
    | true =>
      refine Ev.ite_pos rfl (Ev.ite_pos (by omega) (Ev.ite_pos (by omega) ?_))
      refine Ev.bind (refAt_ev (good_of_len hg hlen) hx' hy hu _) ?_
      refine Ev.bindo (b := each4 fAdd (rd p k) (at12 w L (mo w b l x y) x y) 0) (if_pos ⟨rd_u32 hp _, at12_u32 hu⟩) ?_
      refine Ev.ite_pos (by omega) ?_
      rw [if_pos rfl] at nx
      exact nx
    | false =>
      refine Ev.ite_neg (by decide) (Ev.ite_pos (by omega) (Ev.ite_pos (by omega) ?_))
      refine Ev.bind (refAt_ev hg hx' hy hp _) ?_
      refine Ev.bindo (b := each4 fSub (rd p k) (at12 w p (mo w b l x y) x y) 0) (if_pos ⟨rd_u32 hp _, at12_u32 hp⟩) ?_
      refine Ev.ite_pos (by omega) ?_
      rw [if_neg (by decide)] at nx
      exact nx
theorem refLean_rows (back : Bool) (w' h' : Int) (d : Nat) : ∀ y : Int, 0 ≤ y → y + d = h → Ev (fun k => marquetryref11_Lean.l0 k b l back y w h p w' h' (lean13 back w b l p (y * w).toNat)) (w', h', lean13 back w b l p p.length) := by
  obtain ⟨w0, w1, h0, h1, e⟩ := hs.1
  induction d with
  | zero =>
    intro y hy hd
    refine Ev.succ ?_
    simp only [marquetryref11_Lean.l0]
    refine Ev.ite_neg (by omega) (Ev.fin ?_)
    have : (y * w).toNat = p.length := by rw [show y = h by omega, Int.mul_comm, ← e]; omega
    rw [this]
  | succ d ih =>
    intro y hy hd
    have nx := ih (y + 1) (by omega) (by omega)
    refine Ev.succ ?_
    simp only [marquetryref11_Lean.l0]
    refine Ev.ite_pos (by omega) ?_
    have := refLean_row hs hp back w' h' _ y ⟨hy, by omega⟩ nx w.toNat 0 (by omega) (by omega)
    rw [Int.add_zero] at this
    exact this
theorem refLean_ev (back : Bool) : Ev (fun k => marquetryref11_Lean.f k w h p b l back) (w, h, lean13 back w b l p p.length) := by
  have hl := good_len hs.1
  obtain ⟨w0, w1, h0, h1, e⟩ := hs.1
  unfold marquetryref11_Lean.f
  rw [Int.toNat_natCast]
  refine Ev.ite_pos (by omega) (Ev.ite_pos (by omega) ?_)
  have := refLean_rows hs hp back w h h.toNat 0 (by omega) (by omega)
  rw [Int.zero_mul] at this
  exact this
end
end Go.Proofs.Ytnbocgmlcdcahaa.Pure
