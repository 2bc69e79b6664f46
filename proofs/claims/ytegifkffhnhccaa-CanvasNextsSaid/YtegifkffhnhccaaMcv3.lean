/- A part comes onto the canvas. -/
import Derived.Test.YtegifkffhnhccaaMcv2
import Derived.Test.YtegifkffhnhccaaSto
namespace Go.Proofs.Ytegifkffhnhccaa.P
open Go Go.RowKit Go.Proofs.YtegifkffhnhccaaW.PrintWords Go.Proofs.YtegifkffhnhccaaW.PrintLast Go.Proofs.YtegifkffhnhccaaW.PrintMore
set_option linter.unusedVariables false
set_option linter.unusedSimpArgs false
attribute [local go_sem] max2_int min2_int max_two min_two max_three min_three max_four min_four

/-- Where row y of a place begins. -/
def rowAt (W X Y : Int) (y : Nat) : Nat := ((Y + y) * W + X).toNat
/-- The pixels, the first n rows of a place cleared. -/
def clearRows (W : Int) (pix : List Int) (X Y pw : Int) : Nat → List Int
  | 0 => pix
  | n + 1 => lay (clearRows W pix X Y pw n) (rowAt W X Y n) (List.replicate pw.toNat 0)
/-- A row's pixels, the first m of them. -/
def mixRow (p : List Int) (at_ : Nat) (P : List Int) (from_ : Nat) (m : Nat) : List Int := (List.range m).map fun x => overP (rd p ((at_ + x : Nat) : Int)) (rd P ((from_ + x : Nat) : Int))
def drawRow (W : Int) (p : List Int) (X Y pw : Int) (keep : Bool) (P : List Int) (y : Nat) : List Int :=
  lay p (rowAt W X Y y) (if keep then (P.drop (y * pw.toNat)).take pw.toNat else mixRow p (rowAt W X Y y) P (y * pw.toNat) pw.toNat)
def drawRows (W : Int) (pix : List Int) (X Y pw : Int) (keep : Bool) (P : List Int) : Nat → List Int
  | 0 => pix
  | n + 1 => drawRow W (drawRows W pix X Y pw keep P n) X Y pw keep P n
/-- A place that is on the canvas, or none. -/
def placeOk (W H X Y pw ph : Int) : Prop := ph = 0 ∨ (0 ≤ X ∧ 0 ≤ Y ∧ 1 ≤ pw ∧ X + pw ≤ W ∧ 0 ≤ ph ∧ Y + ph ≤ H)
theorem fit_row {W H X Y pw y : Int} (hW : sideOk W) (hX : 0 ≤ X) (hY : 0 ≤ Y + y) (hy : Y + y + 1 ≤ H) (hpw : 0 ≤ pw) (hXW : X + pw ≤ W) : 0 ≤ (Y + y) * W + X ∧ (Y + y) * W + X + pw ≤ W * H := by
  have h1 := Int.mul_nonneg hY (show 0 ≤ W by have := hW.1; omega)
  have h2 := Int.mul_le_mul_of_nonneg_right hy (show 0 ≤ W by have := hW.1; omega)
  rw [Int.add_mul, Int.one_mul, Int.mul_comm H W] at h2
  omega
theorem clearRows_len {W H : Int} (hW : sideOk W) {pix : List Int} (hl : (pix.length : Int) = W * H) {X Y pw ph : Int} (hX : 0 ≤ X) (hY : 0 ≤ Y) (hpw : 1 ≤ pw) (hXW : X + pw ≤ W) (hYH : Y + ph ≤ H) (n : Nat) (hn : n ≤ ph) : (clearRows W pix X Y pw n).length = pix.length := by
  induction n with
  | zero => rfl
  | succ n ih =>
    have i := ih (by omega)
    have := fit_row (W := W) (H := H) (X := X) (Y := Y) (pw := pw) (y := n) hW hX (by omega) (by omega) (by omega) hXW
    rw [clearRows, lay_len _ _ _ (by rw [i, List.length_replicate]; unfold rowAt; omega), i]
theorem drawRow_fit {W H : Int} (hW : sideOk W) {pix : List Int} (hl : (pix.length : Int) = W * H) {X Y pw ph : Int} (hX : 0 ≤ X) (hY : 0 ≤ Y) (hpw : 1 ≤ pw) (hXW : X + pw ≤ W) (hYH : Y + ph ≤ H) (n : Nat) (hn : n < ph) : rowAt W X Y n + pw.toNat ≤ pix.length := by
  have := fit_row (W := W) (H := H) (X := X) (Y := Y) (pw := pw) (y := n) hW hX (by omega) (by omega) (by omega) hXW
  unfold rowAt
  omega
theorem mixRow_len (p : List Int) (a : Nat) (P : List Int) (f m : Nat) : (mixRow p a P f m).length = m := by simp [mixRow]
theorem mul_fit {n m h L : Nat} (hn : n < h) (hL : L = m * h) : n * m + m ≤ L := by
  have := Nat.mul_le_mul_right m (show n + 1 ≤ h from hn)
  rw [Nat.add_mul, Nat.one_mul, Nat.mul_comm h m] at this
  omega
theorem part_row_len {P : List Int} {pw ph : Int} (hP : (P.length : Int) = pw * ph) (hpw : 1 ≤ pw) (n : Nat) (hn : n < ph) : ((P.drop (n * pw.toNat)).take pw.toNat).length = pw.toNat := by
  obtain ⟨m, rfl⟩ := Int.eq_ofNat_of_zero_le (show 0 ≤ pw by omega)
  obtain ⟨k, rfl⟩ := Int.eq_ofNat_of_zero_le (show 0 ≤ ph by omega)
  have hL : P.length = m * k := by exact_mod_cast hP
  have := mul_fit (n := n) (m := m) (h := k) (L := P.length) (by omega) hL
  simp only [List.length_take, List.length_drop, Int.toNat_natCast]
  omega
theorem drawRows_len {W H : Int} (hW : sideOk W) {pix : List Int} (hl : (pix.length : Int) = W * H) {X Y pw ph : Int} (hX : 0 ≤ X) (hY : 0 ≤ Y) (hpw : 1 ≤ pw) (hXW : X + pw ≤ W) (hYH : Y + ph ≤ H) (keep : Bool) (P : List Int) (hP : (P.length : Int) = pw * ph) (n : Nat) (hn : n ≤ ph) : (drawRows W pix X Y pw keep P n).length = pix.length := by
  induction n with
  | zero => rfl
  | succ n ih =>
    have i := ih (by omega)
    have hf := drawRow_fit (ph := ph) hW hl hX hY hpw hXW hYH n (by omega)
    rw [drawRows, drawRow, lay_len, i]
    cases keep
    · simp only [mixRow_len, i, Bool.false_eq_true, if_false]; exact hf
    · simp only [if_true, part_row_len hP hpw n (by omega), i]; exact hf
theorem not_lt_toNat {q : Nat} {p : Int} (h : ¬ q < p.toNat) : ¬ (q : Int) < p := by omega
theorem nat_big {n : Nat} (h : (n : Int) ≤ 268435456) : n ≤ 268435456 := by omega
/-- What is known in a round over a part's rows. -/
theorem next_row {W H X Y pw ph : Int} {P C1 : List Int} (hW : sideOk W) (hH : sideOk H) (hN : withinC W H X Y pw ph P) (hl : (C1.length : Int) = W * H) (k : Bool) (q pc : Nat) (hc : P.length ≤ pc) (hlt : q < ph.toNat) :
    ∃ m n o : Nat, pw = m ∧ ph = n ∧ o = q * m ∧ q < n ∧
      ((0 ≤ W ∧ W ≤ 16384) ∧ (0 ≤ X ∧ X ≤ 16384) ∧ (0 ≤ Y ∧ Y ≤ 16384) ∧ (0 ≤ (q : Int) ∧ (q : Int) ≤ 16384) ∧ 1 ≤ m ∧ rowAt W X Y q + m ≤ (drawRows W C1 X Y m k P q).length ∧ (drawRows W C1 X Y m k P q).length ≤ 268435456) ∧
      ((rowAt W X Y q : Nat) : Int) = (Y + q) * W + X ∧ o + m ≤ P.length ∧ P.length ≤ 268435456 ∧ ((P.drop o).take m).length = m ∧
      wrap64 ((q : Int) * m) = o ∧ wrap64 (((q : Int) + 1) * m) = (o : Int) + m ∧ 0 ≤ (o : Int) ∧ (o : Int) ≤ (o : Int) + m ∧ (o : Int) + m ≤ pc ∧ ((o : Int) + m).toNat = o + m ∧ ¬ pc = o ∧ q ≤ 16384 ∧ ¬ m = 0 := by
  obtain ⟨⟨⟨a1, a2⟩, ⟨a3, a4⟩, a5⟩, a6, a7, a8, a9⟩ := hN
  have b1 : X + pw ≤ W := by clear hl hc hlt; omega
  have b2 : Y + ph ≤ H := by clear hl hc hlt; omega
  have b3 : (q : Int) < ph := by clear hl hc b1 b2; omega
  have hlen := drawRows_len (X := X) (Y := Y) (pw := pw) (ph := ph) hW hl a6 a7 a1 b1 b2 k P a5 q (by clear hl hc hlt b1 b2; omega)
  have hfit := drawRow_fit (X := X) (Y := Y) (pw := pw) (ph := ph) hW hl a6 a7 a1 b1 b2 q b3
  have b4 : 0 ≤ Y + (q : Int) := by clear hl hc hlt b1 b2 hlen hfit; omega
  have b5 : Y + (q : Int) + 1 ≤ H := by clear hl hc hlt b1 hlen hfit; omega
  have b6 : 0 ≤ pw := by clear hl hc hlt b1 b2 hlen hfit; omega
  have b7 : 0 ≤ ph := by clear hl hc hlt b1 b2 hlen hfit; omega
  have hfr := (fit_row (W := W) (H := H) (X := X) (Y := Y) (pw := pw) (y := q) hW a6 b4 b5 b6 b1).1
  have hrow : ((rowAt W X Y q : Nat) : Int) = (Y + q) * W + X := Int.toNat_of_nonneg hfr
  have hprl := part_row_len a5 a1 q b3
  have harea := (mul_area hW hH).2
  obtain ⟨m, rfl⟩ := Int.eq_ofNat_of_zero_le b6
  obtain ⟨n, rfl⟩ := Int.eq_ofNat_of_zero_le b7
  have hL : P.length = m * n := by exact_mod_cast a5
  simp only [Int.toNat_natCast] at hlt hprl hfit
  have hmf := mul_fit (n := q) (m := m) (h := n) (L := P.length) hlt hL
  have hPa := (mul_area (w := m) (h := n) ⟨a1, a2⟩ ⟨a3, a4⟩).2
  rw [← a5] at hPa
  rw [← hl] at harea
  have hPl : P.length ≤ 268435456 := nat_big hPa
  have hCl : C1.length ≤ 268435456 := nat_big harea
  obtain ⟨o, ho⟩ : ∃ o, o = q * m := ⟨_, rfl⟩
  rw [← ho] at hmf hprl
  have e1 : (q : Int) * m = o := by rw [ho]; simp
  have e2 : ((q : Int) + 1) * m = (o : Int) + m := by rw [Int.add_mul, e1, Int.one_mul]
  obtain ⟨x1, x2⟩ := hW
  obtain ⟨x3, x4⟩ := hH
  have hlen' : (drawRows W C1 X Y m k P q).length = C1.length := hlen
  have w1 : wrap64 ((q : Int) * m) = o := by rw [e1]; clear hlen hlen' hl hc hfit hL harea hPa hrow hfr e1 e2 hprl ho a5; exact px_w64 (by omega) (by omega)
  have w2 : wrap64 (((q : Int) + 1) * m) = (o : Int) + m := by rw [e2]; clear w1 hlen hlen' hl hc hfit hL harea hPa hrow hfr e1 e2 hprl ho a5; exact px_w64 (by omega) (by omega)
  rw [← hlen'] at hfit hCl
  have m1 : 1 ≤ m := by exact_mod_cast a1
  clear hlen hlen' hl harea hPa hfr e1 e2 hL a5
  refine ⟨m, n, o, rfl, rfl, ho, hlt, ⟨?_, ?_, ?_, ?_, m1, hfit, hCl⟩, hrow, hmf, hPl, hprl, w1, w2, ?_, ?_, ?_, ?_, ?_, ?_, ?_⟩
  all_goals clear hrow hfit hprl w1 w2 ho hCl
  all_goals omega
theorem overP_U32 (p q : Int) : U32 (overP p q) := by
  unfold overP
  split
  · unfold U32; omega
  · exact u32_join _ _ _ _
theorem lay_U32 {xs ys : List Int} {o : Nat} (hx : ∀ x ∈ xs, U32 x) (hy : ∀ x ∈ ys, U32 x) : ∀ x ∈ lay xs o ys, U32 x := by
  intro x h
  rcases List.mem_append.1 h with h | h
  · exact hx x (List.mem_of_mem_take h)
  rcases List.mem_append.1 h with h | h
  · exact hy x h
  · exact hx x (List.mem_of_mem_drop h)
theorem mixRow_U32 (p : List Int) (a : Nat) (P : List Int) (f m : Nat) : ∀ x ∈ mixRow p a P f m, U32 x := by
  intro x h
  obtain ⟨j, _, rfl⟩ := List.mem_map.1 h
  exact overP_U32 _ _
theorem clearRows_U32 {W : Int} {pix : List Int} (h : ∀ x ∈ pix, U32 x) (X Y pw : Int) (n : Nat) : ∀ x ∈ clearRows W pix X Y pw n, U32 x := by
  induction n with
  | zero => exact h
  | succ n ih =>
    refine lay_U32 ih ?_
    intro x hx
    rw [(List.mem_replicate.1 hx).2]
    unfold U32
    omega
theorem drawRow_U32 {W : Int} {p P : List Int} (h : ∀ x ∈ p, U32 x) (hP : ∀ x ∈ P, U32 x) (X Y pw : Int) (k : Bool) (y : Nat) : ∀ x ∈ drawRow W p X Y pw k P y, U32 x := by
  refine lay_U32 h ?_
  cases k
  · exact mixRow_U32 _ _ _ _ _
  · intro x hx
    exact hP x (List.mem_of_mem_drop (List.mem_of_mem_take hx))
theorem drawRows_U32 {W : Int} {pix P : List Int} (h : ∀ x ∈ pix, U32 x) (hP : ∀ x ∈ P, U32 x) (X Y pw : Int) (k : Bool) (n : Nat) : ∀ x ∈ drawRows W pix X Y pw k P n, U32 x := by
  induction n with
  | zero => exact h
  | succ n ih => exact drawRow_U32 ih hP X Y pw k n
theorem rd_U32 {l : List Int} (h : ∀ x ∈ l, U32 x) (i : Nat) (hi : i < l.length) : U32 (rd l (i : Int)) := h _ (by rw [rd_nat' hi]; exact List.getElem_mem hi)
theorem mix_zero (pk : List Int) (a : Nat) (P : List Int) (o : Nat) : lay pk a (mixRow pk a P o 0) = pk := by simp [lay, mixRow]
theorem mix_succ (pk : List Int) (a : Nat) (P : List Int) (o x : Nat) : mixRow pk a P o (x + 1) = mixRow pk a P o x ++ [overP (rd pk ((a + x : Nat) : Int)) (rd P ((o + x : Nat) : Int))] := by simp [mixRow, List.range_succ]
theorem mix_step (pk : List Int) (a : Nat) (P : List Int) (o x : Nat) (h : a + x < pk.length) : lay pk a (mixRow pk a P o (x + 1)) = (lay pk a (mixRow pk a P o x)).set (a + x) (overP (rd pk ((a + x : Nat) : Int)) (rd P ((o + x : Nat) : Int))) := by
  have hl := mixRow_len pk a P o x
  have e : pk.drop (a + x) = pk[a + x] :: pk.drop (a + x + 1) := List.drop_eq_getElem_cons h
  have ht : (pk.take a).length = a := by rw [List.length_take]; omega
  rw [mix_succ]
  generalize mixRow pk a P o x = mr at hl
  unfold lay
  rw [List.length_append, hl, e, List.length_singleton, ← Nat.add_assoc, List.set_append_right _ _ (by omega), ht, List.set_append_right _ _ (by omega), hl, show a + x - a - x = 0 by omega, List.set_cons_zero, List.append_assoc, List.singleton_append]
theorem mix_rd (pk : List Int) (a : Nat) (P : List Int) (o x : Nat) (h : a + x < pk.length) : rd (lay pk a (mixRow pk a P o x)) ((a + x : Nat) : Int) = rd pk ((a + x : Nat) : Int) := by
  have hl := mixRow_len pk a P o x
  rw [rd_lay _ _ _ (by omega) _ h, if_neg (by omega)]
theorem mix_len (pk : List Int) (a : Nat) (P : List Int) (o x : Nat) (h : a + x ≤ pk.length) : (lay pk a (mixRow pk a P o x)).length = pk.length := lay_len _ _ _ (by rw [mixRow_len]; exact h)
theorem mix_cell {w0 w : World} {g : Nat} {pk P : List Int} {a o x : Nat} {r : Asrt} (hs : St w0 w (Asrt.blk g 22 (nums .u32 (lay pk a (mixRow pk a P o x))).toArray * r)) (hx : a + x < pk.length) : w.cell? ⟨g, a + x, none⟩ = some (.int .u32 (rd pk ((a + x : Nat) : Int))) := by
  refine ((hs.cell (a + x)).trans (nums_at .u32 _ ((a + x : Nat) : Int) (Int.natCast_nonneg _) (Int.ofNat_lt.2 (by rw [mix_len _ _ _ _ _ (Nat.le_of_lt hx)]; exact hx)))).trans ?_
  rw [mix_rd _ _ _ _ _ hx]
theorem canvO_open {w0 w : World} {g h : Nat} {W H lx ly lw lh : Int} {pix : List Int} {r : Asrt} (hs : St w0 w (canvO g h W H lx ly lw lh pix * r)) :
    St w0 w (Asrt.blk h 22 (nums .u32 pix).toArray * (Asrt.blk g 63 #[.int .i64 W, .int .i64 H, .slice (some ⟨h, 0, none⟩) pix.length pix.length, .int .i64 lx, .int .i64 ly, .bool false, .bool false, .int .i64 lw, .int .i64 lh, .slice none 0 0] * r)) := hs.assoc.swap
theorem canvO_shut {w0 w : World} {g h n : Nat} {W H lx ly lw lh : Int} {pix : List Int} {r : Asrt} (hs : St w0 w (Asrt.blk h 22 (nums .u32 pix).toArray * (Asrt.blk g 63 #[.int .i64 W, .int .i64 H, .slice (some ⟨h, 0, none⟩) n n, .int .i64 lx, .int .i64 ly, .bool false, .bool false, .int .i64 lw, .int .i64 lh, .slice none 0 0] * r))) (hn : pix.length = n) :
    St w0 w (canvO g h W H lx ly lw lh pix * r) := by subst hn; exact hs.swap.assoc'
set_option maxHeartbeats 1000000 in
set_option maxRecDepth 100000 in
theorem canvas_Next_nil (X Y pw ph : Int) (k d : Bool) (PA : Option Addr) (pl pc : Nat) (w : World) :
    Calls Try.prog 20 #[.pointer none, .agg #[.int .i64 X, .int .i64 Y, .bool k, .bool d, .int .i64 pw, .int .i64 ph, .slice PA pl pc]] w fun e w' => e = .returned (.int .i64 1) ∧ Below w.heap.size w w' := by
  go_enter Try.func20, Try.ntmps20
  go_wp2_with fail
  go_ret
  exact ⟨rfl, below_alloc (Below.refl _ _) _⟩
set_option maxHeartbeats 1000000 in
set_option maxRecDepth 100000 in
theorem canvas_Next_out (g h : Nat) (W H lx ly lw lh : Int) (pix : List Int) (X Y pw ph : Int) (k d : Bool) (PA : Option Addr) (pc : Nat) (P : List Int) (r : Asrt) (w0 w : World)
    (hW : sideOk W) (hH : sideOk H) (hr : Kd.C (Kd.int .u32) w PA P.length P) (hc : P.length ≤ pc) (hn : ¬ withinC W H X Y pw ph P)
    (hs : St w0 w (canvO g h W H lx ly lw lh pix * r)) :
    Calls Try.prog 20 #[.pointer (some ⟨g, 0, none⟩), .agg #[.int .i64 X, .int .i64 Y, .bool k, .bool d, .int .i64 pw, .int .i64 ph, .slice PA P.length pc]] w fun e w' => e = .returned (.int .i64 1) ∧ Below w.heap.size w w' := by
  have s1 := hs.alloc #[.int .i64 X, .int .i64 Y, .bool k, .bool d, .int .i64 pw, .int .i64 ph, .slice PA P.length pc] 47
  have hb := below_alloc (Below.refl w.heap.size w) (.cells #[.int .i64 X, .int .i64 Y, .bool k, .bool d, .int .i64 pw, .int .i64 ph, .slice PA P.length pc] 47)
  have HR := Aside0.mk (Kd.C_below hr hb)
  have HB := Aside0.mk hb
  have HC := Aside0.mk hc
  have HS := Aside0.mk s1.swap
  have HW := Aside0.mk hW
  have HH := Aside0.mk hH
  have HN := Aside0.mk (decide_eq_false hn)
  clear hs s1 hr hc hb hn hW hH
  go_enter Try.func20, Try.ntmps20
  go_wp2_with fail
  refine (canvas_within g h W H lx ly lw lh pix X Y pw ph k d PA pc P _ w0 _ HW.out HH.out HR.out HC.out HS.out).mono ?_; rintro e w2 ⟨rfl, hb⟩
  rw [HN.out]
  have HB2 := Aside0.mk (below_then HB.out hb); clear hb
  go_wp2_with fail
  go_ret
  exact ⟨rfl, HB2.out⟩
end Go.Proofs.Ytegifkffhnhccaa.P
