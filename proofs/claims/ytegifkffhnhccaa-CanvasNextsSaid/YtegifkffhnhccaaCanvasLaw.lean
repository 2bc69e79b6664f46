/- The canvas pixel by pixel. -/
import Derived.Test.YtegifkffhnhccaaMcv9
namespace Go.Proofs.Ytegifkffhnhccaa.P
open Go Go.RowKit Go.Proofs.YtegifkffhnhccaaW.PrintWords Go.Proofs.YtegifkffhnhccaaW.PrintLast Go.Proofs.YtegifkffhnhccaaW.PrintMore
set_option linter.unusedVariables false
set_option linter.unusedSimpArgs false
theorem px_join {p : Int} (h : U32 p) : join4 (pA p) (pR p) (pG p) (pB p) = p := by
  unfold U32 at h
  unfold join4 pA pR pG pB
  omega
theorem pA_join {a b c d : Int} (h0 : 0 ≤ a) (h1 : a ≤ 255) : pA (join4 a b c d) = a := by
  unfold join4 pA
  omega
/-- What hides all is what is seen. -/
theorem over_full {p q : Int} (hq : U32 q) (h : pA q = 255) : overP p q = q := by
  have hu : under p q = 0 := by unfold under; rw [h]; simp
  have m : ∀ x y : Int, 0 ≤ x → x ≤ 255 → mixP x y 255 0 = x := by
    intro x y h0 h1
    unfold mixP
    rw [Int.mul_zero, Int.add_zero, Int.add_zero]
    exact Int.mul_ediv_cancel x (by decide)
  unfold overP
  rw [hu, h, if_neg (by decide), m _ _ (pR_bd q).1 (pR_bd q).2, m _ _ (pG_bd q).1 (pG_bd q).2, m _ _ (pB_bd q).1 (pB_bd q).2]
  have := px_join hq
  rw [h] at this
  exact this
theorem over_gone {p q : Int} (hp : U32 p) (h : pA q = 0) (h1 : pA p = 255) : overP p q = p := by
  have hu : under p q = 255 := by unfold under; rw [h, h1]; decide
  have m : ∀ x y : Int, 0 ≤ y → y ≤ 255 → mixP x y 0 255 = y := by
    intro x y h0 h1
    unfold mixP
    rw [Int.mul_zero, Int.zero_add, Int.zero_add]
    exact Int.mul_ediv_cancel y (by decide)
  unfold overP
  rw [hu, h, if_neg (by decide), m _ _ (pR_bd p).1 (pR_bd p).2, m _ _ (pG_bd p).1 (pG_bd p).2, m _ _ (pB_bd p).1 (pB_bd p).2]
  have := px_join hp
  rw [h1] at this
  exact this
theorem over_alpha {p q : Int} (hp : U32 p) (hq : U32 q) : pA q ≤ pA (overP p q) := by
  have h1 := under_bd hp hq
  have h2 := pA_bd hq
  unfold overP
  split
  · have : pA (0 : Int) = 0 := by decide
    omega
  · rw [pA_join (by omega) (by omega)]
    omega
theorem over_none {q : Int} (hq : U32 q) : overP 0 q = if pA q = 0 then 0 else q := by
  have hu : under 0 q = 0 := by unfold under; rw [show pA (0 : Int) = 0 by decide]; simp
  have h2 := pA_bd hq
  unfold overP
  rw [hu]
  by_cases c : pA q = 0
  · rw [if_pos (by omega), if_pos c]
  · rw [if_neg (by omega), if_neg c, Int.add_zero]
    have m : ∀ x y : Int, mixP x y (pA q) 0 = x := by
      intro x y
      unfold mixP
      rw [Int.mul_zero, Int.add_zero, Int.add_zero]
      exact Int.mul_ediv_cancel x c
    rw [m, m, m]
    exact px_join hq

/-! ### places -/
theorem row_iff {W X pw x y b : Int} (hx : 0 ≤ x) (hxW : x < W) (hX : 0 ≤ X) (hpw : 0 ≤ pw) (hXW : X + pw ≤ W) : (b * W + X ≤ y * W + x ∧ y * W + x < b * W + X + pw) ↔ (y = b ∧ X ≤ x ∧ x < X + pw) := by
  rcases Int.lt_trichotomy y b with h | h | h
  · have := Int.mul_le_mul_of_nonneg_right (show y + 1 ≤ b from h) (show 0 ≤ W by omega)
    rw [Int.add_mul, Int.one_mul] at this
    constructor
    · intro ⟨h1, h2⟩; omega
    · intro ⟨h1, h2⟩; omega
  · subst h
    constructor
    · intro ⟨h1, h2⟩; omega
    · intro ⟨h1, h2, h3⟩; omega
  · have := Int.mul_le_mul_of_nonneg_right (show b + 1 ≤ y from h) (show 0 ≤ W by omega)
    rw [Int.add_mul, Int.one_mul] at this
    constructor
    · intro ⟨h1, h2⟩; omega
    · intro ⟨h1, h2⟩; omega
theorem at_in {W H x y : Int} (hx : 0 ≤ x) (hxW : x < W) (hy : 0 ≤ y) (hyH : y < H) : 0 ≤ y * W + x ∧ y * W + x < W * H := by
  have h1 := Int.mul_nonneg hy (show 0 ≤ W by omega)
  have h2 := Int.mul_le_mul_of_nonneg_right (show y + 1 ≤ H from hyH) (show 0 ≤ W by omega)
  rw [Int.add_mul, Int.one_mul, Int.mul_comm H W] at h2
  omega
/-- Is a place in a rectangle? -/
def inR (X Y pw ph x y : Int) : Prop := X ≤ x ∧ Y ≤ y ∧ x < X + pw ∧ y < Y + ph
instance (X Y pw ph x y : Int) : Decidable (inR X Y pw ph x y) := by unfold inR; infer_instance
theorem rd_lay_row {W H X Y pw ph x y : Int} {p ys : List Int} {n : Nat} (hW : sideOk W) (hl : (p.length : Int) = W * H) (hX : 0 ≤ X) (hY : 0 ≤ Y) (hpw : 1 ≤ pw) (hXW : X + pw ≤ W) (hYH : Y + ph ≤ H) (hn : n < ph) (hyl : ys.length = pw.toNat)
    (hx : 0 ≤ x) (hxW : x < W) (hy : 0 ≤ y) (hyH : y < H) : rd (lay p (rowAt W X Y n) ys) (y * W + x) = if y = Y + n ∧ X ≤ x ∧ x < X + pw then rd ys (x - X) else rd p (y * W + x) := by
  have hf := fit_row (W := W) (H := H) (X := X) (Y := Y) (pw := pw) (y := n) hW hX (by omega) (by omega) (by omega) hXW
  have hr : ((rowAt W X Y n : Nat) : Int) = (Y + n) * W + X := Int.toNat_of_nonneg hf.1
  have ha := at_in hx hxW hy hyH
  have hi := row_iff (y := y) (b := Y + n) hx hxW hX (show 0 ≤ pw by omega) hXW
  have e : y * W + x = (((y * W + x).toNat : Nat) : Int) := (Int.toNat_of_nonneg ha.1).symm
  generalize hI : (y * W + x).toNat = I at e
  rw [e, rd_lay _ _ _ (by omega) I (by omega)]
  by_cases c : y = Y + n ∧ X ≤ x ∧ x < X + pw
  · have := hi.2 c
    rw [if_pos (by omega), if_pos c]
    congr 1
    rw [← e, hr, c.1]
    omega
  · have : ¬ (rowAt W X Y n ≤ I ∧ I < rowAt W X Y n + ys.length) := fun hh => c (hi.1 (by omega))
    rw [if_neg this, if_neg c]
theorem rd_replicate {m : Nat} {i : Int} (h0 : 0 ≤ i) (h1 : i < m) : rd (List.replicate m 0) i = 0 := by
  have : i.toNat < m := by omega
  unfold rd
  rw [List.getD_eq_getElem?_getD, List.getElem?_replicate, if_pos this]
  rfl
theorem rd_clearRows {W H X Y pw ph x y : Int} {p : List Int} (hW : sideOk W) (hl : (p.length : Int) = W * H) (hX : 0 ≤ X) (hY : 0 ≤ Y) (hpw : 1 ≤ pw) (hXW : X + pw ≤ W) (hYH : Y + ph ≤ H)
    (hx : 0 ≤ x) (hxW : x < W) (hy : 0 ≤ y) (hyH : y < H) (n : Nat) (hn : n ≤ ph) : rd (clearRows W p X Y pw n) (y * W + x) = if inR X Y pw n x y then 0 else rd p (y * W + x) := by
  induction n with
  | zero =>
    rw [if_neg (by unfold inR; omega)]
    rfl
  | succ n ih =>
    have hlen := clearRows_len hW hl hX hY hpw hXW hYH n (by omega)
    rw [clearRows, rd_lay_row (ph := ph) hW (by rw [hlen]; exact hl) hX hY hpw hXW hYH (by omega) (by rw [List.length_replicate]) hx hxW hy hyH, ih (by omega)]
    by_cases c1 : y = Y + n ∧ X ≤ x ∧ x < X + pw
    · rw [if_pos c1, if_pos (by unfold inR; omega), rd_replicate (by omega) (by omega)]
    · rw [if_neg c1]
      by_cases c2 : inR X Y pw n x y
      · rw [if_pos c2, if_pos (by unfold inR at *; omega)]
      · rw [if_neg c2, if_neg (by unfold inR at *; omega)]
theorem rd_mixRow {p P : List Int} {a f m : Nat} {i : Int} (h0 : 0 ≤ i) (h1 : i < m) : rd (mixRow p a P f m) i = overP (rd p (a + i)) (rd P (f + i)) := by
  obtain ⟨j, rfl⟩ := Int.eq_ofNat_of_zero_le h0
  rw [rd_nat' (by rw [mixRow_len]; omega)]
  simp [mixRow]
theorem rd_cut {P : List Int} {o m : Nat} {i : Int} (h0 : 0 ≤ i) (h1 : i < m) (h2 : o + m ≤ P.length) : rd ((P.drop o).take m) i = rd P (o + i) := by
  obtain ⟨j, rfl⟩ := Int.eq_ofNat_of_zero_le h0
  rw [rd_nat' (by rw [List.length_take, List.length_drop]; omega), show (o : Int) + (j : Nat) = ((o + j : Nat) : Int) by omega, rd_nat' (by omega), List.getElem_take, List.getElem_drop]
/-- What a part makes of a pixel. -/
def partP (keep : Bool) (p q : Int) : Int := if keep then q else overP p q
theorem rd_drawRows {W H X Y pw ph x y : Int} {p P : List Int} (keep : Bool) (hW : sideOk W) (hl : (p.length : Int) = W * H) (hX : 0 ≤ X) (hY : 0 ≤ Y) (hpw : 1 ≤ pw) (hXW : X + pw ≤ W) (hYH : Y + ph ≤ H) (hP : (P.length : Int) = pw * ph)
    (hx : 0 ≤ x) (hxW : x < W) (hy : 0 ≤ y) (hyH : y < H) (n : Nat) (hn : n ≤ ph) :
    rd (drawRows W p X Y pw keep P n) (y * W + x) = if inR X Y pw n x y then partP keep (rd p (y * W + x)) (rd P ((y - Y) * pw + (x - X))) else rd p (y * W + x) := by
  induction n with
  | zero =>
    rw [if_neg (by unfold inR; omega)]
    rfl
  | succ n ih =>
    have ih := ih (by omega)
    have hlen := drawRows_len hW hl hX hY hpw hXW hYH keep P hP n (by omega)
    have hfit := drawRow_fit (ph := ph) hW hl hX hY hpw hXW hYH n (by omega)
    have hf := fit_row (W := W) (H := H) (X := X) (Y := Y) (pw := pw) (y := n) hW hX (by omega) (by omega) (by omega) hXW
    have hr : ((rowAt W X Y n : Nat) : Int) = (Y + n) * W + X := Int.toNat_of_nonneg hf.1
    have hpl := part_row_len hP hpw n (by omega)
    rw [drawRows, drawRow]
    have hys : (if keep then (P.drop (n * pw.toNat)).take pw.toNat else mixRow (drawRows W p X Y pw keep P n) (rowAt W X Y n) P (n * pw.toNat) pw.toNat).length = pw.toNat := by
      cases keep
      · exact mixRow_len _ _ _ _ _
      · exact hpl
    rw [rd_lay_row (ph := ph) hW (by rw [hlen]; exact hl) hX hY hpw hXW hYH (by omega) hys hx hxW hy hyH, ih]
    by_cases c1 : y = Y + n ∧ X ≤ x ∧ x < X + pw
    · rw [if_pos c1, if_pos (show inR X Y pw ((n + 1 : Nat) : Int) x y by unfold inR; omega)]
      have ho : ((n * pw.toNat : Nat) : Int) = n * pw := by rw [Int.natCast_mul, Int.toNat_of_nonneg (by omega)]
      have hfrom : (y - Y) * pw + (x - X) = ((n * pw.toNat : Nat) : Int) + (x - X) := by rw [ho, show y - Y = n by omega]
      have hcell : rd (drawRows W p X Y pw keep P n) (((rowAt W X Y n : Nat) : Int) + (x - X)) = rd p (y * W + x) := by
        have e : ((rowAt W X Y n : Nat) : Int) + (x - X) = y * W + x := by rw [hr, c1.1]; omega
        rw [e, ih, if_neg (by unfold inR; omega)]
      cases keep
      · simp only [partP, Bool.false_eq_true, if_false]
        rw [rd_mixRow (by omega) (by omega), hcell, hfrom]
      · simp only [partP, if_true]
        rw [rd_cut (by omega) (by omega) (by rw [List.length_take, List.length_drop] at hpl; omega), hfrom]
    · rw [if_neg c1]
      by_cases c2 : inR X Y pw n x y
      · rw [if_pos c2, if_pos (by unfold inR at *; omega)]
      · rw [if_neg c2, if_neg (by unfold inR at *; omega)]

/-! ### a pixel, part by part -/
def insP (p : S47) (x y : Int) : Prop := inR p.f0 p.f1 p.f4.f0 p.f4.f1 x y
instance (p : S47) (x y : Int) : Decidable (insP p x y) := by unfold insP; infer_instance
def goneP (l : List S47) (x y : Int) : Nat → Int → Int
  | 0, v => v
  | n + 1, v => if (rd_T47 l n).f3 = true ∧ insP (rd_T47 l n) x y then 0 else v
def drawP (p : S47) (x y v : Int) : Int := if insP p x y then partP p.f2 v (rd p.f4.f2 ((y - p.f1) * p.f4.f0 + (x - p.f0))) else v
def pixN (l : List S47) (x y : Int) : Nat → Int
  | 0 => 0
  | n + 1 => drawP (rd_T47 l n) x y (goneP l x y n (pixN l x y n))
/-- What is to go behind the first n parts. -/
theorem come_last {W H : Int} {l : List S47} (n : Nat) : (comeF W H l (n + 1)).lx = (if (rd_T47 l n).f3 then (rd_T47 l n).f0 else 0) ∧ (comeF W H l (n + 1)).ly = (if (rd_T47 l n).f3 then (rd_T47 l n).f1 else 0) ∧
    (comeF W H l (n + 1)).lw = (if (rd_T47 l n).f3 then (rd_T47 l n).f4.f0 else 0) ∧ (comeF W H l (n + 1)).lh = (if (rd_T47 l n).f3 then (rd_T47 l n).f4.f1 else 0) := ⟨rfl, rfl, rfl, rfl⟩
theorem rd_come {W H : Int} {l : List S47} (hW : sideOk W) (hH : sideOk H) (hu : ∀ i : Nat, i < l.length → partU (rd_T47 l i)) {x y : Int} (hx : 0 ≤ x) (hxW : x < W) (hy : 0 ≤ y) (hyH : y < H) (n : Nat) (hn : n ≤ l.length) (ha : allIn W H l n) :
    rd (comeF W H l n).pix (y * W + x) = pixN l x y n := by
  induction n with
  | zero =>
    have := at_in hx hxW hy hyH
    show rd (List.replicate (W * H).toNat 0) _ = 0
    exact rd_replicate this.1 (by omega)
  | succ n ih =>
    have ih := ih (by omega) fun i hi => ha i (by omega)
    have ok := comeF_ok hW hH hu n (by omega) fun i hi => ha i (by omega)
    have hp := ha n (by omega)
    have hc : rd (clearRows W (comeF W H l n).pix (comeF W H l n).lx (comeF W H l n).ly (comeF W H l n).lw (comeF W H l n).lh.toNat) (y * W + x) = goneP l x y n (pixN l x y n) := by
      cases n with
      | zero => exact ih
      | succ n =>
        obtain ⟨e1, e2, e3, e4⟩ := come_last (W := W) (H := H) (l := l) n
        have hq := ha n (by omega)
        obtain ⟨⟨⟨a1, a2⟩, ⟨a3, a4⟩, a5⟩, a6, a7, a8, a9⟩ := hq
        have hlen := ok.1
        rw [e1, e2, e3, e4]
        rw [goneP]
        cases hd : (rd_T47 l n).f3
        · rw [if_neg (fun hh : false = true ∧ _ => absurd hh.1 (by decide))]
          exact ih
        · simp only [if_true, true_and]
          have h0 : 0 ≤ (rd_T47 l n).f4.f1 := by clear ih hlen; omega
          rw [rd_clearRows (ph := (rd_T47 l n).f4.f1) hW hlen a6 a7 a1 (by clear ih hlen; omega) (by clear ih hlen; omega) hx hxW hy hyH _ (by rw [Int.toNat_of_nonneg h0]; exact Int.le_refl _), Int.toNat_of_nonneg h0, ih]
          rfl
    have hcl : ((clearRows W (comeF W H l n).pix (comeF W H l n).lx (comeF W H l n).ly (comeF W H l n).lw (comeF W H l n).lh.toNat).length : Int) = W * H := by
      rw [← ok.1]
      rcases ok.2.1 with h0 | h0
      · rw [h0]; rfl
      · rw [clearRows_len hW ok.1 h0.1 h0.2.1 h0.2.2.1 h0.2.2.2.1 h0.2.2.2.2.2 _ (by have := h0.2.2.2.2.1; clear h0 ih; omega)]
    obtain ⟨⟨⟨a1, a2⟩, ⟨a3, a4⟩, a5⟩, a6, a7, a8, a9⟩ := hp
    have h0 : 0 ≤ (rd_T47 l n).f4.f1 := by clear ih hcl hc; omega
    show rd (drawRows W _ _ _ _ _ _ _) _ = _
    rw [rd_drawRows (ph := (rd_T47 l n).f4.f1) _ hW hcl a6 a7 a1 (by clear ih hcl hc; omega) (by clear ih hcl hc; omega) a5 hx hxW hy hyH _ (by rw [Int.toNat_of_nonneg h0]; exact Int.le_refl _), Int.toNat_of_nonneg h0, hc]
    rfl
theorem pixN_out {l : List S47} {x y : Int} (n : Nat) (h : ∀ i : Nat, i < n → ¬ insP (rd_T47 l i) x y) : pixN l x y n = 0 := by
  induction n with
  | zero => rfl
  | succ n ih =>
    rw [pixN, drawP, if_neg (h n (by omega)), ih fun i hi => h i (by omega)]
    cases n with
    | zero => rfl
    | succ n => rw [goneP, if_neg (fun hh => h n (by omega) hh.2)]
theorem pixN_U32 {l : List S47} {W H x y : Int} (hu : ∀ i : Nat, i < l.length → partU (rd_T47 l i)) (n : Nat) (hn : n ≤ l.length) (ha : allIn W H l n) : U32 (pixN l x y n) := by
  have z : U32 0 := by unfold U32; omega
  induction n with
  | zero => exact z
  | succ n ih =>
    have ih := ih (by omega) fun i hi => ha i (by omega)
    have hg : U32 (goneP l x y n (pixN l x y n)) := by
      cases n with
      | zero => exact ih
      | succ n => rw [goneP]; split <;> assumption
    unfold pixN drawP
    split
    case isFalse => exact hg
    case isTrue hin =>
      unfold partP
      split
      · obtain ⟨⟨⟨a1, a2⟩, ⟨a3, a4⟩, a5⟩, a6, a7, a8, a9⟩ := ha n (by omega)
        obtain ⟨b1, b2, b3, b4⟩ := hin
        have hi := at_in (W := (rd_T47 l n).f4.f0) (H := (rd_T47 l n).f4.f1) (x := x - (rd_T47 l n).f0) (y := y - (rd_T47 l n).f1) (by omega) (by omega) (by omega) (by omega)
        exact hu n (by omega) _ (rd_mem hi.1 (by rw [a5]; exact hi.2))
      · exact overP_U32 _ _
end Go.Proofs.Ytegifkffhnhccaa.P
