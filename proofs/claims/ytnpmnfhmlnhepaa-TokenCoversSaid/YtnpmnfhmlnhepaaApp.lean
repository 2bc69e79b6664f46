/- Elements of any kind appended to a row of one's own. -/
import Derived.Test.YtnpmnfhmlnhepaaProg
import Derived.Below
import Derived.Deep.Draws
import Derived.Deep.AppendLies
import Derived.Maps.AppendAt
import Derived.OwnWalk
import Derived.Laws.BytesArg
import Derived.Laws.MakeOwn
import Derived.Laws.OwnMore
import Derived.Deep.OwnRows
import Derived.Tactics
import Derived.Lib.ConvBytes
import Derived.Laws.Slices
import Derived.WalkKit
import Derived.KernelRfl
import Derived.RowKit3
import Derived.Deep.LoopGhost
import Derived.Deep.QuietTactic
import Derived.BigQuiet
import Derived.WideLaws
import Derived.Deep.DeepCutAuto
import Derived.Deep.CutBlock
import Derived.Deep.RegionHeld3
import Derived.Laws.Rows
import Derived.Lib.AppendStr
import Derived.ArgAppend
import Derived.Laws.IdiomCopy
import Derived.OrdersHeld
import Derived.Laws.BitsLemmas
import Derived.RowKit
import Derived.LoopN
import Derived.Handy
import Derived.Lib.Hide
import Derived.StillTailTactics
import Derived.Deep.RegionLaw
import Derived.Deep.RegionWith
import Derived.Test.YtnpmnfhmlnhepaaWWords
import Derived.Test.YtnpmnfhmlnhepaaWLast
import Derived.Test.YtnpmnfhmlnhepaaWTab
import Derived.Test.YtnpmnfhmlnhepaaWFour
import Derived.Test.YtnpmnfhmlnhepaaWQPut
import Derived.Test.YtnpmnfhmlnhepaaWApart
import Derived.Test.YtnpmnfhmlnhepaaWArr
import Derived.Test.YtnpmnfhmlnhepaaWZeros
import Derived.Test.YtnpmnfhmlnhepaaWFoot
import Derived.Test.YtnpmnfhmlnhepaaWKept
import Derived.Test.YtnpmnfhmlnhepaaWShare
import Derived.Test.YtnpmnfhmlnhepaaWN
import Derived.Test.YtnpmnfhmlnhepaaWFootNe
import Derived.Test.YtnpmnfhmlnhepaaWAt
import Derived.Test.YtnpmnfhmlnhepaaWEqStruct
import Derived.Test.YtnpmnfhmlnhepaaWRepsOne
import Derived.Test.YtnpmnfhmlnhepaaWInv
import Derived.Test.YtnpmnfhmlnhepaaWInvWords
import Derived.Test.YtnpmnfhmlnhepaaWGuard
import Derived.Test.YtnpmnfhmlnhepaaWNEv
import Derived.Test.YtnpmnfhmlnhepaaWMore
import Derived.Test.YtnpmnfhmlnhepaaSl
import Derived.Maps.AppendAt
import Derived.Laws.OwnMore
namespace Go.Proofs.Ytnpmnfhmlnhepaa.P
open Go Go.RowKit Go.Proofs.YtnpmnfhmlnhepaaW.PrintWords Go.Proofs.YtnpmnfhmlnhepaaW.PrintLast Go.Proofs.YtnpmnfhmlnhepaaW.PrintMore
set_option linter.unusedVariables false
set_option linter.unusedSimpArgs false
open Asrt
/-- A row of cells that is read: n elements of size cells each. -/
def ReadsCells (w : World) (size : Nat) (A : Option Addr) (n : Nat) (xs : List Value) : Prop :=
  xs.length = n * size ∧ (∀ u ∈ xs, u.oneCell' = true) ∧ (0 < n → ∃ ad, A = some ad ∧ ∀ j u, xs[j]? = some u → w.cell? (ad.add j) = some u)
theorem ReadsCells.below {w w1 : World} {size : Nat} {A : Option Addr} {n : Nat} {xs : List Value} (h : ReadsCells w size A n xs) (hb : Below w.heap.size w w1) : ReadsCells w1 size A n xs := by
  refine ⟨h.1, h.2.1, fun hn => ?_⟩
  obtain ⟨ad, rfl, hc⟩ := h.2.2 hn
  exact ⟨ad, rfl, fun j u hu => (hb.cell (World.block_lt_of_cell? w _ (hc j u hu))).trans (hc j u hu)⟩
section
variable {P : Program} {w0 W : World} {R : Asrt}
theorem run_append_cells (t ty e : TypeId) (z : Value) (size bytes : Nat)
    (ht : P.underlying t = some (.slice e)) (hinfo : (P.info? e).map (fun i => (i.zero, i.size, i.bytes)) = some (some z, size, bytes)) (hz : z.cells.size = size) (hs0 : 0 < size) (hb0 : 0 < bytes)
    (v : Value) (n : Nat) (xs ys : List Value) (A : Option Addr) (m c : Nat)
    (HS : St w0 W (Asrt.row e size v n xs * R)) (HR : ReadsCells W size A m ys) (hl : (n + m) * bytes ≤ 140737488355328) :
    ∃ A1 c1 w1, (Builtin.append_ #[t, t] ty #[v, .slice A m c]).run P W = .ok (.slice A1 (n + m) c1) w1 ∧ St w0 w1 (Asrt.row e size (.slice A1 (n + m) c1) (n + m) (xs ++ ys) * R) := by
  obtain ⟨i0, hi, hzz⟩ := Option.map_eq_some_iff.1 hinfo
  simp only [Prod.mk.injEq] at hzz
  obtain ⟨hz0, hz1, hz2⟩ := hzz
  have hown := own_zero HS.row
  have hlen : n + m ≤ 140737488355328 := Nat.le_trans (Nat.le_mul_of_pos_right _ hb0) hl
  have h63 : n + m ≤ maxLen := by simp only [maxLen]; omega
  rcases A with _ | ad
  · have h0 : m = 0 := by
      rcases Nat.eq_zero_or_pos m with h0 | h0
      · exact h0
      · obtain ⟨ad, h, _⟩ := HR.2.2 h0
        cases h
    subst h0
    obtain rfl : ys = [] := List.eq_nil_of_length_eq_zero (by simpa using HR.1)
    rcases hown.2 with ⟨rfl, hn⟩ | ⟨g, cap, cur, rfl, _, _, hnc, _⟩
    · subst hn
      exact ⟨none, 0, W, by simp [Builtin.append_, run_underlying ht, sizeOf, typeInfo, hi, Builtin.lenOf, Builtin.firstCells], by simpa using HS⟩
    · exact ⟨some ⟨g, 0, none⟩, cap, W, by simp [Builtin.append_, run_underlying ht, sizeOf, typeInfo, hi, Builtin.lenOf, Builtin.firstCells, hnc, storeCells], by simpa using HS⟩
  · have hcells : ∀ j u, ys[j]? = some u → W.cell? (ad.add j) = some u := by
      intro j u hu
      rcases Nat.eq_zero_or_pos m with h0 | h0
      · obtain rfl : ys = [] := List.eq_nil_of_length_eq_zero (by rw [HR.1, h0, Nat.zero_mul])
        simp at hu
      · obtain ⟨ad', h, hc⟩ := HR.2.2 h0
        injection h with h
        subst h
        exact hc j u hu
    obtain ⟨v', w', hr, h2, h3, _, h4⟩ := run_append_own_at (P := P) W 0 t ty e i0 z size bytes ht hi hz0 hz1 hz2 hz hs0 v n xs hown ad m c ys HR.1 hcells HR.2.1 h63 hl (Nat.zero_le _)
    obtain ⟨A1, c1, rfl⟩ := own_slice h2
    exact ⟨A1, c1, w', hr, HS.grown h3 h2 (h4.imp id fun e => ⟨_, e, Nat.le_refl _⟩)⟩
variable {ops : Array Oper} {rest : List Oper} {o : Oper} {a : Act} {Q : Exit → Act → World → Prop} {Kc : Act → World → Prop}
/-- 'append(xs, ys...)' to a row of one's own, elements of any kind. -/
theorem St.append_cells (hgd : o.guard = none) (s x : Operand) (t e : TypeId) (z : Value) (size bytes : Nat)
    (ho : o.op = .call { callee := .builtin .append, args := #[s, x], argTypes := #[t, t] })
    (ht : P.underlying t = some (.slice e)) (hinfo : (P.info? e).map (fun i => (i.zero, i.size, i.bytes)) = some (some z, size, bytes)) (hz : z.cells.size = size) (hs0 : 0 < size) (hb0 : 0 < bytes)
    (v : Value) (n : Nat) (xs ys : List Value) (A : Option Addr) (m c : Nat) (hs : a.eval s = v) (hx : a.eval x = .slice A m c)
    (HS : St w0 W (Asrt.row e size v n xs * R)) (HR : ReadsCells W size A m ys) (hl : (n + m) * bytes ≤ 140737488355328)
    (h : ∀ A1 c1 w1, St w0 w1 (Asrt.row e size (.slice A1 (n + m) c1) (n + m) (xs ++ ys) * R) → wpList P ops Q rest (a.put o.dst (.slice A1 (n + m) c1)) w1) :
    wpList P ops Q (o :: rest) a W := by
  obtain ⟨A1, c1, w1, hr, h1⟩ := run_append_cells (P := P) t o.type e z size bytes ht hinfo hz hs0 hb0 v n xs ys A m c HS HR hl
  refine wpList_plain hgd fun K hK => ?_
  unfold Oper.wp execOp
  simp only [ho, resolve, invoke, builtin, Sem.run_bind, Sem.run_pure, Result.andThen_ok, List.map_toArray, List.map_cons, List.map_nil, hs, hx, hr]
  exact hK _ _ (h A1 c1 w1 h1)
/-- The same as one step of a region that draws. -/
theorem St.append_cells_step (hw : Region.wanted o (yielded ops a.tmps) = true) (s x : Operand) (t e : TypeId) (z : Value) (size bytes : Nat)
    (ho : o.op = .call { callee := .builtin .append, args := #[s, x], argTypes := #[t, t] })
    (ht : P.underlying t = some (.slice e)) (hinfo : (P.info? e).map (fun i => (i.zero, i.size, i.bytes)) = some (some z, size, bytes)) (hz : z.cells.size = size) (hs0 : 0 < size) (hb0 : 0 < bytes)
    (v : Value) (n : Nat) (xs ys : List Value) (A : Option Addr) (m c : Nat) (hs : a.eval s = v) (hx : a.eval x = .slice A m c)
    (HS : St w0 W (Asrt.row e size v n xs * R)) (HR : ReadsCells W size A m ys) (hl : (n + m) * bytes ≤ 140737488355328)
    (h : ∀ A1 c1 w1, St w0 w1 (Asrt.row e size (.slice A1 (n + m) c1) (n + m) (xs ++ ys) * R) → Kc (a.put o.dst (.slice A1 (n + m) c1)) w1) :
    if Region.wanted o (yielded ops a.tmps) = true then Oper.wp P o a W Kc Q else Kc (a.put o.dst undef) W := by
  obtain ⟨A1, c1, w1, hr, h1⟩ := run_append_cells (P := P) t o.type e z size bytes ht hinfo hz hs0 hb0 v n xs ys A m c HS HR hl
  refine event_step hw (v := .slice A1 (n + m) c1) (w1 := w1) ?_ (h A1 c1 w1 h1)
  unfold execOp
  simp only [ho, resolve, invoke, builtin, Sem.run_bind, Sem.run_pure, Result.andThen_ok, List.map_toArray, List.map_cons, List.map_nil, hs, hx, hr]
end
/-- What stands in a row of one's own is read. -/
theorem rowReadsC {w0 w : World} {r : Asrt} {e : TypeId} {size n c : Nat} {B : Option Addr} {xs : List Value} (h : St w0 w (Asrt.row e size (.slice B n c) n xs * r)) (h1 : ∀ u ∈ xs, u.oneCell' = true) : ReadsCells w size B n xs := by
  refine ⟨h.row.1, h1, fun hn => ?_⟩
  obtain ⟨g, rfl⟩ := h.rowForm hn
  exact ⟨_, rfl, h.row.cells (g := g) rfl⟩
/-- A literal row of cells. -/
theorem St.allocCells {w0 w : World} {A : Asrt} (h : St w0 w A) (e : TypeId) (size n : Nat) (xs : List Value) (hx : xs.length = n * size) (hm : n ≤ 9223372036854775807) : St w0 (w.alloc (.cells xs.toArray e)) (Asrt.row e size (.slice (some ⟨w.heap.size, 0, none⟩) n n) n xs * A) := by
  refine h.newRow (base := w.heap.size) (below_alloc (Below.refl _ _) _) ⟨hx, .inr ⟨w.heap.size, n, xs.toArray, rfl, Nat.le_refl _, heap_alloc_new w _, Nat.le_refl _, by simp only [maxLen]; omega, by simp [hx], by rw [← hx]; simp⟩⟩ (Nat.le_refl _)
/-! ### elements and their cells -/
section
variable {α : Type} {d : Kd α} {w w1 : World}
/-- The cells of elements, one behind the other. -/
def KL (d : Kd α) (w : World) : List α → List Value → Prop
  | [], xs => xs = []
  | p :: l, xs => ∃ cs r, xs = cs ++ r ∧ cs.length = d.sz ∧ d.K w p cs ∧ KL d w l r
theorem KL_app : ∀ {l l' : List α} {xs xs' : List Value}, KL d w l xs → KL d w l' xs' → KL d w (l ++ l') (xs ++ xs')
  | [], _, _, _, h, h' => by obtain rfl : _ = [] := h; exact h'
  | p :: l, l', xs, xs', h, h' => by
    obtain ⟨cs, r, rfl, h1, h2, h3⟩ := h
    exact ⟨cs, r ++ xs', by rw [List.append_assoc], h1, h2, KL_app h3 h'⟩
theorem KL_below (hb : Below w.heap.size w w1) : ∀ {l : List α} {xs : List Value}, KL d w l xs → KL d w1 l xs
  | [], _, h => h
  | p :: l, _, h => by
    obtain ⟨cs, r, rfl, h1, h2, h3⟩ := h
    exact ⟨cs, r, rfl, h1, d.K_below hb h2, KL_below hb h3⟩
theorem KL_one : ∀ {l : List α} {xs : List Value}, KL d w l xs → ∀ u ∈ xs, u.oneCell' = true
  | [], _, h => by obtain rfl : _ = [] := h; intro u hu; cases hu
  | p :: l, _, h => by
    obtain ⟨cs, r, rfl, h1, h2, h3⟩ := h
    intro u hu
    rcases List.mem_append.1 hu with hu | hu
    · exact d.K_one h2 u hu
    · exact KL_one h3 u hu
theorem KL_len : ∀ {l : List α} {xs : List Value}, KL d w l xs → xs.length = l.length * d.sz
  | [], _, h => by obtain rfl : _ = [] := h; simp
  | p :: l, _, h => by
    obtain ⟨cs, r, rfl, h1, h2, h3⟩ := h
    rw [List.length_append, h1, KL_len h3, List.length_cons, Nat.add_mul, Nat.one_mul, Nat.add_comm]
theorem KL_get : ∀ {l : List α} {xs : List Value}, KL d w l xs → ∀ (j : Nat) (p : α), l[j]? = some p → ∃ cs, cs.length = d.sz ∧ d.K w p cs ∧ ∀ i u, cs[i]? = some u → xs[j * d.sz + i]? = some u
  | [], _, h, j, p, hp => by simp at hp
  | q :: l, _, h, j, p, hp => by
    obtain ⟨cs, r, rfl, h1, h2, h3⟩ := h
    cases j with
    | zero =>
      obtain rfl : q = p := by simpa using hp
      refine ⟨cs, h1, h2, fun i u hu => ?_⟩
      have hi : i < cs.length := (List.getElem?_eq_some_iff.1 hu).1
      rw [Nat.zero_mul, Nat.zero_add, List.getElem?_append_left hi]
      exact hu
    | succ j =>
      obtain ⟨cs', g1, g2, g3⟩ := KL_get h3 j p (by simpa using hp)
      refine ⟨cs', g1, g2, fun i u hu => ?_⟩
      rw [List.getElem?_append_right (by rw [h1, Nat.add_mul]; omega)]
      have e : (j + 1) * d.sz + i - cs.length = j * d.sz + i := by rw [h1, Nat.add_mul]; omega
      rw [e]
      exact g3 i u hu
theorem C_of_KL {A : Option Addr} {n : Nat} {l : List α} {xs : List Value} (hk : KL d w l xs) (hn : l.length = n) (hm : n ≤ 9223372036854775807) (hr : ReadsCells w d.sz A n xs) : d.C w A n l := by
  refine ⟨hn, hm, fun h0 => ?_⟩
  obtain ⟨ad, rfl, hc⟩ := hr.2.2 h0
  refine ⟨ad, rfl, fun j p hp => ?_⟩
  obtain ⟨cs, g1, g2, g3⟩ := KL_get hk j p hp
  exact ⟨cs, g1, g2, fun i u hu => hc _ u (g3 i u hu)⟩
theorem KL_of : ∀ (l : List α) (f : Nat → Nat → Option Value), (∀ j p, l[j]? = some p → ∃ c, c.length = d.sz ∧ d.K w p c ∧ ∀ i u, c[i]? = some u → f j i = some u) →
    ∃ xs, KL d w l xs ∧ ∀ j i u, j < l.length → i < d.sz → xs[j * d.sz + i]? = some u → f j i = some u
  | [], f, _ => ⟨[], rfl, fun j i u hj => absurd hj (Nat.not_lt_zero _)⟩
  | p :: l, f, h => by
    obtain ⟨cs, h1, h2, h3⟩ := h 0 p rfl
    obtain ⟨xs, g1, g2⟩ := KL_of l (fun j i => f (j + 1) i) fun j q hq => h (j + 1) q (by simpa using hq)
    refine ⟨cs ++ xs, ⟨cs, xs, rfl, h1, h2, g1⟩, fun j i u hj hi hu => ?_⟩
    cases j with
    | zero =>
      rw [Nat.zero_mul, Nat.zero_add, List.getElem?_append_left (by omega)] at hu
      exact h3 i u hu
    | succ j =>
      rw [List.getElem?_append_right (by rw [h1, Nat.add_mul]; omega)] at hu
      have e : (j + 1) * d.sz + i - cs.length = j * d.sz + i := by rw [h1, Nat.add_mul]; omega
      rw [e] at hu
      exact g2 j i u (by simpa using hj) hi hu
/-- A row of elements that is read, as cells. -/
theorem C_cells {A : Option Addr} {n : Nat} {l : List α} (h : d.C w A n l) (hs : 0 < d.sz) : ∃ xs, KL d w l xs ∧ ReadsCells w d.sz A n xs := by
  obtain ⟨h1, h2, h3⟩ := h
  rcases Nat.eq_zero_or_pos n with h0 | h0
  · obtain rfl : l = [] := List.eq_nil_of_length_eq_zero (by omega)
    exact ⟨[], rfl, by simp [h0], by simp, fun hh => absurd hh (by omega)⟩
  · obtain ⟨ad, rfl, hc⟩ := h3 h0
    obtain ⟨xs, g1, g2⟩ := KL_of (d := d) (w := w) l (fun j i => w.cell? (ad.add (j * d.sz + i))) hc
    refine ⟨xs, g1, by rw [KL_len g1, h1], KL_one g1, fun _ => ⟨ad, rfl, fun k u hu => ?_⟩⟩
    have hk : k < xs.length := (List.getElem?_eq_some_iff.1 hu).1
    rw [KL_len g1] at hk
    have e : k / d.sz * d.sz + k % d.sz = k := Nat.div_add_mod' _ _
    have := g2 (k / d.sz) (k % d.sz) u (Nat.div_lt_of_lt_mul (by rw [Nat.mul_comm]; exact hk)) (Nat.mod_lt _ hs) (by rw [e]; exact hu)
    rw [e] at this
    exact this
end
end Go.Proofs.Ytnpmnfhmlnhepaa.P
