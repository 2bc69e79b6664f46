/- Objects of a call's own in memory, side by side: what is said of each, and what becomes of all where one is changed. -/
import Derived.Test.YtnpmnfhmlnhepaaProg
import Derived.Below
import Derived.Deep.Draws
import Derived.Deep.AppendLies
import Derived.Maps.AppendAt
import Derived.OwnWalk
import Derived.Laws.BytesArg
import Derived.Laws.MakeOwn
import Derived.Laws.OwnMore
import Derived.Deep.OwnRows
import Derived.Tactics
import Derived.Lib.ConvBytes
import Derived.Laws.Slices
import Derived.WalkKit
import Derived.KernelRfl
import Derived.RowKit3
import Derived.Deep.LoopGhost
import Derived.Deep.QuietTactic
import Derived.BigQuiet
import Derived.WideLaws
import Derived.Deep.DeepCutAuto
import Derived.Deep.CutBlock
import Derived.Deep.RegionHeld3
import Derived.Laws.Rows
import Derived.Lib.AppendStr
import Derived.ArgAppend
import Derived.Laws.IdiomCopy
import Derived.OrdersHeld
import Derived.Laws.BitsLemmas
import Derived.RowKit
import Derived.LoopN
import Derived.Handy
import Derived.Lib.Hide
import Derived.StillTailTactics
import Derived.Deep.RegionLaw
import Derived.Deep.RegionWith
import Derived.Test.YtnpmnfhmlnhepaaWWords
import Derived.Test.YtnpmnfhmlnhepaaWLast
import Derived.Test.YtnpmnfhmlnhepaaWTab
import Derived.Test.YtnpmnfhmlnhepaaWFour
import Derived.Test.YtnpmnfhmlnhepaaWQPut
import Derived.Test.YtnpmnfhmlnhepaaWApart
import Derived.Test.YtnpmnfhmlnhepaaWArr
import Derived.Test.YtnpmnfhmlnhepaaWZeros
import Derived.Test.YtnpmnfhmlnhepaaWFoot
import Derived.Test.YtnpmnfhmlnhepaaWKept
import Derived.Test.YtnpmnfhmlnhepaaWShare
import Derived.Test.YtnpmnfhmlnhepaaWN
import Derived.Test.YtnpmnfhmlnhepaaWFootNe
import Derived.Test.YtnpmnfhmlnhepaaWAt
import Derived.Test.YtnpmnfhmlnhepaaWEqStruct
import Derived.Test.YtnpmnfhmlnhepaaWRepsOne
import Derived.Test.YtnpmnfhmlnhepaaWInv
import Derived.Test.YtnpmnfhmlnhepaaWInvWords
import Derived.Test.YtnpmnfhmlnhepaaWGuard
import Derived.Test.YtnpmnfhmlnhepaaWNEv
import Derived.Test.YtnpmnfhmlnhepaaWMore
namespace Go.Proofs.Ytnpmnfhmlnhepaa.P
open Go Go.RowKit Go.Proofs.YtnpmnfhmlnhepaaW.PrintWords Go.Proofs.YtnpmnfhmlnhepaaW.PrintLast Go.Proofs.YtnpmnfhmlnhepaaW.PrintMore
set_option linter.unusedVariables false
set_option linter.unusedSimpArgs false

/-- What is said of some blocks F of a world. -/
structure Asrt where
  holds : World → (Nat → Prop) → Prop
  loc : ∀ {w w' : World} {F : Nat → Prop}, holds w F → (∀ k, F k → w'.heap[k]? = w.heap[k]?) → holds w' F
  lt : ∀ {w : World} {F : Nat → Prop} {k : Nat}, holds w F → F k → k < w.heap.size

namespace Asrt
def emp : Asrt := ⟨fun _ F => ∀ k, ¬ F k, fun h _ => h, fun h hk => absurd hk (h _)⟩
def star (a b : Asrt) : Asrt where
  holds w F := ∃ G H : Nat → Prop, a.holds w G ∧ b.holds w H ∧ (∀ k, G k → ¬ H k) ∧ (∀ k, F k ↔ (G k ∨ H k))
  loc := by
    rintro w w' F ⟨G, H, ha, hb, hd, hF⟩ hm
    exact ⟨G, H, a.loc ha (fun k hk => hm k ((hF k).2 (.inl hk))), b.loc hb (fun k hk => hm k ((hF k).2 (.inr hk))), hd, hF⟩
  lt := by
    rintro w F k ⟨G, H, ha, hb, hd, hF⟩ hk
    rcases (hF k).1 hk with h | h
    · exact a.lt ha h
    · exact b.lt hb h
instance : Mul Asrt := ⟨star⟩
/-- A block, known whole. -/
def blk (g : Nat) (t : TypeId) (cs : Array Value) : Asrt where
  holds w F := w.heap[g]? = some (.cells cs t (0, 0)) ∧ ∀ k, F k ↔ k = g
  loc := fun ⟨h, hF⟩ hm => ⟨(hm g ((hF g).2 rfl)).trans h, hF⟩
  lt := fun ⟨h, hF⟩ hk => by rw [(hF _).1 hk]; exact blk_lt h
/-- A row of the call's own: its slice is v. -/
def row (e : TypeId) (size : Nat) (v : Value) (n : Nat) (xs : List Value) : Asrt where
  holds w F := w.ownsRow 0 e size v n xs ∧ ∀ k, F k ↔ v.ownBlock = some k
  loc := fun ⟨h, hF⟩ hm => ⟨own_move h (fun k hk => hm k ((hF k).2 hk)), hF⟩
  lt := fun ⟨h, hF⟩ hk => own_lt h _ ((hF _).1 hk)
def ex {α : Type} (f : α → Asrt) : Asrt where
  holds w F := ∃ x, (f x).holds w F
  loc := fun ⟨x, h⟩ hm => ⟨x, (f x).loc h hm⟩
  lt := fun ⟨x, h⟩ hk => (f x).lt h hk
def lift (p : Prop) (a : Asrt) : Asrt where
  holds w F := p ∧ a.holds w F
  loc := fun ⟨x, h⟩ hm => ⟨x, a.loc h hm⟩
  lt := fun ⟨x, h⟩ hk => a.lt h hk
theorem mul_holds {a b : Asrt} {w : World} {F : Nat → Prop} : (a * b).holds w F ↔ ∃ G H : Nat → Prop, a.holds w G ∧ b.holds w H ∧ (∀ k, G k → ¬ H k) ∧ (∀ k, F k ↔ (G k ∨ H k)) := Iff.rfl
/-- a says b. -/
def le (a b : Asrt) : Prop := ∀ {w : World} {F : Nat → Prop}, a.holds w F → b.holds w F
theorem le_refl (a : Asrt) : a.le a := fun h => h
theorem le_trans {a b c : Asrt} (h : a.le b) (k : b.le c) : a.le c := fun x => k (h x)
theorem comm (a b : Asrt) : (a * b).le (b * a) := fun ⟨G, H, ha, hb, hd, hF⟩ => ⟨H, G, hb, ha, fun k h g => hd k g h, fun k => (hF k).trans Or.comm⟩
theorem assoc (a b c : Asrt) : ((a * b) * c).le (a * (b * c)) := by
  rintro w F ⟨G, H, ⟨G1, G2, ha, hb, hd1, hG⟩, hc, hd, hF⟩
  refine ⟨G1, fun k => G2 k ∨ H k, ha, ⟨G2, H, hb, hc, fun k h => hd k ((hG k).2 (.inr h)), fun k => Iff.rfl⟩, fun k h1 h2 => ?_, fun k => ?_⟩
  · rcases h2 with h2 | h2
    · exact hd1 k h1 h2
    · exact hd k ((hG k).2 (.inl h1)) h2
  · rw [hF k, hG k, or_assoc]
theorem mono_r {a b c : Asrt} (h : b.le c) : (a * b).le (a * c) := fun ⟨G, H, ha, hb, r⟩ => ⟨G, H, ha, h hb, r⟩
theorem mono_l {a b c : Asrt} (h : a.le b) : (a * c).le (b * c) := fun ⟨G, H, ha, hb, r⟩ => ⟨G, H, h ha, hb, r⟩
theorem assoc' (a b c : Asrt) : (a * (b * c)).le ((a * b) * c) := le_trans (comm _ _) (le_trans (mono_l (comm _ _)) (le_trans (assoc _ _ _) (le_trans (comm _ _) (mono_l (comm _ _)))))
theorem swap (a b c : Asrt) : (a * (b * c)).le (b * (a * c)) := le_trans (assoc' a b c) (le_trans (mono_l (comm a b)) (assoc b a c))
theorem emp_l (a : Asrt) : (emp * a).le a := by
  rintro w F ⟨G, H, hg, ha, _, hF⟩
  have e : F = H := funext fun k => propext ((hF k).trans ⟨fun h => h.resolve_left (hg k), .inr⟩)
  rw [e]
  exact ha
theorem emp_l' (a : Asrt) : a.le (emp * a) := fun ha => ⟨fun _ => False, _, fun _ h => h, ha, fun _ h => h.elim, fun k => ⟨.inr, fun h => h.elim False.elim id⟩⟩
theorem emp_r' (a : Asrt) : a.le (a * emp) := le_trans (emp_l' a) (comm _ _)
theorem emp_r (a : Asrt) : (a * emp).le a := le_trans (comm _ _) (emp_l a)
end Asrt
open Asrt

/-- Since w0 nothing of it has changed, and A holds of what is new since. -/
structure St (w0 w : World) (A : Asrt) : Prop where
  below : Below w0.heap.size w0 w
  own : ∃ F : Nat → Prop, A.holds w F ∧ ∀ k, F k → w0.heap.size ≤ k

/-- What a step does to blocks F, that are F' behind it. -/
structure Moves (w w' : World) (F F' : Nat → Prop) : Prop where
  os : w'.os = w.os
  tape : w'.tape = w.tape
  output : w'.output = w.output
  size : w.heap.size ≤ w'.heap.size
  keep : ∀ k, k < w.heap.size → ¬ F k → w'.heap[k]? = w.heap[k]?
  new : ∀ k, F' k → F k ∨ w.heap.size ≤ k

section
variable {w0 w w' : World} {a b c d e r A B : Asrt}
theorem St.refl (w : World) : St w w emp := ⟨Below.refl _ _, fun _ => False, fun _ h => h, fun _ h => h.elim⟩
theorem St.imp (h : St w0 w A) (k : A.le B) : St w0 w B := ⟨h.below, let ⟨F, hF, hb⟩ := h.own; ⟨F, k hF, hb⟩⟩
theorem St.size (h : St w0 w A) : w0.heap.size ≤ w.heap.size := h.below.size
theorem St.move (h : St w0 w (a * r)) (hm : ∀ F, a.holds w F → (∀ k, F k → w0.heap.size ≤ k) → ∃ F', b.holds w' F' ∧ Moves w w' F F') : St w0 w' (b * r) := by
  obtain ⟨hb, F, ⟨G, H, ha, hr, hd, hF⟩, hw⟩ := h
  obtain ⟨G', hb', m⟩ := hm G ha (fun k hk => hw k ((hF k).2 (.inl hk)))
  have hHlt : ∀ k, H k → k < w.heap.size := fun k hk => r.lt hr hk
  refine ⟨⟨m.os.trans hb.os, m.tape.trans hb.tape, m.output.trans hb.output, Nat.le_trans hb.size m.size, fun k hk => ?_⟩, fun k => G' k ∨ H k, ⟨G', H, hb', r.loc hr (fun k hk => m.keep k (hHlt k hk) (fun hg => hd k hg hk)), fun k hg hk => ?_, fun k => Iff.rfl⟩, fun k hk => ?_⟩
  · exact (m.keep k (Nat.lt_of_lt_of_le hk hb.size) (fun hg => by have := hw k ((hF k).2 (.inl hg)); omega)).trans (hb.block k hk)
  · rcases m.new k hg with h1 | h1
    · exact hd k h1 hk
    · have := hHlt k hk; omega
  · rcases hk with hk | hk
    · rcases m.new k hk with h1 | h1
      · exact hw k ((hF k).2 (.inl h1))
      · exact Nat.le_trans hb.size h1
    · exact hw k ((hF k).2 (.inr hk))
theorem St.belowR (h : St w0 w A) (k : Below w.heap.size w w') : St w0 w' A := by
  obtain ⟨hb, F, hA, hw⟩ := h
  exact ⟨below_then hb hb.size k, F, A.loc hA (fun i hi => k.block i (A.lt hA hi)), hw⟩
theorem St.drew (h : St w0 w A) : St w0 w.drew A := h.belowR (below_drew (Below.refl _ _))
theorem St.drewN (h : St w0 w A) (n : Nat) : St w0 (w.drewN n) A := h.belowR (pw_below_drewN (Below.refl _ _) n)
theorem St.alloc (h : St w0 w A) (cs : Array Value) (t : TypeId) : St w0 (w.alloc (.cells cs t)) (blk w.heap.size t cs * A) := by
  refine St.move (a := emp) (h.imp (emp_l' A)) fun F hF _ => ⟨fun k => k = w.heap.size, ⟨heap_alloc_new w _, fun _ => Iff.rfl⟩, rfl, rfl, rfl, ?_, fun k hk _ => Below.heap_alloc w _ k hk, fun k hk => .inr (by omega)⟩
  simp
theorem St.blk {g : Nat} {t : TypeId} {cs : Array Value} (h : St w0 w (blk g t cs * r)) : w.heap[g]? = some (.cells cs t (0, 0)) := by
  obtain ⟨hb, F, ⟨G, H, ha, hr, hd, hF⟩, hw⟩ := h
  exact ha.1
theorem St.blk_ge {g : Nat} {t : TypeId} {cs : Array Value} (h : St w0 w (Asrt.blk g t cs * r)) : w0.heap.size ≤ g := by
  obtain ⟨hb, F, ⟨G, H, ha, hr, hd, hF⟩, hw⟩ := h
  exact hw g ((hF g).2 (.inl ((ha.2 g).2 rfl)))
theorem St.blk_lt {g : Nat} {t : TypeId} {cs : Array Value} (h : St w0 w (Asrt.blk g t cs * r)) : g < w.heap.size := Go.Proofs.YtnpmnfhmlnhepaaW.PrintWords.blk_lt h.blk
theorem St.blk2 {g g' : Nat} {t t' : TypeId} {cs cs' : Array Value} (h : St w0 w (Asrt.blk g t cs * (Asrt.blk g' t' cs' * r))) : g ≠ g' := by
  obtain ⟨hb, F, ⟨G, H, ha, ⟨G2, H2, hb2, _, _, hH⟩, hd, hF⟩, hw⟩ := h
  rintro rfl
  exact hd g ((ha.2 g).2 rfl) ((hH g).2 (.inl ((hb2.2 g).2 rfl)))
theorem St.set {g : Nat} {t : TypeId} {cs : Array Value} (h : St w0 w (Asrt.blk g t cs * r)) (i : Nat) (u : Value) : St w0 (w.setCell ⟨g, i, none⟩ u) (Asrt.blk g t (cs.setIfInBounds i u) * r) :=
  h.move fun F hF _ => ⟨F, ⟨blk_set hF.1 i u, hF.2⟩, rfl, rfl, rfl, by simp [World.setCell], fun k _ hk => Below.heap_setCell w _ u k (fun e => hk ((hF.2 k).2 e)), fun _ hk => .inl hk⟩
theorem St.row {e : TypeId} {size : Nat} {v : Value} {n : Nat} {xs : List Value} (h : St w0 w (Asrt.row e size v n xs * r)) : w.ownsRow w0.heap.size e size v n xs := by
  obtain ⟨hb, F, ⟨G, H, ha, hr, hd, hF⟩, hw⟩ := h
  obtain ⟨h1, h2⟩ := ha.1
  refine ⟨h1, ?_⟩
  rcases h2 with h2 | ⟨g, cap, cur, rfl, hg, hh, r⟩
  · exact .inl h2
  · exact .inr ⟨g, cap, cur, rfl, hw g ((hF g).2 (.inl ((ha.2 g).2 (by simp [Value.ownBlock])))), hh, r⟩
theorem own_zero {e : TypeId} {size base : Nat} {v : Value} {n : Nat} {xs : List Value} (h : w.ownsRow base e size v n xs) : w.ownsRow 0 e size v n xs := own_less h (Nat.zero_le _)
/-- Behind an append to a row. -/
theorem St.grown {e : TypeId} {size base : Nat} {v v' : Value} {n n' : Nat} {xs xs' : List Value} (h : St w0 w (Asrt.row e size v n xs * r)) (hg : w.grownBy w' v.ownBlock) (ho : w'.ownsRow base e size v' n' xs') (hat : v'.ownBlock = v.ownBlock ∨ ∃ b, v'.ownBlock = some b ∧ w.heap.size ≤ b) : St w0 w' (Asrt.row e size v' n' xs' * r) :=
  h.move fun F hF _ => ⟨fun k => v'.ownBlock = some k, ⟨own_zero ho, fun _ => Iff.rfl⟩, hg.os, hg.tape, hg.output, hg.size, fun k hk hn => hg.block k hk (fun e => hn ((hF.2 k).2 e.symm)), fun k hk => by
    rcases hat with hat | ⟨b, hat, hle⟩
    · exact .inl ((hF.2 k).2 (hat ▸ hk))
    · rw [hat] at hk; injection hk with hk; exact .inr (by omega)⟩
theorem St.rowNil (h : St w0 w A) (e : TypeId) (size : Nat) : St w0 w (Asrt.row e size (.slice none 0 0) 0 [] * A) :=
  h.imp (le_trans (emp_l' A) (mono_l (a := emp) (b := Asrt.row e size (.slice none 0 0) 0 []) (fun {w F} hF => ⟨own_nil w 0 e size, fun k => ⟨fun hk => absurd hk (hF k), fun hk => by simp [Value.ownBlock] at hk⟩⟩)))
theorem St.ex {α : Type} {f : α → Asrt} (h : St w0 w (Asrt.ex f * r)) : ∃ x, St w0 w (f x * r) := by
  obtain ⟨hb, F, ⟨G, H, ⟨x, ha⟩, rr⟩, hw⟩ := h
  exact ⟨x, hb, F, ⟨G, H, ha, rr⟩, hw⟩
theorem St.toEx {α : Type} {f : α → Asrt} (x : α) (h : St w0 w (f x * r)) : St w0 w (Asrt.ex f * r) := h.imp (mono_l (a := f x) (b := Asrt.ex f) (fun ha => ⟨x, ha⟩))
theorem St.lift {p : Prop} (h : St w0 w (Asrt.lift p a * r)) : p ∧ St w0 w (a * r) := by
  obtain ⟨hb, F, ⟨G, H, ⟨x, ha⟩, rr⟩, hw⟩ := h
  exact ⟨x, hb, F, ⟨G, H, ha, rr⟩, hw⟩
theorem St.toLift {p : Prop} (x : p) (h : St w0 w (a * r)) : St w0 w (Asrt.lift p a * r) := h.imp (mono_l (a := a) (b := Asrt.lift p a) (fun ha => ⟨x, ha⟩))
theorem St.swap (h : St w0 w (a * (b * r))) : St w0 w (b * (a * r)) := h.imp (Asrt.swap a b r)
theorem St.swap2 (h : St w0 w (a * (b * (c * r)))) : St w0 w (a * (c * (b * r))) := h.imp (mono_r (Asrt.swap b c r))
theorem St.rot3 (h : St w0 w (a * (b * (c * r)))) : St w0 w (c * (a * (b * r))) := h.swap2.swap
theorem St.rot4 (h : St w0 w (a * (b * (c * (d * r))))) : St w0 w (d * (a * (b * (c * r)))) := (h.imp (mono_r (le_trans (mono_r (Asrt.swap c d r)) (Asrt.swap b d (c * r))))).swap
theorem St.swap3 (h : St w0 w (a * (b * (c * (d * r))))) : St w0 w (a * (b * (d * (c * r)))) := h.imp (mono_r (mono_r (Asrt.swap c d r)))
theorem St.unrot3 (h : St w0 w (c * (a * (b * r)))) : St w0 w (a * (b * (c * r))) := h.swap.swap2
theorem St.assoc (h : St w0 w ((a * b) * r)) : St w0 w (a * (b * r)) := h.imp (Asrt.assoc a b r)
theorem St.assoc' (h : St w0 w (a * (b * r))) : St w0 w ((a * b) * r) := h.imp (Asrt.assoc' a b r)
theorem St.drop (h : St w0 w (a * r)) : St w0 w r := by
  obtain ⟨hb, F, ⟨G, H, ha, hr, hd, hF⟩, hw⟩ := h
  exact ⟨hb, H, hr, fun k hk => hw k ((hF k).2 (.inr hk))⟩
theorem St.emp_r (h : St w0 w A) : St w0 w (A * emp) := h.imp (Asrt.emp_r' A)
theorem St.cell {g : Nat} {t : TypeId} {cs : Array Value} (h : St w0 w (Asrt.blk g t cs * r)) (i : Nat) : w.cell? ⟨g, i, none⟩ = cs[i]? := blk_cell h.blk i
theorem St.frozen {g : Nat} {t : TypeId} {cs : Array Value} (h : St w0 w (Asrt.blk g t cs * r)) (i : Nat) : w.frozen? ⟨g, i, none⟩ = false := blk_frozen h.blk i
end
section
variable {P : Program} {ops : Array Oper} {rest : List Oper} {o : Oper} {a : Act} {Q : Exit → Act → World → Prop} {w0 W : World} {R : Asrt}
/-- 'append(xs, y)' to a row of one's own. -/
theorem St.append_num (hgd : o.guard = none) (s x : Operand) (t e : TypeId) (k : IntKind) (bytes : Nat)
    (ho : o.op = .call { callee := .builtin .append, args := #[s, x], argTypes := #[t, t] })
    (ht : P.underlying t = some (.slice e)) (hinfo : (P.info? e).map (fun i => (i.zero, i.size, i.bytes)) = some (some (.int k 0), 1, bytes)) (hb0 : 0 < bytes)
    (v : Value) (n : Nat) (xs : List Int) (y : Int) (hs : a.eval s = v) (hx : a.eval x = .slice (some ⟨W.heap.size, 0, none⟩) 1 1)
    (HS : St w0 W (Asrt.row e 1 v n (nums k xs) * R)) (hl : (n + 1) * bytes ≤ 140737488355328)
    (h : ∀ A1 c1 w1, St w0 w1 (Asrt.row e 1 (.slice A1 (n + 1) c1) (n + 1) (nums k (xs ++ [y])) * R) → wpList P ops Q rest (a.put o.dst (.slice A1 (n + 1) c1)) w1) :
    wpList P ops Q (o :: rest) a (W.alloc (.cells #[.int k y] e)) := by
  obtain rfl : xs.length = n := by have := HS.row.1; simpa [nums] using this
  exact print_append_num (w0 := w0) 0 hgd s x t e k bytes ho ht hinfo hb0 v xs y hs hx (own_zero HS.row) (HS.below.mono (Nat.zero_le _)) (Nat.zero_le _) hl
    fun v1 w1 hown _ hg hat => by
      obtain ⟨A1, c1, rfl⟩ := own_slice hown
      have := h A1 c1 w1
      rw [show xs.length + 1 = (xs ++ [y]).length by simp] at this
      exact this (HS.grown hg hown hat)

/-- 'append(xs, ys...)' to a row of one's own. -/
theorem St.append_row (hgd : o.guard = none) (s x : Operand) (t e : TypeId) (k : IntKind) (bytes : Nat)
    (ho : o.op = .call { callee := .builtin .append, args := #[s, x], argTypes := #[t, t] })
    (ht : P.underlying t = some (.slice e)) (hinfo : (P.info? e).map (fun i => (i.zero, i.size, i.bytes)) = some (some (.int k 0), 1, bytes)) (hb0 : 0 < bytes)
    (v : Value) (n : Nat) (xs ys : List Int) (A : Option Addr) (m c : Nat) (hs : a.eval s = v) (hx : a.eval x = .slice A m c)
    (HS : St w0 W (Asrt.row e 1 v n (nums k xs) * R)) (HR : ReadsInt W k A m ys) (hl : (n + m) * bytes ≤ 140737488355328)
    (h : ∀ A1 c1 w1, St w0 w1 (Asrt.row e 1 (.slice A1 (n + m) c1) (n + m) (nums k (xs ++ ys)) * R) → wpList P ops Q rest (a.put o.dst (.slice A1 (n + m) c1)) w1) :
    wpList P ops Q (o :: rest) a W := by
  obtain rfl : xs.length = n := by have := HS.row.1; simpa [nums] using this
  exact print_append_row (w0 := w0) 0 hgd s x t e k bytes ho ht hinfo hb0 v xs ys A m c hs hx (own_zero HS.row) HR (HS.below.mono (Nat.zero_le _)) (Nat.zero_le _) hl
    fun v1 w1 hown _ hg hat => by
      obtain ⟨A1, c1, rfl⟩ := own_slice hown
      have := h A1 c1 w1
      rw [show xs.length + m = (xs ++ ys).length by rw [List.length_append, HR.1]] at this
      exact this (HS.grown hg hown hat)
end
section
variable {w0 w w' : World} {r A : Asrt}
/-- A row that a call has made. -/
theorem St.newRow {e : TypeId} {size base : Nat} {v : Value} {n : Nat} {xs : List Value} (h : St w0 w A) (hb : Below w.heap.size w w') (ho : w'.ownsRow base e size v n xs) (hbase : w.heap.size ≤ base) : St w0 w' (Asrt.row e size v n xs * A) := by
  refine St.move (a := Asrt.emp) (h.imp (Asrt.emp_l' A)) fun F hF _ => ⟨fun k => v.ownBlock = some k, ⟨own_zero ho, fun _ => Iff.rfl⟩, hb.os, hb.tape, hb.output, hb.size, fun k hk _ => hb.block k hk, fun k hk => .inr (Nat.le_trans hbase (own_base ho k hk))⟩
/-- What is new since w, beside what was there. -/
theorem St.frame {B : Asrt} (h : St w0 w A) (k : St w w' B) : St w0 w' (B * A) := by
  obtain ⟨hb, F, hF, hw⟩ := h
  obtain ⟨kb, G, hG, kw⟩ := k
  refine ⟨below_then hb hb.size kb, fun j => G j ∨ F j, ⟨G, F, hG, A.loc hF (fun i hi => kb.block i (A.lt hF hi)), fun j h1 h2 => ?_, fun _ => Iff.rfl⟩, fun j hj => ?_⟩
  · have := kw j h1
    have := A.lt hF h2
    omega
  · rcases hj with hj | hj
    · exact Nat.le_trans hb.size (kw j hj)
    · exact hw j hj
theorem St.allocRow (h : St w0 w A) (e : TypeId) (k : IntKind) (xs : List Int) (hm : xs.length ≤ 9223372036854775807) : St w0 (w.alloc (.cells (nums k xs).toArray e)) (Asrt.row e 1 (.slice (some ⟨w.heap.size, 0, none⟩) xs.length xs.length) xs.length (nums k xs) * A) :=
  h.newRow (below_alloc (Below.refl _ _) _) (own_lit w w.heap.size e k xs (Nat.le_refl _) hm) (Nat.le_refl _)
theorem St.rowForm {e : TypeId} {size n c : Nat} {B : Option Addr} {xs : List Value} (h : St w0 w (Asrt.row e size (.slice B n c) n xs * r)) (hn : 0 < n) : ∃ g, B = some ⟨g, 0, none⟩ := by
  obtain ⟨g, cap, hv, _, _⟩ := h.row.form hn
  injection hv with hv
  exact ⟨g, hv⟩
theorem St.rowAt {e : TypeId} {k : IntKind} {n c g : Nat} {xs : List Int} (h : St w0 w (Asrt.row e 1 (.slice (some ⟨g, 0, none⟩) n c) n (nums k xs) * r)) (i : Int) (h0 : 0 ≤ i) (h1 : i < n) : w.cell? ⟨g, i.toNat, none⟩ = some (.int k (rd xs i)) ∧ w.frozen? ⟨g, i.toNat, none⟩ = false := own_at h.row i h0 h1
theorem St.rowSet {e : TypeId} {k : IntKind} {n c g : Nat} {xs : List Int} (h : St w0 w (Asrt.row e 1 (.slice (some ⟨g, 0, none⟩) n c) n (nums k xs) * r)) (i x : Int) : St w0 (w.setCell ⟨g, i.toNat, none⟩ (.int k x)) (Asrt.row e 1 (.slice (some ⟨g, 0, none⟩) n c) n (nums k (xs.set i.toNat x)) * r) := by
  have hs := own_store (own_zero h.row) i x
  exact h.grown hs.2 hs.1 (.inl rfl)
theorem St.blkRowNe {g t' h n c n' size : Nat} {e : TypeId} {cs : Array Value} {xs : List Value} (hs : St w0 w (Asrt.blk g t' cs * (Asrt.row e size (.slice (some ⟨h, 0, none⟩) n c) n' xs * r))) : g ≠ h := by
  obtain ⟨hb, F, ⟨G, H, ha, ⟨G2, H2, hb2, _, _, hH⟩, hd, hF⟩, hw⟩ := hs
  rintro rfl
  exact hd g ((ha.2 g).2 rfl) ((hH g).2 (.inl ((hb2.2 g).2 (by simp [Value.ownBlock]))))
theorem rowReads {e : TypeId} {k : IntKind} {n c : Nat} {B : Option Addr} {xs : List Int} (h : St w0 w (Asrt.row e 1 (.slice B n c) n (nums k xs) * r)) : ReadsInt w k B n xs := own_reads' h.row
end
/-- A row of numbers that is read. -/
theorem C_reads {k : IntKind} {w : World} {A : Option Addr} {n : Nat} {l : List Int} (h : Kd.C (Kd.int k) w A n l) : ReadsInt w k A n l := by
  refine ⟨h.1, h.2.1, fun hn => ?_⟩
  obtain ⟨ad, e, hc⟩ := h.2.2 hn
  refine ⟨ad, e, fun i hi => ?_⟩
  have hi' : i < l.length := by rw [h.1]; exact hi
  obtain ⟨c, hl, hk, hcell⟩ := hc i _ (List.getElem?_eq_getElem hi')
  have hk' : c = [Value.int k l[i]] := hk
  have := hcell 0 (Value.int k l[i]) (by rw [hk']; rfl)
  have e2 : (Kd.int k).sz = 1 := rfl
  rw [e2, Nat.mul_one, Nat.add_zero] at this
  rw [this]
  simp [hi']
theorem C_int_at {k : IntKind} {w : World} {A : Option Addr} {l : List Int} (h : Kd.C (Kd.int k) w A l.length l) (h0 : 0 < l.length) : ∃ ad, A = some ad ∧ ∀ i : Nat, i < l.length → w.cell? (ad.add i) = some (.int k (rd l i)) := by
  obtain ⟨ad, e, hc⟩ := (C_reads h).2.2 h0
  exact ⟨ad, e, fun i hi => hc i hi⟩
theorem rd_mem {l : List Int} {i : Int} (h0 : 0 ≤ i) (h1 : i < l.length) : rd l i ∈ l := by
  have : i.toNat < l.length := by omega
  simp [rd, this]
theorem nums_at (k : IntKind) (l : List Int) (i : Int) (h0 : 0 ≤ i) (h1 : i < l.length) : (nums k l).toArray[i.toNat]? = some (.int k (rd l i)) := by
  have h : i.toNat < l.length := by omega
  simp [nums, rd, h]
theorem nums_set (k : IntKind) (l : List Int) (i : Nat) (x : Int) : (nums k l).toArray.setIfInBounds i (.int k x) = (nums k (l.set i x)).toArray := by
  simp [nums, List.map_set]
theorem take_snoc {l : List Int} {k : Nat} (h : k < l.length) : l.take (k + 1) = l.take k ++ [rd l k] := by
  rw [List.take_succ_eq_append_getElem h]
  simp [rd, h]
theorem made_nums (k : IntKind) (z : Nat) : (madeCells #[Value.int k 0] z) = (nums k (List.replicate z 0)).toArray := by
  have h1 : (madeCells #[Value.int k 0] z).toList = nums k (List.replicate z 0) := by
    apply List.ext_getElem
    · simp [nums, madeCells]
    · intro i h1 h2
      simp [nums, madeCells, Nat.mod_one]
  rw [← h1]
theorem still_of {P : Program} {f : FuncId} {args : Array Value} {w : World} {v : Value} (h : Calls P f args w fun e w' => e = .returned v ∧ w = w') : Calls P f args w fun e w' => e = .returned v ∧ w' = w := h.mono fun _ _ h => ⟨h.1, h.2.symm⟩
/-! ### worlds behind calls that make memory: a class for regions that draw their order -/
/-- A world since W: nothing old is changed. -/
structure Since (W : World) where
  w : World
  below : Below W.heap.size W w
instance (W : World) : Nonempty (Since W) := ⟨⟨W, Below.refl _ _⟩⟩
instance (W : World) : Inhabited (Since W) := ⟨⟨W, Below.refl _ _⟩⟩
def SinceC (W : World) : World → Prop := fun w' => ∃ z : Since W, w' = z.w
theorem Since.drew (W : World) : ∃ z : Since W, W.drew = z.w := ⟨⟨W.drew, below_drew1 (Below.refl _ _)⟩, rfl⟩
theorem Since.cell {W : World} {p : Addr} {v : Value} (h : W.cell? p = some v) (z : Since W) : z.w.cell? p = some v := (z.below.cell (World.block_lt_of_cell? W _ h)).trans h
/-- A call's contract, met in such a world. -/
theorem Calls.since {P : Program} {f : FuncId} {args : Array Value} {W : World} {z : Since W} {v : Value} (h : Calls P f args z.w fun e w' => e = .returned v ∧ Below z.w.heap.size z.w w') : Calls P f args z.w fun e w'' => e = .returned v ∧ ∃ z' : Since W, w'' = z'.w :=
  h.mono fun _ w' ⟨he, hb⟩ => ⟨he, ⟨w', z.below.trans (hb.mono z.below.size)⟩, rfl⟩
theorem Calls.sinceS {P : Program} {f : FuncId} {args : Array Value} {W : World} {z : Since W} {v : Value} (h : Calls P f args z.w fun e w' => e = .returned v ∧ z.w = w') : Calls P f args z.w fun e w'' => e = .returned v ∧ ∃ z' : Since W, w'' = z'.w :=
  h.mono fun _ w' ⟨he, hb⟩ => ⟨he, z, hb.symm⟩
theorem Calls.sinceD {P : Program} {f : FuncId} {args : Array Value} {W : World} {z : Since W} {v : Value} (h : Calls P f args z.w fun e w' => e = .returned v ∧ Drawn0 z.w w') : Calls P f args z.w fun e w'' => e = .returned v ∧ ∃ z' : Since W, w'' = z'.w :=
  Calls.since (h.mono fun _ w' ⟨he, n, hn⟩ => ⟨he, hn ▸ pw_below_drewN (Below.refl _ _) n⟩)
theorem Since.old {W0 W : World} (z : Since W) (h : Below W0.heap.size W0 W) : Below W0.heap.size W0 z.w := h.trans (z.below.mono h.size)
theorem wp_region_since {P : Program} {id : Nat} {Q : Exit → Act → World → Prop} {a : Act} {w : World} {l : List Oper} (hm : P.follows .mixedOrders = true) (hB : Region.lexB .any l.toArray = true)
    (h : wpQuiet P l.toArray (fun w' => ∃ z : Since w, w' = z.w) (fun a' => ∀ w', (∃ z : Since w, w' = z.w) → Q .normal a' w') l a) : (Code.region id l.toArray true).wp P Q a w :=
  wp_region_quiet (C := fun w' => ∃ z : Since w, w' = z.w) hm hB (Since.drew w) (by simpa using h)
end Go.Proofs.Ytnpmnfhmlnhepaa.P
