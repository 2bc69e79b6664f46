/- A row made of a constant string's bytes, and what is appended to it; a string appended to a row of one's own. -/
import Derived.Test.YtegifkffhnhccaaProg
import Derived.Below
import Derived.Deep.Draws
import Derived.Deep.AppendLies
import Derived.Maps.AppendAt
import Derived.OwnWalk
import Derived.Laws.BytesArg
import Derived.Laws.MakeOwn
import Derived.Laws.OwnMore
import Derived.Deep.OwnRows
import Derived.Tactics
import Derived.Lib.ConvBytes
import Derived.Laws.Slices
import Derived.WalkKit
import Derived.KernelRfl
import Derived.RowKit3
import Derived.Deep.LoopGhost
import Derived.Deep.QuietTactic
import Derived.BigQuiet
import Derived.WideLaws
import Derived.Deep.DeepCutAuto
import Derived.Deep.CutBlock
import Derived.Deep.RegionHeld3
import Derived.Laws.Rows
import Derived.Lib.AppendStr
import Derived.ArgAppend
import Derived.Laws.IdiomCopy
import Derived.OrdersHeld
import Derived.Laws.BitsLemmas
import Derived.RowKit
import Derived.LoopN
import Derived.Handy
import Derived.Lib.Hide
import Derived.StillTailTactics
import Derived.Deep.RegionLaw
import Derived.Deep.RegionWith
import Derived.Test.YtegifkffhnhccaaWWords
import Derived.Test.YtegifkffhnhccaaWLast
import Derived.Test.YtegifkffhnhccaaWTab
import Derived.Test.YtegifkffhnhccaaWFour
import Derived.Test.YtegifkffhnhccaaWQPut
import Derived.Test.YtegifkffhnhccaaWApart
import Derived.Test.YtegifkffhnhccaaWArr
import Derived.Test.YtegifkffhnhccaaWZeros
import Derived.Test.YtegifkffhnhccaaWFoot
import Derived.Test.YtegifkffhnhccaaWKept
import Derived.Test.YtegifkffhnhccaaWShare
import Derived.Test.YtegifkffhnhccaaWN
import Derived.Test.YtegifkffhnhccaaWFootNe
import Derived.Test.YtegifkffhnhccaaWAt
import Derived.Test.YtegifkffhnhccaaWEqStruct
import Derived.Test.YtegifkffhnhccaaWRepsOne
import Derived.Test.YtegifkffhnhccaaWInv
import Derived.Test.YtegifkffhnhccaaWInvWords
import Derived.Test.YtegifkffhnhccaaWGuard
import Derived.Test.YtegifkffhnhccaaWNEv
import Derived.Test.YtegifkffhnhccaaWMore
import Derived.Test.YtegifkffhnhccaaSl
import Derived.Test.YtegifkffhnhccaaStrRow
import Derived.Lib.SlBytesConst
namespace Go.Proofs.Ytegifkffhnhccaa.P
open Go Go.RowKit Go.Proofs.YtegifkffhnhccaaW.PrintWords Go.Proofs.YtegifkffhnhccaaW.PrintLast Go.Proofs.YtegifkffhnhccaaW.PrintMore
set_option linter.unusedVariables false
set_option linter.unusedSimpArgs false
open Asrt

theorem grown_own (w : World) (e : TypeId) (z : Value) (size : Nat) (hzs : z.cells.size = size) (xs news : List Value) (n m old : Nat) (hx : xs.length = n * size) (hl : news.length = m * size) (ho : old < n + m) (h63 : n + m ≤ maxLen) :
    (w.drew.alloc (.cells (xs.toArray ++ news.toArray ++ Builtin.zeroCells z.cells (grownCap w (n + m) old e - (n + m))) e)).ownsRow w.heap.size e size
        (.slice (some ⟨w.heap.size, 0, none⟩) (n + m) (grownCap w (n + m) old e)) (n + m) (xs ++ news) := by
  have hlen : (xs ++ news).length = (n + m) * size := by rw [List.length_append, hx, hl, Nat.add_mul]
  have hge := grownCap_ge w (n + m) old e
  have hcm : grownCap w (n + m) old e ≤ maxLen := grownCap_le_maxLen w (n + m) old e h63
  refine ⟨hlen, .inr ⟨w.heap.size, _, _, rfl, Nat.le_refl _, heap_alloc_new w.drew _, hge, hcm, ?_, ?_⟩⟩
  · simp only [Array.size_append, List.size_toArray, size_zeroCells, hzs, hx, hl, ← Nat.add_mul]
    congr 1
    omega
  · simp only [Array.toList_append, List.append_assoc]
    rw [← List.append_assoc, ← hlen]
    exact List.take_left

/-- A row of bytes made of a constant string: its block bears a mark behind its last cell. -/
def Asrt.mrow (e : TypeId) (xs : List Int) (g : Nat) : Asrt where
  holds w F := w.heap[g]? = some (.cells (nums .u8 xs).toArray e (xs.length, xs.length + 1)) ∧ ∀ k, F k ↔ k = g
  loc := fun ⟨h, hF⟩ hm => ⟨(hm g ((hF g).2 rfl)).trans h, hF⟩
  lt := fun ⟨h, hF⟩ hk => by rw [(hF _).1 hk]; exact blk_lt h
theorem St.allocMark {w0 W : World} {A : Asrt} (h : St w0 W A) (xs : List Int) (e : TypeId) : St w0 (W.alloc (.cells (nums .u8 xs).toArray e (xs.length, xs.length + 1))) (Asrt.mrow e xs W.heap.size * A) := by
  refine St.move (a := emp) (h.imp (emp_l' A)) fun F hF _ => ⟨fun k => k = W.heap.size, ⟨?_, fun _ => Iff.rfl⟩, rfl, rfl, rfl, ?_, fun k hk _ => Below.heap_alloc W _ k hk, fun k hk => .inr (by omega)⟩
  · show (W.heap.push _)[W.heap.size]? = _
    simp
  · simp
theorem St.mrow {w0 W : World} {e : TypeId} {xs : List Int} {g : Nat} {R : Asrt} (h : St w0 W (Asrt.mrow e xs g * R)) : W.heap[g]? = some (.cells (nums .u8 xs).toArray e (xs.length, xs.length + 1)) := by
  obtain ⟨hb, F, ⟨G, H, ha, hr, hd, hF⟩, hw⟩ := h
  exact ha.1
theorem St.mrowReads {w0 W : World} {e : TypeId} {xs : List Int} {g : Nat} {R : Asrt} (h : St w0 W (Asrt.mrow e xs g * R)) (hl : xs.length ≤ 9223372036854775807) : ReadsInt W .u8 (some ⟨g, 0, none⟩) xs.length xs := by
  refine ⟨rfl, hl, fun _ => ⟨_, rfl, fun j hj => ?_⟩⟩
  have hadd : (⟨g, 0, none⟩ : Addr).add j = ⟨g, j, none⟩ := by unfold Addr.add; split <;> simp_all
  rw [hadd, cell_of_row _ _ _ _ _ _ h.mrow]
  simp [nums, hj]

section
variable {P : Program} {ops : Array Oper} {rest : List Oper} {o : Oper} {a : Act} {Q : Exit → Act → World → Prop} {w0 W : World} {R : Asrt}
theorem St.append_marked (hgd : o.guard = none) (s x : Operand) (t e : TypeId)
    (ho : o.op = .call { callee := .builtin .append, args := #[s, x], argTypes := #[t, t] })
    (ht : P.underlying t = some (.slice e)) (hinfo : (P.info? e).map (fun i => (i.zero, i.size, i.bytes)) = some (some (.int .u8 0), 1, 1))
    (xs ys : List Int) (g : Nat) (A : Option Addr) (m c : Nat) (hs : a.eval s = .slice (some ⟨g, 0, none⟩) xs.length xs.length) (hx : a.eval x = .slice A m c)
    (HS : St w0 W (Asrt.mrow e xs g * R)) (HR : ReadsInt W .u8 A m ys) (hm : 0 < m) (hl : xs.length + m ≤ 140737488355328)
    (h : ∀ A1 c1 w1, St w0 w1 (Asrt.row e 1 (.slice A1 (xs.length + m) c1) (xs.length + m) (nums .u8 (xs ++ ys)) * R) → wpList P ops Q rest (a.put o.dst (.slice A1 (xs.length + m) c1)) w1) :
    wpList P ops Q (o :: rest) a W := by
  obtain ⟨i0, hi, hzz⟩ := Option.map_eq_some_iff.1 hinfo
  simp only [Prod.mk.injEq] at hzz
  obtain ⟨hz0, hz1, hz2⟩ := hzz
  obtain ⟨ad, rfl, hc⟩ := HR.2.2 hm
  have holds : ∀ j v, (nums .u8 xs)[j]? = some v → W.cell? ((⟨g, 0, none⟩ : Addr).add j) = some v := by
    intro j v hv
    have hadd : (⟨g, 0, none⟩ : Addr).add j = ⟨g, j, none⟩ := by unfold Addr.add; split <;> simp_all
    rw [hadd, cell_of_row _ _ _ _ _ _ HS.mrow]
    simpa using hv
  have hyl : ys.length = m := HR.1
  have hnl : (nums .u8 ys).length = m * i0.size := by rw [hz1, Nat.mul_one]; simp [nums, hyl]
  have hxl : (nums .u8 xs).length = xs.length * i0.size := by rw [hz1, Nat.mul_one]; simp [nums]
  have hnews : ∀ j v, (nums .u8 ys)[j]? = some v → W.cell? (ad.add j) = some v := by
    intro j v hv
    have hj : j < ys.length := by
      have := (List.getElem?_eq_some_iff.1 hv).1
      simpa [nums] using this
    have h1 := hc j (by omega)
    simp only [nums, List.getElem?_map, List.getElem?_eq_getElem hj, Option.map_some] at hv
    rw [h1]
    rw [← hv]
    simp [hj]
  have h63 : xs.length + m ≤ maxLen := by simp only [maxLen]; omega
  have hr := run_append_grow (P := P) W t o.type e i0 (.int .u8 0) ht hi hz0 ⟨g, 0, none⟩ xs.length xs.length (nums .u8 xs) hxl holds ad m c (nums .u8 ys) hnl hnews (by omega) (by omega) (growslice_fits (by omega) (by rw [hz2]; omega))
  have hown := grown_own W e (.int .u8 0) i0.size (by rw [hz1]; rfl) (nums .u8 xs) (nums .u8 ys) xs.length m xs.length hxl hnl (by omega) h63
  rw [hz1, ← nums_append] at hown
  refine wpList_plain hgd fun K hK => ?_
  unfold Oper.wp execOp
  simp only [ho, resolve, invoke, builtin, Sem.run_bind, Sem.run_pure, Result.andThen_ok, List.map_toArray, List.map_cons, List.map_nil, hs, hx, hr]
  refine hK _ _ (h _ _ _ ?_)
  exact St.newRow HS.drop (below_alloc (below_drew1 (Below.refl _ _)) _) hown (Nat.le_refl _)

/-- A string appended to a row of one's own. -/
theorem St.append_str (hgd : o.guard = none) (s x : Operand) (t u e : TypeId)
    (ho : o.op = .call { callee := .builtin .append, args := #[s, x], argTypes := #[t, u] })
    (ht : P.underlying t = some (.slice e)) (hu : P.underlying u = some .string) (hinfo : (P.info? e).map (fun i => (i.zero, i.size, i.bytes)) = some (some (.int .u8 0), 1, 1))
    (v : Value) (n : Nat) (xs : List Int) (y : ByteArray) (hs : a.eval s = v) (hx : a.eval x = .string y)
    (HS : St w0 W (Asrt.row e 1 v n (nums .u8 xs) * R)) (hl : n + y.size ≤ 140737488355328)
    (h : ∀ A1 c1 w1, St w0 w1 (Asrt.row e 1 (.slice A1 (n + y.size) c1) (n + y.size) (nums .u8 (xs ++ bytesOf y)) * R) → wpList P ops Q rest (a.put o.dst (.slice A1 (n + y.size) c1)) w1) :
    wpList P ops Q (o :: rest) a W := by
  have hxn : xs.length = n := by have := HS.row.1; simpa [nums] using this
  subst hxn
  refine print_append_str_at (w0 := w0) w0.heap.size hgd s x t u e ho ht hu hinfo v xs y (fun _ => True) hs hx (Kd.R_of_own (h1 := fun _ => rfl) HS.row (fun _ _ => trivial)) (fun _ _ => trivial) HS.below HS.size hl
    fun v1 w1 hR _ hg hat => by
      have hown := Kd.own_of_R hR
      have hl2 : (xs ++ bytesOf y).length = xs.length + y.size := by rw [List.length_append, bytesOf_length]
      rw [hl2] at hown
      obtain ⟨A1, c1, rfl⟩ := own_slice hown
      exact h A1 c1 w1 (HS.grown hg hown hat)
theorem St.toR {w w1 : World} {R : Asrt} {e : TypeId} {k : IntKind} {v : Value} {n : Nat} {xs : List Int} (h : St w w1 (Asrt.row e 1 v n (nums k xs) * R)) : Kd.R (Kd.int k) e w1 w.heap.size (fun _ => True) v xs := by
  have hr := h.row
  have hn : xs.length = n := by have := hr.1; simpa [nums] using this
  subst hn
  exact Kd.R_of_own (h1 := fun _ => rfl) hr (fun _ _ => trivial)
end
end Go.Proofs.Ytegifkffhnhccaa.P
