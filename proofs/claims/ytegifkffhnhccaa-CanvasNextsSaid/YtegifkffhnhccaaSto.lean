/- A struct is stored into a block of one's own. -/
import Derived.Test.YtegifkffhnhccaaProg
import Derived.Below
import Derived.Deep.Draws
import Derived.Deep.AppendLies
import Derived.Maps.AppendAt
import Derived.OwnWalk
import Derived.Laws.BytesArg
import Derived.Laws.MakeOwn
import Derived.Laws.OwnMore
import Derived.Deep.OwnRows
import Derived.Tactics
import Derived.Lib.ConvBytes
import Derived.Laws.Slices
import Derived.WalkKit
import Derived.KernelRfl
import Derived.RowKit3
import Derived.Deep.LoopGhost
import Derived.Deep.QuietTactic
import Derived.BigQuiet
import Derived.WideLaws
import Derived.Deep.DeepCutAuto
import Derived.Deep.CutBlock
import Derived.Deep.RegionHeld3
import Derived.Laws.Rows
import Derived.Lib.AppendStr
import Derived.ArgAppend
import Derived.Laws.IdiomCopy
import Derived.OrdersHeld
import Derived.Laws.BitsLemmas
import Derived.RowKit
import Derived.LoopN
import Derived.Handy
import Derived.Lib.Hide
import Derived.StillTailTactics
import Derived.Deep.RegionLaw
import Derived.Deep.RegionWith
import Derived.Test.YtegifkffhnhccaaWWords
import Derived.Test.YtegifkffhnhccaaWLast
import Derived.Test.YtegifkffhnhccaaWTab
import Derived.Test.YtegifkffhnhccaaWFour
import Derived.Test.YtegifkffhnhccaaWQPut
import Derived.Test.YtegifkffhnhccaaWApart
import Derived.Test.YtegifkffhnhccaaWArr
import Derived.Test.YtegifkffhnhccaaWZeros
import Derived.Test.YtegifkffhnhccaaWFoot
import Derived.Test.YtegifkffhnhccaaWKept
import Derived.Test.YtegifkffhnhccaaWShare
import Derived.Test.YtegifkffhnhccaaWN
import Derived.Test.YtegifkffhnhccaaWFootNe
import Derived.Test.YtegifkffhnhccaaWAt
import Derived.Test.YtegifkffhnhccaaWEqStruct
import Derived.Test.YtegifkffhnhccaaWRepsOne
import Derived.Test.YtegifkffhnhccaaWInv
import Derived.Test.YtegifkffhnhccaaWInvWords
import Derived.Test.YtegifkffhnhccaaWGuard
import Derived.Test.YtegifkffhnhccaaWNEv
import Derived.Test.YtegifkffhnhccaaWMore
import Derived.Test.YtegifkffhnhccaaSplice
namespace Go.Proofs.Ytegifkffhnhccaa.P
open Go Go.RowKit Go.Proofs.YtegifkffhnhccaaW.PrintWords Go.Proofs.YtegifkffhnhccaaW.PrintLast Go.Proofs.YtegifkffhnhccaaW.PrintMore
set_option linter.unusedVariables false
set_option linter.unusedSimpArgs false
open Asrt
section
variable {P : Program} {ops : Array Oper} {rest : List Oper} {o : Oper} {a : Act} {Q : Exit → Act → World → Prop} {w0 W : World} {R : Asrt}
/-- '*p = u' (or 'p.f = u'): cells of a block, from off on. -/
theorem St.storeB (hgd : o.guard = none) (hN : o.dst = none) (t : TypeId) (p x : Operand) (ho : o.op = .store t p x)
    {e : TypeId} {g : Nat} {cs : Array Value} (off : Nat) (u : Value) (seg : List Value) (new : Array Value)
    (hp : a.eval p = .pointer (some ⟨g, off, none⟩)) (hx : a.eval x = u) (hu : u.cells.toList = seg) (ht : (P.info? t).map (·.size) = some seg.length) (h1 : ∀ q ∈ seg, q.oneCell' = true)
    (HS : St w0 W (Asrt.blk g e cs * R)) (hfit : off + seg.length ≤ cs.size) (hnew : (cs.toList.take off ++ seg ++ cs.toList.drop (off + seg.length)) = new.toList)
    (h : ∀ w1, St w0 w1 (Asrt.blk g e new * R) → wpList P ops Q rest a w1) :
    wpList P ops Q (o :: rest) a W := by
  have hg := HS.blk
  have hn : new = (cs.toList.take off ++ seg ++ cs.toList.drop (off + seg.length)).toArray := by rw [hnew]
  obtain ⟨i, hi, hsz⟩ := Option.map_eq_some_iff.1 ht
  have hc : u.cells.size = i.size := by rw [hsz, ← hu, Array.length_toList]
  have hst := run_storeCells_at P g off e seg 0 cs W hg (by omega) h1
  have hrun : (Instr.storeAt t (.pointer (some ⟨g, off, none⟩)) u).run P W = .ok () (W.setRow g new) := by
    rw [hn]
    simp only [Nat.add_zero] at hst
    simp [Instr.storeAt, Instr.sureAddr, storeVar, sizeOf, typeInfo, hi, hc, hu, hst]
  have h2 : St w0 (W.setRow g new) (Asrt.blk g e new * R) := by
    exact HS.move fun F hF _ => ⟨F, ⟨setRow_heap W g _ _ e _ hg, hF.2⟩, rfl, rfl, rfl, by simp [World.setRow], fun j _ hj => setRow_other W g j _ (fun he => hj ((hF.2 j).2 he)), fun _ hj => .inl hj⟩
  refine wpList_plain hgd fun K hK => ?_
  unfold Oper.wp execOp
  simp only [ho, hp, hx, Sem.run_bind, Sem.run_pure, Result.andThen_ok, hrun]
  show K (a.put o.dst undef) _
  rw [hN]
  exact hK a _ (h _ h2)
end
end Go.Proofs.Ytegifkffhnhccaa.P
