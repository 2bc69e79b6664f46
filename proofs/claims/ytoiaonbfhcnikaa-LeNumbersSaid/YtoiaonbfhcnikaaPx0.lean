-- Printed by mp.py (our own program over the kit's printer) out of the translation.
import Derived.Test.YtoiaonbfhcnikaaProg
import Derived.Below
import Derived.Deep.Draws
import Derived.Deep.AppendLies
import Derived.Maps.AppendAt
import Derived.OwnWalk
import Derived.Laws.BytesArg
import Derived.Laws.MakeOwn
import Derived.Laws.OwnMore
import Derived.Deep.OwnRows
import Derived.Tactics
import Derived.Lib.ConvBytes
import Derived.Laws.Slices
import Derived.WalkKit
import Derived.KernelRfl
import Derived.RowKit3
import Derived.Deep.LoopGhost
import Derived.Deep.QuietTactic
import Derived.BigQuiet
import Derived.WideLaws
import Derived.Deep.DeepCutAuto
import Derived.Deep.CutBlock
import Derived.Deep.RegionHeld3
import Derived.Laws.Rows
import Derived.Lib.AppendStr
import Derived.ArgAppend
import Derived.Laws.IdiomCopy
import Derived.OrdersHeld
import Derived.Laws.BitsLemmas
import Derived.RowKit
import Derived.Test.YtoiaonbfhcnikaaWWords
import Derived.Test.YtoiaonbfhcnikaaWLast
import Derived.Test.YtoiaonbfhcnikaaWTab
import Derived.Test.YtoiaonbfhcnikaaWFour
import Derived.Test.YtoiaonbfhcnikaaWQPut
import Derived.Test.YtoiaonbfhcnikaaWApart
import Derived.Test.YtoiaonbfhcnikaaWArr
import Derived.Test.YtoiaonbfhcnikaaWZeros
import Derived.Test.YtoiaonbfhcnikaaWFoot
import Derived.Test.YtoiaonbfhcnikaaWKept
import Derived.Test.YtoiaonbfhcnikaaWShare
import Derived.Test.YtoiaonbfhcnikaaWN
import Derived.Test.YtoiaonbfhcnikaaWFootNe
import Derived.Test.YtoiaonbfhcnikaaWAt
import Derived.Test.YtoiaonbfhcnikaaWEqStruct
import Derived.Test.YtoiaonbfhcnikaaWRepsOne
import Derived.Test.YtoiaonbfhcnikaaWInv
import Derived.Test.YtoiaonbfhcnikaaWInvWords
import Derived.Test.YtoiaonbfhcnikaaWGuard
import Derived.Test.YtoiaonbfhcnikaaWNEv
import Derived.Test.YtoiaonbfhcnikaaWMore
namespace Go.Proofs.Ytoiaonbfhcnikaa.P
open Go.RowKit Go.Proofs.YtoiaonbfhcnikaaW.PrintWords Go.Proofs.YtoiaonbfhcnikaaW.PrintLast Go.Proofs.YtoiaonbfhcnikaaW.PrintMore
attribute [local go_sem] max2_int min2_int max_two min_two max_three min_three max_four min_four   -- for this text's walks alone
set_option linter.unusedVariables false
set_option linter.unusedSimpArgs false



def errW : Option Int → Value
  | none => .nilIface
  | some c => .iface 0 (.int .i64 c)
theorem errW_none : errW none = .nilIface := rfl
theorem errW_some (c : Int) : errW (some c) = .iface 0 (.int .i64 c) := rfl

theorem info5 : (Try.prog.info? 5).map (fun i => (i.zero, i.size, i.bytes)) = some (some (.int .u8 0), 1, 1) := by kernel_rfl
-- the values' own types

end Go.Proofs.Ytoiaonbfhcnikaa.P
