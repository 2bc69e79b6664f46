-- Printed by mp.py (our own program over the kit's printer) out of the translation.
import Derived.Test.YtmlkienikeklfaaProg
import Derived.Below
import Derived.Deep.Draws
import Derived.Deep.AppendLies
import Derived.Maps.AppendAt
import Derived.OwnWalk
import Derived.Laws.BytesArg
import Derived.Laws.MakeOwn
import Derived.Laws.OwnMore
import Derived.Deep.OwnRows
import Derived.Tactics
import Derived.Lib.ConvBytes
import Derived.Laws.Slices
import Derived.WalkKit
import Derived.KernelRfl
import Derived.RowKit3
import Derived.Deep.LoopGhost
import Derived.Deep.QuietTactic
import Derived.BigQuiet
import Derived.WideLaws
import Derived.Deep.DeepCutAuto
import Derived.Deep.CutBlock
import Derived.Deep.RegionHeld3
import Derived.Laws.Rows
import Derived.Lib.AppendStr
import Derived.ArgAppend
import Derived.Laws.IdiomCopy
import Derived.OrdersHeld
import Derived.Laws.BitsLemmas
import Derived.RowKit
import Derived.Test.YtmlkienikeklfaaWWords
import Derived.Test.YtmlkienikeklfaaWLast
import Derived.Test.YtmlkienikeklfaaWTab
import Derived.Test.YtmlkienikeklfaaWFour
import Derived.Test.YtmlkienikeklfaaWQPut
import Derived.Test.YtmlkienikeklfaaWApart
import Derived.Test.YtmlkienikeklfaaWArr
import Derived.Test.YtmlkienikeklfaaWZeros
import Derived.Test.YtmlkienikeklfaaWFoot
import Derived.Test.YtmlkienikeklfaaWKept
import Derived.Test.YtmlkienikeklfaaWShare
import Derived.Test.YtmlkienikeklfaaWN
import Derived.Test.YtmlkienikeklfaaWFootNe
import Derived.Test.YtmlkienikeklfaaWAt
import Derived.Test.YtmlkienikeklfaaWEqStruct
import Derived.Test.YtmlkienikeklfaaWRepsOne
import Derived.Test.YtmlkienikeklfaaWInv
import Derived.Test.YtmlkienikeklfaaWInvWords
import Derived.Test.YtmlkienikeklfaaWGuard
import Derived.Test.YtmlkienikeklfaaWNEv
import Derived.Test.YtmlkienikeklfaaWMore
namespace Go.Proofs.Ytmlkienikeklfaa.P
open Go.RowKit Go.Proofs.YtmlkienikeklfaaW.PrintWords Go.Proofs.YtmlkienikeklfaaW.PrintLast Go.Proofs.YtmlkienikeklfaaW.PrintMore
attribute [local go_sem] max2_int min2_int max_two min_two max_three min_three max_four min_four   -- for this text's walks alone
set_option linter.unusedVariables false
set_option linter.unusedSimpArgs false



def errW : Option Int → Value
  | none => .nilIface
  | some c => .iface 0 (.int .i64 c)
theorem errW_none : errW none = .nilIface := rfl
theorem errW_some (c : Int) : errW (some c) = .iface 0 (.int .i64 c) := rfl

-- the values' own types

end Go.Proofs.Ytmlkienikeklfaa.P
