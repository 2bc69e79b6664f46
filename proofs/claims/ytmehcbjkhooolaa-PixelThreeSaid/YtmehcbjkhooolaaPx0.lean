-- Printed by mp.py (our own program over the kit's printer) out of the translation.
import Derived.Test.YtmehcbjkhooolaaProg
import Derived.Below
import Derived.Deep.Draws
import Derived.Deep.AppendLies
import Derived.Maps.AppendAt
import Derived.OwnWalk
import Derived.Laws.BytesArg
import Derived.Laws.MakeOwn
import Derived.Laws.OwnMore
import Derived.Deep.OwnRows
import Derived.Tactics
import Derived.Lib.ConvBytes
import Derived.Laws.Slices
import Derived.WalkKit
import Derived.KernelRfl
import Derived.RowKit3
import Derived.Deep.LoopGhost
import Derived.Deep.QuietTactic
import Derived.BigQuiet
import Derived.WideLaws
import Derived.Deep.DeepCutAuto
import Derived.Deep.CutBlock
import Derived.Deep.RegionHeld3
import Derived.Laws.Rows
import Derived.Lib.AppendStr
import Derived.ArgAppend
import Derived.Laws.IdiomCopy
import Derived.OrdersHeld
import Derived.Laws.BitsLemmas
import Derived.RowKit
import Derived.Test.YtmehcbjkhooolaaMpixel
import Derived.Test.YtmehcbjkhooolaaMpick
import Derived.Test.YtmehcbjkhooolaaMref
import Derived.Test.YtmehcbjkhooolaaWWords
import Derived.Test.YtmehcbjkhooolaaWLast
import Derived.Test.YtmehcbjkhooolaaWTab
import Derived.Test.YtmehcbjkhooolaaWFour
import Derived.Test.YtmehcbjkhooolaaWQPut
import Derived.Test.YtmehcbjkhooolaaWApart
import Derived.Test.YtmehcbjkhooolaaWArr
import Derived.Test.YtmehcbjkhooolaaWZeros
import Derived.Test.YtmehcbjkhooolaaWFoot
import Derived.Test.YtmehcbjkhooolaaWKept
import Derived.Test.YtmehcbjkhooolaaWShare
import Derived.Test.YtmehcbjkhooolaaWN
import Derived.Test.YtmehcbjkhooolaaWFootNe
import Derived.Test.YtmehcbjkhooolaaWAt
import Derived.Test.YtmehcbjkhooolaaWEqStruct
import Derived.Test.YtmehcbjkhooolaaWRepsOne
import Derived.Test.YtmehcbjkhooolaaWInv
import Derived.Test.YtmehcbjkhooolaaWInvWords
import Derived.Test.YtmehcbjkhooolaaWGuard
import Derived.Test.YtmehcbjkhooolaaWNEv
import Derived.Test.YtmehcbjkhooolaaWMore
namespace Go.Proofs.Ytmehcbjkhooolaa.P
open Go.RowKit Go.Proofs.YtmehcbjkhooolaaW.PrintWords Go.Proofs.YtmehcbjkhooolaaW.PrintLast Go.Proofs.YtmehcbjkhooolaaW.PrintMore
attribute [local go_sem] max2_int min2_int max_two min_two max_three min_three max_four min_four   -- for this text's walks alone
set_option linter.unusedVariables false
set_option linter.unusedSimpArgs false



def errW : Option Int → Value
  | none => .nilIface
  | some c => .iface 0 (.int .i64 c)
theorem errW_none : errW none = .nilIface := rfl
theorem errW_some (c : Int) : errW (some c) = .iface 0 (.int .i64 c) := rfl

-- the values' own types

end Go.Proofs.Ytmehcbjkhooolaa.P
