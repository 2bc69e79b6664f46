-- Printed by mp.py (our own program over the kit's printer) out of the translation.
import Derived.Test.YtmehcbjkhooolaaPx0
import Derived.Test.YtmehcbjkhooolaaPx1
import Derived.Test.YtmehcbjkhooolaaPx2
namespace Go.Proofs.Ytmehcbjkhooolaa.P
open Go.RowKit Go.Proofs.YtmehcbjkhooolaaW.PrintWords Go.Proofs.YtmehcbjkhooolaaW.PrintLast Go.Proofs.YtmehcbjkhooolaaW.PrintMore
attribute [local go_sem] max2_int min2_int max_two min_two max_three min_three max_four min_four   -- for this text's walks alone
set_option linter.unusedVariables false
set_option linter.unusedSimpArgs false

end Go.Proofs.Ytmehcbjkhooolaa.P
