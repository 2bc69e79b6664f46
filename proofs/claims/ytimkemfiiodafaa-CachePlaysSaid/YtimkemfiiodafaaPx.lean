-- Printed by mp.py (our own program over the kit's printer) out of the translation.
import Derived.Test.YtimkemfiiodafaaPx0
import Derived.Test.YtimkemfiiodafaaPx1
namespace Go.Proofs.Ytimkemfiiodafaa.P
open Go.RowKit Go.Proofs.YtimkemfiiodafaaW.PrintWords Go.Proofs.YtimkemfiiodafaaW.PrintLast Go.Proofs.YtimkemfiiodafaaW.PrintMore
attribute [local go_sem] max2_int min2_int max_two min_two max_three min_three max_four min_four   -- for this text's walks alone
set_option linter.unusedVariables false
set_option linter.unusedSimpArgs false

end Go.Proofs.Ytimkemfiiodafaa.P
