-- Printed by mp.py (our own program over the kit's printer) out of the translation.
import Derived.Test.YtflkinhbecjahaaPx0
namespace Go.Proofs.Ytflkinhbecjahaa.P
open Go.RowKit Go.Proofs.YtflkinhbecjahaaW.PrintWords Go.Proofs.YtflkinhbecjahaaW.PrintLast Go.Proofs.YtflkinhbecjahaaW.PrintMore
attribute [local go_sem] max2_int min2_int max_two min_two max_three min_three max_four min_four   -- for this text's walks alone
set_option linter.unusedVariables false
set_option linter.unusedSimpArgs false

end Go.Proofs.Ytflkinhbecjahaa.P
