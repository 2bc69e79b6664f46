-- Printed by mp.py (our own program over the kit's printer) out of the translation.
import Derived.Test.YtmlkienikeklfaaPx0
import Derived.Test.YtmlkienikeklfaaPx1
import Derived.Test.YtmlkienikeklfaaPx2
import Derived.Test.YtmlkienikeklfaaPx3
namespace Go.Proofs.Ytmlkienikeklfaa.P
open Go.RowKit Go.Proofs.YtmlkienikeklfaaW.PrintWords Go.Proofs.YtmlkienikeklfaaW.PrintLast Go.Proofs.YtmlkienikeklfaaW.PrintMore
attribute [local go_sem] max2_int min2_int max_two min_two max_three min_three max_four min_four   -- for this text's walks alone
set_option linter.unusedVariables false
set_option linter.unusedSimpArgs false

end Go.Proofs.Ytmlkienikeklfaa.P
