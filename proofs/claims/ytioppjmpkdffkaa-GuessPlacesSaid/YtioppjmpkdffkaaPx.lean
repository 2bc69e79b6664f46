-- Printed by mp.py (our own program over the kit's printer) out of the translation.
import Derived.Test.YtioppjmpkdffkaaPx0
import Derived.Test.YtioppjmpkdffkaaPx1
import Derived.Test.YtioppjmpkdffkaaPx2
import Derived.Test.YtioppjmpkdffkaaPx3
import Derived.Test.YtioppjmpkdffkaaPx4
import Derived.Test.YtioppjmpkdffkaaPx5
import Derived.Test.YtioppjmpkdffkaaPx6
import Derived.Test.YtioppjmpkdffkaaPx7
import Derived.Test.YtioppjmpkdffkaaPx8
namespace Go.Proofs.Ytioppjmpkdffkaa.P
open Go.RowKit Go.Proofs.YtioppjmpkdffkaaW.PrintWords Go.Proofs.YtioppjmpkdffkaaW.PrintLast Go.Proofs.YtioppjmpkdffkaaW.PrintMore
attribute [local go_sem] max2_int min2_int max_two min_two max_three min_three max_four min_four   -- for this text's walks alone
set_option linter.unusedVariables false
set_option linter.unusedSimpArgs false

end Go.Proofs.Ytioppjmpkdffkaa.P
