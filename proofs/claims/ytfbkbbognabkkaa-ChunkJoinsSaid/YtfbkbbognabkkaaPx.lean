-- Printed by mp.py (our own program over the kit's printer) out of the translation.
import Derived.Test.YtfbkbbognabkkaaPx0
import Derived.Test.YtfbkbbognabkkaaPx1
import Derived.Test.YtfbkbbognabkkaaPx2
import Derived.Test.YtfbkbbognabkkaaPx3
import Derived.Test.YtfbkbbognabkkaaPx4
import Derived.Test.YtfbkbbognabkkaaPx5
import Derived.Test.YtfbkbbognabkkaaPx6
import Derived.Test.YtfbkbbognabkkaaPx7
import Derived.Test.YtfbkbbognabkkaaPx8
import Derived.Test.YtfbkbbognabkkaaPx9
namespace Go.Proofs.Ytfbkbbognabkkaa.P
open Go.RowKit Go.Proofs.YtfbkbbognabkkaaW.PrintWords Go.Proofs.YtfbkbbognabkkaaW.PrintLast Go.Proofs.YtfbkbbognabkkaaW.PrintMore
attribute [local go_sem] max2_int min2_int max_two min_two max_three min_three max_four min_four   -- for this text's walks alone
set_option linter.unusedVariables false
set_option linter.unusedSimpArgs false

end Go.Proofs.Ytfbkbbognabkkaa.P
