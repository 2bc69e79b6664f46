-- Printed by mp.py (our own program over the kit's printer) out of the translation.
import Derived.Test.YtegifkffhnhccaaPx0
import Derived.Test.YtegifkffhnhccaaPx1
import Derived.Test.YtegifkffhnhccaaPx2
import Derived.Test.YtegifkffhnhccaaPx3
import Derived.Test.YtegifkffhnhccaaPx4
import Derived.Test.YtegifkffhnhccaaPx5
import Derived.Test.YtegifkffhnhccaaPx6
import Derived.Test.YtegifkffhnhccaaPx7
import Derived.Test.YtegifkffhnhccaaPx8
namespace Go.Proofs.Ytegifkffhnhccaa.P
open Go.RowKit Go.Proofs.YtegifkffhnhccaaW.PrintWords Go.Proofs.YtegifkffhnhccaaW.PrintLast Go.Proofs.YtegifkffhnhccaaW.PrintMore
attribute [local go_sem] max2_int min2_int max_two min_two max_three min_three max_four min_four   -- for this text's walks alone
set_option linter.unusedVariables false
set_option linter.unusedSimpArgs false

end Go.Proofs.Ytegifkffhnhccaa.P
