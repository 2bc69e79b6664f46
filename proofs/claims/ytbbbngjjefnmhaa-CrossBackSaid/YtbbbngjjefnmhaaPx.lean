-- Printed by mp.py (our own program over the kit's printer) out of the translation.
import Derived.Test.YtbbbngjjefnmhaaPx0
import Derived.Test.YtbbbngjjefnmhaaPx1
import Derived.Test.YtbbbngjjefnmhaaPx2
import Derived.Test.YtbbbngjjefnmhaaPx3
import Derived.Test.YtbbbngjjefnmhaaPx4
import Derived.Test.YtbbbngjjefnmhaaPx5
import Derived.Test.YtbbbngjjefnmhaaPx6
import Derived.Test.YtbbbngjjefnmhaaPx7
import Derived.Test.YtbbbngjjefnmhaaPx8
namespace Go.Proofs.Ytbbbngjjefnmhaa.P
open Go.RowKit Go.Proofs.YtbbbngjjefnmhaaW.PrintWords Go.Proofs.YtbbbngjjefnmhaaW.PrintLast Go.Proofs.YtbbbngjjefnmhaaW.PrintMore
attribute [local go_sem] max2_int min2_int max_two min_two max_three min_three max_four min_four   -- for this text's walks alone
set_option linter.unusedVariables false
set_option linter.unusedSimpArgs false

end Go.Proofs.Ytbbbngjjefnmhaa.P
