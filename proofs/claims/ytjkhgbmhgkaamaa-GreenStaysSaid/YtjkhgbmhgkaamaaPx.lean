-- Printed by mp.py (our own program over the kit's printer) out of the translation.
import Derived.Test.YtjkhgbmhgkaamaaPx0
import Derived.Test.YtjkhgbmhgkaamaaPx1
import Derived.Test.YtjkhgbmhgkaamaaPx2
import Derived.Test.YtjkhgbmhgkaamaaPx3
import Derived.Test.YtjkhgbmhgkaamaaPx4
import Derived.Test.YtjkhgbmhgkaamaaPx5
import Derived.Test.YtjkhgbmhgkaamaaPx6
import Derived.Test.YtjkhgbmhgkaamaaPx7
namespace Go.Proofs.Ytjkhgbmhgkaamaa.P
open Go.RowKit Go.Proofs.YtjkhgbmhgkaamaaW.PrintWords Go.Proofs.YtjkhgbmhgkaamaaW.PrintLast Go.Proofs.YtjkhgbmhgkaamaaW.PrintMore
attribute [local go_sem] max2_int min2_int max_two min_two max_three min_three max_four min_four   -- for this text's walks alone
set_option linter.unusedVariables false
set_option linter.unusedSimpArgs false

end Go.Proofs.Ytjkhgbmhgkaamaa.P
