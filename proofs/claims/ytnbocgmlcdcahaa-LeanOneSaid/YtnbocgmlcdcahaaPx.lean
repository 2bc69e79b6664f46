-- Printed by mp.py (our own program over the kit's printer) out of the translation.
import Derived.Test.YtnbocgmlcdcahaaPx0
import Derived.Test.YtnbocgmlcdcahaaPx1
import Derived.Test.YtnbocgmlcdcahaaPx2
import Derived.Test.YtnbocgmlcdcahaaPx3
import Derived.Test.YtnbocgmlcdcahaaPx4
import Derived.Test.YtnbocgmlcdcahaaPx5
import Derived.Test.YtnbocgmlcdcahaaPx6
import Derived.Test.YtnbocgmlcdcahaaPx7
namespace Go.Proofs.Ytnbocgmlcdcahaa.P
open Go.RowKit Go.Proofs.YtnbocgmlcdcahaaW.PrintWords Go.Proofs.YtnbocgmlcdcahaaW.PrintLast Go.Proofs.YtnbocgmlcdcahaaW.PrintMore
attribute [local go_sem] max2_int min2_int max_two min_two max_three min_three max_four min_four   -- for this text's walks alone
set_option linter.unusedVariables false
set_option linter.unusedSimpArgs false

end Go.Proofs.Ytnbocgmlcdcahaa.P
