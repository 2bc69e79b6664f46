-- Printed by mp.py (our own program over the kit's printer) out of the translation.
import Derived.Test.YtoiaonbfhcnikaaPx0
import Derived.Test.YtoiaonbfhcnikaaPx1
import Derived.Test.YtoiaonbfhcnikaaPx2
import Derived.Test.YtoiaonbfhcnikaaPx3
import Derived.Test.YtoiaonbfhcnikaaPx4
namespace Go.Proofs.Ytoiaonbfhcnikaa.P
open Go.RowKit Go.Proofs.YtoiaonbfhcnikaaW.PrintWords Go.Proofs.YtoiaonbfhcnikaaW.PrintLast Go.Proofs.YtoiaonbfhcnikaaW.PrintMore
attribute [local go_sem] max2_int min2_int max_two min_two max_three min_three max_four min_four   -- for this text's walks alone
set_option linter.unusedVariables false
set_option linter.unusedSimpArgs false

end Go.Proofs.Ytoiaonbfhcnikaa.P
