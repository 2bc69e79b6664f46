-- Printed by mp.py (our own program over the kit's printer) out of the translation.
import Derived.Test.YtbgjpncnhhlljaaPx0
namespace Go.Proofs.Ytbgjpncnhhlljaa.P
open Go.RowKit Go.Proofs.YtbgjpncnhhlljaaW.PrintWords Go.Proofs.YtbgjpncnhhlljaaW.PrintLast Go.Proofs.YtbgjpncnhhlljaaW.PrintMore
attribute [local go_sem] max2_int min2_int max_two min_two max_three min_three max_four min_four   -- for this text's walks alone
set_option linter.unusedVariables false
set_option linter.unusedSimpArgs false

end Go.Proofs.Ytbgjpncnhhlljaa.P
