/- Printed by a program of this session (wip/tools/gprint.py, over the kit's print) out of the translation: functions and their contracts. -/
import Derived.Test.YtmlnkdknpogknaaPx0
namespace Go.Proofs.Ytmlnkdknpogknaa.P
open Go.RowKit Go.Proofs.YtmlnkdknpogknaaW.PrintWords Go.Proofs.YtmlnkdknpogknaaW.PrintLast Go.Proofs.YtmlnkdknpogknaaW.PrintMore
attribute [local go_sem] max2_int min2_int max_two min_two max_three min_three max_four min_four   -- for this text's walks alone
set_option linter.unusedVariables false
set_option linter.unusedSimpArgs false

-- NOT PRINTED: function 6 (cellarerlaw04_TagBit)

end Go.Proofs.Ytmlnkdknpogknaa.P
