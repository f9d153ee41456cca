-- Laid by a program of this session (hybrid.py) over the kit's print.
import Derived.Test.YtmoebchaiokamaaDoorPrint0
namespace Go.Proofs.YtmoebchaiokamaaDoor.Print
open Go.RowKit
open Go.RowKit Go.Proofs.YtmoebchaiokamaaDoorW.PrintWords Go.Proofs.YtmoebchaiokamaaDoorW.PrintLast Go.Proofs.YtmoebchaiokamaaDoorW.PrintMore
attribute [local go_sem] max2_int min2_int max_two min_two max_three min_three max_four min_four   -- for this text's walks alone
set_option linter.unusedVariables false
set_option linter.unusedSimpArgs false

-- NOT PRINTED: function 30 (abi_NoEscape)

-- NOT PRINTED: function 21 (strings_Builder_copyCheck)

-- NOT PRINTED: function 12 (strings_Builder_WriteString)
end Go.Proofs.YtmoebchaiokamaaDoor.Print
