-- Laid by a program of ours (the kit's print with words and contracts of our own beside it).
import Derived.Test.YtjabpbnlpljlkaaDoorPShowPrintsx0
import Derived.Test.YtjabpbnlpljlkaaDoorPShowPrintsx1
import Derived.Test.YtjabpbnlpljlkaaDoorPShowPrintsx2
import Derived.Test.YtjabpbnlpljlkaaDoorPShowPrintsx3
import Derived.Test.YtjabpbnlpljlkaaDoorPShowPrintsx4
import Derived.Test.YtjabpbnlpljlkaaDoorPShowPrintsx5
import Derived.Test.YtjabpbnlpljlkaaDoorPShowPrintsx6
import Derived.Test.YtjabpbnlpljlkaaDoorPShowPrintsx7
import Derived.Test.YtjabpbnlpljlkaaDoorPShowPrintsx8
namespace Go.Proofs.YtjabpbnlpljlkaaDoor.PShowPrints
open Go.RowKit Go.Proofs.YtjabpbnlpljlkaaDoor.X Go.Proofs.YtjabpbnlpljlkaaDoorW.PrintWords Go.Proofs.YtjabpbnlpljlkaaDoorW.PrintLast Go.Proofs.YtjabpbnlpljlkaaDoorW.PrintMore
attribute [local go_sem] max2_int min2_int max_two min_two max_three min_three max_four min_four   -- for this text's walks alone
set_option linter.unusedVariables false
set_option linter.unusedSimpArgs false

end Go.Proofs.YtjabpbnlpljlkaaDoor.PShowPrints
