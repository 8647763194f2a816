-- Laid by a program of ours (the kit's print with words and contracts of our own beside it).
import Derived.Test.YtokgkhndhlcfpaaPTrieMakesx0
import Derived.Test.YtokgkhndhlcfpaaPTrieMakesx1
import Derived.Test.YtokgkhndhlcfpaaPTrieMakesx2
import Derived.Test.YtokgkhndhlcfpaaPTrieMakesx3
import Derived.Test.YtokgkhndhlcfpaaPTrieMakesx4
import Derived.Test.YtokgkhndhlcfpaaPTrieMakesx5
import Derived.Test.YtokgkhndhlcfpaaPTrieMakesx6
import Derived.Test.YtokgkhndhlcfpaaPTrieMakesx7
import Derived.Test.YtokgkhndhlcfpaaPTrieMakesx8
namespace Go.Proofs.Ytokgkhndhlcfpaa.PTrieMakes
open Go.RowKit Go.Proofs.Ytokgkhndhlcfpaa.X Go.Proofs.YtokgkhndhlcfpaaW.PrintWords Go.Proofs.YtokgkhndhlcfpaaW.PrintLast Go.Proofs.YtokgkhndhlcfpaaW.PrintMore
attribute [local go_sem] max2_int min2_int max_two min_two max_three min_three max_four min_four   -- for this text's walks alone
set_option linter.unusedVariables false
set_option linter.unusedSimpArgs false

end Go.Proofs.Ytokgkhndhlcfpaa.PTrieMakes
