-- Laid by a program of ours (the kit's print with words and contracts of our own beside it).
import Derived.Test.YtokgkhndhlcfpaaPTrieLimitsx0
import Derived.Test.YtokgkhndhlcfpaaPTrieLimitsx1
import Derived.Test.YtokgkhndhlcfpaaPTrieLimitsx2
import Derived.Test.YtokgkhndhlcfpaaPTrieLimitsx3
namespace Go.Proofs.Ytokgkhndhlcfpaa.PTrieLimits
open Go.RowKit Go.Proofs.Ytokgkhndhlcfpaa.X Go.Proofs.YtokgkhndhlcfpaaW.PrintWords Go.Proofs.YtokgkhndhlcfpaaW.PrintLast Go.Proofs.YtokgkhndhlcfpaaW.PrintMore
attribute [local go_sem] max2_int min2_int max_two min_two max_three min_three max_four min_four   -- for this text's walks alone
set_option linter.unusedVariables false
set_option linter.unusedSimpArgs false

end Go.Proofs.Ytokgkhndhlcfpaa.PTrieLimits
