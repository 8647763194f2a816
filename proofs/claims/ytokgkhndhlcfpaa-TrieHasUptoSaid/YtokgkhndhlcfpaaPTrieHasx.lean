-- Laid by a program of ours (the kit's print with words and contracts of our own beside it).
import Derived.Test.YtokgkhndhlcfpaaPTrieHasx0
import Derived.Test.YtokgkhndhlcfpaaPTrieHasx1
import Derived.Test.YtokgkhndhlcfpaaPTrieHasx2
import Derived.Test.YtokgkhndhlcfpaaPTrieHasx3
import Derived.Test.YtokgkhndhlcfpaaPTrieHasx4
import Derived.Test.YtokgkhndhlcfpaaPTrieHasx5
namespace Go.Proofs.Ytokgkhndhlcfpaa.PTrieHas
open Go.RowKit Go.Proofs.Ytokgkhndhlcfpaa.X Go.Proofs.YtokgkhndhlcfpaaW.PrintWords Go.Proofs.YtokgkhndhlcfpaaW.PrintLast Go.Proofs.YtokgkhndhlcfpaaW.PrintMore
attribute [local go_sem] max2_int min2_int max_two min_two max_three min_three max_four min_four   -- for this text's walks alone
set_option linter.unusedVariables false
set_option linter.unusedSimpArgs false

end Go.Proofs.Ytokgkhndhlcfpaa.PTrieHas
