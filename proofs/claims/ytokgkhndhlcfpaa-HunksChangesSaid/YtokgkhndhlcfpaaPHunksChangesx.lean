-- x
import Derived.Test.YtokgkhndhlcfpaaPHunksChangesx0
import Derived.Test.YtokgkhndhlcfpaaPHunksChangesx1
import Derived.Test.YtokgkhndhlcfpaaPHunksChangesx2
import Derived.Test.YtokgkhndhlcfpaaPHunksChangesx3
import Derived.Test.YtokgkhndhlcfpaaPHunksChangesx4
import Derived.Test.YtokgkhndhlcfpaaPHunksChangesx5
import Derived.Test.YtokgkhndhlcfpaaPHunksChangesx6
import Derived.Test.YtokgkhndhlcfpaaPHunksChangesx7
import Derived.Test.YtokgkhndhlcfpaaPHunksChangesx8
import Derived.Test.YtokgkhndhlcfpaaPHunksChangesx9
import Derived.Test.YtokgkhndhlcfpaaPHunksChangesx10
import Derived.Test.YtokgkhndhlcfpaaPHunksChangesx11
namespace Go.Proofs.Ytokgkhndhlcfpaa.PHunksChanges
open Go.RowKit Go.Proofs.Ytokgkhndhlcfpaa.X Go.Proofs.YtokgkhndhlcfpaaW.PrintWords Go.Proofs.YtokgkhndhlcfpaaW.PrintLast Go.Proofs.YtokgkhndhlcfpaaW.PrintMore
attribute [local go_sem] max2_int min2_int max_two min_two max_three min_three max_four min_four   -- for this text's walks alone
set_option linter.unusedVariables false
set_option linter.unusedSimpArgs false

end Go.Proofs.Ytokgkhndhlcfpaa.PHunksChanges
