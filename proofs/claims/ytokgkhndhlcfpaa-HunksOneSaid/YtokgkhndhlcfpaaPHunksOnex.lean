-- x
import Derived.Test.YtokgkhndhlcfpaaPHunksOnex0
import Derived.Test.YtokgkhndhlcfpaaPHunksOnex1
import Derived.Test.YtokgkhndhlcfpaaPHunksOnex2
import Derived.Test.YtokgkhndhlcfpaaPHunksOnex3
import Derived.Test.YtokgkhndhlcfpaaPHunksOnex4
import Derived.Test.YtokgkhndhlcfpaaPHunksOnex5
import Derived.Test.YtokgkhndhlcfpaaPHunksOnex6
import Derived.Test.YtokgkhndhlcfpaaPHunksOnex7
import Derived.Test.YtokgkhndhlcfpaaPHunksOnex8
namespace Go.Proofs.Ytokgkhndhlcfpaa.PHunksOne
open Go.RowKit Go.Proofs.Ytokgkhndhlcfpaa.X Go.Proofs.YtokgkhndhlcfpaaW.PrintWords Go.Proofs.YtokgkhndhlcfpaaW.PrintLast Go.Proofs.YtokgkhndhlcfpaaW.PrintMore
attribute [local go_sem] max2_int min2_int max_two min_two max_three min_three max_four min_four   -- for this text's walks alone
set_option linter.unusedVariables false
set_option linter.unusedSimpArgs false

end Go.Proofs.Ytokgkhndhlcfpaa.PHunksOne
