-- x
import Derived.Test.YtokgkhndhlcfpaaPHunksLeastx0
import Derived.Test.YtokgkhndhlcfpaaPHunksLeastx1
import Derived.Test.YtokgkhndhlcfpaaPHunksLeastx2
import Derived.Test.YtokgkhndhlcfpaaPHunksLeastx3
import Derived.Test.YtokgkhndhlcfpaaPHunksLeastx4
import Derived.Test.YtokgkhndhlcfpaaPHunksLeastx5
import Derived.Test.YtokgkhndhlcfpaaPHunksLeastx6
import Derived.Test.YtokgkhndhlcfpaaPHunksLeastx7
import Derived.Test.YtokgkhndhlcfpaaPHunksLeastx8
import Derived.Test.YtokgkhndhlcfpaaPHunksLeastx9
namespace Go.Proofs.Ytokgkhndhlcfpaa.PHunksLeast
open Go.RowKit Go.Proofs.Ytokgkhndhlcfpaa.X Go.Proofs.YtokgkhndhlcfpaaW.PrintWords Go.Proofs.YtokgkhndhlcfpaaW.PrintLast Go.Proofs.YtokgkhndhlcfpaaW.PrintMore
attribute [local go_sem] max2_int min2_int max_two min_two max_three min_three max_four min_four   -- for this text's walks alone
set_option linter.unusedVariables false
set_option linter.unusedSimpArgs false

end Go.Proofs.Ytokgkhndhlcfpaa.PHunksLeast
