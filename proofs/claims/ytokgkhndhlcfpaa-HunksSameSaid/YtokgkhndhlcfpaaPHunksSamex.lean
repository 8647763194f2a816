-- x
import Derived.Test.YtokgkhndhlcfpaaPHunksSamex0
import Derived.Test.YtokgkhndhlcfpaaPHunksSamex1
import Derived.Test.YtokgkhndhlcfpaaPHunksSamex2
import Derived.Test.YtokgkhndhlcfpaaPHunksSamex3
import Derived.Test.YtokgkhndhlcfpaaPHunksSamex4
import Derived.Test.YtokgkhndhlcfpaaPHunksSamex5
import Derived.Test.YtokgkhndhlcfpaaPHunksSamex6
import Derived.Test.YtokgkhndhlcfpaaPHunksSamex7
import Derived.Test.YtokgkhndhlcfpaaPHunksSamex8
namespace Go.Proofs.Ytokgkhndhlcfpaa.PHunksSame
open Go.RowKit Go.Proofs.Ytokgkhndhlcfpaa.X Go.Proofs.YtokgkhndhlcfpaaW.PrintWords Go.Proofs.YtokgkhndhlcfpaaW.PrintLast Go.Proofs.YtokgkhndhlcfpaaW.PrintMore
attribute [local go_sem] max2_int min2_int max_two min_two max_three min_three max_four min_four   -- for this text's walks alone
set_option linter.unusedVariables false
set_option linter.unusedSimpArgs false

end Go.Proofs.Ytokgkhndhlcfpaa.PHunksSame
