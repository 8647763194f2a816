-- x
import Derived.Test.YtokgkhndhlcfpaaPHunksOnex0
namespace Go.Proofs.Ytokgkhndhlcfpaa.PHunksOne
open Go.RowKit Go.Proofs.Ytokgkhndhlcfpaa.X Go.Proofs.YtokgkhndhlcfpaaW.PrintWords Go.Proofs.YtokgkhndhlcfpaaW.PrintLast Go.Proofs.YtokgkhndhlcfpaaW.PrintMore
attribute [local go_sem] max2_int min2_int max_two min_two max_three min_three max_four min_four   -- for this text's walks alone
set_option linter.unusedVariables false
set_option linter.unusedSimpArgs false

-- NOT PRINTED: function 42 (hunks_Changes_1)

end Go.Proofs.Ytokgkhndhlcfpaa.PHunksOne
