-- x
import Derived.Test.YtjabpbnlpljlkaaDoorPShowMadex0
namespace Go.Proofs.YtjabpbnlpljlkaaDoor.PShowMade
open Go.RowKit Go.Proofs.YtjabpbnlpljlkaaDoor.X Go.Proofs.YtjabpbnlpljlkaaDoorW.PrintWords Go.Proofs.YtjabpbnlpljlkaaDoorW.PrintLast Go.Proofs.YtjabpbnlpljlkaaDoorW.PrintMore
attribute [local go_sem] max2_int min2_int max_two min_two max_three min_three max_four min_four   -- for this text's walks alone
set_option linter.unusedVariables false
set_option linter.unusedSimpArgs false

-- NOT PRINTED: function 62 (hunks_Changes_1)

end Go.Proofs.YtjabpbnlpljlkaaDoor.PShowMade
