-- x
import Derived.Test.YtjabpbnlpljlkaaDoorPShowMadex0
import Derived.Test.YtjabpbnlpljlkaaDoorPShowMadex1
import Derived.Test.YtjabpbnlpljlkaaDoorPShowMadex2
import Derived.Test.YtjabpbnlpljlkaaDoorPShowMadex3
import Derived.Test.YtjabpbnlpljlkaaDoorPShowMadex4
import Derived.Test.YtjabpbnlpljlkaaDoorPShowMadex5
import Derived.Test.YtjabpbnlpljlkaaDoorPShowMadex6
import Derived.Test.YtjabpbnlpljlkaaDoorPShowMadex7
import Derived.Test.YtjabpbnlpljlkaaDoorPShowMadex8
import Derived.Test.YtjabpbnlpljlkaaDoorPShowMadex9
import Derived.Test.YtjabpbnlpljlkaaDoorPShowMadex10
namespace Go.Proofs.YtjabpbnlpljlkaaDoor.PShowMade
open Go.RowKit Go.Proofs.YtjabpbnlpljlkaaDoor.X Go.Proofs.YtjabpbnlpljlkaaDoorW.PrintWords Go.Proofs.YtjabpbnlpljlkaaDoorW.PrintLast Go.Proofs.YtjabpbnlpljlkaaDoorW.PrintMore
attribute [local go_sem] max2_int min2_int max_two min_two max_three min_three max_four min_four   -- for this text's walks alone
set_option linter.unusedVariables false
set_option linter.unusedSimpArgs false

end Go.Proofs.YtjabpbnlpljlkaaDoor.PShowMade
