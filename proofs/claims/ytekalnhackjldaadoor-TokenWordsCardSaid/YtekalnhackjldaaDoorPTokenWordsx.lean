-- Laid by a program of ours (the kit's print with words and contracts of our own beside it).
import Derived.Test.YtekalnhackjldaaDoorPTokenWordsx0
import Derived.Test.YtekalnhackjldaaDoorPTokenWordsx1
import Derived.Test.YtekalnhackjldaaDoorPTokenWordsx2
import Derived.Test.YtekalnhackjldaaDoorPTokenWordsx3
import Derived.Test.YtekalnhackjldaaDoorPTokenWordsx4
import Derived.Test.YtekalnhackjldaaDoorPTokenWordsx5
import Derived.Test.YtekalnhackjldaaDoorPTokenWordsx6
import Derived.Test.YtekalnhackjldaaDoorPTokenWordsx7
import Derived.Test.YtekalnhackjldaaDoorPTokenWordsx8
import Derived.Test.YtekalnhackjldaaDoorPTokenWordsx9
import Derived.Test.YtekalnhackjldaaDoorPTokenWordsx10
import Derived.Test.YtekalnhackjldaaDoorPTokenWordsx11
import Derived.Test.YtekalnhackjldaaDoorPTokenWordsx12
import Derived.Test.YtekalnhackjldaaDoorPTokenWordsx13
import Derived.Test.YtekalnhackjldaaDoorPTokenWordsx14
import Derived.Test.YtekalnhackjldaaDoorPTokenWordsx15
import Derived.Test.YtekalnhackjldaaDoorPTokenWordsx16
import Derived.Test.YtekalnhackjldaaDoorPTokenWordsx17
namespace Go.Proofs.YtekalnhackjldaaDoor.PTokenWords
open Go.RowKit Go.Proofs.YtekalnhackjldaaDoor.X Go.Proofs.YtekalnhackjldaaDoorW.PrintWords Go.Proofs.YtekalnhackjldaaDoorW.PrintLast Go.Proofs.YtekalnhackjldaaDoorW.PrintMore
attribute [local go_sem] max2_int min2_int max_two min_two max_three min_three max_four min_four   -- for this text's walks alone
set_option linter.unusedVariables false
set_option linter.unusedSimpArgs false

end Go.Proofs.YtekalnhackjldaaDoor.PTokenWords
