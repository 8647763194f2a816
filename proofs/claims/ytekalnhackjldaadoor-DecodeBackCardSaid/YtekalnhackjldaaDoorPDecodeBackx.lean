-- Laid by a program of ours (the kit's print with words and contracts of our own beside it).
import Derived.Test.YtekalnhackjldaaDoorPDecodeBackx0
import Derived.Test.YtekalnhackjldaaDoorPDecodeBackx1
import Derived.Test.YtekalnhackjldaaDoorPDecodeBackx2
import Derived.Test.YtekalnhackjldaaDoorPDecodeBackx3
import Derived.Test.YtekalnhackjldaaDoorPDecodeBackx4
import Derived.Test.YtekalnhackjldaaDoorPDecodeBackx5
import Derived.Test.YtekalnhackjldaaDoorPDecodeBackx6
import Derived.Test.YtekalnhackjldaaDoorPDecodeBackx7
import Derived.Test.YtekalnhackjldaaDoorPDecodeBackx8
import Derived.Test.YtekalnhackjldaaDoorPDecodeBackx9
import Derived.Test.YtekalnhackjldaaDoorPDecodeBackx10
namespace Go.Proofs.YtekalnhackjldaaDoor.PDecodeBack
open Go.RowKit Go.Proofs.YtekalnhackjldaaDoor.X Go.Proofs.YtekalnhackjldaaDoorW.PrintWords Go.Proofs.YtekalnhackjldaaDoorW.PrintLast Go.Proofs.YtekalnhackjldaaDoorW.PrintMore
attribute [local go_sem] max2_int min2_int max_two min_two max_three min_three max_four min_four   -- for this text's walks alone
set_option linter.unusedVariables false
set_option linter.unusedSimpArgs false

end Go.Proofs.YtekalnhackjldaaDoor.PDecodeBack
