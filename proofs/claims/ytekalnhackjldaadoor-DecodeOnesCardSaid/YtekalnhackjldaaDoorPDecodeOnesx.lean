-- x
import Derived.Test.YtekalnhackjldaaDoorPDecodeOnesx0
import Derived.Test.YtekalnhackjldaaDoorPDecodeOnesx1
import Derived.Test.YtekalnhackjldaaDoorPDecodeOnesx2
import Derived.Test.YtekalnhackjldaaDoorPDecodeOnesx3
import Derived.Test.YtekalnhackjldaaDoorPDecodeOnesx4
import Derived.Test.YtekalnhackjldaaDoorPDecodeOnesx5
import Derived.Test.YtekalnhackjldaaDoorPDecodeOnesx6
import Derived.Test.YtekalnhackjldaaDoorPDecodeOnesx7
import Derived.Test.YtekalnhackjldaaDoorPDecodeOnesx8
import Derived.Test.YtekalnhackjldaaDoorPDecodeOnesx9
import Derived.Test.YtekalnhackjldaaDoorPDecodeOnesx10
namespace Go.Proofs.YtekalnhackjldaaDoor.PDecodeOnes
open Go.RowKit Go.Proofs.YtekalnhackjldaaDoor.X Go.Proofs.YtekalnhackjldaaDoorW.PrintWords Go.Proofs.YtekalnhackjldaaDoorW.PrintLast Go.Proofs.YtekalnhackjldaaDoorW.PrintMore
attribute [local go_sem] max2_int min2_int max_two min_two max_three min_three max_four min_four   -- for this text's walks alone
set_option linter.unusedVariables false
set_option linter.unusedSimpArgs false

end Go.Proofs.YtekalnhackjldaaDoor.PDecodeOnes
