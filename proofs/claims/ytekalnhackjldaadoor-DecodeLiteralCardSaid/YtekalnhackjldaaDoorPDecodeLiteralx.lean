-- Laid by a program of ours (the kit's print with words and contracts of our own beside it).
import Derived.Test.YtekalnhackjldaaDoorPDecodeLiteralx0
import Derived.Test.YtekalnhackjldaaDoorPDecodeLiteralx1
import Derived.Test.YtekalnhackjldaaDoorPDecodeLiteralx2
import Derived.Test.YtekalnhackjldaaDoorPDecodeLiteralx3
import Derived.Test.YtekalnhackjldaaDoorPDecodeLiteralx4
import Derived.Test.YtekalnhackjldaaDoorPDecodeLiteralx5
import Derived.Test.YtekalnhackjldaaDoorPDecodeLiteralx6
import Derived.Test.YtekalnhackjldaaDoorPDecodeLiteralx7
import Derived.Test.YtekalnhackjldaaDoorPDecodeLiteralx8
import Derived.Test.YtekalnhackjldaaDoorPDecodeLiteralx9
import Derived.Test.YtekalnhackjldaaDoorPDecodeLiteralx10
import Derived.Test.YtekalnhackjldaaDoorPDecodeLiteralx11
import Derived.Test.YtekalnhackjldaaDoorPDecodeLiteralx12
namespace Go.Proofs.YtekalnhackjldaaDoor.PDecodeLiteral
open Go.RowKit Go.Proofs.YtekalnhackjldaaDoor.X Go.Proofs.YtekalnhackjldaaDoorW.PrintWords Go.Proofs.YtekalnhackjldaaDoorW.PrintLast Go.Proofs.YtekalnhackjldaaDoorW.PrintMore
attribute [local go_sem] max2_int min2_int max_two min_two max_three min_three max_four min_four   -- for this text's walks alone
set_option linter.unusedVariables false
set_option linter.unusedSimpArgs false

end Go.Proofs.YtekalnhackjldaaDoor.PDecodeLiteral
