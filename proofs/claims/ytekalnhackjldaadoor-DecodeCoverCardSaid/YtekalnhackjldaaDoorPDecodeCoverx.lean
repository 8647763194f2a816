-- Laid by a program of ours (the kit's print with words and contracts of our own beside it).
import Derived.Test.YtekalnhackjldaaDoorPDecodeCoverx0
import Derived.Test.YtekalnhackjldaaDoorPDecodeCoverx1
import Derived.Test.YtekalnhackjldaaDoorPDecodeCoverx2
import Derived.Test.YtekalnhackjldaaDoorPDecodeCoverx3
import Derived.Test.YtekalnhackjldaaDoorPDecodeCoverx4
import Derived.Test.YtekalnhackjldaaDoorPDecodeCoverx5
import Derived.Test.YtekalnhackjldaaDoorPDecodeCoverx6
import Derived.Test.YtekalnhackjldaaDoorPDecodeCoverx7
namespace Go.Proofs.YtekalnhackjldaaDoor.PDecodeCover
open Go.RowKit Go.Proofs.YtekalnhackjldaaDoor.X Go.Proofs.YtekalnhackjldaaDoorW.PrintWords Go.Proofs.YtekalnhackjldaaDoorW.PrintLast Go.Proofs.YtekalnhackjldaaDoorW.PrintMore
attribute [local go_sem] max2_int min2_int max_two min_two max_three min_three max_four min_four   -- for this text's walks alone
set_option linter.unusedVariables false
set_option linter.unusedSimpArgs false

end Go.Proofs.YtekalnhackjldaaDoor.PDecodeCover
