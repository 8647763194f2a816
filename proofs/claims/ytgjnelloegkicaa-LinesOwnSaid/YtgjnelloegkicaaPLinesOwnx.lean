-- Laid by a program of ours (the kit's print with words and contracts of our own beside it).
import Derived.Test.YtgjnelloegkicaaPLinesOwnx0
import Derived.Test.YtgjnelloegkicaaPLinesOwnx1
import Derived.Test.YtgjnelloegkicaaPLinesOwnx2
import Derived.Test.YtgjnelloegkicaaPLinesOwnx3
import Derived.Test.YtgjnelloegkicaaPLinesOwnx4
import Derived.Test.YtgjnelloegkicaaPLinesOwnx5
import Derived.Test.YtgjnelloegkicaaPLinesOwnx6
import Derived.Test.YtgjnelloegkicaaPLinesOwnx7
namespace Go.Proofs.Ytgjnelloegkicaa.PLinesOwn
open Go.RowKit Go.Proofs.Ytgjnelloegkicaa.X Go.Proofs.YtgjnelloegkicaaW.PrintWords Go.Proofs.YtgjnelloegkicaaW.PrintLast Go.Proofs.YtgjnelloegkicaaW.PrintMore
attribute [local go_sem] max2_int min2_int max_two min_two max_three min_three max_four min_four   -- for this text's walks alone
set_option linter.unusedVariables false
set_option linter.unusedSimpArgs false

end Go.Proofs.Ytgjnelloegkicaa.PLinesOwn
