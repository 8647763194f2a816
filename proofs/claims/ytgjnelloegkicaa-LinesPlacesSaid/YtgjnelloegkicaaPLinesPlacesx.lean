-- Laid by a program of ours (the kit's print with words and contracts of our own beside it).
import Derived.Test.YtgjnelloegkicaaPLinesPlacesx0
import Derived.Test.YtgjnelloegkicaaPLinesPlacesx1
import Derived.Test.YtgjnelloegkicaaPLinesPlacesx2
import Derived.Test.YtgjnelloegkicaaPLinesPlacesx3
import Derived.Test.YtgjnelloegkicaaPLinesPlacesx4
import Derived.Test.YtgjnelloegkicaaPLinesPlacesx5
import Derived.Test.YtgjnelloegkicaaPLinesPlacesx6
namespace Go.Proofs.Ytgjnelloegkicaa.PLinesPlaces
open Go.RowKit Go.Proofs.Ytgjnelloegkicaa.X Go.Proofs.YtgjnelloegkicaaW.PrintWords Go.Proofs.YtgjnelloegkicaaW.PrintLast Go.Proofs.YtgjnelloegkicaaW.PrintMore
attribute [local go_sem] max2_int min2_int max_two min_two max_three min_three max_four min_four   -- for this text's walks alone
set_option linter.unusedVariables false
set_option linter.unusedSimpArgs false

end Go.Proofs.Ytgjnelloegkicaa.PLinesPlaces
