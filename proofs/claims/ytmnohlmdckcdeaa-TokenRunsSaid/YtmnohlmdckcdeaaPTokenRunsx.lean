-- Laid by a program of ours (the kit's print with words and contracts of our own beside it).
import Derived.Test.YtmnohlmdckcdeaaPTokenRunsx0
import Derived.Test.YtmnohlmdckcdeaaPTokenRunsx1
import Derived.Test.YtmnohlmdckcdeaaPTokenRunsx2
import Derived.Test.YtmnohlmdckcdeaaPTokenRunsx3
import Derived.Test.YtmnohlmdckcdeaaPTokenRunsx4
import Derived.Test.YtmnohlmdckcdeaaPTokenRunsx5
import Derived.Test.YtmnohlmdckcdeaaPTokenRunsx6
import Derived.Test.YtmnohlmdckcdeaaPTokenRunsx7
import Derived.Test.YtmnohlmdckcdeaaPTokenRunsx8
import Derived.Test.YtmnohlmdckcdeaaPTokenRunsx9
namespace Go.Proofs.Ytmnohlmdckcdeaa.PTokenRuns
open Go.RowKit Go.Proofs.Ytmnohlmdckcdeaa.X Go.Proofs.YtmnohlmdckcdeaaW.PrintWords Go.Proofs.YtmnohlmdckcdeaaW.PrintLast Go.Proofs.YtmnohlmdckcdeaaW.PrintMore
attribute [local go_sem] max2_int min2_int max_two min_two max_three min_three max_four min_four   -- for this text's walks alone
set_option linter.unusedVariables false
set_option linter.unusedSimpArgs false

end Go.Proofs.Ytmnohlmdckcdeaa.PTokenRuns
