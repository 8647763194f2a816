-- Laid by a program of ours (the kit's print with words and contracts of our own beside it).
import Derived.Test.YtmnohlmdckcdeaaPTokenCasesx0
import Derived.Test.YtmnohlmdckcdeaaPTokenCasesx1
import Derived.Test.YtmnohlmdckcdeaaPTokenCasesx2
import Derived.Test.YtmnohlmdckcdeaaPTokenCasesx3
import Derived.Test.YtmnohlmdckcdeaaPTokenCasesx4
import Derived.Test.YtmnohlmdckcdeaaPTokenCasesx5
import Derived.Test.YtmnohlmdckcdeaaPTokenCasesx6
import Derived.Test.YtmnohlmdckcdeaaPTokenCasesx7
import Derived.Test.YtmnohlmdckcdeaaPTokenCasesx8
namespace Go.Proofs.Ytmnohlmdckcdeaa.PTokenCases
open Go.RowKit Go.Proofs.Ytmnohlmdckcdeaa.X Go.Proofs.YtmnohlmdckcdeaaW.PrintWords Go.Proofs.YtmnohlmdckcdeaaW.PrintLast Go.Proofs.YtmnohlmdckcdeaaW.PrintMore
attribute [local go_sem] max2_int min2_int max_two min_two max_three min_three max_four min_four   -- for this text's walks alone
set_option linter.unusedVariables false
set_option linter.unusedSimpArgs false

end Go.Proofs.Ytmnohlmdckcdeaa.PTokenCases
