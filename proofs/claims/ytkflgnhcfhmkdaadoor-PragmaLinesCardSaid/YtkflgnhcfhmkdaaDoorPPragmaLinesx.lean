-- Laid by a program of ours (the kit's print with words and contracts of our own beside it).
import Derived.Test.YtkflgnhcfhmkdaaDoorPPragmaLinesx0
import Derived.Test.YtkflgnhcfhmkdaaDoorPPragmaLinesx1
import Derived.Test.YtkflgnhcfhmkdaaDoorPPragmaLinesx2
import Derived.Test.YtkflgnhcfhmkdaaDoorPPragmaLinesx3
import Derived.Test.YtkflgnhcfhmkdaaDoorPPragmaLinesx4
import Derived.Test.YtkflgnhcfhmkdaaDoorPPragmaLinesx5
import Derived.Test.YtkflgnhcfhmkdaaDoorPPragmaLinesx6
import Derived.Test.YtkflgnhcfhmkdaaDoorPPragmaLinesx7
namespace Go.Proofs.YtkflgnhcfhmkdaaDoor.PPragmaLines
open Go.RowKit Go.Proofs.YtkflgnhcfhmkdaaDoor.X Go.Proofs.YtkflgnhcfhmkdaaDoorW.PrintWords Go.Proofs.YtkflgnhcfhmkdaaDoorW.PrintLast Go.Proofs.YtkflgnhcfhmkdaaDoorW.PrintMore
attribute [local go_sem] max2_int min2_int max_two min_two max_three min_three max_four min_four   -- for this text's walks alone
set_option linter.unusedVariables false
set_option linter.unusedSimpArgs false

end Go.Proofs.YtkflgnhcfhmkdaaDoor.PPragmaLines
