-- x
import Derived.Test.YtkflgnhcfhmkdaaDoorPPragmaWordsx0
import Derived.Test.YtkflgnhcfhmkdaaDoorPPragmaWordsx1
import Derived.Test.YtkflgnhcfhmkdaaDoorPPragmaWordsx2
import Derived.Test.YtkflgnhcfhmkdaaDoorPPragmaWordsx3
import Derived.Test.YtkflgnhcfhmkdaaDoorPPragmaWordsx4
import Derived.Test.YtkflgnhcfhmkdaaDoorPPragmaWordsx5
import Derived.Test.YtkflgnhcfhmkdaaDoorPPragmaWordsx6
namespace Go.Proofs.YtkflgnhcfhmkdaaDoor.PPragmaWords
open Go.RowKit Go.Proofs.YtkflgnhcfhmkdaaDoor.X Go.Proofs.YtkflgnhcfhmkdaaDoorW.PrintWords Go.Proofs.YtkflgnhcfhmkdaaDoorW.PrintLast Go.Proofs.YtkflgnhcfhmkdaaDoorW.PrintMore
attribute [local go_sem] max2_int min2_int max_two min_two max_three min_three max_four min_four   -- for this text's walks alone
set_option linter.unusedVariables false
set_option linter.unusedSimpArgs false

end Go.Proofs.YtkflgnhcfhmkdaaDoor.PPragmaWords
