/- A string's bytes as numbers, and back. -/
import Derived.Laws.Strings
import Derived.Test.YtkflgnhcfhmkdaaDoorWWords
import Derived.Test.YtkflgnhcfhmkdaaDoorXWords
import Derived.Test.YtkflgnhcfhmkdaaDoorMUtf
namespace Go.Proofs.YtkflgnhcfhmkdaaDoor.M
open Go.RowKit Go.Proofs.YtkflgnhcfhmkdaaDoorW.PrintWords Go.Proofs.YtkflgnhcfhmkdaaDoor.X
set_option linter.unusedVariables false
set_option linter.unusedSimpArgs false

end Go.Proofs.YtkflgnhcfhmkdaaDoor.M
