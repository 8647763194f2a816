/- A string's bytes as numbers, and back. -/
import Derived.Laws.Strings
import Derived.Test.YtokgkhndhlcfpaaWWords
import Derived.Test.YtokgkhndhlcfpaaXWords
import Derived.Test.YtokgkhndhlcfpaaMUtf
namespace Go.Proofs.Ytokgkhndhlcfpaa.M
open Go.RowKit Go.Proofs.YtokgkhndhlcfpaaW.PrintWords Go.Proofs.Ytokgkhndhlcfpaa.X
set_option linter.unusedVariables false
set_option linter.unusedSimpArgs false

end Go.Proofs.Ytokgkhndhlcfpaa.M
