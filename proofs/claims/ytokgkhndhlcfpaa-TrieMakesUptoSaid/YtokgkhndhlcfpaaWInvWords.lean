-- Cut by a program of ours to what this claim names.
import Derived.Test.YtokgkhndhlcfpaaWInv
import Derived.Test.YtokgkhndhlcfpaaWFootNe
namespace Go.Proofs.YtokgkhndhlcfpaaW.PrintWords
open Go.RowKit
end Go.Proofs.YtokgkhndhlcfpaaW.PrintWords
namespace Go.Proofs.YtokgkhndhlcfpaaW.PrintLast
section
variable {ops : Array Oper} {a : Act} {o og : Oper} {g : Nat} {t : Tmp} {u : Bool}
end
end Go.Proofs.YtokgkhndhlcfpaaW.PrintLast
