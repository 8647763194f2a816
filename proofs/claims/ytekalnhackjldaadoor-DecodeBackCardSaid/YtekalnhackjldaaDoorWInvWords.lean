-- Cut by a program of ours to what this claim names.
import Derived.Test.YtekalnhackjldaaDoorWInv
import Derived.Test.YtekalnhackjldaaDoorWFootNe
namespace Go.Proofs.YtekalnhackjldaaDoorW.PrintWords
open Go.RowKit
end Go.Proofs.YtekalnhackjldaaDoorW.PrintWords
namespace Go.Proofs.YtekalnhackjldaaDoorW.PrintLast
section
variable {ops : Array Oper} {a : Act} {o og : Oper} {g : Nat} {t : Tmp} {u : Bool}
end
end Go.Proofs.YtekalnhackjldaaDoorW.PrintLast
