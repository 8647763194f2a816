-- Cut by a program of ours to what this claim names.
import Derived.Test.YtkflgnhcfhmkdaaDoorWInv
import Derived.Test.YtkflgnhcfhmkdaaDoorWFootNe
namespace Go.Proofs.YtkflgnhcfhmkdaaDoorW.PrintWords
open Go.RowKit
end Go.Proofs.YtkflgnhcfhmkdaaDoorW.PrintWords
namespace Go.Proofs.YtkflgnhcfhmkdaaDoorW.PrintLast
section
variable {ops : Array Oper} {a : Act} {o og : Oper} {g : Nat} {t : Tmp} {u : Bool}
end
end Go.Proofs.YtkflgnhcfhmkdaaDoorW.PrintLast
