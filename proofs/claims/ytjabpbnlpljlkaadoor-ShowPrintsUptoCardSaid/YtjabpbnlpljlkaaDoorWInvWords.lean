-- Cut by a program of ours to what this claim names.
import Derived.Test.YtjabpbnlpljlkaaDoorWInv
import Derived.Test.YtjabpbnlpljlkaaDoorWFootNe
namespace Go.Proofs.YtjabpbnlpljlkaaDoorW.PrintWords
open Go.RowKit
end Go.Proofs.YtjabpbnlpljlkaaDoorW.PrintWords
namespace Go.Proofs.YtjabpbnlpljlkaaDoorW.PrintLast
section
variable {ops : Array Oper} {a : Act} {o og : Oper} {g : Nat} {t : Tmp} {u : Bool}
end
end Go.Proofs.YtjabpbnlpljlkaaDoorW.PrintLast
