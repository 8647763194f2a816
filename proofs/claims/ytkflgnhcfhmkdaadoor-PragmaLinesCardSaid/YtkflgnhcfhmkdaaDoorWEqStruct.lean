-- Cut by a program of ours to what this claim names.
import Derived.Test.YtkflgnhcfhmkdaaDoorWWords
import Derived.Laws.StructEq
/-! ### 53. '==' of structs as_ one Bool -/
namespace Go.Proofs.YtkflgnhcfhmkdaaDoorW.PrintWords
open Go.RowKit
section
variable {P : Program} {d : Nat} {xs ys : Array Value} {f : Field} {fs : List Field} {a b : Value} {r s : Bool} {w : World}
end
end Go.Proofs.YtkflgnhcfhmkdaaDoorW.PrintWords
