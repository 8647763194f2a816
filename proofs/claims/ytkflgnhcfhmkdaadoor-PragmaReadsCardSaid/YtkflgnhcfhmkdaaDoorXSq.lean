/- Words beside the print's: shorter names for the steps of a drawn region. -/
import Derived.Test.YtkflgnhcfhmkdaaDoorWAll
namespace Go.Proofs.YtkflgnhcfhmkdaaDoor.X
open Go.RowKit Go.Proofs.YtkflgnhcfhmkdaaDoorW.PrintWords Go.Proofs.YtkflgnhcfhmkdaaDoorW.PrintLast
set_option linter.unusedVariables false
set_option linter.unusedSimpArgs false
def bs (n m : Nat) : Array Bool := ((List.range n).map fun i => m.testBit i).toArray
theorem sit {α : Type _} (l : List α) (i : Nat) (a : α) : l.toArray.setIfInBounds i a = (l.set i a).toArray := List.setIfInBounds_toArray ..
theorem scz {α : Type _} (a b : α) (l : List α) : (a :: l).set 0 b = b :: l := List.set_cons_zero
theorem scs {α : Type _} (a b : α) (l : List α) (n : Nat) : (a :: l).set (n + 1) b = a :: l.set n b := List.set_cons_succ
section
variable {P : Program} {ops : Array Oper} {Q : Exit → Act → World → Prop} {S : World → Prop} {ds : List Nat}
theorem pu_ (i : Nat) (N : Option Tmp) (v : Value) {oi : Oper} {fuel : Nat} {l : Array Bool} {a : Act} {w : World} {T : Bool × List (List Nat × List Nat)} (l' : Array Bool) (hT : rtab .any ops = T) (hc : anyT T l.toList l'.toList i = true) (hi : ops[i]? = some oi) (hN : oi.dst = N)
    (hQ : ∀ c a w, Q (.panic c) (a.put oi.dst v) w → Q (.panic c) a w) (hy : Yields P ops oi v a) (a' : Act) (ha : a.put N v = a')
    (h : wpAnyLast P .any ops Q S ds fuel l' a' w) : wpAnyLast P .any ops Q S ds (fuel + 1) l a w := pure_ l' hi hN (any_of hT hc) hQ hy ha h
end
end Go.Proofs.YtkflgnhcfhmkdaaDoor.X
