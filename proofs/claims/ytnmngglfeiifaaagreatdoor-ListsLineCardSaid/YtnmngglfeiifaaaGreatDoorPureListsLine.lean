/- ListsLine: the line of an error of many wraps is the first one above nothing, from the outside on. -/
import Derived.Test.YtnmngglfeiifaaaGreatDoorPListsLinex
import Derived.Test.YtnmngglfeiifaaaGreatDoorHM
import Derived.Test.YtnmngglfeiifaaaGreatDoorHErr
namespace Go.Proofs.YtnmngglfeiifaaaGreatDoor.Pure
open Go.RowKit Go.Proofs.YtnmngglfeiifaaaGreatDoor.PListsLine Go.Proofs.YtnmngglfeiifaaaGreatDoorW.PrintWords Go.Proofs.YtnmngglfeiifaaaGreatDoorW.PrintLast
open Go.Proofs.YtnmngglfeiifaaaGreatDoor.M Go.Proofs.YtnmngglfeiifaaaGreatDoor.X Go.Proofs.YtnmngglfeiifaaaGreatDoor.H
set_option linter.unusedVariables false
set_option linter.unusedSimpArgs false
theorem lists_awake : Ev (fun k => redpenlaw06_Awake.f k) true := Ev.of redpenlaw06_Awake.mono (k := 80) (by decide +kernel)
theorem ListsLine (l0 : List Int) (a1 : Int) {P Q R : Prop} (_ : P) (_ : Q) (_ : R) : ∃ k, redpenlaw06_ListsLine.f k l0 a1 = some true := by
  refine Ev.rounds (Ev.bind lists_awake ?_)
  simp only [if_true]
  by_cases h : 30 < l0.length
  · exact Ev.congr (fun k => if_pos h) (Ev.now _)
  · refine Ev.congr (fun k => if_neg h) ?_
    have e : (lineE (errE a1 l0) == if a1 = 0 then 0 else wantE l0) = true := beq_iff_eq.2 (law_line a1 l0)
    rw [e]
    exact Ev.now _
end Go.Proofs.YtnmngglfeiifaaaGreatDoor.Pure
