/- ListsChecks: any text as a listed word: the program's answer is the document's. -/
import Derived.Test.YtnmngglfeiifaaaGreatDoorBAll
namespace Go.Proofs.YtnmngglfeiifaaaGreatDoor.Pure
open Go.RowKit Go.Proofs.YtnmngglfeiifaaaGreatDoor.PListsChecks Go.Proofs.YtnmngglfeiifaaaGreatDoorW.PrintWords Go.Proofs.YtnmngglfeiifaaaGreatDoorW.PrintLast
open Go.Proofs.YtnmngglfeiifaaaGreatDoor.M Go.Proofs.YtnmngglfeiifaaaGreatDoor.X Go.Proofs.YtnmngglfeiifaaaGreatDoor.H
set_option linter.unusedVariables false
set_option linter.unusedSimpArgs false

theorem lists_awake : Ev (fun k => redpenlaw06_Awake.f k) true := Ev.of redpenlaw06_Awake.mono (k := 80) (by decide +kernel)
theorem ListsChecks (a0 : ByteArray) (h0 : a0.size ≤ 140737488351232) : ∃ k, redpenlaw06_ListsChecks.f k a0 = some true := by
  refine Ev.rounds (Ev.bind lists_awake ?_)
  simp only [if_true]
  by_cases h : (a0.size : Int) > 500
  · exact Ev.congr (fun k => if_pos h) (Ev.now _)
  · refine Ev.congr (fun k => if_neg h) (Ev.bind (check_ev a0 (by omega)) (Ev.bind (rcheck_ev a0 (by omega)) ?_))
    have e : (checkM a0 == checkM a0) = true := by simp
    rw [e]
    exact Ev.now _
end Go.Proofs.YtnmngglfeiifaaaGreatDoor.Pure
