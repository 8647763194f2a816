/- A world in which the listed tables of Go's library lie as their texts lay them (for the witness of tied cards); the one variable that is read holds some number. -/
import Derived.Test.YtnmngglfeiifaaaGreatDoorRows
import Derived.Test.YtnmngglfeiifaaaGreatDoorHList
import Derived.ProofKit
import Derived.LaidLaws
import Derived.Deep.DeepHandedRow
import Derived.Lay
namespace Go.Proofs.YtnmngglfeiifaaaGreatDoor
theorem laid_of {W : World} (h : W.ShapedOpen Tryz.prog) : H.Laid W := H.laid_shaped h
noncomputable def laidWorld (os : Os) : World := World.laidAll Tryz.prog os Rows.listsChecksRow.laid
theorem laid_met (os : Os) (args : Array Value) : laidMet Tryz.prog Rows.listsChecksRow.laid ((laidWorld os).forCall (fun _ _ => 0) ⟨#[], args, []⟩).memory :=
  laidMet_laidAll args (by kernel_rfl) (by kernel_rfl)
end Go.Proofs.YtnmngglfeiifaaaGreatDoor
