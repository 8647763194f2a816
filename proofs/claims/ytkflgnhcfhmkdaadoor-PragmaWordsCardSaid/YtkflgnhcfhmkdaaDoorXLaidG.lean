/- A world in which the listed tables of Go's library lie as their texts lay them (for the witness of tied cards); the one variable that is read holds some number. -/
import Derived.Test.YtkflgnhcfhmkdaaDoorRows
import Derived.Test.YtkflgnhcfhmkdaaDoorHPrag
import Derived.ProofKit
import Derived.LaidLaws
import Derived.Deep.DeepHandedRow
import Derived.Lay
namespace Go.Proofs.YtkflgnhcfhmkdaaDoor
theorem laid_of {W : World} (h : W.ShapedOpen Tryd.prog) : H.Laid W := H.laid_shaped h
noncomputable def laidWorld (os : Os) : World := World.laidAll Tryd.prog os Rows.pragmaNilRow.laid
theorem laid_met (os : Os) (args : Array Value) : laidMet Tryd.prog Rows.pragmaNilRow.laid ((laidWorld os).forCall (fun _ _ => 0) ⟨#[], args, []⟩).memory :=
  laidMet_laidAll args (by kernel_rfl) (by kernel_rfl)
end Go.Proofs.YtkflgnhcfhmkdaaDoor
