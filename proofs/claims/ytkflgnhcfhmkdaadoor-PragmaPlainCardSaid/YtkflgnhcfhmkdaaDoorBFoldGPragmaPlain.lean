/- The printed functions of fold great and small are the plain ones. -/
import Derived.Test.YtkflgnhcfhmkdaaDoorPPragmaPlainx
import Derived.Test.YtkflgnhcfhmkdaaDoorMFold
namespace Go.Proofs.YtkflgnhcfhmkdaaDoor.Pure
open Go.RowKit Go.Proofs.YtkflgnhcfhmkdaaDoor.PPragmaPlain Go.Proofs.YtkflgnhcfhmkdaaDoorW.PrintWords Go.Proofs.YtkflgnhcfhmkdaaDoorW.PrintLast
open Go.Proofs.YtkflgnhcfhmkdaaDoor.M Go.Proofs.YtkflgnhcfhmkdaaDoor.X
set_option linter.unusedVariables false
set_option linter.unusedSimpArgs false

theorem fgreat_eq (r : Int) : fold_great.f r = some (great r) := by
  unfold fold_great.f
  cases h : great r
  · rw [great_not] at h
    (repeat' split) <;> first | rfl | omega | (rw [Option.some.injEq, bne_eq_false_iff_eq]; omega)
  · rw [great_iff] at h
    (repeat' split) <;> first | rfl | omega | (rw [Option.some.injEq, bne_iff_ne]; omega)
end Go.Proofs.YtkflgnhcfhmkdaaDoor.Pure
