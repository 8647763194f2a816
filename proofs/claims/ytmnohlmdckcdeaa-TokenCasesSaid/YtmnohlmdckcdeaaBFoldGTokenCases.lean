/- The printed functions of fold great and small are the plain ones. -/
import Derived.Test.YtmnohlmdckcdeaaPTokenCasesx
import Derived.Test.YtmnohlmdckcdeaaMFold
namespace Go.Proofs.Ytmnohlmdckcdeaa.Pure
open Go.RowKit Go.Proofs.Ytmnohlmdckcdeaa.PTokenCases Go.Proofs.YtmnohlmdckcdeaaW.PrintWords Go.Proofs.YtmnohlmdckcdeaaW.PrintLast
open Go.Proofs.Ytmnohlmdckcdeaa.M Go.Proofs.Ytmnohlmdckcdeaa.X
set_option linter.unusedVariables false
set_option linter.unusedSimpArgs false

theorem fgreat_eq (r : Int) : fold_great.f r = some (great r) := by
  unfold fold_great.f
  cases h : great r
  · rw [great_not] at h
    (repeat' split) <;> first | rfl | omega | (rw [Option.some.injEq, bne_eq_false_iff_eq]; omega)
  · rw [great_iff] at h
    (repeat' split) <;> first | rfl | omega | (rw [Option.some.injEq, bne_iff_ne]; omega)
theorem fsmall_eq (r : Int) : fold_small.f r = some (small r) := by
  unfold fold_small.f
  cases h : small r
  · rw [small_not] at h
    (repeat' split) <;> first | rfl | omega | (rw [Option.some.injEq, bne_eq_false_iff_eq]; omega)
  · rw [small_iff] at h
    (repeat' split) <;> first | rfl | omega | (rw [Option.some.injEq, bne_iff_ne]; omega)
end Go.Proofs.Ytmnohlmdckcdeaa.Pure
