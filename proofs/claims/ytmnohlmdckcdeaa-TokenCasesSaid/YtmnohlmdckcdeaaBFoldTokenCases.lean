/- The printed functions of fold that speak of one rune are the plain ones. -/
import Derived.Test.YtmnohlmdckcdeaaBFoldGTokenCases
namespace Go.Proofs.Ytmnohlmdckcdeaa.Pure
open Go.RowKit Go.Proofs.Ytmnohlmdckcdeaa.PTokenCases Go.Proofs.YtmnohlmdckcdeaaW.PrintWords Go.Proofs.YtmnohlmdckcdeaaW.PrintLast
open Go.Proofs.Ytmnohlmdckcdeaa.M Go.Proofs.Ytmnohlmdckcdeaa.X
set_option linter.unusedVariables false
set_option linter.unusedSimpArgs false

theorem fup_eq {r : Int} (h0 : -2147483648 ≤ r) (h1 : r < 2147483648) : fold_Up.f r = some (upR r) := by
  unfold fold_Up.f
  refine ob (fsmall_eq r) ?_
  unfold upR
  split
  · rename_i h
    rw [small_iff] at h
    rw [w32 (by omega) (by omega)]
  · rfl
theorem fdown_eq {r : Int} (h0 : -2147483648 ≤ r) (h1 : r < 2147483648) : fold_Down.f r = some (downR r) := by
  unfold fold_Down.f
  refine ob (fgreat_eq r) ?_
  unfold downR
  split
  · rename_i h
    rw [great_iff] at h
    rw [w32 (by omega) (by omega)]
  · rfl
end Go.Proofs.Ytmnohlmdckcdeaa.Pure
