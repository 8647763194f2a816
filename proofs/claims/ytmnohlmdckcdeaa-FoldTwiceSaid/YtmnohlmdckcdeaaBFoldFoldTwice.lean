/- The printed functions of fold that speak of one rune are the plain ones. -/
import Derived.Test.YtmnohlmdckcdeaaPFoldTwicex
import Derived.Test.YtmnohlmdckcdeaaMFold
namespace Go.Proofs.Ytmnohlmdckcdeaa.Pure
open Go.RowKit Go.Proofs.Ytmnohlmdckcdeaa.PFoldTwice Go.Proofs.YtmnohlmdckcdeaaW.PrintWords Go.Proofs.YtmnohlmdckcdeaaW.PrintLast
open Go.Proofs.Ytmnohlmdckcdeaa.M Go.Proofs.Ytmnohlmdckcdeaa.X

theorem fgreat_eq (r : Int) : fold_great.f r = some (great r) := by
  unfold fold_great.f
  cases h : great r
  · rw [great_not] at h
    (repeat' split) <;> first | rfl | omega | (rw [Option.some.injEq, bne_eq_false_iff_eq]; omega)
  · rw [great_iff] at h
    (repeat' split) <;> first | rfl | omega | (rw [Option.some.injEq, bne_iff_ne]; omega)
theorem fsmall_eq (r : Int) : fold_small.f r = some (small r) := by
  unfold fold_small.f
  cases h : small r
  · rw [small_not] at h
    (repeat' split) <;> first | rfl | omega | (rw [Option.some.injEq, bne_eq_false_iff_eq]; omega)
  · rw [small_iff] at h
    (repeat' split) <;> first | rfl | omega | (rw [Option.some.injEq, bne_iff_ne]; omega)
theorem fup_eq {r : Int} (h0 : -2147483648 ≤ r) (h1 : r < 2147483648) : fold_Up.f r = some (upR r) := by
  unfold fold_Up.f
  refine ob (fsmall_eq r) ?_
  unfold upR
  split
  · rename_i h
    rw [small_iff] at h
    rw [w32 (by omega) (by omega)]
  · rfl
theorem fdown_eq {r : Int} (h0 : -2147483648 ≤ r) (h1 : r < 2147483648) : fold_Down.f r = some (downR r) := by
  unfold fold_Down.f
  refine ob (fgreat_eq r) ?_
  unfold downR
  split
  · rename_i h
    rw [great_iff] at h
    rw [w32 (by omega) (by omega)]
  · rfl
end Go.Proofs.Ytmnohlmdckcdeaa.Pure
