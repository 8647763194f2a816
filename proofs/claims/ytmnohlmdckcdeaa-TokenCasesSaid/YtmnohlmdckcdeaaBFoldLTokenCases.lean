/- fold.Letter, Great, Small, and the reference's, are the plain ones. -/
import Derived.Test.YtmnohlmdckcdeaaBFoldGTokenCases
namespace Go.Proofs.Ytmnohlmdckcdeaa.Pure
open Go.RowKit Go.Proofs.Ytmnohlmdckcdeaa.PTokenCases Go.Proofs.YtmnohlmdckcdeaaW.PrintWords Go.Proofs.YtmnohlmdckcdeaaW.PrintLast
open Go.Proofs.Ytmnohlmdckcdeaa.M Go.Proofs.Ytmnohlmdckcdeaa.X
set_option linter.unusedVariables false
set_option linter.unusedSimpArgs false

theorem fletter_eq (r : Int) : fold_Letter.f r = some (letter r) := by
  unfold fold_Letter.f
  refine ob (fgreat_eq r) ?_
  have hi := letter_iff r
  cases hg : great r
  · rw [if_neg (by decide)]
    refine ob (fsmall_eq r) ?_
    cases hs : small r
    · rw [if_neg (by decide)]
      rw [hg, hs] at hi
      simp only [Bool.false_eq_true, false_or] at hi
      cases hl : letter r
      · rw [hl] at hi
        simp only [Bool.false_eq_true, false_iff] at hi
        (repeat' split) <;> first | rfl | omega | (rw [Option.some.injEq, decide_eq_false_iff_not]; omega)
      · have h := hi.1 hl
        (repeat' split) <;> first | rfl | omega | (rw [Option.some.injEq, decide_eq_true_iff]; omega)
    · rw [if_pos rfl, hi.2 (.inr (.inl hs))]
  · rw [if_pos rfl, hi.2 (.inl hg)]
theorem fGreat_eq (r : Int) : fold_Great.f r = some (great r) := by
  unfold fold_Great.f
  exact ob (fgreat_eq r) rfl
theorem fSmall_eq (r : Int) : fold_Small.f r = some (small r) := by
  unfold fold_Small.f
  exact ob (fsmall_eq r) rfl
end Go.Proofs.Ytmnohlmdckcdeaa.Pure
