/- FoldPairs: great letters and small ones are pairs; no rune is both; each is a letter. For each rune. No condition beyond the statement's own. -/
import Derived.Test.YtmnohlmdckcdeaaBFold2FoldPairs
import Derived.Test.YtmnohlmdckcdeaaBFoldLFoldPairs
namespace Go.Proofs.Ytmnohlmdckcdeaa.Pure
open Go.RowKit Go.Proofs.Ytmnohlmdckcdeaa.PFoldPairs Go.Proofs.YtmnohlmdckcdeaaW.PrintWords Go.Proofs.YtmnohlmdckcdeaaW.PrintLast
open Go.Proofs.Ytmnohlmdckcdeaa.M Go.Proofs.Ytmnohlmdckcdeaa.X

theorem FoldPairs : redpenlaw04_FoldPairs.Pure := by
  intro r hw
  have hr : -2147483648 ≤ r ∧ r < 2147483648 := by
    simp [Lit.wf, IntKind.min, IntKind.max, IntKind.signed, IntKind.bits] at hw
    omega
  obtain ⟨k, hk⟩ : ∃ k : Nat, 100 ≤ k := ⟨100, Nat.le_refl _⟩
  refine ⟨k, ?_⟩
  unfold redpenlaw04_FoldPairs.f
  refine ob (fold_awake (by omega)) ?_
  rw [if_pos rfl]
  refine ob (fGreat_eq r) ?_
  cases hg : great r
  · rw [if_neg (by decide)]
    refine ob (fSmall_eq r) ?_
    cases hs : small r
    · rw [if_neg (by decide)]
      have e1 : upR r = r := by unfold upR; rw [hs, if_neg (by decide)]
      have e2 : downR r = r := by unfold downR; rw [hg, if_neg (by decide)]
      refine ob (fup_eq hr.1 hr.2) ?_
      rw [if_pos e1]
      refine ob (fdown_eq hr.1 hr.2) ?_
      rw [e2, beq_self_eq_true]
    · rw [if_pos rfl]
      have hs' := hs
      rw [small_iff] at hs'
      have eu : upR r = r - 32 := by unfold upR; rw [if_pos hs]
      refine ob (fup_eq hr.1 hr.2) ?_
      refine ob (fGreat_eq (upR r)) ?_
      rw [if_pos (great_up hs)]
      refine ob (fdown_eq (r := upR r) (by rw [eu]; omega) (by rw [eu]; omega)) ?_
      rw [if_pos (down_up hs)]
      refine ob (fletter_eq r) ?_
      rw [if_pos ((letter_iff r).2 (.inr (.inl hs)))]
      refine ob (fdown_eq hr.1 hr.2) ?_
      rw [down_small hs, beq_self_eq_true]
  · rw [if_pos rfl]
    have hg' := hg
    rw [great_iff] at hg'
    have ed : downR r = r + 32 := by unfold downR; rw [if_pos hg]
    refine ob (fdown_eq hr.1 hr.2) ?_
    refine ob (fSmall_eq r) ?_
    rw [great_small hg, if_neg (by decide)]
    refine ob (fSmall_eq (downR r)) ?_
    rw [if_pos (small_down hg)]
    refine ob (fup_eq (r := downR r) (by rw [ed]; omega) (by rw [ed]; omega)) ?_
    rw [if_pos (up_down hg)]
    refine ob (fletter_eq r) ?_
    rw [if_pos ((letter_iff r).2 (.inl hg))]
    refine ob (fletter_eq (downR r)) ?_
    rw [if_pos ((letter_iff _).2 (.inr (.inl (small_down hg))))]
    refine ob (fup_eq hr.1 hr.2) ?_
    rw [up_great hg, beq_self_eq_true]
end Go.Proofs.Ytmnohlmdckcdeaa.Pure
