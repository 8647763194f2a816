/- FoldSigns: any rune: whether it is a letter, great, small; its other case. For each rune. No condition beyond the statement's own. -/
import Derived.Test.YtmnohlmdckcdeaaBFold2FoldSigns
import Derived.Test.YtmnohlmdckcdeaaBFoldLFoldSigns
namespace Go.Proofs.Ytmnohlmdckcdeaa.Pure
open Go.RowKit Go.Proofs.Ytmnohlmdckcdeaa.PFoldSigns Go.Proofs.YtmnohlmdckcdeaaW.PrintWords Go.Proofs.YtmnohlmdckcdeaaW.PrintLast
open Go.Proofs.Ytmnohlmdckcdeaa.M Go.Proofs.Ytmnohlmdckcdeaa.X

theorem rgreat_eq (r : Int) : redpenref01_Great.f r = some (great r) := by
  unfold redpenref01_Great.f
  cases h : great r
  · rw [great_not] at h
    (repeat' split) <;> first | rfl | omega | (rw [Option.some.injEq, bne_eq_false_iff_eq]; omega)
  · rw [great_iff] at h
    (repeat' split) <;> first | rfl | omega | (rw [Option.some.injEq, bne_iff_ne]; omega)
theorem rsmall_eq {r : Int} (h0 : -2147483648 ≤ r) (h1 : r < 2147483648) : redpenref01_Small.f r = some (small r) := by
  unfold redpenref01_Small.f
  have e : great (wrap32 (r - 32)) = small r := by
    by_cases h : -2147483648 ≤ r - 32
    · rw [w32 h (by omega)]; rfl
    · have e1 : small r = false := by rw [small_not]; omega
      rw [e1, great_not]
      unfold wrap32
      omega
  refine ob (rgreat_eq _) ?_
  rw [e]
theorem rletter_eq {r : Int} (h0 : -2147483648 ≤ r) (h1 : r < 2147483648) : redpenref01_Letter.f r = some (letter r) := by
  unfold redpenref01_Letter.f
  refine ob (rgreat_eq r) ?_
  have hi := letter_iff r
  cases hg : great r
  · rw [if_neg (by decide)]
    refine ob (rsmall_eq h0 h1) ?_
    cases hs : small r
    · rw [if_neg (by decide)]
      rw [hg, hs] at hi
      simp only [Bool.false_eq_true, false_or] at hi
      cases hl : letter r
      · rw [hl] at hi
        simp only [Bool.false_eq_true, false_iff] at hi
        (repeat' split) <;> first | rfl | omega | (rw [Option.some.injEq, decide_eq_false_iff_not]; omega)
      · have h := hi.1 hl
        (repeat' split) <;> first | rfl | omega | (rw [Option.some.injEq, decide_eq_true_iff]; omega)
    · rw [if_pos rfl, hi.2 (.inr (.inl hs))]
  · rw [if_pos rfl, hi.2 (.inl hg)]
theorem signs_j1 {r : Int} (h0 : -2147483648 ≤ r) (h1 : r < 2147483648) (k : Nat) (x y : Int) (hx : upR r = x) (hy : downR r = y) : redpenlaw04_FoldSigns.j1 (k + 1) r x y = some true := by
  simp only [redpenlaw04_FoldSigns.j1]
  refine ob (fletter_eq r) ?_
  refine ob (rletter_eq h0 h1) ?_
  rw [beq_self_eq_true, if_pos rfl]
  refine ob (fGreat_eq r) ?_
  refine ob (rgreat_eq r) ?_
  rw [beq_self_eq_true, if_pos rfl]
  refine ob (fSmall_eq r) ?_
  refine ob (rsmall_eq h0 h1) ?_
  rw [beq_self_eq_true, if_pos rfl]
  refine ob (fup_eq h0 h1) ?_
  rw [if_pos hx]
  refine ob (fdown_eq h0 h1) ?_
  rw [hy, beq_self_eq_true]
theorem signs_j0 {r : Int} (h0 : -2147483648 ≤ r) (h1 : r < 2147483648) (k : Nat) (x : Int) (hx : upR r = x) : redpenlaw04_FoldSigns.j0 (k + 1 + 1) r x r = some true := by
  simp only [redpenlaw04_FoldSigns.j0]
  refine ob (rgreat_eq r) ?_
  cases hg : great r
  · rw [if_neg (by decide)]
    exact signs_j1 h0 h1 k x r hx (by unfold downR; rw [hg, if_neg (by decide)])
  · have hg' := hg
    rw [great_iff] at hg'
    rw [if_pos rfl, w32 (by omega) (by omega)]
    exact signs_j1 h0 h1 k x (r + 32) hx (by unfold downR; rw [if_pos hg])
theorem FoldSigns : redpenlaw04_FoldSigns.Pure := by
  intro r hw
  have hr : -2147483648 ≤ r ∧ r < 2147483648 := by
    simp [Lit.wf, IntKind.min, IntKind.max, IntKind.signed, IntKind.bits] at hw
    omega
  obtain ⟨k, hk⟩ : ∃ k : Nat, 100 ≤ k := ⟨100, Nat.le_refl _⟩
  refine ⟨k, ?_⟩
  unfold redpenlaw04_FoldSigns.f
  refine ob (fold_awake (by omega)) ?_
  rw [if_pos rfl]
  obtain ⟨k, rfl⟩ : ∃ m, k = m + 1 + 1 := ⟨k - 2, by omega⟩
  refine ob (rsmall_eq hr.1 hr.2) ?_
  cases hs : small r
  · rw [if_neg (by decide)]
    exact signs_j0 hr.1 hr.2 k r (by unfold upR; rw [hs, if_neg (by decide)])
  · have hs' := hs
    rw [small_iff] at hs'
    rw [if_pos rfl, w32 (by omega) (by omega)]
    exact signs_j0 hr.1 hr.2 k (r - 32) (by unfold upR; rw [if_pos hs])
end Go.Proofs.Ytmnohlmdckcdeaa.Pure
