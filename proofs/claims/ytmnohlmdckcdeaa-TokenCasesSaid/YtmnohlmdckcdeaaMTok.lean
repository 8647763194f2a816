/- Plain facts on the runs of signs, and their parts. -/
import Derived.Test.YtmnohlmdckcdeaaMFold
import Derived.Test.YtmnohlmdckcdeaaWWords
namespace Go.Proofs.Ytmnohlmdckcdeaa.M
open Go.RowKit Go.Proofs.YtmnohlmdckcdeaaW.PrintWords
set_option linter.unusedVariables false
set_option linter.unusedSimpArgs false

/-- Is a letter at a place? -/
def ltr (R : List Int) (i : Int) : Bool := decide (0 ≤ i) && decide (i < (R.length : Int)) && letter (rd R i)
/-- Does a sign belong to a run? -/
def inn (R : List Int) (i : Int) : Bool := ltr R i || (decide (0 < i) && decide (i < (R.length : Int)) && (rd R i == 39) && ltr R (i - 1) && ltr R (i + 1))
theorem ltr_in {R : List Int} {i : Int} (h : ltr R i = true) : 0 ≤ i ∧ i < (R.length : Int) ∧ letter (rd R i) = true := by
  simp [ltr] at h
  exact ⟨h.1.1, h.1.2, h.2⟩
theorem inn_in {R : List Int} {i : Int} (h : inn R i = true) : 0 ≤ i ∧ i < (R.length : Int) := by
  simp only [inn, Bool.or_eq_true, Bool.and_eq_true, decide_eq_true_eq] at h
  rcases h with h | h
  · have := ltr_in h; exact ⟨this.1, this.2.1⟩
  · exact ⟨by omega, h.1.1.1.2⟩
theorem ltr_inn {R : List Int} {i : Int} (h : ltr R i = true) : inn R i = true := by simp [inn, h]
theorem not_letter39 : letter 39 = false := by decide
/-- Behind a sign of a run: how the text goes on asks is whether the next one belongs to it. -/
theorem inn_next {R : List Int} {j : Int} (h : inn R j = true) : (ltr R (j + 1) || (decide (j + 1 < (R.length : Int)) && (rd R (j + 1) == 39) && ltr R (j + 2))) = inn R (j + 1) := by
  have hj := inn_in h
  have e1 : j + 1 - 1 = j := by omega
  have e2 : j + 1 + 1 = j + 2 := by omega
  simp only [inn, e1, e2]
  simp only [inn, Bool.or_eq_true, Bool.and_eq_true, decide_eq_true_eq] at h
  rcases h with h | h
  · rw [h, decide_eq_true (show 0 < j + 1 by omega)]
    simp
  · rw [h.2]
    simp
/-- A run begins with a letter. -/
theorem inn_first {R : List Int} {j : Int} (h : inn R (j + 1) = true) (h0 : inn R j = false) : ltr R (j + 1) = true := by
  simp only [inn, Bool.or_eq_true, Bool.and_eq_true, decide_eq_true_eq] at h
  rcases h with h | h
  · exact h
  · have e1 : j + 1 - 1 = j := by omega
    rw [e1] at h
    have := ltr_inn h.1.2
    rw [h0] at this
    cases this
theorem inn_zero {R : List Int} (h : inn R 0 = true) : ltr R 0 = true := by
  simp only [inn, Bool.or_eq_true, Bool.and_eq_true, decide_eq_true_eq] at h
  rcases h with h | h
  · exact h
  · omega
/-- The runs from a place on. -/
def RunsOk (R : List Int) : Nat → List (Nat × Nat) → Prop
  | i, [] => ∀ t : Nat, i ≤ t → inn R (t : Int) = false
  | i, (a, b) :: rs => i ≤ a ∧ a < b ∧ b ≤ R.length ∧ (∀ t : Nat, i ≤ t → t < a → inn R (t : Int) = false) ∧ (∀ t : Nat, a ≤ t → t < b → inn R (t : Int) = true) ∧ inn R (b : Int) = false ∧ ltr R (a : Int) = true ∧ RunsOk R b rs
/-- Does a new part begin at a sign of a run that begins at from_? -/
def cutAt (R : List Int) (from_ tz j : Int) : Bool := !(j == from_) && great (rd R j) && (small (rd R (j - 1)) || (great (rd R (j - 1)) && decide (j + 1 < tz) && small (rd R (j + 1))))
/-- Parts, side by side from a place up to another one. -/
def PartsOk : Nat → Nat → List (Nat × Nat) → Prop
  | a, b, [] => a = b
  | a, b, (x, y) :: r => x = a ∧ a < y ∧ y ≤ b ∧ PartsOk y b r
end Go.Proofs.Ytmnohlmdckcdeaa.M
