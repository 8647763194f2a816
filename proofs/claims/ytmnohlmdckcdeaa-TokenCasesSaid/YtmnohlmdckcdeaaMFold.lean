/- Letters and their cases, plainly. No program in sight. -/
import Derived.Test.YtmnohlmdckcdeaaMStr
namespace Go.Proofs.Ytmnohlmdckcdeaa.M

def great (r : Int) : Bool := (decide (65 ≤ r) && decide (r ≤ 90)) || (decide (192 ≤ r) && decide (r ≤ 222) && decide (r ≠ 215))
def small (r : Int) : Bool := great (r - 32)
def letter (r : Int) : Bool := great r || small r || decide (r = 223) || (decide (255 ≤ r) && decide (r ≤ 591)) || (decide (880 ≤ r) && decide (r ≤ 1327))
def upR (r : Int) : Int := if small r = true then r - 32 else r
def downR (r : Int) : Int := if great r = true then r + 32 else r
theorem great_iff (r : Int) : great r = true ↔ (65 ≤ r ∧ r ≤ 90) ∨ (192 ≤ r ∧ r ≤ 222 ∧ r ≠ 215) := by simp [great, and_assoc]
theorem great_not (r : Int) : great r = false ↔ ¬ ((65 ≤ r ∧ r ≤ 90) ∨ (192 ≤ r ∧ r ≤ 222 ∧ r ≠ 215)) := by rw [← great_iff]; simp
theorem small_iff (r : Int) : small r = true ↔ (97 ≤ r ∧ r ≤ 122) ∨ (224 ≤ r ∧ r ≤ 254 ∧ r ≠ 247) := by
  unfold small; rw [great_iff]; omega
theorem small_not (r : Int) : small r = false ↔ ¬ ((97 ≤ r ∧ r ≤ 122) ∨ (224 ≤ r ∧ r ≤ 254 ∧ r ≠ 247)) := by rw [← small_iff]; simp
theorem letter_iff (r : Int) : letter r = true ↔ (great r = true ∨ small r = true ∨ r = 223 ∨ (255 ≤ r ∧ r ≤ 591) ∨ (880 ≤ r ∧ r ≤ 1327)) := by
  simp [letter, or_assoc]
theorem down_range {r : Int} (h : -1 ≤ r ∧ r ≤ 1114111) : -1 ≤ downR r ∧ downR r ≤ 1114111 := by
  unfold downR
  split
  · rename_i hg; rw [great_iff] at hg; omega
  · exact h
theorem up_range {r : Int} (h : -1 ≤ r ∧ r ≤ 1114111) : -1 ≤ upR r ∧ upR r ≤ 1114111 := by
  unfold upR
  split
  · rename_i hg; rw [small_iff] at hg; omega
  · exact h
theorem great_small {r : Int} (h : great r = true) : small r = false := by
  rw [small_not]; rw [great_iff] at h; omega
theorem great_down (r : Int) : great (downR r) = false := by
  unfold downR
  split
  · rename_i h; rw [great_iff] at h; rw [great_not]; omega
  · rename_i h; simpa using h
theorem small_down {r : Int} (h : great r = true) : small (downR r) = true := by
  unfold downR; rw [if_pos h]; rw [great_iff] at h; rw [small_iff]; omega
theorem up_down {r : Int} (h : great r = true) : upR (downR r) = r := by
  have h2 := small_down h
  unfold upR; rw [if_pos h2]; unfold downR; rw [if_pos h]; omega
theorem great_up {r : Int} (h : small r = true) : great (upR r) = true := by
  unfold upR; rw [if_pos h]; exact h
theorem down_up {r : Int} (h : small r = true) : downR (upR r) = r := by
  have h2 := great_up h
  unfold downR; rw [if_pos h2]; unfold upR; rw [if_pos h]; omega
theorem down_small {r : Int} (h : small r = true) : downR r = r := by
  unfold downR
  rw [if_neg]
  intro h2
  rw [great_small h2] at h; cases h
theorem up_great {r : Int} (h : great r = true) : upR r = r := by
  unfold upR
  rw [great_small h, if_neg (by decide)]
theorem down_down (r : Int) : downR (downR r) = downR r := by
  show (if great (downR r) = true then downR r + 32 else downR r) = downR r
  rw [great_down, if_neg (by decide)]
/-- Down behind upR, behind downR: the same as downR. -/
theorem down_of_up (r : Int) : downR (upR r) = downR r := by
  by_cases h : small r = true
  · rw [down_up h, down_small h]
  · unfold upR; rw [if_neg h]
theorem okR_down (r : Int) : okR (downR r) = okR r := by
  unfold downR
  split
  · rename_i h
    rw [great_iff] at h
    rw [(okR_iff r).2 (by omega), (okR_iff (r + 32)).2 (by omega)]
  · rfl
theorem okR_up (r : Int) : okR (upR r) = okR r := by
  unfold upR
  split
  · rename_i h
    rw [small_iff] at h
    rw [(okR_iff r).2 (by omega), (okR_iff (r - 32)).2 (by omega)]
  · rfl
end Go.Proofs.Ytmnohlmdckcdeaa.M
