/- Letters and their cases, plainly. No program in sight. -/
import Derived.Test.YtkflgnhcfhmkdaaDoorMStr
namespace Go.Proofs.YtkflgnhcfhmkdaaDoor.M

def great (r : Int) : Bool := (decide (65 ≤ r) && decide (r ≤ 90)) || (decide (192 ≤ r) && decide (r ≤ 222) && decide (r ≠ 215))
def small (r : Int) : Bool := great (r - 32)
def letter (r : Int) : Bool := great r || small r || decide (r = 223) || (decide (255 ≤ r) && decide (r ≤ 591)) || (decide (880 ≤ r) && decide (r ≤ 1327))
def downR (r : Int) : Int := if great r = true then r + 32 else r
theorem great_iff (r : Int) : great r = true ↔ (65 ≤ r ∧ r ≤ 90) ∨ (192 ≤ r ∧ r ≤ 222 ∧ r ≠ 215) := by simp [great, and_assoc]
theorem great_not (r : Int) : great r = false ↔ ¬ ((65 ≤ r ∧ r ≤ 90) ∨ (192 ≤ r ∧ r ≤ 222 ∧ r ≠ 215)) := by rw [← great_iff]; simp
end Go.Proofs.YtkflgnhcfhmkdaaDoor.M
