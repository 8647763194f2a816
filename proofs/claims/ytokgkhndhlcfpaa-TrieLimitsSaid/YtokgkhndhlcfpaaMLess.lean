/- The order of texts by their bytes; lists that rise. -/
import Derived.Test.YtokgkhndhlcfpaaMStr
import Derived.Laws.Strings
namespace Go.Proofs.Ytokgkhndhlcfpaa.M
open Go.RowKit
set_option linter.unusedVariables false
set_option linter.unusedSimpArgs false

theorem bl_irrefl : ∀ a : List UInt8, Op.bytesLess a a = false
  | [] => rfl
  | x :: a => by simp [Op.bytesLess, bl_irrefl a]
theorem bl_trans : ∀ a b c : List UInt8, Op.bytesLess a b = true → Op.bytesLess b c = true → Op.bytesLess a c = true
  | [], [], _, h, _ => by simp [Op.bytesLess] at h
  | [], _ :: _, [], _, h => by simp [Op.bytesLess] at h
  | [], _ :: _, _ :: _, _, _ => by simp [Op.bytesLess]
  | _ :: _, [], _, h, _ => by simp [Op.bytesLess] at h
  | _ :: _, _ :: _, [], _, h => by simp [Op.bytesLess] at h
  | x :: a, y :: b, z :: c, h, k => by
    simp only [Op.bytesLess, Bool.or_eq_true, Bool.and_eq_true, decide_eq_true_eq, beq_iff_eq] at h k ⊢
    rcases h with h | ⟨rfl, h⟩ <;> rcases k with k | ⟨rfl, k⟩
    · exact .inl (UInt8.lt_trans h k)
    · exact .inl h
    · exact .inl k
    · exact .inr ⟨rfl, bl_trans a b c h k⟩
/-- Texts in their order. -/
def Less (a b : ByteArray) : Prop := Op.bytesLess a.toList b.toList = true
theorem Less.irrefl (a : ByteArray) : ¬ Less a a := fun h => by
  unfold Less at h
  rw [bl_irrefl] at h
  cases h
theorem Less.trans {a b c : ByteArray} (h : Less a b) (k : Less b c) : Less a c := bl_trans _ _ _ h k
theorem Less.ne {a b : ByteArray} (h : Less a b) : a ≠ b := fun e => Less.irrefl b (e ▸ h)
end Go.Proofs.Ytokgkhndhlcfpaa.M
