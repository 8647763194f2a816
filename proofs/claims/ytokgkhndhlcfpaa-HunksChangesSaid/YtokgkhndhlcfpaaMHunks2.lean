/- Plain mathematics of changes, continued: what the changes are between; how few go and come. -/
import Derived.Test.YtokgkhndhlcfpaaMHunks
namespace Go.Proofs.Ytokgkhndhlcfpaa.M
set_option linter.unusedVariables false
set_option linter.unusedSimpArgs false
/-- The line at a place. -/
def ln (p : List ByteArray) (i : Nat) : List UInt8 := (p.getD i ByteArray.empty).toList
/-- Lines that are the same, from two places on. -/
def Seg (p q : List ByteArray) (a b n : Nat) : Prop := ∀ t, t < n → ln p (a + t) = ln q (b + t)
theorem Seg.one {p q : List ByteArray} {a b : Nat} (h : ln p a = ln q b) : Seg p q a b 1 := by
  intro t ht
  obtain rfl : t = 0 := by omega
  exact h
theorem chgs_len (p q : List ByteArray) : (chgs p q).length ≤ p.length + q.length + 1 := by
  have hsl := strip_le (p.drop (pre p q)) (q.drop (pre p q))
  rw [List.length_drop, List.length_drop] at hsl
  unfold chgs
  simp only
  split
  · simp
  · have := grp_len (script (strip (p.drop (pre p q)) (q.drop (pre p q))).1 (strip (p.drop (pre p q)) (q.drop (pre p q))).2) (pre p q) 0 0 ⟨pre p q, 0, pre p q, 0⟩
    have := script_len (strip (p.drop (pre p q)) (q.drop (pre p q))).1 (strip (p.drop (pre p q)) (q.drop (pre p q))).2
    omega
end Go.Proofs.Ytokgkhndhlcfpaa.M
