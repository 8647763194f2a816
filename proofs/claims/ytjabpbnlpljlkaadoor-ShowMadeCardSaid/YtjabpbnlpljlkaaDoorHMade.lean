/- How many newlines a text has, as a range over its runes finds them. -/
import Derived.Test.YtjabpbnlpljlkaaDoorHNames
namespace Go.Proofs.YtjabpbnlpljlkaaDoor.H
set_option linter.unusedVariables false
set_option linter.unusedSimpArgs false
/-- Newlines ahead of a place. -/
def nlTo (s : ByteArray) : Nat → Nat
  | 0 => 0
  | i + 1 => nlTo s i + if at_ s i = 10 then 1 else 0
theorem nlTo_le (s : ByteArray) : ∀ i, nlTo s i ≤ i
  | 0 => Nat.le_refl _
  | i + 1 => by have := nlTo_le s i; unfold nlTo; split <;> omega
theorem nlTo_skip (s : ByteArray) (i : Nat) : ∀ k, (∀ j, 1 ≤ j → j < k + 1 → badB (at_ s (i + j)) = false) → nlTo s (i + 1 + k) = nlTo s (i + 1)
  | 0, _ => rfl
  | k + 1, h => by
    have ih := nlTo_skip s i k (fun j h1 h2 => h j h1 (by omega))
    have hb := h (k + 1) (by omega) (by omega)
    have hn : at_ s (i + 1 + k) ≠ 10 := by
      intro e
      rw [show i + (k + 1) = i + 1 + k by omega, e] at hb
      exact absurd hb (by decide)
    show (nlTo s (i + 1 + k) + if at_ s (i + 1 + k) = 10 then 1 else 0) = _
    rw [if_neg hn, ih, Nat.add_zero]
theorem nlTo_step (s : ByteArray) (pos : Nat) (h : pos < s.size) : nlTo s (pos + (Utf8.decode s pos).2) = nlTo s pos + if at_ s pos = 10 then 1 else 0 := by
  obtain ⟨d1, d2, d3, d4, d5⟩ := decode_spec s pos h
  have := nlTo_skip s pos ((Utf8.decode s pos).2 - 1) (fun j h1 h2 => d5 j h1 (by omega))
  rw [show pos + 1 + ((Utf8.decode s pos).2 - 1) = pos + (Utf8.decode s pos).2 by omega] at this
  rw [this]
  rfl
theorem at_get (s : ByteArray) (i : Nat) (h : i < s.size) : at_ s i = (s[i]'h).toNat := by
  unfold at_
  have : s.get! i = s[i]'h := by
    simp [ByteArray.get!, getElem!_pos, h]
    rfl
  rw [this]
def nlF (s : ByteArray) : Option Int := if s.size ≤ 140737488355328 then some (nlTo s s.size) else none
theorem nlF_some {s : ByteArray} {r : Int} (h : nlF s = some r) : s.size ≤ 140737488355328 ∧ r = nlTo s s.size := by
  unfold nlF at h
  split at h
  · exact ⟨by assumption, (Option.some.inj h).symm⟩
  · cases h
end Go.Proofs.YtjabpbnlpljlkaaDoor.H
