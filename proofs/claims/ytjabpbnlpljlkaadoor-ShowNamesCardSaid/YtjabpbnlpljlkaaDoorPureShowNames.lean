/- ShowNames: a text is a file's name just if the document says so: 1 to 64 bytes, no end of a line within. For any text. No condition beyond the statement's own. -/
import Derived.Test.YtjabpbnlpljlkaaDoorPShowNamesx
namespace Go.Proofs.YtjabpbnlpljlkaaDoor.Pure
open Go.RowKit Go.Proofs.YtjabpbnlpljlkaaDoor.PShowNames Go.Proofs.YtjabpbnlpljlkaaDoorW.PrintWords Go.Proofs.YtjabpbnlpljlkaaDoorW.PrintLast Go.Proofs.YtjabpbnlpljlkaaDoor.H
set_option linter.unusedVariables false
set_option linter.unusedSimpArgs false

theorem names_ob {α β : Type} {x : Option α} {a : α} {f : α → Option β} {r : Option β} (h : x = some a) (h2 : f a = r) : x.bind f = r := by rw [h]; exact h2
theorem names_w64 {x : Int} (h0 : -9223372036854775808 ≤ x) (h1 : x < 9223372036854775808) : wrap64 x = x := by unfold wrap64; omega
theorem bt_at (s : ByteArray) (i : Nat) (h : i < s.size) : bt s (i : Int) = (at_ s i : Int) := by
  unfold bt at_
  rw [dif_pos (by rw [Int.toNat_natCast]; exact h)]
  have : s.get! i = s[i]'h := by
    simp [ByteArray.get!, getElem!_pos, h]
    rfl
  rw [this]
  simp
/-- Is a byte in a text, from a place on? -/
def hasN (s : ByteArray) (c : Nat) : Nat → Nat → Bool
  | 0, _ => false
  | d + 1, i => (at_ s i == c) || hasN s c d (i + 1)
theorem has_from (s : ByteArray) (c : Nat) (hs : s.size ≤ 1000) : ∀ (d i k : Nat), s.size - i = d → i ≤ s.size → d < k → redpenref18_has.l0 k s (c : Int) (i : Int) = some (hasN s c d i) := by
  intro d
  induction d with
  | zero =>
    intro i k hd hi hk
    obtain ⟨k, rfl⟩ : ∃ m, k = m + 1 := ⟨k - 1, by omega⟩
    simp only [redpenref18_has.l0]
    rw [if_neg (by omega)]
    rfl
  | succ d ih =>
    intro i k hd hi hk
    obtain ⟨k, rfl⟩ : ∃ m, k = m + 1 := ⟨k - 1, by omega⟩
    have ew : wrap64 ((i : Int) + 1) = ((i + 1 : Nat) : Int) := by rw [names_w64 (by omega) (by omega)]; omega
    simp only [redpenref18_has.l0]
    rw [if_pos (by omega), if_pos (by omega), bt_at s i (by omega), ew, ih (i + 1) k (by omega) (by omega) (by omega)]
    show _ = some ((at_ s i == c) || hasN s c d (i + 1))
    by_cases h : at_ s i = c
    · rw [if_pos (by omega), beq_iff_eq.2 h, Bool.true_or]
    · rw [if_neg (by omega), beq_eq_false_iff_ne.2 h, Bool.false_or]
theorem bad_has (s : ByteArray) : ∀ d i, badN s d i = (hasN s 10 d i || hasN s 13 d i)
  | 0, _ => rfl
  | d + 1, i => by
    show ((at_ s i == 10 || at_ s i == 13) || badN s d (i + 1)) = ((at_ s i == 10 || hasN s 10 d (i + 1)) || (at_ s i == 13 || hasN s 13 d (i + 1)))
    rw [bad_has s d (i + 1)]
    cases (at_ s i == 10) <;> cases (at_ s i == 13) <;> cases hasN s 10 d (i + 1) <;> cases hasN s 13 d (i + 1) <;> rfl
theorem ShowNames : redpenlaw20_ShowNames.Pure := by
  intro a0 _
  refine ⟨400, ?_⟩
  unfold redpenlaw20_ShowNames.f
  refine names_ob (a := true) (by decide +kernel) ?_
  rw [if_pos rfl]
  by_cases hl : (a0.size : Int) > 300
  · rw [if_pos hl]
  · rw [if_neg hl]
    refine names_ob (show show_Name.f a0 = some _ from rfl) ?_
    have h10 : redpenref18_has.f 400 a0 10 = some (hasN a0 10 a0.size 0) := has_from a0 10 (by omega) a0.size 0 400 (by omega) (by omega) (by omega)
    have h13 : redpenref18_has.f 400 a0 13 = some (hasN a0 13 a0.size 0) := has_from a0 13 (by omega) a0.size 0 400 (by omega) (by omega) (by omega)
    have hN : redpenref18_Name.f 400 a0 = some (if badN a0 a0.size 0 = true then false else if 0 < a0.size then decide (a0.size ≤ 64) else false) := by
      unfold redpenref18_Name.f
      rw [h10, h13, bad_has]
      by_cases h1 : 0 < a0.size
      · rw [if_pos (show (a0.size : Int) ≥ 1 by omega), if_pos h1]
        by_cases h2 : a0.size ≤ 64
        · rw [if_pos (show (a0.size : Int) ≤ 64 by omega), decide_eq_true h2]
          cases hasN a0 10 a0.size 0 <;> cases hasN a0 13 a0.size 0 <;> rfl
        · rw [if_neg (show ¬ (a0.size : Int) ≤ 64 by omega), decide_eq_false h2]
          cases hasN a0 10 a0.size 0 <;> cases hasN a0 13 a0.size 0 <;> rfl
      · rw [if_neg (show ¬ (a0.size : Int) ≥ 1 by omega), if_neg h1]
        cases hasN a0 10 a0.size 0 <;> cases hasN a0 13 a0.size 0 <;> rfl
    refine names_ob hN ?_
    rw [beq_self_eq_true]
end Go.Proofs.YtjabpbnlpljlkaaDoor.Pure
