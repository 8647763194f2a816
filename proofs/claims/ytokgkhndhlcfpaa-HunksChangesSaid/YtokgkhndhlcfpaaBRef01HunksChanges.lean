/- The reference's Lines, as printed, tells the plain lines. -/
import Derived.Test.YtokgkhndhlcfpaaPHunksChangesx
import Derived.Test.YtokgkhndhlcfpaaMLines2
import Derived.Test.YtokgkhndhlcfpaaMStr
namespace Go.Proofs.Ytokgkhndhlcfpaa.Pure
open Go.RowKit Go.Proofs.Ytokgkhndhlcfpaa.PHunksChanges Go.Proofs.YtokgkhndhlcfpaaW.PrintWords Go.Proofs.YtokgkhndhlcfpaaW.PrintLast
open Go.Proofs.Ytokgkhndhlcfpaa.M Go.Proofs.Ytokgkhndhlcfpaa.X
set_option linter.unusedVariables false
set_option linter.unusedSimpArgs false

theorem reflines_from {b : List Int} (hb : b.length < 8796093022208) : ∀ (d k i from_ : Nat) (acc : List ByteArray), b.length - i = d → i ≤ b.length → from_ ≤ i → acc.length ≤ i → d < k →
    redpenref01_Lines.l0 k b acc from_ i = some (acc ++ (linesOf ((b.take i).drop from_) (b.drop i)).map strOfNums) := by
  intro d
  induction d with
  | zero =>
    intro k i from_ acc hd hi hf hc hk
    obtain ⟨k, rfl⟩ : ∃ m, k = m + 1 := ⟨k - 1, by omega⟩
    have e : i = b.length := by omega
    subst e
    simp only [redpenref01_Lines.l0]
    rw [if_neg (by omega), List.take_length, List.drop_length]
    by_cases h : from_ < b.length
    · have hne : b.drop from_ ≠ [] := by
        intro h2; have := congrArg List.length h2; rw [List.length_drop, List.length_nil] at this; omega
      rw [if_pos (by omega), if_pos (by omega), if_pos (by omega), if_pos (by omega), Int.toNat_natCast]
      unfold linesOf
      rw [if_neg hne]
      rfl
    · rw [if_neg (by omega), List.drop_eq_nil_of_le (by omega)]
      unfold linesOf
      rw [if_pos rfl]
      simp
  | succ d ih =>
    intro k i from_ acc hd hi hf hc hk
    obtain ⟨k, rfl⟩ : ∃ m, k = m + 1 := ⟨k - 1, by omega⟩
    have hlt : i < b.length := by omega
    have ew : wrap64 ((i : Int) + 1) = ((i + 1 : Nat) : Int) := by rw [w64 (by omega) (by omega)]; omega
    have hrd : rd b (i : Int) = b[i] := by
      unfold rd
      rw [Int.toNat_natCast, List.getD_eq_getElem?_getD, List.getElem?_eq_getElem hlt]
      rfl
    have hdr : b.drop i = b[i] :: b.drop (i + 1) := List.drop_eq_getElem_cons hlt
    have htk : (b.take (i + 1)).drop from_ = (b.take i).drop from_ ++ [b[i]] := by
      rw [List.take_succ_eq_append_getElem hlt, List.drop_append_of_le_length (by rw [List.length_take]; omega)]
    simp only [redpenref01_Lines.l0]
    rw [if_pos (by omega), if_pos (by omega), hrd, hdr, ew]
    by_cases h : b[i] = 10
    · rw [if_pos h, if_pos (by omega), if_pos (by omega), if_pos (by omega), if_pos (by omega), Int.toNat_natCast, Int.toNat_natCast]
      rw [ih k (i + 1) (i + 1) _ (by omega) (by omega) (by omega) (by rw [List.length_append]; simp; omega) (by omega)]
      rw [show ((b.take (i + 1)).drop (i + 1)) = [] from List.drop_eq_nil_of_le (by rw [List.length_take]; omega)]
      rw [htk]
      conv => rhs; unfold linesOf
      rw [if_pos h, List.map_cons, List.append_assoc, List.singleton_append]
    · rw [if_neg h, ih k (i + 1) from_ acc (by omega) (by omega) (by omega) (by omega) (by omega), htk]
      conv => rhs; unfold linesOf
      rw [if_neg h]
theorem reflines_eq {b : List Int} (hb : b.length < 8796093022208) {k : Nat} (hk : b.length < k) : redpenref01_Lines.f k b = some ((ls b).map strOfNums) := by
  unfold redpenref01_Lines.f
  have := reflines_from hb b.length k 0 0 [] (by omega) (by omega) (by omega) (by simp) hk
  exact this
end Go.Proofs.Ytokgkhndhlcfpaa.Pure
