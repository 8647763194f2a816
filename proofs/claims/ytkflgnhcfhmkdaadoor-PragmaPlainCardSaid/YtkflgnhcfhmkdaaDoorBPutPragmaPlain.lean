/- The printed utf.Put and utf.Text are the plain ones. -/
import Derived.Test.YtkflgnhcfhmkdaaDoorBUtfPragmaPlain
namespace Go.Proofs.YtkflgnhcfhmkdaaDoor.PPragmaPlain
open Go.RowKit Go.Proofs.YtkflgnhcfhmkdaaDoorW.PrintWords Go.Proofs.YtkflgnhcfhmkdaaDoorW.PrintLast Go.Proofs.YtkflgnhcfhmkdaaDoorW.PrintMore
open Go.Proofs.YtkflgnhcfhmkdaaDoor.M Go.Proofs.YtkflgnhcfhmkdaaDoor.X
set_option linter.unusedVariables false
set_option linter.unusedSimpArgs false

theorem and191 {x : Int} (h0 : 0 ≤ x) (h1 : x < 256) : Go.bits .and .u8 x 191 = x / 128 * 128 + x % 64 := by
  have : ∀ x : Fin 256, Go.bits .and .u8 ((x.val : Nat) : Int) 191 = ((x.val : Nat) : Int) / 128 * 128 + ((x.val : Nat) : Int) % 64 := by decide +kernel
  have h := this ⟨x.toNat, by omega⟩
  simpa [Int.toNat_of_nonneg h0] using h
theorem or128 {x : Int} (h0 : 0 ≤ x) (h1 : x < 256) : Go.bits .or .u8 128 x = 128 + x % 128 := by
  have : ∀ x : Fin 256, Go.bits .or .u8 128 ((x.val : Nat) : Int) = 128 + ((x.val : Nat) : Int) % 128 := by decide +kernel
  have h := this ⟨x.toNat, by omega⟩
  simpa [Int.toNat_of_nonneg h0] using h
/-- A byte that goes on. -/
theorem tail_byte {x : Int} : Go.bits .or .u8 128 (Go.bits .and .u8 (x % 256) 191) = 128 + x % 64 := by
  rw [and191 (by omega) (by omega), or128 (by omega) (by omega)]
  omega
theorem put_eq {k : Nat} (hk : 1 ≤ k) (b : List Int) (r : Int) (hb : b.length < 140737488355300) :
    utf_Put.f k b r = some (if okR r = true then (b ++ enc r, 0) else ([], 2)) := by
  obtain ⟨k, rfl⟩ : ∃ m, k = m + 1 := ⟨k - 1, by omega⟩
  unfold utf_Put.f
  refine ob rfl ?_
  rw [if_pos (by rw [List.length_nil]; omega)]
  refine ob rfl ?_
  rw [List.nil_append]
  have hbad : utf_Put.j0 (k + 1) r b true = some ([], 2) := by simp only [utf_Put.j0, ↓reduceIte]
  by_cases h0 : r < 0
  · rw [if_pos h0, hbad, if_neg (by rw [okR_iff]; omega)]
  rw [if_neg h0]
  by_cases h1 : r > 1114111
  · rw [if_pos h1, hbad, if_neg (by rw [okR_iff]; omega)]
  rw [if_neg h1]
  have hgood : ¬ (55296 ≤ r ∧ r < 57344) → utf_Put.j0 (k + 1) r b false = some (b ++ enc r, 0) := by
    intro hs
    simp only [utf_Put.j0]
    rw [if_neg (by simp)]
    unfold enc
    by_cases h2 : r < 128
    · rw [if_pos h2, if_pos (by omega), if_pos h2, show r % 256 = r by omega]
    rw [if_neg h2, if_neg h2]
    by_cases h3 : r < 2048
    · rw [if_pos h3, if_pos (by omega), if_pos h3]
      refine ob rfl ?_
      rw [if_pos (by rw [List.length_append]; simp; omega), tail_byte, show r / 64 % 256 = r / 64 by omega, u8_or192 (r / 64) (by omega) (by omega), List.append_assoc]
      rfl
    rw [if_neg h3, if_neg h3]
    by_cases h4 : r < 65536
    · rw [if_pos h4, if_pos h4]
      refine ob rfl ?_
      rw [if_pos (by simp; omega)]
      refine ob rfl ?_
      rw [if_pos (by rw [List.length_append]; simp; omega), tail_byte, tail_byte, show r / 4096 % 256 = r / 4096 by omega, u8_or224 (r / 4096) (by omega) (by omega), List.append_assoc]
      rfl
    · rw [if_neg h4, if_neg h4]
      refine ob rfl ?_
      rw [if_pos (by simp; omega)]
      refine ob rfl ?_
      rw [if_pos (by rw [List.length_append]; simp; omega), tail_byte, tail_byte, tail_byte, show r / 262144 % 256 = r / 262144 by omega, u8_or240 (r / 262144) (by omega) (by omega), List.append_assoc]
      rfl
  by_cases h2 : r ≥ 55296
  · rw [if_pos h2]
    by_cases h3 : r < 57344
    · rw [decide_eq_true h3, hbad, if_neg (by rw [okR_iff]; omega)]
    · rw [decide_eq_false h3, hgood (by omega), if_pos ((okR_iff r).2 (by omega))]
  · rw [if_neg h2, hgood (by omega), if_pos ((okR_iff r).2 (by omega))]
theorem text_from (l : List Int) (hl : l.length ≤ 1000000000000) : ∀ (d k i : Nat), l.length - i = d → i ≤ l.length → d + 2 ≤ k → ∀ b : List Int, b.length ≤ 4 * i →
    utf_Text.l0 k b l (l.length : Int) (i : Int) = some (strOfNums (b ++ encL (l.drop i))) := by
  intro d
  induction d with
  | zero =>
    intro k i hd hi hk b hb
    obtain ⟨k, rfl⟩ : ∃ m, k = m + 1 := ⟨k - 1, by omega⟩
    simp only [utf_Text.l0]
    rw [if_neg (by omega), List.drop_eq_nil_of_le (by omega)]
    simp [encL]
  | succ d ih =>
    intro k i hd hi hk b hb
    obtain ⟨k, rfl⟩ : ∃ m, k = m + 1 := ⟨k - 1, by omega⟩
    have hlt : i < l.length := by omega
    have ew : wrap64 ((i : Int) + 1) = ((i + 1 : Nat) : Int) := by rw [w64 (by omega) (by omega)]; omega
    have hrd : rd l (i : Int) = l[i] := by
      unfold rd
      rw [Int.toNat_natCast, List.getD_eq_getElem?_getD, List.getElem?_eq_getElem hlt]
      rfl
    simp only [utf_Text.l0]
    rw [if_pos (by omega), if_pos (by omega), if_pos (by omega)]
    refine ob (put_eq (by omega) b _ (by omega)) ?_
    rw [hrd, List.drop_eq_getElem_cons hlt, ew]
    have he := enc_len l[i]
    simp only [encL]
    by_cases h : okR l[i] = true
    · rw [if_pos h]
      dsimp only
      rw [if_pos rfl, ih k (i + 1) (by omega) (by omega) (by omega) (b ++ enc l[i]) (by rw [List.length_append]; omega), if_pos h, List.append_assoc]
    · rw [if_neg h]
      dsimp only
      rw [if_neg (by decide), ih k (i + 1) (by omega) (by omega) (by omega) b (by omega), if_neg h, List.nil_append]
theorem text_eq {k : Nat} {l : List Int} (hl : l.length ≤ 1000000000000) (hk : l.length + 2 ≤ k) : utf_Text.f k l = some (strOfNums (encL l)) := by
  unfold utf_Text.f
  have := text_from l hl l.length k 0 (by omega) (by omega) hk [] (by simp)
  simpa using this
end Go.Proofs.YtkflgnhcfhmkdaaDoor.PPragmaPlain
