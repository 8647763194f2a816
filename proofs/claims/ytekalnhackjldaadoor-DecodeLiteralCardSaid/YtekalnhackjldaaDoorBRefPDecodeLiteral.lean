/- The reference's Bytes and Text are the plain ones. -/
import Derived.Test.YtekalnhackjldaaDoorBUtfDecodeLiteral
namespace Go.Proofs.YtekalnhackjldaaDoor.PDecodeLiteral
open Go.RowKit Go.Proofs.YtekalnhackjldaaDoorW.PrintWords Go.Proofs.YtekalnhackjldaaDoorW.PrintLast Go.Proofs.YtekalnhackjldaaDoorW.PrintMore
open Go.Proofs.YtekalnhackjldaaDoor.M Go.Proofs.YtekalnhackjldaaDoor.X
set_option linter.unusedVariables false
set_option linter.unusedSimpArgs false

theorem refbytes_eq {k : Nat} (hk : 1 ≤ k) (r : Int) : redpenref01_Bytes.f k r = some (if okR r = true then enc r else []) := by
  obtain ⟨k, rfl⟩ : ∃ m, k = m + 1 := ⟨k - 1, by omega⟩
  have hbad : redpenref01_Bytes.j0 (k + 1) r true = some [] := by simp only [redpenref01_Bytes.j0, ↓reduceIte]
  unfold redpenref01_Bytes.f
  by_cases h0 : r < 0
  · rw [if_pos h0, hbad, if_neg (by rw [okR_iff]; omega)]
  rw [if_neg h0]
  by_cases h1 : r > 1114111
  · rw [if_pos h1, hbad, if_neg (by rw [okR_iff]; omega)]
  rw [if_neg h1]
  have td : ∀ n : Int, Int.tdiv r n = r / n := fun n => Int.tdiv_eq_ediv_of_nonneg (by omega)
  have tm : Int.tmod r 64 = r % 64 := Int.tmod_eq_emod_of_nonneg (by omega)
  have tm2 : ∀ n : Int, 0 < n → Int.tmod (r / n) 64 = r / n % 64 := fun n hn => Int.tmod_eq_emod_of_nonneg (Int.ediv_nonneg (by omega) (by omega))
  have hgood : ¬ (55296 ≤ r ∧ r < 57344) → redpenref01_Bytes.j0 (k + 1) r false = some (enc r) := by
    intro hs
    simp only [redpenref01_Bytes.j0]
    rw [if_neg (by simp)]
    unfold enc
    by_cases h2 : r < 128
    · rw [if_pos h2, if_pos h2, show r % 256 = r by omega]
    rw [if_neg h2, if_neg h2]
    by_cases h3 : r < 2048
    · rw [if_pos h3, if_pos h3, td, tm, w32 (x := r / 64) (by omega) (by omega), w32 (x := 192 + r / 64) (by omega) (by omega), w32 (x := 128 + r % 64) (by omega) (by omega), show (192 + r / 64) % 256 = 192 + r / 64 by omega, show (128 + r % 64) % 256 = 128 + r % 64 by omega]
    rw [if_neg h3, if_neg h3]
    by_cases h4 : r < 65536
    · rw [if_pos h4, if_pos h4, td, td, tm, w32 (x := r / 64) (by omega) (by omega), tm2 64 (by omega), w32 (x := r / 4096) (by omega) (by omega), w32 (x := 224 + r / 4096) (by omega) (by omega), w32 (x := 128 + r / 64 % 64) (by omega) (by omega), w32 (x := 128 + r % 64) (by omega) (by omega), show (224 + r / 4096) % 256 = 224 + r / 4096 by omega, show (128 + r / 64 % 64) % 256 = 128 + r / 64 % 64 by omega, show (128 + r % 64) % 256 = 128 + r % 64 by omega]
    · rw [if_neg h4, if_neg h4, td, td, td, tm, w32 (x := r / 64) (by omega) (by omega), tm2 64 (by omega), w32 (x := r / 4096) (by omega) (by omega), tm2 4096 (by omega), w32 (x := r / 262144) (by omega) (by omega), w32 (x := 240 + r / 262144) (by omega) (by omega), w32 (x := 128 + r / 4096 % 64) (by omega) (by omega), w32 (x := 128 + r / 64 % 64) (by omega) (by omega), w32 (x := 128 + r % 64) (by omega) (by omega), show (240 + r / 262144) % 256 = 240 + r / 262144 by omega, show (128 + r / 4096 % 64) % 256 = 128 + r / 4096 % 64 by omega, show (128 + r / 64 % 64) % 256 = 128 + r / 64 % 64 by omega, show (128 + r % 64) % 256 = 128 + r % 64 by omega]
  by_cases h2 : r ≥ 55296
  · rw [if_pos h2]
    by_cases h3 : r ≤ 57343
    · rw [decide_eq_true h3, hbad, if_neg (by rw [okR_iff]; omega)]
    · rw [decide_eq_false h3, hgood (by omega), if_pos ((okR_iff r).2 (by omega))]
  · rw [if_neg h2, hgood (by omega), if_pos ((okR_iff r).2 (by omega))]
theorem reftext_from (l : List Int) (hl : l.length ≤ 1000000000000) : ∀ (d k i : Nat), l.length - i = d → i ≤ l.length → d + 2 ≤ k → ∀ b : List Int, b.length ≤ 4 * i →
    redpenref01_Text.l0 k l b (i : Int) = some (strOfNums (b ++ encL (l.drop i))) := by
  intro d
  induction d with
  | zero =>
    intro k i hd hi hk b hb
    obtain ⟨k, rfl⟩ : ∃ m, k = m + 1 := ⟨k - 1, by omega⟩
    simp only [redpenref01_Text.l0]
    rw [if_neg (by omega), List.drop_eq_nil_of_le (by omega)]
    simp [encL]
  | succ d ih =>
    intro k i hd hi hk b hb
    obtain ⟨k, rfl⟩ : ∃ m, k = m + 1 := ⟨k - 1, by omega⟩
    have hlt : i < l.length := by omega
    have ew : wrap64 ((i : Int) + 1) = ((i + 1 : Nat) : Int) := by rw [w64 (by omega) (by omega)]; omega
    have hrd : rd l (i : Int) = l[i] := by
      unfold rd
      rw [Int.toNat_natCast, List.getD_eq_getElem?_getD, List.getElem?_eq_getElem hlt]
      rfl
    have he := enc_len l[i]
    simp only [redpenref01_Text.l0]
    rw [if_pos (by omega), if_pos (by omega)]
    refine ob (refbytes_eq (by omega) _) ?_
    rw [hrd, List.drop_eq_getElem_cons hlt, ew]
    simp only [encL]
    by_cases h : okR l[i] = true
    · rw [if_pos h, if_pos (by omega), ih k (i + 1) (by omega) (by omega) (by omega) (b ++ enc l[i]) (by rw [List.length_append]; omega), List.append_assoc]
    · rw [if_neg h, if_pos (by rw [List.length_nil]; omega), List.append_nil, ih k (i + 1) (by omega) (by omega) (by omega) b (by omega), List.nil_append]
theorem reftext_eq {k : Nat} {l : List Int} (hl : l.length ≤ 1000000000000) (hk : l.length + 2 ≤ k) : redpenref01_Text.f k l = some (strOfNums (encL l)) := by
  unfold redpenref01_Text.f
  have := reftext_from l hl l.length k 0 (by omega) (by omega) hk [] (by simp)
  simpa using this
end Go.Proofs.YtekalnhackjldaaDoor.PDecodeLiteral
