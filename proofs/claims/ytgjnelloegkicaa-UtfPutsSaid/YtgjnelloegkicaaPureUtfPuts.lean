/- UtfPuts: any rune behind any bytes (up to 1000 are looked at), any runes (up to 1000) as a text: the program's answers are the document's, and what lies behind the bytes is left alone. -/
import Derived.Test.YtgjnelloegkicaaBPutUtfPuts
import Derived.Test.YtgjnelloegkicaaBRefPUtfPuts
namespace Go.Proofs.Ytgjnelloegkicaa.Pure
open Go.RowKit Go.Proofs.Ytgjnelloegkicaa.PUtfPuts Go.Proofs.YtgjnelloegkicaaW.PrintWords Go.Proofs.YtgjnelloegkicaaW.PrintLast
open Go.Proofs.Ytgjnelloegkicaa.M Go.Proofs.Ytgjnelloegkicaa.X

theorem puts_awake {k : Nat} (hk : 20 ≤ k) : redpenlaw02_Awake.f k = some true := by
  unfold redpenlaw02_Awake.f
  refine ob (next_eq (by omega) (by decide)) ?_
  refine ob (units_eq (by decide) (by decide) (by simp; omega)) ?_
  have h1 : nx [195, 164, 65] = (228, 2) := by decide
  have h2 : us [255, 65] = [(-1, 1), (65, 1)] := by decide
  rw [h1, h2]
  rfl
theorem puts_j0 {k : Nat} (hk : 10000 ≤ k) (b : List Int) (r : Int) (l : List Int) (hb : b.length ≤ 1000) (hl : l.length ≤ 1000) :
    redpenlaw02_UtfPuts.j0 k b r l false = some true := by
  obtain ⟨k, rfl⟩ : ∃ m, k = m + 1 + 1 := ⟨k - 2, by omega⟩
  simp only [redpenlaw02_UtfPuts.j0]
  rw [if_neg (by simp)]
  refine ob rfl ?_
  rw [if_pos (by rw [List.length_nil]; omega)]
  refine ob rfl ?_
  refine ob rfl ?_
  rw [if_pos (by rw [List.nil_append]; simp; omega)]
  refine ob rfl ?_
  rw [List.nil_append, if_pos (by omega), if_pos (by rw [List.length_append]; omega), Int.toNat_natCast, List.take_left]
  refine ob (put_eq (by omega) b r (by omega)) ?_
  refine ob (refbytes_eq (by omega) r) ?_
  have ew : wrap64 ((b.length : Int) + 1) = ((b.length + 1 : Nat) : Int) := by rw [w64 (by omega) (by omega)]; omega
  rw [ew, if_pos (by omega), if_pos (by rw [List.length_append]; simp), Int.toNat_natCast]
  refine ob rfl ?_
  have hrd : rd ((b ++ [7, 7, 7, 7]).take (b.length + 1)) (b.length : Int) = 7 := by
    unfold rd
    rw [Int.toNat_natCast, List.getD_eq_getElem?_getD, List.getElem?_take_of_lt (by omega), List.getElem?_append_right (Nat.le_refl _)]
    simp
  rw [if_pos (by rw [List.length_take, List.length_append]; simp; omega), if_pos hrd]
  refine ob (text_eq (by omega) (by omega)) ?_
  refine ob (reftext_eq (by omega) (by omega)) ?_
  simp only [redpenlaw02_UtfPuts.j1]
  rw [if_neg (by simp)]
  by_cases ho : okR r = true
  · have he := enc_len r
    rw [if_pos ho, if_pos ho, if_neg (by omega)]
    dsimp only
    rw [if_pos rfl, if_pos (by rw [strOfNums_size, strOfNums_size]; omega), ← strOfNums_append]
    simp
  · rw [if_neg ho, if_neg ho, if_pos (by simp)]
    dsimp only
    rw [if_pos rfl]
    simp
/-- The statement over numbers and lists. -/
theorem UtfPuts : redpenlaw02_UtfPuts.Pure := by
  intro b r l _ _ _ _ _ _ _
  obtain ⟨k, hk⟩ : ∃ k : Nat, 10000 ≤ k := ⟨10000, Nat.le_refl _⟩
  refine ⟨k, ?_⟩
  unfold redpenlaw02_UtfPuts.f
  refine ob (puts_awake (by omega)) ?_
  rw [if_pos rfl]
  obtain ⟨k', rfl⟩ : ∃ m, k = m + 1 := ⟨k - 1, by omega⟩
  have ht : redpenlaw02_UtfPuts.j0 (k' + 1) b r l true = some true := by simp only [redpenlaw02_UtfPuts.j0, ↓reduceIte]
  by_cases h1 : (b.length : Int) > 1000
  · rw [if_pos h1, ht]
  rw [if_neg h1]
  by_cases h2 : (l.length : Int) > 1000
  · rw [decide_eq_true h2, ht]
  · rw [decide_eq_false h2]
    exact puts_j0 hk b r l (by omega) (by omega)

end Go.Proofs.Ytgjnelloegkicaa.Pure
