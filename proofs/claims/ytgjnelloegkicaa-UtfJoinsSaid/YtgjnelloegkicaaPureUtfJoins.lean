/- UtfJoins: signs of a text that ends whole, and of another one, are those of both. For all runes (up to 500 are looked at) and all bytes (up to 1000). -/
import Derived.Test.YtgjnelloegkicaaBRunesUtfJoins
import Derived.Test.YtgjnelloegkicaaBPutUtfJoins
namespace Go.Proofs.Ytgjnelloegkicaa.Pure
open Go.RowKit Go.Proofs.Ytgjnelloegkicaa.PUtfJoins Go.Proofs.YtgjnelloegkicaaW.PrintWords Go.Proofs.YtgjnelloegkicaaW.PrintLast
open Go.Proofs.Ytgjnelloegkicaa.M Go.Proofs.Ytgjnelloegkicaa.X

theorem joins_awake {k : Nat} (hk : 20 ≤ k) : redpenlaw02_Awake.f k = some true := by
  unfold redpenlaw02_Awake.f
  refine ob (next_eq (by omega) (by decide)) ?_
  refine ob (units_eq (by decide) (by decide) (by simp; omega)) ?_
  have h1 : nx [195, 164, 65] = (228, 2) := by decide
  have h2 : us [255, 65] = [(-1, 1), (65, 1)] := by decide
  rw [h1, h2]
  rfl
theorem joins_loop (x : List Int) (hx : x.length ≤ 100000) : ∀ (d k i : Nat), x.length - i = d → i ≤ x.length → d < k →
    redpenlaw02_UtfJoins.l0 k x x (x.length : Int) (i : Int) = some true := by
  intro d
  induction d with
  | zero =>
    intro k i hd hi hk
    obtain ⟨k, rfl⟩ : ∃ m, k = m + 1 := ⟨k - 1, by omega⟩
    simp only [redpenlaw02_UtfJoins.l0]
    rw [if_neg (by omega)]
  | succ d ih =>
    intro k i hd hi hk
    obtain ⟨k, rfl⟩ : ∃ m, k = m + 1 := ⟨k - 1, by omega⟩
    have ew : wrap64 ((i : Int) + 1) = ((i + 1 : Nat) : Int) := by rw [w64 (by omega) (by omega)]; omega
    simp only [redpenlaw02_UtfJoins.l0]
    rw [if_pos (by omega), if_pos (by omega), if_pos (by omega), if_pos (by omega), if_pos trivial, ew]
    exact ih k (i + 1) (by omega) (by omega) (by omega)
theorem joins_j0 {k : Nat} (hk : 10000 ≤ k) (l b : List Int) (hl : l.length ≤ 500) (hB : BT b) (hb : b.length ≤ 1000) :
    redpenlaw02_UtfJoins.j0 k l b false = some true := by
  obtain ⟨k, rfl⟩ : ∃ m, k = m + 1 := ⟨k - 1, by omega⟩
  simp only [redpenlaw02_UtfJoins.j0]
  rw [if_neg (by simp)]
  have he := encL_len l
  have hE := encL_BT l
  have h1 : rs (encL l) = l.filter (okR ·) := by
    have := rs_encL l []
    rw [List.append_nil, rs_nil, List.append_nil] at this
    exact this
  have h3 := us_len (encL l)
  have h4 := us_len b
  have hl1 : (rs (encL l)).length ≤ 2000 := by rw [rs_len]; omega
  have hl2 : (rs b).length ≤ 1000 := by rw [rs_len]; omega
  refine ob (text_eq (by omega) (by omega)) ?_
  refine ob (runes_of hE (by omega) (by omega)) ?_
  refine ob (runes_of hB (by omega) (by omega)) ?_
  rw [if_pos (by omega)]
  refine ob rfl ?_
  rw [if_pos (by rw [strOfNums_size, strOfNums_size]; omega), ← strOfNums_append]
  refine ob (runes_of (hE.app hB) (by rw [List.length_append]; omega) (by rw [List.length_append]; omega)) ?_
  rw [rs_encL l b, h1, if_pos rfl]
  rw [h1] at hl1
  exact joins_loop _ (by rw [List.length_append]; omega) _ _ 0 rfl (by omega) (by rw [List.length_append]; omega)
/-- The statement over numbers and lists. -/
theorem UtfJoins : redpenlaw02_UtfJoins.Pure := by
  intro l b _ _ _ _ _ hw
  have hB := BT_of_wf hw
  clear hw
  obtain ⟨k, hk⟩ : ∃ k : Nat, 10000 ≤ k := ⟨10000, Nat.le_refl _⟩
  refine ⟨k, ?_⟩
  unfold redpenlaw02_UtfJoins.f
  refine ob (joins_awake (by omega)) ?_
  rw [if_pos rfl]
  obtain ⟨k', rfl⟩ : ∃ m, k = m + 1 := ⟨k - 1, by omega⟩
  have ht : redpenlaw02_UtfJoins.j0 (k' + 1) l b true = some true := by simp only [redpenlaw02_UtfJoins.j0, ↓reduceIte]
  by_cases h1 : (l.length : Int) > 500
  · rw [if_pos h1, ht]
  rw [if_neg h1]
  by_cases h2 : (b.length : Int) > 1000
  · rw [decide_eq_true h2, ht]
  · rw [decide_eq_false h2]
    exact joins_j0 hk l b (by omega) hB (by omega)

end Go.Proofs.Ytgjnelloegkicaa.Pure
