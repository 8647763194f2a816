/- UtfReads: any bytes (up to 5000 are looked at) as signs: the program's answers are the document's. -/
import Derived.Test.YtgjnelloegkicaaBRunesUtfReads
import Derived.Test.YtgjnelloegkicaaBRefTUtfReads
namespace Go.Proofs.Ytgjnelloegkicaa.Pure
open Go.RowKit Go.Proofs.Ytgjnelloegkicaa.PUtfReads Go.Proofs.YtgjnelloegkicaaW.PrintWords Go.Proofs.YtgjnelloegkicaaW.PrintLast
open Go.Proofs.Ytgjnelloegkicaa.M Go.Proofs.Ytgjnelloegkicaa.X

theorem reads_awake {k : Nat} (hk : 20 ≤ k) : redpenlaw02_Awake.f k = some true := by
  unfold redpenlaw02_Awake.f
  refine ob (next_eq (by omega) (by decide)) ?_
  refine ob (units_eq (by decide) (by decide) (by simp; omega)) ?_
  have h1 : nx [195, 164, 65] = (228, 2) := by decide
  have h2 : us [255, 65] = [(-1, 1), (65, 1)] := by decide
  rw [h1, h2]
  rfl
/-- The statement over numbers and lists. -/
theorem UtfReads : redpenlaw02_UtfReads.Pure := by
  intro b _ _ hw
  have hB := BT_of_wf hw
  clear hw
  obtain ⟨k, hk⟩ : ∃ k : Nat, 10000 ≤ k := ⟨10000, Nat.le_refl _⟩
  refine ⟨k, ?_⟩
  unfold redpenlaw02_UtfReads.f
  refine ob (reads_awake (by omega)) ?_
  rw [if_pos rfl]
  by_cases h1 : (b.length : Int) > 5000
  · rw [if_pos h1]
  rw [if_neg h1]
  have hb : b.length ≤ 5000 := by omega
  have hul := us_len b
  have hrl : (rs b).length ≤ 5000 := by rw [rs_len]; omega
  refine ob (next_eq (by omega) hB) ?_
  refine ob (refnext_eq (by omega) hB) ?_
  rw [if_pos rfl, if_pos rfl]
  refine ob (units_eq hB (by omega) (by omega)) ?_
  refine ob (refunits_eq hB (by omega) (by omega)) ?_
  refine ob (sameunits_eq _ (by rw [mkU_len]; omega) (by rw [mkU_len]; omega)) ?_
  rw [if_pos rfl]
  refine ob (runes_of hB (by omega) (by omega)) ?_
  refine ob (reftext_eq (by omega) (by omega)) ?_
  refine ob (refrunes_of hB (by omega) (by omega)) ?_
  refine ob (reftext_eq (by omega) (by omega)) ?_
  simp

end Go.Proofs.Ytgjnelloegkicaa.Pure
