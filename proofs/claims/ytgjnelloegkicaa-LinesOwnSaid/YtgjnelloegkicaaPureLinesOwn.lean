/- LinesOwn: bytes that are changed behind an index change nothing of it; a nil index. For all bytes (up to 300 are looked at). No condition beyond the statement's own. -/
import Derived.Test.YtgjnelloegkicaaBRPlaceLinesOwn
namespace Go.Proofs.Ytgjnelloegkicaa.Pure
open Go.RowKit Go.Proofs.Ytgjnelloegkicaa.PLinesOwn Go.Proofs.YtgjnelloegkicaaW.PrintWords Go.Proofs.YtgjnelloegkicaaW.PrintLast
open Go.Proofs.Ytgjnelloegkicaa.M Go.Proofs.Ytgjnelloegkicaa.X

theorem own_end {b : List Int} (hB : BT b) (hb : b.length ≤ 300) (n : Int) (x24 : List Int) (c : Int) {k : Nat} (hk : 4000 ≤ k) (i : Int) (hi : ¬ i < c) : redpenlaw03_LinesOwn.l0 k b n [b] x24 c i = some true := by
  obtain ⟨k, rfl⟩ : ∃ m, k = m + 1 := ⟨k - 1, by omega⟩
  simp only [redpenlaw03_LinesOwn.l0]
  rw [if_neg hi]
  refine ob (a := (0, 0, 1)) rfl ?_
  refine ob (a := (0, 1)) rfl ?_
  refine ob (a := (0, 0, 1)) rfl ?_
  refine ob (place_in hB (by omega) (b.length : Int) (by omega) (Int.le_refl _) (by omega)) ?_
  rw [if_pos rfl]
  refine ob (refplace_eq hB (by omega) (b.length : Int) (by omega) (Int.le_refl _) (by omega)) ?_
  rw [if_pos (by simp)]
  refine ob (a := 0) rfl ?_
  rfl
theorem own_loop {b : List Int} (hB : BT b) (hb : b.length ≤ 300) (n : Int) : ∀ (d k i : Nat) (X : List Int), b.length - i = d → X.length = b.length → d + 5000 ≤ k → redpenlaw03_LinesOwn.l0 k b n [b] X (b.length : Int) i = some true := by
  intro d
  induction d with
  | zero =>
    intro k i X hd hX hk
    exact own_end hB hb n X _ (by omega) _ (by omega)
  | succ d ih =>
    intro k i X hd hX hk
    obtain ⟨k, rfl⟩ : ∃ m, k = m + 1 := ⟨k - 1, by omega⟩
    have ew : wrap64 ((i : Int) + 1) = ((i + 1 : Nat) : Int) := by rw [w64 (by omega) (by omega)]; omega
    simp only [redpenlaw03_LinesOwn.l0]
    rw [if_pos (by omega), if_pos (by omega), if_pos (by omega), ew]
    exact ih k (i + 1) _ (by omega) (by rw [List.length_set]; exact hX) (by omega)
theorem LinesOwn : redpenlaw03_LinesOwn.Pure := by
  intro b n _ _ hw _
  have hB := BT_of_wf hw
  obtain ⟨k, hk⟩ : ∃ k : Nat, 10000 ≤ k := ⟨10000, Nat.le_refl _⟩
  refine ⟨k, ?_⟩
  unfold redpenlaw03_LinesOwn.f
  refine ob (lines_awake (by omega)) ?_
  rw [if_pos rfl]
  by_cases hbig : (b.length : Int) > 300
  · rw [if_pos hbig]
  rw [if_neg hbig]
  refine ob (a := []) rfl ?_
  rw [if_pos (by rw [List.length_nil]; omega)]
  refine ob (a := b) rfl ?_
  refine ob (new_eq (by omega)) ?_
  exact own_loop hB (by omega) n b.length k 0 b (by omega) rfl (by omega)
end Go.Proofs.Ytgjnelloegkicaa.Pure
