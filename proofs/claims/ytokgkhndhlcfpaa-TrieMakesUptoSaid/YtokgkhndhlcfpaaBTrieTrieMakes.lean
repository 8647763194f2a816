/- The printed functions of package trie on lists of texts: Contains, Has, Make. -/
import Derived.Test.YtokgkhndhlcfpaaBRunesTrieMakes
import Derived.Test.YtokgkhndhlcfpaaMTrie
import Derived.Test.YtokgkhndhlcfpaaMLess
namespace Go.Proofs.Ytokgkhndhlcfpaa.Pure
open Go.RowKit Go.Proofs.Ytokgkhndhlcfpaa.PTrieMakes Go.Proofs.YtokgkhndhlcfpaaW.PrintWords Go.Proofs.YtokgkhndhlcfpaaW.PrintLast
open Go.Proofs.Ytokgkhndhlcfpaa.M Go.Proofs.Ytokgkhndhlcfpaa.X
set_option linter.unusedVariables false
set_option linter.unusedSimpArgs false

theorem index_l0 (l : List Int) (v : Int) (hl : l.length < 1000000000000) : ∀ (d i : Nat), l.length - i = d → i ≤ l.length → ∃ r, Ev (fun k => slices_Index_rune_rune.l0 k l v (l.length : Int) (i : Int)) r ∧ (0 ≤ r ↔ v ∈ l.drop i) := by
  intro d
  induction d with
  | zero =>
    intro i hd hi
    refine ⟨-1, Ev.step (f := fun _ => some (-1)) (fun k => ?_) (Ev.now _), ?_⟩
    · simp only [slices_Index_rune_rune.l0]
      rw [if_neg (by omega)]
    · rw [List.drop_of_length_le (by omega)]
      simp
  | succ d ih =>
    intro i hd hi
    have hlt : i < l.length := by omega
    by_cases hv : v = rd l (i : Int)
    · refine ⟨(i : Int), Ev.step (f := fun _ => some (i : Int)) (fun k => ?_) (Ev.now _), ?_⟩
      · simp only [slices_Index_rune_rune.l0]
        rw [if_pos (by omega), if_pos (by omega), if_pos (by omega), if_pos hv]
      · rw [drop_rd l i hlt, ← hv]
        simp
    · obtain ⟨r, h1, h2⟩ := ih (i + 1) (by omega) (by omega)
      refine ⟨r, Ev.step (f := fun k => slices_Index_rune_rune.l0 k l v (l.length : Int) ((i + 1 : Nat) : Int)) (fun k => ?_) h1, ?_⟩
      · simp only [slices_Index_rune_rune.l0]
        rw [if_pos (by omega), if_pos (by omega), if_pos (by omega), if_neg hv, show wrap64 ((i : Int) + 1) = ((i + 1 : Nat) : Int) by rw [w64 (by omega) (by omega)]; omega]
      · rw [drop_rd l i hlt, h2, List.mem_cons]
        constructor
        · exact .inr
        · rintro (e | e)
          · exact absurd e hv
          · exact e
theorem contains_eq (l : List Int) (v : Int) (hl : l.length < 1000000000000) : Ev (fun k => slices_Contains_rune_rune.f k l v) (decide (v ∈ l)) := by
  obtain ⟨r, h1, h2⟩ := index_l0 l v hl _ 0 rfl (by omega)
  rw [List.drop_zero] at h2
  refine Ev.bind h1 ?_
  have : decide (r ≥ 0) = decide (v ∈ l) := by
    rw [decide_eq_decide]
    exact h2
  simp only [this]
  exact Ev.now _
/-- A text's signs. -/
abbrev rns (s : ByteArray) : List Int := rs (bytesOf s)
theorem runes_ev (s : ByteArray) (hs : s.size < 5864062014805) : Ev (fun k => utf_Runes.f k s) (rns s) := ⟨s.size + 8, fun k hk => runes_eq s hs hk⟩
end Go.Proofs.Ytokgkhndhlcfpaa.Pure
