/- The document's SameUnits, of a list and itself. -/
import Derived.Test.YtekalnhackjldaaDoorBUtfDecodeCover
namespace Go.Proofs.YtekalnhackjldaaDoor.PDecodeCover
open Go.RowKit Go.Proofs.YtekalnhackjldaaDoorW.PrintWords Go.Proofs.YtekalnhackjldaaDoorW.PrintLast Go.Proofs.YtekalnhackjldaaDoorW.PrintMore
open Go.Proofs.YtekalnhackjldaaDoor.M Go.Proofs.YtekalnhackjldaaDoor.X
set_option linter.unusedVariables false
set_option linter.unusedSimpArgs false

theorem sameunits_from (x : List S45) (hx : x.length ≤ 1000000) : ∀ (d k i : Nat), x.length - i = d → i ≤ x.length → d < k →
    redpenref01_SameUnits.l0 k x x (i : Int) = some true := by
  intro d
  induction d with
  | zero =>
    intro k i hd hi hk
    obtain ⟨k, rfl⟩ : ∃ m, k = m + 1 := ⟨k - 1, by omega⟩
    simp only [redpenref01_SameUnits.l0]
    rw [if_neg (by omega)]
  | succ d ih =>
    intro k i hd hi hk
    obtain ⟨k, rfl⟩ : ∃ m, k = m + 1 := ⟨k - 1, by omega⟩
    have ew : wrap64 ((i : Int) + 1) = ((i + 1 : Nat) : Int) := by rw [w64 (by omega) (by omega)]; omega
    simp only [redpenref01_SameUnits.l0]
    rw [if_pos (by omega), if_pos (by omega), if_pos (by omega), if_neg (by simp), ew]
    exact ih k (i + 1) (by omega) (by omega) (by omega)
theorem sameunits_eq {k : Nat} (x : List S45) (hx : x.length ≤ 1000000) (hk : x.length < k) : redpenref01_SameUnits.f k x x = some true := by
  unfold redpenref01_SameUnits.f
  rw [if_pos rfl]
  exact sameunits_from x hx x.length k 0 (by omega) (by omega) hk
end Go.Proofs.YtekalnhackjldaaDoor.PDecodeCover
