/- The signs of bytes, for the laws on runs and words. -/
import Derived.Test.YtmnohlmdckcdeaaBTokTokenCases
import Derived.Test.YtmnohlmdckcdeaaBUtfTokenCases
namespace Go.Proofs.Ytmnohlmdckcdeaa.Pure
open Go.RowKit Go.Proofs.Ytmnohlmdckcdeaa.PTokenCases Go.Proofs.YtmnohlmdckcdeaaW.PrintWords Go.Proofs.YtmnohlmdckcdeaaW.PrintLast
open Go.Proofs.Ytmnohlmdckcdeaa.M Go.Proofs.Ytmnohlmdckcdeaa.X
set_option linter.unusedVariables false
set_option linter.unusedSimpArgs false

theorem runesOf_mkU (a : Int) (l : List (Int × Int)) : runesOf (mkU a l) = l.map (·.1) := by
  have h := mkU_map a l
  have : runesOf (mkU a l) = ((mkU a l).map (fun u => (u.f0, u.f1.f1))).map (·.1) := by
    unfold runesOf
    rw [List.map_map]
    rfl
  rw [this, h]
theorem runesOf_us (b : List Int) : runesOf (mkU 0 (us b)) = rs b := runesOf_mkU 0 (us b)
theorem rs_bound {b : List Int} (hB : BT b) : ∀ r ∈ rs b, -1 ≤ r ∧ r ≤ 1114111 := by
  intro r hr
  rcases rs_each b hB r hr with rfl | h
  · omega
  · rw [okR_iff] at h; omega
theorem units_ev {b : List Int} (hB : BT b) (hl : b.length < 1000000) : Ev (fun f => utf_Units.f f b) (mkU 0 (us b)) :=
  ⟨b.length + 7, fun k hk => units_eq hB (by omega) hk⟩
theorem units_len (b : List Int) : (mkU 0 (us b)).length ≤ b.length := by rw [mkU_len]; exact us_len b
end Go.Proofs.Ytmnohlmdckcdeaa.Pure
