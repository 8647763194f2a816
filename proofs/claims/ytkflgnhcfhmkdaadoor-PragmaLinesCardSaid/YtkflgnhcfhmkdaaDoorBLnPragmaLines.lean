/- A text's lines as the index tells them. -/
import Derived.Test.YtkflgnhcfhmkdaaDoorPPragmaLinesx
import Derived.Test.YtkflgnhcfhmkdaaDoorMLines2
import Derived.Test.YtkflgnhcfhmkdaaDoorMStr
namespace Go.Proofs.YtkflgnhcfhmkdaaDoor.Pure
open Go.RowKit Go.Proofs.YtkflgnhcfhmkdaaDoor.PPragmaLines Go.Proofs.YtkflgnhcfhmkdaaDoorW.PrintWords Go.Proofs.YtkflgnhcfhmkdaaDoorW.PrintLast
open Go.Proofs.YtkflgnhcfhmkdaaDoor.M Go.Proofs.YtkflgnhcfhmkdaaDoor.X
set_option linter.unusedVariables false
set_option linter.unusedSimpArgs false

theorem new_eq {b : List Int} (hl : b.length < 100000000000) : lines_New.f b = some [b] := by
  unfold lines_New.f
  rw [if_pos hl]
theorem nlines_eq {b : List Int} (hl : b.length < 100000000000) : lines_Index_Lines.f [b] = some ((ls b).length : Int) := by
  show (if b.length < 100000000000 then some (nlines b) else none) = _
  rw [if_pos hl, nlines_ls]
theorem span_in {b : List Int} (hl : b.length < 100000000000) (j : Nat) (hj : j < (ls b).length) : lines_Index_Span.f [b] ((j : Int) + 1) = some ((off (ls b) j : Int), (((ls b).getD j []).length : Int), 0) := by
  show (if b.length < 100000000000 then (if (j : Int) + 1 < 1 then some (0, 0, 2) else if nlines b < (j : Int) + 1 then some (0, 0, 2) else some ((spanOf b ((j : Int) + 1)).1, (spanOf b ((j : Int) + 1)).2, 0)) else none) = _
  have h2 := begins_next b j hj
  have h3 := off_succ (ls b) j hj
  rw [if_pos hl, if_neg (by omega), nlines_ls, if_neg (by omega)]
  unfold spanOf
  simp only
  rw [show ((j : Int) + 1).toNat - 1 = j by omega, show ((j : Int) + 1).toNat = j + 1 by omega, begins_lt b j hj, h2, h3]
  congr 3
  omega
end Go.Proofs.YtkflgnhcfhmkdaaDoor.Pure
