/- lines.Split, as printed, tells the plain lines. -/
import Derived.Test.YtokgkhndhlcfpaaPHunksOnex
import Derived.Test.YtokgkhndhlcfpaaMLines2
import Derived.Test.YtokgkhndhlcfpaaMStr
namespace Go.Proofs.Ytokgkhndhlcfpaa.Pure
open Go.RowKit Go.Proofs.Ytokgkhndhlcfpaa.PHunksOne Go.Proofs.YtokgkhndhlcfpaaW.PrintWords Go.Proofs.YtokgkhndhlcfpaaW.PrintLast
open Go.Proofs.Ytokgkhndhlcfpaa.M Go.Proofs.Ytokgkhndhlcfpaa.X
set_option linter.unusedVariables false
set_option linter.unusedSimpArgs false

theorem new_eq {b : List Int} (hl : b.length < 100000000000) : lines_New.f b = some [b] := by
  unfold lines_New.f
  rw [if_pos hl]
theorem nlines_eq {b : List Int} (hl : b.length < 100000000000) : lines_Index_Lines.f [b] = some ((ls b).length : Int) := by
  show (if b.length < 100000000000 then some (nlines b) else none) = _
  rw [if_pos hl, nlines_ls]
theorem span_in {b : List Int} (hl : b.length < 100000000000) (j : Nat) (hj : j < (ls b).length) : lines_Index_Span.f [b] ((j : Int) + 1) = some ((off (ls b) j : Int), (((ls b).getD j []).length : Int), 0) := by
  show (if b.length < 100000000000 then (if (j : Int) + 1 < 1 then some (0, 0, 2) else if nlines b < (j : Int) + 1 then some (0, 0, 2) else some ((spanOf b ((j : Int) + 1)).1, (spanOf b ((j : Int) + 1)).2, 0)) else none) = _
  have h2 := begins_next b j hj
  have h3 := off_succ (ls b) j hj
  rw [if_pos hl, if_neg (by omega), nlines_ls, if_neg (by omega)]
  unfold spanOf
  simp only
  rw [show ((j : Int) + 1).toNat - 1 = j by omega, show ((j : Int) + 1).toNat = j + 1 by omega, begins_lt b j hj, h2, h3]
  congr 3
  omega
theorem split_from {b : List Int} (hb : b.length ≤ 1000000) : ∀ (d k j : Nat), (ls b).length - j = d → j ≤ (ls b).length → d < k →
    lines_Split.l0 k b (((ls b).take j).map strOfNums) [b] ((ls b).length : Int) j = some ((ls b).map strOfNums) := by
  have hn := ls_count b
  intro d
  induction d with
  | zero =>
    intro k j hd hj hk
    obtain ⟨k, rfl⟩ : ∃ m, k = m + 1 := ⟨k - 1, by omega⟩
    simp only [lines_Split.l0]
    rw [if_neg (by omega), List.take_of_length_le (by omega)]
  | succ d ih =>
    intro k j hd hj hk
    obtain ⟨k, rfl⟩ : ∃ m, k = m + 1 := ⟨k - 1, by omega⟩
    have hlt : j < (ls b).length := by omega
    have ew : wrap64 ((j : Int) + 1) = ((j + 1 : Nat) : Int) := by rw [w64 (by omega) (by omega)]; omega
    have ho := off_succ (ls b) j hlt
    have ho2 := off_le (ls b) (j + 1)
    rw [ls_flat] at ho2
    have g1 : (j : Int) < ((ls b).length : Int) := by omega
    have g2 : (0 : Int) ≤ (off (ls b) j : Int) := by omega
    have g3 : (off (ls b) j : Int) ≤ (off (ls b) (j + 1) : Int) := by omega
    have g4 : (off (ls b) (j + 1) : Int) ≤ (b.length : Int) := by omega
    have g5 : ((j : Int) + 1) = ((j + 1 : Nat) : Int) := by omega
    have g6 : b.length < 100000000000 := by omega
    have hr := ih k (j + 1) (by omega) (by omega) (by omega)
    have e2 : wrap64 ((off (ls b) j : Int) + (((ls b).getD j []).length : Int)) = (off (ls b) (j + 1) : Int) := by
      have e3 : (off (ls b) j : Int) + (((ls b).getD j []).length : Int) = (off (ls b) (j + 1) : Int) := by omega
      rw [e3]
      exact w64 (by omega) (by omega)
    have hl : (((ls b).take j).map strOfNums).length < 8796093022208 := by
      rw [List.length_map, List.length_take]
      have : min j (ls b).length ≤ j := Nat.min_le_left _ _
      omega
    have hs := span_in (b := b) g6 j hlt
    have hc := cut_line (ls b) j hlt
    rw [ls_flat] at hc
    have hm : ((ls b).take (j + 1)).map strOfNums = ((ls b).take j).map strOfNums ++ [strOfNums ((ls b).getD j [])] := by
      rw [List.take_succ_eq_append_getElem hlt, List.map_append]
      simp [List.getD, hlt]
    rw [g5] at hs
    simp only [lines_Split.l0]
    rw [if_pos g1, ew]
    refine ob hs ?_
    simp only
    rw [e2, if_pos g2, if_pos g3, if_pos g4, if_pos hl, Int.toNat_natCast, Int.toNat_natCast, hc, ← hm, hr]
theorem split_eq {b : List Int} (hb : b.length ≤ 1000000) {k : Nat} (hk : b.length < k) : lines_Split.f k b = some ((ls b).map strOfNums) := by
  have hn := ls_count b
  unfold lines_Split.f
  refine ob (new_eq (by omega)) ?_
  refine ob (nlines_eq (by omega)) ?_
  have := split_from hb (ls b).length k 0 (by omega) (by omega) (by omega)
  exact this
end Go.Proofs.Ytokgkhndhlcfpaa.Pure
