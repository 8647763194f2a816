/- The printed decode.Text: what signs say. -/
import Derived.Test.YtmnohlmdckcdeaaBTokLTokenCases
import Derived.Test.YtmnohlmdckcdeaaBPutTokenCases
import Derived.Test.YtmnohlmdckcdeaaBRunesTokenCases
namespace Go.Proofs.Ytmnohlmdckcdeaa.Pure
open Go.RowKit Go.Proofs.Ytmnohlmdckcdeaa.PTokenCases Go.Proofs.YtmnohlmdckcdeaaW.PrintWords Go.Proofs.YtmnohlmdckcdeaaW.PrintLast
open Go.Proofs.Ytmnohlmdckcdeaa.M Go.Proofs.Ytmnohlmdckcdeaa.X
set_option linter.unusedVariables false
set_option linter.unusedSimpArgs false

theorem dtext_from (l : List S53) (hl : l.length < 1000000000) : ∀ (d i : Nat), l.length - i = d → i ≤ l.length → Ev (fun f => decode_Text.l0 f ((runesOf l).take i) l (l.length : Int) (i : Int)) (strOfNums (encL (runesOf l))) := by
  intro d
  induction d with
  | zero =>
    intro i hd hi
    refine Ev.step (f := fun f => (utf_Text.f f (runesOf l)).bind fun t => some t) (fun f => ?_) (Ev.bind (a := strOfNums (encL (runesOf l))) ⟨(runesOf l).length + 2, fun k hk => text_eq (by rw [runesOf_len]; omega) hk⟩ (Ev.now _))
    simp only [decode_Text.l0]
    rw [if_neg (by omega), List.take_of_length_le (by rw [runesOf_len]; omega)]
  | succ d ih =>
    intro i hd hi
    have hlt : i < (runesOf l).length := by rw [runesOf_len]; omega
    refine Ev.step (f := fun f => decode_Text.l0 f ((runesOf l).take (i + 1)) l (l.length : Int) ((i + 1 : Nat) : Int)) (fun f => ?_) (ih (i + 1) (by omega) (by omega))
    simp only [decode_Text.l0]
    rw [if_pos (by omega), if_pos (by omega), if_pos (by omega), if_pos (by rw [List.length_take, runesOf_len]; omega), rd_unit, show wrap64 ((i : Int) + 1) = ((i + 1 : Nat) : Int) by rw [w64 (by omega) (by omega)]; omega]
    have e : (runesOf l).take i ++ [rd (runesOf l) (i : Int)] = (runesOf l).take (i + 1) := by
      rw [List.take_succ_eq_append_getElem hlt]
      unfold rd
      rw [Int.toNat_natCast, List.getD_eq_getElem?_getD, List.getElem?_eq_getElem hlt]
      rfl
    rw [e]
theorem dtext_eq (l : List S53) (hl : l.length < 1000000000) : Ev (fun f => decode_Text.f f l) (strOfNums (encL (runesOf l))) := dtext_from l hl _ 0 rfl (by omega)
end Go.Proofs.Ytmnohlmdckcdeaa.Pure
