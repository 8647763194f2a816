/- The printed decode.Text and decode.Literal, are the plain ones. -/
import Derived.Test.YtekalnhackjldaaDoorBPutDecodeBack
namespace Go.Proofs.YtekalnhackjldaaDoor.Pure
open Go.RowKit Go.Proofs.YtekalnhackjldaaDoor.PDecodeBack Go.Proofs.YtekalnhackjldaaDoorW.PrintWords Go.Proofs.YtekalnhackjldaaDoorW.PrintLast
open Go.Proofs.YtekalnhackjldaaDoor.M Go.Proofs.YtekalnhackjldaaDoor.X
set_option linter.unusedVariables false
set_option linter.unusedSimpArgs false

/-- The runes of signs. -/
def runesOf (u : List S45) : List Int := u.map (·.f0)
theorem runesOf_len (u : List S45) : (runesOf u).length = u.length := by simp [runesOf]
theorem rd_unit (u : List S45) (i : Int) : (rd_T45 u i).f0 = rd (runesOf u) i := by
  unfold rd_T45 rd runesOf
  rw [List.getD_eq_getElem?_getD, List.getD_eq_getElem?_getD, List.getElem?_map]
  cases u[i.toNat]? <;> rfl
theorem runesOf_mkU (a : Int) (l : List (Int × Int)) : runesOf (mkU a l) = l.map (·.1) := by
  have h := mkU_map a l
  have : runesOf (mkU a l) = ((mkU a l).map (fun u => (u.f0, u.f1.f1))).map (·.1) := by
    unfold runesOf
    rw [List.map_map]
    rfl
  rw [this, h]
theorem dtext_from (l : List S45) (hl : l.length < 1000000000) : ∀ (d i : Nat), l.length - i = d → i ≤ l.length → Ev (fun f => decode_Text.l0 f ((runesOf l).take i) l (l.length : Int) (i : Int)) (strOfNums (encL (runesOf l))) := by
  intro d
  induction d with
  | zero =>
    intro i hd hi
    refine Ev.step (f := fun f => (utf_Text.f f (runesOf l)).bind fun t => some t) (fun f => ?_) (Ev.bind (a := strOfNums (encL (runesOf l))) ⟨(runesOf l).length + 2, fun k hk => text_eq (by rw [runesOf_len]; omega) hk⟩ (Ev.now _))
    simp only [decode_Text.l0]
    rw [if_neg (by omega), List.take_of_length_le (by rw [runesOf_len]; omega)]
  | succ d ih =>
    intro i hd hi
    have hlt : i < (runesOf l).length := by rw [runesOf_len]; omega
    refine Ev.step (f := fun f => decode_Text.l0 f ((runesOf l).take (i + 1)) l (l.length : Int) ((i + 1 : Nat) : Int)) (fun f => ?_) (ih (i + 1) (by omega) (by omega))
    simp only [decode_Text.l0]
    rw [if_pos (by omega), if_pos (by omega), if_pos (by omega), if_pos (by rw [List.length_take, runesOf_len]; omega), rd_unit, show wrap64 ((i : Int) + 1) = ((i + 1 : Nat) : Int) by rw [w64 (by omega) (by omega)]; omega]
    have e : (runesOf l).take i ++ [rd (runesOf l) (i : Int)] = (runesOf l).take (i + 1) := by
      rw [List.take_succ_eq_append_getElem hlt]
      unfold rd
      rw [Int.toNat_natCast, List.getD_eq_getElem?_getD, List.getElem?_eq_getElem hlt]
      rfl
    rw [e]
theorem dtext_eq (l : List S45) (hl : l.length < 1000000000) : Ev (fun f => decode_Text.f f l) (strOfNums (encL (runesOf l))) := dtext_from l hl _ 0 rfl (by omega)
/-- From where signs stand, and up to where. -/
def litFrom (l : List S45) : Int := (rd_T45 l 0).f1.f0
def litTo (l : List S45) : Int := wrap64 ((rd_T45 l ((l.length : Int) - 1)).f1.f0 + (rd_T45 l ((l.length : Int) - 1)).f1.f1)
/-- Do signs stand in bytes as they are? -/
def litM (b : List Int) (l : List S45) : Bool :=
  if l.length = 0 then true else if 0 ≤ litFrom l ∧ litFrom l ≤ litTo l ∧ litTo l ≤ (b.length : Int) then (strOfNums ((b.take (litTo l).toNat).drop (litFrom l).toNat)).toList == (strOfNums (encL (runesOf l))).toList else false
theorem dlit_eq (b : List Int) (l : List S45) (hl : l.length < 1000000000) : Ev (fun f => decode_Literal.f f b l) (litM b l) := by
  by_cases h0 : l.length = 0
  · refine Ev.congr (f := fun _ => some true) (fun f => ?_) (by rw [show litM b l = true by unfold litM; rw [if_pos h0]]; exact Ev.now _)
    unfold decode_Literal.f
    rw [if_pos (by omega)]
  · have eL : wrap64 ((l.length : Int) - 1) = (l.length : Int) - 1 := w64 (by omega) (by omega)
    have head : ∀ f, decode_Literal.f f b l = if litFrom l ≥ 0 then (if litTo l ≥ litFrom l then (if litTo l ≤ (b.length : Int) then (if 0 ≤ litFrom l then (if litFrom l ≤ litTo l then ((decode_Text.f f l).bind fun t => some ((strOfNums ((b.take (litTo l).toNat).drop (litFrom l).toNat)).toList == t.toList)) else none) else none) else some false) else some false) else some false := by
      intro f
      unfold decode_Literal.f
      rw [eL, if_neg (by omega), if_pos (by omega), if_pos (by omega), if_pos (by omega)]
      rfl
    by_cases h1 : 0 ≤ litFrom l ∧ litFrom l ≤ litTo l ∧ litTo l ≤ (b.length : Int)
    · refine Ev.congr (f := fun f => (decode_Text.f f l).bind fun t => some ((strOfNums ((b.take (litTo l).toNat).drop (litFrom l).toNat)).toList == t.toList)) (fun f => ?_) (Ev.bind (dtext_eq l hl) (by rw [show litM b l = _ by unfold litM; rw [if_neg h0, if_pos h1]]; exact Ev.now _))
      rw [head, if_pos (by omega), if_pos (by omega), if_pos (by omega), if_pos (by omega), if_pos (by omega)]
    · refine Ev.congr (f := fun _ => some false) (fun f => ?_) (by rw [show litM b l = false by unfold litM; rw [if_neg h0, if_neg h1]]; exact Ev.now _)
      rw [head]
      by_cases g0 : litFrom l ≥ 0
      · rw [if_pos g0]
        by_cases g1 : litTo l ≥ litFrom l
        · rw [if_pos g1, if_neg (by omega)]
        · rw [if_neg g1]
      · rw [if_neg g0]
end Go.Proofs.YtekalnhackjldaaDoor.Pure
