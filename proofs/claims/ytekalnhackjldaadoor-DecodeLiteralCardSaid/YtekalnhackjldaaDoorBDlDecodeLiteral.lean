/- The printed decode.Text and decode.Literal, and the document's, are the plain ones. -/
import Derived.Test.YtekalnhackjldaaDoorBRunesDecodeLiteral
import Derived.Test.YtekalnhackjldaaDoorBPutDecodeLiteral
import Derived.Test.YtekalnhackjldaaDoorBRefPDecodeLiteral
namespace Go.Proofs.YtekalnhackjldaaDoor.Pure
open Go.RowKit Go.Proofs.YtekalnhackjldaaDoor.PDecodeLiteral Go.Proofs.YtekalnhackjldaaDoorW.PrintWords Go.Proofs.YtekalnhackjldaaDoorW.PrintLast
open Go.Proofs.YtekalnhackjldaaDoor.M Go.Proofs.YtekalnhackjldaaDoor.X
set_option linter.unusedVariables false
set_option linter.unusedSimpArgs false

/-- The runes of signs. -/
def runesOf (u : List S45) : List Int := u.map (·.f0)
theorem runesOf_len (u : List S45) : (runesOf u).length = u.length := by simp [runesOf]
theorem rd_unit (u : List S45) (i : Int) : (rd_T45 u i).f0 = rd (runesOf u) i := by
  unfold rd_T45 rd runesOf
  rw [List.getD_eq_getElem?_getD, List.getD_eq_getElem?_getD, List.getElem?_map]
  cases u[i.toNat]? <;> rfl
theorem runesOf_mkU (a : Int) (l : List (Int × Int)) : runesOf (mkU a l) = l.map (·.1) := by
  have h := mkU_map a l
  have : runesOf (mkU a l) = ((mkU a l).map (fun u => (u.f0, u.f1.f1))).map (·.1) := by
    unfold runesOf
    rw [List.map_map]
    rfl
  rw [this, h]
theorem runesOf_us (b : List Int) : runesOf (mkU 0 (us b)) = rs b := runesOf_mkU 0 (us b)
theorem units_ev {b : List Int} (hB : BT b) (hl : b.length < 1000000) : Ev (fun f => utf_Units.f f b) (mkU 0 (us b)) :=
  ⟨b.length + 7, fun k hk => units_eq hB (by omega) hk⟩
theorem units_len (b : List Int) : (mkU 0 (us b)).length ≤ b.length := by rw [mkU_len]; exact us_len b
theorem dtext_from (l : List S45) (hl : l.length < 1000000000) : ∀ (d i : Nat), l.length - i = d → i ≤ l.length → Ev (fun f => decode_Text.l0 f ((runesOf l).take i) l (l.length : Int) (i : Int)) (strOfNums (encL (runesOf l))) := by
  intro d
  induction d with
  | zero =>
    intro i hd hi
    refine Ev.step (f := fun f => (utf_Text.f f (runesOf l)).bind fun t => some t) (fun f => ?_) (Ev.bind (a := strOfNums (encL (runesOf l))) ⟨(runesOf l).length + 2, fun k hk => text_eq (by rw [runesOf_len]; omega) hk⟩ (Ev.now _))
    simp only [decode_Text.l0]
    rw [if_neg (by omega), List.take_of_length_le (by rw [runesOf_len]; omega)]
  | succ d ih =>
    intro i hd hi
    have hlt : i < (runesOf l).length := by rw [runesOf_len]; omega
    refine Ev.step (f := fun f => decode_Text.l0 f ((runesOf l).take (i + 1)) l (l.length : Int) ((i + 1 : Nat) : Int)) (fun f => ?_) (ih (i + 1) (by omega) (by omega))
    simp only [decode_Text.l0]
    rw [if_pos (by omega), if_pos (by omega), if_pos (by omega), if_pos (by rw [List.length_take, runesOf_len]; omega), rd_unit, show wrap64 ((i : Int) + 1) = ((i + 1 : Nat) : Int) by rw [w64 (by omega) (by omega)]; omega]
    have e : (runesOf l).take i ++ [rd (runesOf l) (i : Int)] = (runesOf l).take (i + 1) := by
      rw [List.take_succ_eq_append_getElem hlt]
      unfold rd
      rw [Int.toNat_natCast, List.getD_eq_getElem?_getD, List.getElem?_eq_getElem hlt]
      rfl
    rw [e]
theorem dtext_eq (l : List S45) (hl : l.length < 1000000000) : Ev (fun f => decode_Text.f f l) (strOfNums (encL (runesOf l))) := dtext_from l hl _ 0 rfl (by omega)
theorem rtext_from (l : List S45) (hl : l.length < 1000000000) : ∀ (d i : Nat), l.length - i = d → i ≤ l.length → Ev (fun f => redpenref15_Text.l0 f l ((runesOf l).take i) (i : Int)) (strOfNums (encL (runesOf l))) := by
  intro d
  induction d with
  | zero =>
    intro i hd hi
    refine Ev.step (f := fun f => (redpenref01_Text.f f (runesOf l)).bind fun t => some t) (fun f => ?_) (Ev.bind (a := strOfNums (encL (runesOf l))) ⟨(runesOf l).length + 2, fun k hk => reftext_eq (by rw [runesOf_len]; omega) hk⟩ (Ev.now _))
    simp only [redpenref15_Text.l0]
    rw [if_neg (by omega), List.take_of_length_le (by rw [runesOf_len]; omega)]
  | succ d ih =>
    intro i hd hi
    have hlt : i < (runesOf l).length := by rw [runesOf_len]; omega
    refine Ev.step (f := fun f => redpenref15_Text.l0 f l ((runesOf l).take (i + 1)) ((i + 1 : Nat) : Int)) (fun f => ?_) (ih (i + 1) (by omega) (by omega))
    simp only [redpenref15_Text.l0]
    rw [if_pos (by omega), if_pos (by omega), if_pos (by rw [List.length_take, runesOf_len]; omega), rd_unit, show wrap64 ((i : Int) + 1) = ((i + 1 : Nat) : Int) by rw [w64 (by omega) (by omega)]; omega]
    have e : (runesOf l).take i ++ [rd (runesOf l) (i : Int)] = (runesOf l).take (i + 1) := by
      rw [List.take_succ_eq_append_getElem hlt]
      unfold rd
      rw [Int.toNat_natCast, List.getD_eq_getElem?_getD, List.getElem?_eq_getElem hlt]
      rfl
    rw [e]
theorem rtext_eq (l : List S45) (hl : l.length < 1000000000) : Ev (fun f => redpenref15_Text.f f l) (strOfNums (encL (runesOf l))) := rtext_from l hl _ 0 rfl (by omega)
/-- From where signs stand, and up to where. -/
def litFrom (l : List S45) : Int := (rd_T45 l 0).f1.f0
def litTo (l : List S45) : Int := wrap64 ((rd_T45 l ((l.length : Int) - 1)).f1.f0 + (rd_T45 l ((l.length : Int) - 1)).f1.f1)
/-- Do signs stand in bytes as they are? -/
def litM (b : List Int) (l : List S45) : Bool :=
  if l.length = 0 then true else if 0 ≤ litFrom l ∧ litFrom l ≤ litTo l ∧ litTo l ≤ (b.length : Int) then (strOfNums ((b.take (litTo l).toNat).drop (litFrom l).toNat)).toList == (strOfNums (encL (runesOf l))).toList else false
theorem dlit_eq (b : List Int) (l : List S45) (hl : l.length < 1000000000) : Ev (fun f => decode_Literal.f f b l) (litM b l) := by
  by_cases h0 : l.length = 0
  · refine Ev.congr (f := fun _ => some true) (fun f => ?_) (by rw [show litM b l = true by unfold litM; rw [if_pos h0]]; exact Ev.now _)
    unfold decode_Literal.f
    rw [if_pos (by omega)]
  · have eL : wrap64 ((l.length : Int) - 1) = (l.length : Int) - 1 := w64 (by omega) (by omega)
    have head : ∀ f, decode_Literal.f f b l = if litFrom l ≥ 0 then (if litTo l ≥ litFrom l then (if litTo l ≤ (b.length : Int) then (if 0 ≤ litFrom l then (if litFrom l ≤ litTo l then ((decode_Text.f f l).bind fun t => some ((strOfNums ((b.take (litTo l).toNat).drop (litFrom l).toNat)).toList == t.toList)) else none) else none) else some false) else some false) else some false := by
      intro f
      unfold decode_Literal.f
      rw [eL, if_neg (by omega), if_pos (by omega), if_pos (by omega), if_pos (by omega)]
      rfl
    by_cases h1 : 0 ≤ litFrom l ∧ litFrom l ≤ litTo l ∧ litTo l ≤ (b.length : Int)
    · refine Ev.congr (f := fun f => (decode_Text.f f l).bind fun t => some ((strOfNums ((b.take (litTo l).toNat).drop (litFrom l).toNat)).toList == t.toList)) (fun f => ?_) (Ev.bind (dtext_eq l hl) (by rw [show litM b l = _ by unfold litM; rw [if_neg h0, if_pos h1]]; exact Ev.now _))
      rw [head, if_pos (by omega), if_pos (by omega), if_pos (by omega), if_pos (by omega), if_pos (by omega)]
    · refine Ev.congr (f := fun _ => some false) (fun f => ?_) (by rw [show litM b l = false by unfold litM; rw [if_neg h0, if_neg h1]]; exact Ev.now _)
      rw [head]
      by_cases g0 : litFrom l ≥ 0
      · rw [if_pos g0]
        by_cases g1 : litTo l ≥ litFrom l
        · rw [if_pos g1, if_neg (by omega)]
        · rw [if_neg g1]
      · rw [if_neg g0]
theorem rlit_eq (b : List Int) (l : List S45) (hl : l.length < 1000000000) : Ev (fun f => redpenref15_Literal.f f b l) (litM b l) := by
  by_cases h0 : l.length = 0
  · refine Ev.congr (f := fun _ => some true) (fun f => ?_) (by rw [show litM b l = true by unfold litM; rw [if_pos h0]]; exact Ev.now _)
    unfold redpenref15_Literal.f
    rw [if_pos (by omega)]
  · have eL : wrap64 ((l.length : Int) - 1) = (l.length : Int) - 1 := w64 (by omega) (by omega)
    have head : ∀ f, redpenref15_Literal.f f b l = if litFrom l ≥ 0 then (if litFrom l ≤ litTo l then (if litTo l ≤ (b.length : Int) then (if 0 ≤ litFrom l then ((redpenref15_Text.f f l).bind fun t => some ((strOfNums ((b.take (litTo l).toNat).drop (litFrom l).toNat)).toList == t.toList)) else none) else some false) else some false) else some false := by
      intro f
      unfold redpenref15_Literal.f
      rw [eL, if_neg (by omega), if_pos (by omega), if_pos (by omega), if_pos (by omega)]
      rfl
    by_cases h1 : 0 ≤ litFrom l ∧ litFrom l ≤ litTo l ∧ litTo l ≤ (b.length : Int)
    · refine Ev.congr (f := fun f => (redpenref15_Text.f f l).bind fun t => some ((strOfNums ((b.take (litTo l).toNat).drop (litFrom l).toNat)).toList == t.toList)) (fun f => ?_) (Ev.bind (rtext_eq l hl) (by rw [show litM b l = _ by unfold litM; rw [if_neg h0, if_pos h1]]; exact Ev.now _))
      rw [head, if_pos (by omega), if_pos (by omega), if_pos (by omega), if_pos (by omega)]
    · refine Ev.congr (f := fun _ => some false) (fun f => ?_) (by rw [show litM b l = false by unfold litM; rw [if_neg h0, if_neg h1]]; exact Ev.now _)
      rw [head]
      by_cases g0 : litFrom l ≥ 0
      · rw [if_pos g0]
        by_cases g1 : litFrom l ≤ litTo l
        · rw [if_pos g1, if_neg (by omega)]
        · rw [if_neg g1]
      · rw [if_neg g0]
theorem pos_succ (l : List (Int × Int)) (k : Nat) (h : k < l.length) : pos l (k + 1) = pos l k + (l.getD k (0, 0)).2 := by
  unfold pos
  rw [List.take_succ_eq_append_getElem h, List.map_append, List.sum_append, List.getD_eq_getElem?_getD, List.getElem?_eq_getElem h]
  simp
theorem unit_at (b : List Int) (i : Nat) (h : i < (us b).length) : (rd_T45 (mkU 0 (us b)) (i : Int)).f1.f0 = pos (us b) i ∧ (rd_T45 (mkU 0 (us b)) (i : Int)).f1.f0 + (rd_T45 (mkU 0 (us b)) (i : Int)).f1.f1 = pos (us b) (i + 1) := by
  unfold rd_T45
  rw [Int.toNat_natCast, mkU_get 0 _ i h, pos_succ _ _ h]
  exact ⟨by simp, by simp⟩
/-- The signs of bytes stand as they are just if they make the bytes. -/
theorem lit_us (b : List Int) (hB : BT b) (hb : b.length < 1000000) : litM b (mkU 0 (us b)) = ((strOfNums (encL (rs b))).toList == (strOfNums b).toList) := by
  unfold litM
  rw [mkU_len]
  by_cases h0 : (us b).length = 0
  · have hbn : b = [] := by
      cases b with
      | nil => rfl
      | cons c t => rw [us_cons (by simp)] at h0; simp at h0
    subst hbn
    rw [if_pos h0]
    exact (beq_self_eq_true (strOfNums ([] : List Int)).toList).symm
  · have hl := us_len b
    have e0 : litFrom (mkU 0 (us b)) = 0 := by
      unfold litFrom
      have := (unit_at b 0 (by omega)).1
      rw [pos_zero] at this
      exact this
    have e1 : litTo (mkU 0 (us b)) = (b.length : Int) := by
      unfold litTo
      rw [mkU_len]
      have := (unit_at b ((us b).length - 1) (by omega)).2
      rw [show (((us b).length - 1 : Nat) : Int) = ((us b).length : Int) - 1 by omega, show (us b).length - 1 + 1 = (us b).length by omega, pos_all] at this
      rw [this, w64 (by omega) (by omega)]
    rw [if_neg h0, e0, e1, if_pos ⟨by omega, by omega, by omega⟩, runesOf_us, Int.toNat_natCast, List.take_length]
    show ((strOfNums b).toList == _) = _
    rw [Bool.eq_iff_iff, beq_iff_eq, beq_iff_eq]
    exact ⟨fun h => h.symm, fun h => h.symm⟩
end Go.Proofs.YtekalnhackjldaaDoor.Pure
