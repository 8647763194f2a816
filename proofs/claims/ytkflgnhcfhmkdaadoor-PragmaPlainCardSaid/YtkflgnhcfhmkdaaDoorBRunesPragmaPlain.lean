/- The printed utf.Runes is the plain one. -/
import Derived.Test.YtkflgnhcfhmkdaaDoorBUtfPragmaPlain
namespace Go.Proofs.YtkflgnhcfhmkdaaDoor.PPragmaPlain
open Go.RowKit Go.Proofs.YtkflgnhcfhmkdaaDoorW.PrintWords Go.Proofs.YtkflgnhcfhmkdaaDoorW.PrintLast Go.Proofs.YtkflgnhcfhmkdaaDoorW.PrintMore
open Go.Proofs.YtkflgnhcfhmkdaaDoor.M Go.Proofs.YtkflgnhcfhmkdaaDoor.X
set_option linter.unusedVariables false
set_option linter.unusedSimpArgs false

theorem mkU_rune (a : Int) (l : List (Int × Int)) (i : Nat) (h : i < l.length) : (rd_T73 (mkU a l) (i : Int)).f0 = (l.map (·.1)).getD i 0 := by
  unfold rd_T73
  rw [Int.toNat_natCast, mkU_get a l i h]
  rw [List.getD_eq_getElem?_getD, List.getD_eq_getElem?_getD, List.getElem?_map, List.getElem?_eq_getElem h]
  rfl
theorem runes_from (l : List (Int × Int)) (hl : l.length < 35184372088832) : ∀ (d k i : Nat), l.length - i = d → i ≤ l.length → d < k →
    utf_Runes.l0 k ((l.map (·.1)).take i) (mkU 0 l) (l.length : Int) (i : Int) = some (l.map (·.1)) := by
  intro d
  induction d with
  | zero =>
    intro k i hd hi hk
    obtain ⟨k, rfl⟩ : ∃ m, k = m + 1 := ⟨k - 1, by omega⟩
    simp only [utf_Runes.l0]
    rw [if_neg (by omega), List.take_of_length_le (by rw [List.length_map]; omega)]
  | succ d ih =>
    intro k i hd hi hk
    obtain ⟨k, rfl⟩ : ∃ m, k = m + 1 := ⟨k - 1, by omega⟩
    have hlt : i < l.length := by omega
    have ew : wrap64 ((i : Int) + 1) = ((i + 1 : Nat) : Int) := by rw [w64 (by omega) (by omega)]; omega
    simp only [utf_Runes.l0]
    rw [if_pos (by omega), if_pos (by omega), if_pos (by rw [mkU_len]; omega), if_pos (by rw [List.length_take, List.length_map]; omega), mkU_rune 0 l i hlt, ew]
    have := ih k (i + 1) (by omega) (by omega) (by omega)
    rw [List.take_succ_eq_append_getElem (by rw [List.length_map]; exact hlt)] at this
    rw [List.getD_eq_getElem?_getD, List.getElem?_eq_getElem (by rw [List.length_map]; exact hlt)]
    exact this
theorem runes_eq {k : Nat} (s : ByteArray) (hs : s.size < 5864062014805) (hk : s.size + 8 ≤ k) : utf_Runes.f k s = some (rs (bytesOf s)) := by
  unfold utf_Runes.f
  have hB := bytesOf_BT s
  have hl := bytesOf_length s
  have hul := us_len (bytesOf s)
  refine ob (conv_of_str s (by omega)) ?_
  refine ob (units_eq hB (by omega) (by omega)) ?_
  rw [mkU_len]
  exact runes_from (us (bytesOf s)) (by omega) _ _ 0 rfl (by omega) (by omega)
theorem runes_of {k : Nat} {b : List Int} (hB : BT b) (hb : b.length < 5864062014805) (hk : b.length + 8 ≤ k) : utf_Runes.f k (strOfNums b) = some (rs b) := by
  rw [runes_eq (strOfNums b) (by rw [strOfNums_size]; exact hb) (by rw [strOfNums_size]; exact hk), bytesOf_strOfNums hB]
end Go.Proofs.YtkflgnhcfhmkdaaDoor.PPragmaPlain
