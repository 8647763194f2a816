/- fold.Fold, as printed, over a text's runes. -/
import Derived.Test.YtkflgnhcfhmkdaaDoorBRunesPragmaPlain
import Derived.Test.YtkflgnhcfhmkdaaDoorBPutPragmaPlain
import Derived.Test.YtkflgnhcfhmkdaaDoorBFoldGPragmaPlain
namespace Go.Proofs.YtkflgnhcfhmkdaaDoor.Pure
open Go.RowKit Go.Proofs.YtkflgnhcfhmkdaaDoor.PPragmaPlain Go.Proofs.YtkflgnhcfhmkdaaDoorW.PrintWords Go.Proofs.YtkflgnhcfhmkdaaDoorW.PrintLast
open Go.Proofs.YtkflgnhcfhmkdaaDoor.M Go.Proofs.YtkflgnhcfhmkdaaDoor.X
set_option linter.unusedVariables false
set_option linter.unusedSimpArgs false

theorem fdown_eq {r : Int} (h0 : -2147483648 ≤ r) (h1 : r < 2147483648) : fold_Down.f r = some (downR r) := by
  unfold fold_Down.f
  refine ob (fgreat_eq r) ?_
  unfold downR
  split
  · rename_i h
    rw [great_iff] at h
    rw [w32 (by omega) (by omega)]
  · rfl
theorem rs_range {b : List Int} (hB : BT b) : ∀ r ∈ rs b, -1 ≤ r ∧ r ≤ 1114111 := by
  intro r hr
  rcases rs_each b hB r hr with h | h
  · omega
  · rw [okR_iff] at h; omega
theorem fold_from (L : List Int) (hL : ∀ r ∈ L, -1 ≤ r ∧ r ≤ 1114111) (hl : L.length ≤ 1000000) : ∀ (d k i : Nat), L.length - i = d → i ≤ L.length → d + L.length + 3 ≤ k →
    fold_Fold.l0 k ((L.map downR).take i) L (L.length : Int) i = some (strOfNums (encL (L.map downR))) := by
  intro d
  induction d with
  | zero =>
    intro k i hd hi hk
    obtain ⟨k, rfl⟩ : ∃ m, k = m + 1 := ⟨k - 1, by omega⟩
    simp only [fold_Fold.l0]
    rw [if_neg (by omega), List.take_of_length_le (by rw [List.length_map]; omega)]
    exact ob (text_eq (by rw [List.length_map]; omega) (by rw [List.length_map]; omega)) rfl
  | succ d ih =>
    intro k i hd hi hk
    obtain ⟨k, rfl⟩ : ∃ m, k = m + 1 := ⟨k - 1, by omega⟩
    have hlt : i < L.length := by omega
    have ew : wrap64 ((i : Int) + 1) = ((i + 1 : Nat) : Int) := by rw [w64 (by omega) (by omega)]; omega
    have hr := hL _ (List.getElem_mem hlt)
    have b1 : -2147483648 ≤ L[i] := by omega
    have b2 : L[i] < 2147483648 := by omega
    have g1 : (i : Int) < (L.length : Int) := by omega
    have g2 : (0 : Int) ≤ (i : Int) := by omega
    have g3 : ((L.map downR).take i).length < 35184372088832 := by rw [List.length_take, List.length_map]; omega
    have hrd : rd L (i : Int) = L[i] := by
      unfold rd
      rw [Int.toNat_natCast, List.getD_eq_getElem?_getD, List.getElem?_eq_getElem hlt]
      rfl
    have hi2 := ih k (i + 1) (by omega) (by omega) (by omega)
    rw [List.take_succ_eq_append_getElem (by rw [List.length_map]; exact hlt), List.getElem_map] at hi2
    simp only [fold_Fold.l0]
    rw [if_pos g1, if_pos g2, if_pos g1, hrd, ew]
    refine ob (fdown_eq b1 b2) ?_
    rw [if_pos g3]
    exact hi2
theorem fold_of {k : Nat} {b : List Int} (hB : BT b) (hb : b.length ≤ 1000000) (hk : 2 * b.length + 8 ≤ k) : fold_Fold.f k (strOfNums b) = some (strOfNums (encL ((rs b).map downR))) := by
  have hr := rs_len b
  have hu := us_len b
  unfold fold_Fold.f
  refine ob (runes_of hB (by omega) (by omega)) ?_
  exact fold_from (rs b) (rs_range hB) (by omega) (rs b).length k 0 (by omega) (by omega) (by omega)
/-- A text, folded. -/
def foldB (s : ByteArray) : ByteArray := strOfNums (encL ((rs (bytesOf s)).map downR))
theorem fold_ev (s : ByteArray) (hs : s.size ≤ 1000000) : Ev (fun k => fold_Fold.f k s) (foldB s) := by
  have hl : (bytesOf s).length = s.size := bytesOf_length s
  refine ⟨2 * s.size + 8, fun k hk => ?_⟩
  have := fold_of (k := k) (bytesOf_BT s) (by omega) (by omega)
  rw [strOfNums_bytesOf] at this
  exact this
theorem foldB_size (s : ByteArray) : (foldB s).size ≤ 4 * s.size := by
  unfold foldB
  rw [strOfNums_size]
  have h1 := encL_len ((rs (bytesOf s)).map downR)
  have h2 := rs_len (bytesOf s)
  have h3 := us_len (bytesOf s)
  have hl : (bytesOf s).length = s.size := bytesOf_length s
  rw [List.length_map] at h1
  omega
end Go.Proofs.YtkflgnhcfhmkdaaDoor.Pure
