/- fold.As and fold.Fold, over a text's runes. -/
import Derived.Test.YtmnohlmdckcdeaaBRunesTokenCases
import Derived.Test.YtmnohlmdckcdeaaBPutTokenCases
import Derived.Test.YtmnohlmdckcdeaaBFoldTokenCases
namespace Go.Proofs.Ytmnohlmdckcdeaa.Pure
open Go.RowKit Go.Proofs.Ytmnohlmdckcdeaa.PTokenCases Go.Proofs.YtmnohlmdckcdeaaW.PrintWords Go.Proofs.YtmnohlmdckcdeaaW.PrintLast
open Go.Proofs.Ytmnohlmdckcdeaa.M Go.Proofs.Ytmnohlmdckcdeaa.X
set_option linter.unusedVariables false
set_option linter.unusedSimpArgs false

theorem rs_range {b : List Int} (hB : BT b) : ∀ r ∈ rs b, -1 ≤ r ∧ r ≤ 1114111 := by
  intro r hr
  rcases rs_each b hB r hr with h | h
  · omega
  · rw [okR_iff] at h; omega
/-- A rune in a case: its place decides. -/
def asR (c : Int) (i : Nat) (r : Int) : Int := if c = 3 then upR r else if c = 2 then (if i = 0 then upR r else downR r) else if c = 1 then downR r else r
theorem rd_mid (A B : List Int) (x : Int) (i : Nat) (h : A.length = i) : rd (A ++ x :: B) (i : Int) = x := by
  unfold rd
  rw [Int.toNat_natCast, List.getD_eq_getElem?_getD, List.getElem?_append_right (by omega), h, Nat.sub_self]
  rfl
theorem set_mid (A B : List Int) (x y : Int) (i : Nat) (h : A.length = i) : (A ++ x :: B).set i y = A ++ y :: B := by
  rw [List.set_append_right _ _ (by omega), h, Nat.sub_self]
  rfl
theorem as_from (c : Int) (L : List Int) (hL : ∀ r ∈ L, -1 ≤ r ∧ r ≤ 1114111) (hl : L.length ≤ 1000000) : ∀ (d k i : Nat), L.length - i = d → i ≤ L.length → d + L.length + 3 ≤ k →
    fold_As.l0 k c ((L.mapIdx (asR c)).take i ++ L.drop i) (L.length : Int) i = some (strOfNums (encL (L.mapIdx (asR c)))) := by
  intro d
  induction d with
  | zero =>
    intro k i hd hi hk
    obtain ⟨k, rfl⟩ : ∃ m, k = m + 1 := ⟨k - 1, by omega⟩
    simp only [fold_As.l0]
    rw [if_neg (by omega), List.take_of_length_le (by rw [List.length_mapIdx]; omega), List.drop_eq_nil_of_le (by omega), List.append_nil]
    exact ob (text_eq (by rw [List.length_mapIdx]; omega) (by rw [List.length_mapIdx]; omega)) rfl
  | succ d ih =>
    intro k i hd hi hk
    obtain ⟨k, rfl⟩ : ∃ m, k = m + 1 := ⟨k - 1, by omega⟩
    have hlt : i < L.length := by omega
    have ew : wrap64 ((i : Int) + 1) = ((i + 1 : Nat) : Int) := by rw [w64 (by omega) (by omega)]; omega
    have hr := hL _ (List.getElem_mem hlt)
    have g1 : (i : Int) < (L.length : Int) := by omega
    have g2 : (0 : Int) ≤ (i : Int) := by omega
    have b1 : -2147483648 ≤ L[i] := by omega
    have b2 : L[i] < 2147483648 := by omega
    have e0 : ((i : Int) = 0) ↔ (i = 0) := by omega
    have hA : ((L.mapIdx (asR c)).take i).length = i := by rw [List.length_take, List.length_mapIdx]; omega
    have g3 : (i : Int) < (((L.mapIdx (asR c)).take i ++ L[i] :: L.drop (i + 1)).length : Int) := by
      rw [List.length_append, hA, List.length_cons]; omega
    have hi2 := ih k (i + 1) (by omega) (by omega) (by omega)
    have ht : (L.mapIdx (asR c)).take (i + 1) ++ L.drop (i + 1) = (L.mapIdx (asR c)).take i ++ asR c i L[i] :: L.drop (i + 1) := by
      rw [List.take_succ_eq_append_getElem (by rw [List.length_mapIdx]; exact hlt), List.getElem_mapIdx, List.append_assoc]
      rfl
    rw [ht] at hi2
    rw [show L.drop i = L[i] :: L.drop (i + 1) from List.drop_eq_getElem_cons hlt]
    simp only [fold_As.l0]
    rw [if_pos g1, if_pos g2, if_pos g3, rd_mid _ _ _ _ hA, ew, Int.toNat_natCast]
    by_cases c3 : c = 3
    · rw [if_pos c3]
      refine ob (fup_eq b1 b2) ?_
      rw [set_mid _ _ _ _ _ hA, ← hi2]
      unfold asR
      rw [if_pos c3]
    rw [if_neg c3]
    by_cases c2 : c = 2
    · rw [if_pos c2]
      by_cases h0 : (i : Int) = 0
      · rw [if_pos h0]
        refine ob (fup_eq b1 b2) ?_
        rw [set_mid _ _ _ _ _ hA, ← hi2]
        unfold asR
        rw [if_neg c3, if_pos c2, if_pos (e0.1 h0)]
      · rw [if_neg h0]
        refine ob (fdown_eq b1 b2) ?_
        rw [set_mid _ _ _ _ _ hA, ← hi2]
        unfold asR
        rw [if_neg c3, if_pos c2, if_neg (fun h => h0 (e0.2 h))]
    rw [if_neg c2]
    by_cases c1 : c = 1
    · rw [if_pos c1]
      refine ob (fdown_eq b1 b2) ?_
      rw [set_mid _ _ _ _ _ hA, ← hi2]
      unfold asR
      rw [if_neg c3, if_neg c2, if_pos c1]
    · rw [if_neg c1, ← hi2]
      unfold asR
      rw [if_neg c3, if_neg c2, if_neg c1]
theorem as_of {k : Nat} (c : Int) {b : List Int} (hB : BT b) (hb : b.length ≤ 1000000) (hk : 2 * b.length + 8 ≤ k) : fold_As.f k c (strOfNums b) = some (strOfNums (encL ((rs b).mapIdx (asR c)))) := by
  have hr := rs_len b
  have hu := us_len b
  unfold fold_As.f
  refine ob (runes_of hB (by omega) (by omega)) ?_
  exact as_from c (rs b) (rs_range hB) (by omega) (rs b).length k 0 (by omega) (by omega) (by omega)
theorem fold_from (L : List Int) (hL : ∀ r ∈ L, -1 ≤ r ∧ r ≤ 1114111) (hl : L.length ≤ 1000000) : ∀ (d k i : Nat), L.length - i = d → i ≤ L.length → d + L.length + 3 ≤ k →
    fold_Fold.l0 k ((L.map downR).take i) L (L.length : Int) i = some (strOfNums (encL (L.map downR))) := by
  intro d
  induction d with
  | zero =>
    intro k i hd hi hk
    obtain ⟨k, rfl⟩ : ∃ m, k = m + 1 := ⟨k - 1, by omega⟩
    simp only [fold_Fold.l0]
    rw [if_neg (by omega), List.take_of_length_le (by rw [List.length_map]; omega)]
    exact ob (text_eq (by rw [List.length_map]; omega) (by rw [List.length_map]; omega)) rfl
  | succ d ih =>
    intro k i hd hi hk
    obtain ⟨k, rfl⟩ : ∃ m, k = m + 1 := ⟨k - 1, by omega⟩
    have hlt : i < L.length := by omega
    have ew : wrap64 ((i : Int) + 1) = ((i + 1 : Nat) : Int) := by rw [w64 (by omega) (by omega)]; omega
    have hr := hL _ (List.getElem_mem hlt)
    have b1 : -2147483648 ≤ L[i] := by omega
    have b2 : L[i] < 2147483648 := by omega
    have g1 : (i : Int) < (L.length : Int) := by omega
    have g2 : (0 : Int) ≤ (i : Int) := by omega
    have g3 : ((L.map downR).take i).length < 35184372088832 := by rw [List.length_take, List.length_map]; omega
    have hrd : rd L (i : Int) = L[i] := by
      unfold rd
      rw [Int.toNat_natCast, List.getD_eq_getElem?_getD, List.getElem?_eq_getElem hlt]
      rfl
    have hi2 := ih k (i + 1) (by omega) (by omega) (by omega)
    rw [List.take_succ_eq_append_getElem (by rw [List.length_map]; exact hlt), List.getElem_map] at hi2
    simp only [fold_Fold.l0]
    rw [if_pos g1, if_pos g2, if_pos g1, hrd, ew]
    refine ob (fdown_eq b1 b2) ?_
    rw [if_pos g3]
    exact hi2
theorem fold_of {k : Nat} {b : List Int} (hB : BT b) (hb : b.length ≤ 1000000) (hk : 2 * b.length + 8 ≤ k) : fold_Fold.f k (strOfNums b) = some (strOfNums (encL ((rs b).map downR))) := by
  have hr := rs_len b
  have hu := us_len b
  unfold fold_Fold.f
  refine ob (runes_of hB (by omega) (by omega)) ?_
  exact fold_from (rs b) (rs_range hB) (by omega) (rs b).length k 0 (by omega) (by omega) (by omega)
/-- Runes that can all be put are read as they are. -/
theorem rs_of_ok {L : List Int} (h : ∀ r ∈ L, okR r = true) : rs (encL L) = L := by
  have := rs_encL L []
  rw [List.append_nil, rs_nil, List.append_nil, List.filter_eq_self.2 (fun r hr => h r hr)] at this
  exact this
end Go.Proofs.Ytmnohlmdckcdeaa.Pure
