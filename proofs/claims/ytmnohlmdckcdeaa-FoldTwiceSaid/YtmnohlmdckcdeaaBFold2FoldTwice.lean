/- fold.Fold, As and Of, over a text's runes. -/
import Derived.Test.YtmnohlmdckcdeaaBRunesFoldTwice
import Derived.Test.YtmnohlmdckcdeaaBPutFoldTwice
import Derived.Test.YtmnohlmdckcdeaaBFoldFoldTwice
namespace Go.Proofs.Ytmnohlmdckcdeaa.Pure
open Go.RowKit Go.Proofs.Ytmnohlmdckcdeaa.PFoldTwice Go.Proofs.YtmnohlmdckcdeaaW.PrintWords Go.Proofs.YtmnohlmdckcdeaaW.PrintLast
open Go.Proofs.Ytmnohlmdckcdeaa.M Go.Proofs.Ytmnohlmdckcdeaa.X

theorem rs_range {b : List Int} (hB : BT b) : ∀ r ∈ rs b, -1 ≤ r ∧ r ≤ 1114111 := by
  intro r hr
  rcases rs_each b hB r hr with h | h
  · omega
  · rw [okR_iff] at h; omega
/-- A rune in a case: its place decides. -/
def asR (c : Int) (i : Nat) (r : Int) : Int := if c = 3 then upR r else if c = 2 then (if i = 0 then upR r else downR r) else if c = 1 then downR r else r
theorem rd_mid (A B : List Int) (x : Int) (i : Nat) (h : A.length = i) : rd (A ++ x :: B) (i : Int) = x := by
  unfold rd
  rw [Int.toNat_natCast, List.getD_eq_getElem?_getD, List.getElem?_append_right (by omega), h, Nat.sub_self]
  rfl
theorem set_mid (A B : List Int) (x y : Int) (i : Nat) (h : A.length = i) : (A ++ x :: B).set i y = A ++ y :: B := by
  rw [List.set_append_right _ _ (by omega), h, Nat.sub_self]
  rfl
theorem as_from (c : Int) (L : List Int) (hL : ∀ r ∈ L, -1 ≤ r ∧ r ≤ 1114111) (hl : L.length ≤ 1000000) : ∀ (d k i : Nat), L.length - i = d → i ≤ L.length → d + L.length + 3 ≤ k →
    fold_As.l0 k c ((L.mapIdx (asR c)).take i ++ L.drop i) (L.length : Int) i = some (strOfNums (encL (L.mapIdx (asR c)))) := by
  intro d
  induction d with
  | zero =>
    intro k i hd hi hk
    obtain ⟨k, rfl⟩ : ∃ m, k = m + 1 := ⟨k - 1, by omega⟩
    simp only [fold_As.l0]
    rw [if_neg (by omega), List.take_of_length_le (by rw [List.length_mapIdx]; omega), List.drop_eq_nil_of_le (by omega), List.append_nil]
    exact ob (text_eq (by rw [List.length_mapIdx]; omega) (by rw [List.length_mapIdx]; omega)) rfl
  | succ d ih =>
    intro k i hd hi hk
    obtain ⟨k, rfl⟩ : ∃ m, k = m + 1 := ⟨k - 1, by omega⟩
    have hlt : i < L.length := by omega
    have ew : wrap64 ((i : Int) + 1) = ((i + 1 : Nat) : Int) := by rw [w64 (by omega) (by omega)]; omega
    have hr := hL _ (List.getElem_mem hlt)
    have g1 : (i : Int) < (L.length : Int) := by omega
    have g2 : (0 : Int) ≤ (i : Int) := by omega
    have b1 : -2147483648 ≤ L[i] := by omega
    have b2 : L[i] < 2147483648 := by omega
    have e0 : ((i : Int) = 0) ↔ (i = 0) := by omega
    have hA : ((L.mapIdx (asR c)).take i).length = i := by rw [List.length_take, List.length_mapIdx]; omega
    have g3 : (i : Int) < (((L.mapIdx (asR c)).take i ++ L[i] :: L.drop (i + 1)).length : Int) := by
      rw [List.length_append, hA, List.length_cons]; omega
    have hi2 := ih k (i + 1) (by omega) (by omega) (by omega)
    have ht : (L.mapIdx (asR c)).take (i + 1) ++ L.drop (i + 1) = (L.mapIdx (asR c)).take i ++ asR c i L[i] :: L.drop (i + 1) := by
      rw [List.take_succ_eq_append_getElem (by rw [List.length_mapIdx]; exact hlt), List.getElem_mapIdx, List.append_assoc]
      rfl
    rw [ht] at hi2
    rw [show L.drop i = L[i] :: L.drop (i + 1) from List.drop_eq_getElem_cons hlt]
    simp only [fold_As.l0]
    rw [if_pos g1, if_pos g2, if_pos g3, rd_mid _ _ _ _ hA, ew, Int.toNat_natCast]
    by_cases c3 : c = 3
    · rw [if_pos c3]
      refine ob (fup_eq b1 b2) ?_
      rw [set_mid _ _ _ _ _ hA, ← hi2]
      unfold asR
      rw [if_pos c3]
    rw [if_neg c3]
    by_cases c2 : c = 2
    · rw [if_pos c2]
      by_cases h0 : (i : Int) = 0
      · rw [if_pos h0]
        refine ob (fup_eq b1 b2) ?_
        rw [set_mid _ _ _ _ _ hA, ← hi2]
        unfold asR
        rw [if_neg c3, if_pos c2, if_pos (e0.1 h0)]
      · rw [if_neg h0]
        refine ob (fdown_eq b1 b2) ?_
        rw [set_mid _ _ _ _ _ hA, ← hi2]
        unfold asR
        rw [if_neg c3, if_pos c2, if_neg (fun h => h0 (e0.2 h))]
    rw [if_neg c2]
    by_cases c1 : c = 1
    · rw [if_pos c1]
      refine ob (fdown_eq b1 b2) ?_
      rw [set_mid _ _ _ _ _ hA, ← hi2]
      unfold asR
      rw [if_neg c3, if_neg c2, if_pos c1]
    · rw [if_neg c1, ← hi2]
      unfold asR
      rw [if_neg c3, if_neg c2, if_neg c1]
theorem as_of {k : Nat} (c : Int) {b : List Int} (hB : BT b) (hb : b.length ≤ 1000000) (hk : 2 * b.length + 8 ≤ k) : fold_As.f k c (strOfNums b) = some (strOfNums (encL ((rs b).mapIdx (asR c)))) := by
  have hr := rs_len b
  have hu := us_len b
  unfold fold_As.f
  refine ob (runes_of hB (by omega) (by omega)) ?_
  exact as_from c (rs b) (rs_range hB) (by omega) (rs b).length k 0 (by omega) (by omega) (by omega)
/-- A text's case, out of its runes. -/
def ofR (L : List Int) : Int := if L.countP great = 0 then 1 else if 1 < L.countP great ∧ L.countP small = 0 then 3 else if L.countP great = 1 ∧ (L.take 1).any great = true then 2 else 0
theorem of_end (L : List Int) (k : Nat) (hk : 2 ≤ k) : (if (L.countP great : Int) = 0 then (some 1) else (if (L.countP great : Int) > 1 then (fold_Of.j1 k (L.countP great : Int) ((L.take 1).any great) ((L.countP small : Int) == 0)) else (fold_Of.j1 k (L.countP great : Int) ((L.take 1).any great) false))) = some (ofR L) := by
  obtain ⟨k, rfl⟩ : ∃ m, k = m + 1 := ⟨k - 1, by omega⟩
  unfold ofR
  generalize L.countP great = g
  generalize L.countP small = s
  generalize (L.take 1).any great = f
  by_cases h0 : g = 0
  · rw [if_pos (by omega), if_pos h0]
  rw [if_neg (by omega), if_neg h0]
  by_cases h1 : 1 < g
  · rw [if_pos (by omega)]
    by_cases h2 : s = 0
    · subst h2
      rw [if_pos ⟨h1, rfl⟩]
      simp [fold_Of.j1]
    · have e : ((s : Int) == 0) = false := by rw [beq_eq_false_iff_ne]; omega
      rw [e, if_neg (fun h => h2 h.2), if_neg (fun h => by have := h.1; omega)]
      simp only [fold_Of.j1]
      rw [if_neg (by decide), if_neg (by omega)]
  · have hg : g = 1 := by omega
    subst hg
    rw [if_neg (by decide), if_neg (fun h => h1 h.1)]
    cases f <;> simp [fold_Of.j1]
theorem of_from (L : List Int) (hl : L.length ≤ 1000000) : ∀ (d k i : Nat), L.length - i = d → i ≤ L.length → d + 3 ≤ k →
    fold_Of.l0 k ((L.take i).countP great : Int) ((L.take i).countP small : Int) (((L.take i).take 1).any great) L (L.length : Int) i = some (ofR L) := by
  intro d
  induction d with
  | zero =>
    intro k i hd hi hk
    obtain ⟨k, rfl⟩ : ∃ m, k = m + 1 := ⟨k - 1, by omega⟩
    simp only [fold_Of.l0]
    rw [if_neg (by omega), List.take_of_length_le (show L.length ≤ i by omega)]
    exact of_end L k (by omega)
  | succ d ih =>
    intro k i hd hi hk
    obtain ⟨k, rfl⟩ : ∃ m, k = m + 1 := ⟨k - 1, by omega⟩
    have hlt : i < L.length := by omega
    have hA : (L.take i).length = i := by rw [List.length_take]; omega
    have ew : wrap64 ((i : Int) + 1) = ((i + 1 : Nat) : Int) := by rw [w64 (by omega) (by omega)]; omega
    have hg := List.countP_le_length (p := great) (l := L.take i)
    have hs := List.countP_le_length (p := small) (l := L.take i)
    rw [hA] at hg hs
    have eg : wrap64 (((L.take i).countP great : Int) + 1) = (((L.take i).countP great + 1 : Nat) : Int) := by rw [w64 (by omega) (by omega)]; omega
    have es : wrap64 (((L.take i).countP small : Int) + 1) = (((L.take i).countP small + 1 : Nat) : Int) := by rw [w64 (by omega) (by omega)]; omega
    have hrd : rd L (i : Int) = L[i] := by
      unfold rd
      rw [Int.toNat_natCast, List.getD_eq_getElem?_getD, List.getElem?_eq_getElem hlt]
      rfl
    have g1 : (i : Int) < (L.length : Int) := by omega
    have g2 : (0 : Int) ≤ (i : Int) := by omega
    have hi2 := ih k (i + 1) (by omega) (by omega) (by omega)
    have ht : L.take (i + 1) = L.take i ++ [L[i]] := List.take_succ_eq_append_getElem hlt
    have hf : i ≠ 0 → ((L.take i ++ [L[i]]).take 1).any great = ((L.take i).take 1).any great := by
      intro h
      rw [List.take_append_of_le_length (by omega)]
    rw [ht, List.countP_append, List.countP_append, List.countP_singleton, List.countP_singleton] at hi2
    simp only [fold_Of.l0]
    rw [if_pos g1, if_pos g2, if_pos g1, hrd, ew]
    refine ob (fgreat_eq _) ?_
    cases hgr : great L[i]
    · rw [if_neg (by decide)]
      refine ob (fsmall_eq _) ?_
      have hff : ((L.take i ++ [L[i]]).take 1).any great = ((L.take i).take 1).any great := by
        by_cases h : i = 0
        · subst h
          simp [hgr]
        · exact hf h
      rw [hgr, hff] at hi2
      cases hsm : small L[i]
      · rw [hsm] at hi2
        rw [if_neg (by decide)]
        exact hi2
      · rw [hsm] at hi2
        rw [if_pos rfl, es]
        exact hi2
    · rw [if_pos rfl, eg]
      rw [hgr, great_small hgr] at hi2
      by_cases h : i = 0
      · subst h
        have e1 : ((L.take 0 ++ [L[0]]).take 1).any great = true := by simp [hgr]
        rw [e1] at hi2
        rw [if_neg (by simp)]
        exact hi2
      · rw [hf h] at hi2
        cases hx : ((L.take i).take 1).any great
        · rw [hx] at hi2
          rw [if_neg (by decide), show ((i : Int) == 0) = false from by rw [beq_eq_false_iff_ne]; omega]
          exact hi2
        · rw [hx] at hi2
          rw [if_pos rfl]
          exact hi2
theorem of_of {k : Nat} {b : List Int} (hB : BT b) (hb : b.length ≤ 1000000) (hk : b.length + 8 ≤ k) : fold_Of.f k (strOfNums b) = some (ofR (rs b)) := by
  have hr := rs_len b
  have hu := us_len b
  unfold fold_Of.f
  refine ob (runes_of hB (by omega) (by omega)) ?_
  exact of_from (rs b) (by omega) (rs b).length k 0 (by omega) (by omega) (by omega)
theorem fold_awake {k : Nat} (hk : 40 ≤ k) : redpenlaw04_Awake.f k = some true := by
  have h1 : (⟨#[72, 101, 108, 108, 111]⟩ : ByteArray) = strOfNums [72, 101, 108, 108, 111] := by decide
  have h2 : (⟨#[119, 79, 82, 68]⟩ : ByteArray) = strOfNums [119, 79, 82, 68] := by decide
  have h3 : (⟨#[120, 89]⟩ : ByteArray) = strOfNums [120, 89] := by decide
  unfold redpenlaw04_Awake.f
  rw [h1, h2, h3]
  refine ob (of_of (b := [72, 101, 108, 108, 111]) (by decide) (by decide) (by simp; omega)) ?_
  rw [if_pos (by decide)]
  refine ob (as_of 2 (b := [119, 79, 82, 68]) (by decide) (by decide) (by simp; omega)) ?_
  rw [toList_eq_data, strOfNums_data, if_pos (by decide)]
  refine ob (as_of 0 (b := [120, 89]) (by decide) (by decide) (by simp; omega)) ?_
  rw [toList_eq_data, strOfNums_data]
  decide
end Go.Proofs.Ytmnohlmdckcdeaa.Pure
