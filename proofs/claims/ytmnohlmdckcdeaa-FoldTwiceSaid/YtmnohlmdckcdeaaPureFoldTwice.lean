/- FoldTwice: folded twice is folded once; folded it has no great letter; in the case that it has nothing changes. For all runes (up to 300 are looked at). No condition beyond the statement's own. -/
import Derived.Test.YtmnohlmdckcdeaaBFold2FoldTwice
namespace Go.Proofs.Ytmnohlmdckcdeaa.Pure
open Go.RowKit Go.Proofs.Ytmnohlmdckcdeaa.PFoldTwice Go.Proofs.YtmnohlmdckcdeaaW.PrintWords Go.Proofs.YtmnohlmdckcdeaaW.PrintLast
open Go.Proofs.Ytmnohlmdckcdeaa.M Go.Proofs.Ytmnohlmdckcdeaa.X

theorem fold_from (L : List Int) (hL : ∀ r ∈ L, -1 ≤ r ∧ r ≤ 1114111) (hl : L.length ≤ 1000000) : ∀ (d k i : Nat), L.length - i = d → i ≤ L.length → d + L.length + 3 ≤ k →
    fold_Fold.l0 k ((L.map downR).take i) L (L.length : Int) i = some (strOfNums (encL (L.map downR))) := by
  intro d
  induction d with
  | zero =>
    intro k i hd hi hk
    obtain ⟨k, rfl⟩ : ∃ m, k = m + 1 := ⟨k - 1, by omega⟩
    simp only [fold_Fold.l0]
    rw [if_neg (by omega), List.take_of_length_le (by rw [List.length_map]; omega)]
    exact ob (text_eq (by rw [List.length_map]; omega) (by rw [List.length_map]; omega)) rfl
  | succ d ih =>
    intro k i hd hi hk
    obtain ⟨k, rfl⟩ : ∃ m, k = m + 1 := ⟨k - 1, by omega⟩
    have hlt : i < L.length := by omega
    have ew : wrap64 ((i : Int) + 1) = ((i + 1 : Nat) : Int) := by rw [w64 (by omega) (by omega)]; omega
    have hr := hL _ (List.getElem_mem hlt)
    have b1 : -2147483648 ≤ L[i] := by omega
    have b2 : L[i] < 2147483648 := by omega
    have g1 : (i : Int) < (L.length : Int) := by omega
    have g2 : (0 : Int) ≤ (i : Int) := by omega
    have g3 : ((L.map downR).take i).length < 35184372088832 := by rw [List.length_take, List.length_map]; omega
    have hrd : rd L (i : Int) = L[i] := by
      unfold rd
      rw [Int.toNat_natCast, List.getD_eq_getElem?_getD, List.getElem?_eq_getElem hlt]
      rfl
    have hi2 := ih k (i + 1) (by omega) (by omega) (by omega)
    rw [List.take_succ_eq_append_getElem (by rw [List.length_map]; exact hlt), List.getElem_map] at hi2
    simp only [fold_Fold.l0]
    rw [if_pos g1, if_pos g2, if_pos g1, hrd, ew]
    refine ob (fdown_eq b1 b2) ?_
    rw [if_pos g3]
    exact hi2
theorem fold_of {k : Nat} {b : List Int} (hB : BT b) (hb : b.length ≤ 1000000) (hk : 2 * b.length + 8 ≤ k) : fold_Fold.f k (strOfNums b) = some (strOfNums (encL ((rs b).map downR))) := by
  have hr := rs_len b
  have hu := us_len b
  unfold fold_Fold.f
  refine ob (runes_of hB (by omega) (by omega)) ?_
  exact fold_from (rs b) (rs_range hB) (by omega) (rs b).length k 0 (by omega) (by omega) (by omega)
/-- Runes that can all be put are read as they are. -/
theorem rs_of_ok {L : List Int} (h : ∀ r ∈ L, okR r = true) : rs (encL L) = L := by
  have := rs_encL L []
  rw [List.append_nil, rs_nil, List.append_nil, List.filter_eq_self.2 (fun r hr => h r hr)] at this
  exact this
theorem encL_filter (L : List Int) : encL (L.filter (okR ·)) = encL L := by
  induction L with
  | nil => rfl
  | cons r L ih =>
    by_cases h : okR r = true
    · rw [List.filter_cons_of_pos h]
      simp only [encL, ih]
    · rw [List.filter_cons_of_neg h, ih]
      simp only [encL]
      rw [if_neg h]
      rfl
theorem ok_down {L : List Int} (h : ∀ r ∈ L, okR r = true) : ∀ r ∈ L.map downR, okR r = true := by
  intro r hr
  obtain ⟨x, hx, rfl⟩ := List.mem_map.1 hr
  rw [okR_down]; exact h x hx
theorem ok_asR (c : Int) (i : Nat) {r : Int} (h : okR r = true) : okR (asR c i r) = true := by
  unfold asR
  by_cases c3 : c = 3
  · rw [if_pos c3, okR_up]; exact h
  rw [if_neg c3]
  by_cases c2 : c = 2
  · rw [if_pos c2]
    by_cases h0 : i = 0
    · rw [if_pos h0, okR_up]; exact h
    · rw [if_neg h0, okR_down]; exact h
  rw [if_neg c2]
  by_cases c1 : c = 1
  · rw [if_pos c1, okR_down]; exact h
  · rw [if_neg c1]; exact h
theorem ok_as (c : Int) {L : List Int} (h : ∀ r ∈ L, okR r = true) : ∀ r ∈ L.mapIdx (asR c), okR r = true := by
  intro r hr
  obtain ⟨i, hi, rfl⟩ := List.mem_mapIdx.1 hr
  exact ok_asR c i (h _ (List.getElem_mem hi))
theorem down_asR (c : Int) (i : Nat) (r : Int) : downR (asR c i r) = downR r := by
  unfold asR
  by_cases c3 : c = 3
  · rw [if_pos c3]; exact down_of_up r
  rw [if_neg c3]
  by_cases c2 : c = 2
  · rw [if_pos c2]
    by_cases h : i = 0
    · rw [if_pos h]; exact down_of_up r
    · rw [if_neg h]; exact down_down r
  rw [if_neg c2]
  by_cases c1 : c = 1
  · rw [if_pos c1]; exact down_down r
  · rw [if_neg c1]
theorem down_as (c : Int) (L : List Int) : (L.mapIdx (asR c)).map downR = L.map downR := by
  apply List.ext_getElem
  · simp
  · intro i h1 h2
    rw [List.getElem_map, List.getElem_map, List.getElem_mapIdx]
    exact down_asR c i _
theorem as_lower (L : List Int) : L.mapIdx (asR 1) = L.map downR := by
  apply List.ext_getElem
  · simp
  · intro i h1 h2
    simp [asR]
theorem of_lower (L : List Int) : ofR (L.map downR) = 1 := by
  unfold ofR
  rw [if_pos]
  rw [List.countP_eq_zero]
  intro r hr
  obtain ⟨x, _, rfl⟩ := List.mem_map.1 hr
  rw [great_down]; decide
theorem not_great {r : Int} (h : great r = false) : downR r = r := by unfold downR; rw [h, if_neg (by decide)]
theorem not_small {r : Int} (h : small r = false) : upR r = r := by unfold upR; rw [h, if_neg (by decide)]
/-- In the case that it has nothing changes. -/
theorem as_self_at (L : List Int) (i : Nat) (h2 : i < L.length) (c : Int) (hc : c = ofR L) : asR c i L[i] = L[i] := by
    unfold ofR at hc
    by_cases h0 : L.countP great = 0
    · rw [if_pos h0] at hc
      subst hc
      have := List.countP_eq_zero.1 h0 L[i] (List.getElem_mem h2)
      simp [asR, not_great (by simpa using this)]
    rw [if_neg h0] at hc
    by_cases h3 : 1 < L.countP great ∧ L.countP small = 0
    · rw [if_pos h3] at hc
      subst hc
      have := List.countP_eq_zero.1 h3.2 L[i] (List.getElem_mem h2)
      simp [asR, not_small (by simpa using this)]
    rw [if_neg h3] at hc
    by_cases h4 : L.countP great = 1 ∧ (L.take 1).any great = true
    · rw [if_pos h4] at hc
      subst hc
      cases L with
      | nil => simp at h2
      | cons x t =>
        have hx : great x = true := by simpa using h4.2
        have ht : t.countP great = 0 := by
          have := h4.1
          rw [List.countP_cons, hx] at this
          simpa using this
        cases i with
        | zero => simp [asR, up_great hx]
        | succ i =>
          have h5 : i < t.length := by simpa using h2
          have := List.countP_eq_zero.1 ht t[i] (List.getElem_mem h5)
          simp [asR, not_great (by simpa using this)]
    · rw [if_neg h4] at hc
      subst hc
      simp [asR]
theorem as_self (L : List Int) : L.mapIdx (asR (ofR L)) = L := by
  apply List.ext_getElem
  · simp
  · intro i h1 h2
    rw [List.getElem_mapIdx]
    exact as_self_at L i h2 _ rfl
theorem FoldTwice : redpenlaw04_FoldTwice.Pure := by
  intro l _ _ _
  obtain ⟨k, hk⟩ : ∃ k : Nat, 10000 ≤ k := ⟨10000, Nat.le_refl _⟩
  refine ⟨k, ?_⟩
  unfold redpenlaw04_FoldTwice.f
  refine ob (fold_awake (by omega)) ?_
  rw [if_pos rfl]
  by_cases hbig : (l.length : Int) > 300
  · rw [if_pos hbig]
  rw [if_neg hbig]
  have hl : l.length ≤ 300 := by omega
  refine ob (text_eq (by omega) (by omega)) ?_
  rw [← encL_filter l]
  have hok : ∀ r ∈ l.filter (okR ·), okR r = true := fun r hr => (List.mem_filter.1 hr).2
  have hlen : (l.filter (okR ·)).length ≤ 300 := Nat.le_trans (List.length_filter_le _ _) hl
  generalize l.filter (okR ·) = R at hok hlen
  have hd := ok_down hok
  have hdl : (R.map downR).length ≤ 300 := by rw [List.length_map]; exact hlen
  have n1 := encL_len R
  have n2 := encL_len (R.map downR)
  have hB : ∀ c : Int, BT (encL (R.mapIdx (asR c))) := fun c => encL_BT _
  have n3 : ∀ c : Int, (encL (R.mapIdx (asR c))).length ≤ 1200 := fun c => by
    have := encL_len (R.mapIdx (asR c))
    rw [List.length_mapIdx] at this
    omega
  have F0 : fold_Fold.f k (strOfNums (encL R)) = some (strOfNums (encL (R.map downR))) := by
    have := fold_of (k := k) (encL_BT R) (by omega) (by omega)
    rw [rs_of_ok hok] at this
    exact this
  have O0 : fold_Of.f k (strOfNums (encL R)) = some (ofR R) := by
    have := of_of (k := k) (encL_BT R) (by omega) (by omega)
    rw [rs_of_ok hok] at this
    exact this
  have F1 : fold_Fold.f k (strOfNums (encL (R.map downR))) = some (strOfNums (encL (R.map downR))) := by
    have := fold_of (k := k) (encL_BT (R.map downR)) (by omega) (by omega)
    rw [rs_of_ok hd, List.map_map, show (downR ∘ downR) = downR from funext fun r => down_down r] at this
    exact this
  have O1 : fold_Of.f k (strOfNums (encL (R.map downR))) = some 1 := by
    have := of_of (k := k) (encL_BT (R.map downR)) (by omega) (by omega)
    rw [rs_of_ok hd, of_lower] at this
    exact this
  have A0 : ∀ c : Int, fold_As.f k c (strOfNums (encL R)) = some (strOfNums (encL (R.mapIdx (asR c)))) := fun c => by
    have := as_of (k := k) c (encL_BT R) (by omega) (by omega)
    rw [rs_of_ok hok] at this
    exact this
  have F2 : ∀ c : Int, fold_Fold.f k (strOfNums (encL (R.mapIdx (asR c)))) = some (strOfNums (encL (R.map downR))) := fun c => by
    have h3 := n3 c
    have := fold_of (k := k) (hB c) (by omega) (by omega)
    rw [rs_of_ok (ok_as c hok), down_as] at this
    exact this
  clear n1 n2 n3 hB hdl hd
  refine ob F0 ?_
  refine ob O0 ?_
  refine ob F1 ?_
  rw [if_pos rfl]
  refine ob O1 ?_
  rw [if_pos rfl]
  refine ob (A0 1) ?_
  rw [as_lower, if_pos rfl]
  by_cases h0 : ofR R = 0
  · rw [if_pos h0]
    refine ob (A0 3) ?_
    refine ob (F2 3) ?_
    rw [if_pos rfl]
    refine ob (A0 2) ?_
    refine ob (F2 2) ?_
    rw [beq_self_eq_true]
  · rw [if_neg h0]
    refine ob (A0 (ofR R)) ?_
    rw [as_self, if_pos rfl]
    refine ob (A0 3) ?_
    refine ob (F2 3) ?_
    rw [if_pos rfl]
    refine ob (A0 2) ?_
    refine ob (F2 2) ?_
    rw [beq_self_eq_true]
end Go.Proofs.Ytmnohlmdckcdeaa.Pure
