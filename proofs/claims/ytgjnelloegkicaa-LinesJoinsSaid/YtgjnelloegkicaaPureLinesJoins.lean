/- LinesJoins: lines of two texts, with a newline between, are the lines of both; each but the last one ends in one. For all two texts (up to 2000 bytes together are looked at). No condition beyond the statement's own. -/
import Derived.Test.YtgjnelloegkicaaBSplitLinesJoins
namespace Go.Proofs.Ytgjnelloegkicaa.Pure
open Go.RowKit Go.Proofs.Ytgjnelloegkicaa.PLinesJoins Go.Proofs.YtgjnelloegkicaaW.PrintWords Go.Proofs.YtgjnelloegkicaaW.PrintLast
open Go.Proofs.Ytgjnelloegkicaa.M Go.Proofs.Ytgjnelloegkicaa.X

theorem linesOf_cons (cur : List Int) (c : Int) (t : List Int) : linesOf cur (c :: t) = if c = 10 then (cur ++ [c]) :: linesOf [] t else linesOf (cur ++ [c]) t := by rw [linesOf]
theorem linesOf_join (a b : List Int) : ∀ cur, linesOf cur (a ++ 10 :: b) = linesOf cur (a ++ [10]) ++ linesOf [] b := by
  induction a with
  | nil =>
    intro cur
    simp [linesOf]
  | cons c t ih =>
    intro cur
    simp only [List.cons_append]
    rw [linesOf_cons, linesOf_cons]
    by_cases h : c = 10
    · rw [if_pos h, if_pos h, ih]; rfl
    · rw [if_neg h, if_neg h, ih]
theorem ls_join (a b : List Int) : ls (a ++ 10 :: b) = ls (a ++ [10]) ++ ls b := linesOf_join a b []
theorem linesOf_ends (t : List Int) : ∀ (cur : List Int) (j : Nat), j + 1 < (linesOf cur t).length → rd ((linesOf cur t).getD j []) ((((linesOf cur t).getD j []).length : Int) - 1) = 10 := by
  induction t with
  | nil =>
    intro cur j h
    unfold linesOf at h
    split at h <;> simp at h
  | cons c t ih =>
    intro cur j h
    unfold linesOf at h ⊢
    by_cases hc : c = 10
    · rw [if_pos hc] at h ⊢
      cases j with
      | zero =>
        simp only [List.getD_cons_zero]
        unfold rd
        rw [List.length_append, List.length_singleton, show (((cur.length + 1 : Nat) : Int) - 1).toNat = cur.length by omega, List.getD_eq_getElem?_getD, List.getElem?_append_right (Nat.le_refl _), Nat.sub_self]
        simpa using hc
      | succ j =>
        simp only [List.getD_cons_succ]
        exact ih [] j (by simpa using h)
    · rw [if_neg hc] at h ⊢
      exact ih _ j h
theorem ls_ends (b : List Int) (j : Nat) (h : j + 1 < (ls b).length) : rd ((ls b).getD j []) ((((ls b).getD j []).length : Int) - 1) = 10 := linesOf_ends b [] j h
theorem str_at (L : List (List Int)) (j : Nat) (hj : j < L.length) : rdOf ByteArray.empty (L.map strOfNums) (j : Int) = strOfNums (L.getD j []) := by
  unfold rdOf
  rw [Int.toNat_natCast, List.getD_eq_getElem?_getD, List.getD_eq_getElem?_getD, List.getElem?_map, List.getElem?_eq_getElem hj]
  rfl
theorem ls_BT {b : List Int} (hB : BT b) (j : Nat) (hj : j < (ls b).length) : BT ((ls b).getD j []) := by
  rw [← cut_line (ls b) j hj, ls_flat]
  exact (hB.take _).drop _
theorem bt_str {l : List Int} (h : BT l) (i : Int) : bt (strOfNums l) i = rd l i := by
  rw [← rd_bytesOf, bytesOf_strOfNums h]
theorem str_nil {l : List Int} (h : (strOfNums l).toList = []) : l = [] := by
  have := congrArg List.length h
  rw [toList_eq_data, strOfNums_data, List.length_map] at this
  exact List.length_eq_zero_iff.1 this
theorem joins_from {c x1 : List Int} {L : List (List Int)} (hB : BT c) (hc : c.length ≤ 4000) (h1 : x1.length ≤ 2000) (hL : L ++ ls x1 = ls c) : ∀ (d k j : Nat), (ls c).length - j = d → j ≤ (ls c).length → d + 6000 ≤ k →
    redpenlaw03_LinesJoins.l0 k x1 (L.map strOfNums) c ((ls c).map strOfNums) (strOfNums (c.take (off (ls c) j))) ((ls c).map strOfNums) (((ls c).map strOfNums).length : Int) j = some true := by
  have hn := ls_count c
  intro d
  induction d with
  | zero =>
    intro k j hd hj hk
    obtain ⟨k, rfl⟩ : ∃ m, k = m + 1 := ⟨k - 1, by omega⟩
    have e : j = (ls c).length := by omega
    subst e
    have hlen := congrArg List.length hL
    rw [List.length_append] at hlen
    simp only [redpenlaw03_LinesJoins.l0]
    rw [if_neg (by rw [List.length_map]; omega), off_end, List.take_length]
    refine ob (a := []) rfl ?_
    rw [if_pos (by rw [List.length_map, List.length_nil]; omega)]
    refine ob (a := L.map strOfNums) rfl ?_
    refine ob (split_eq (by omega) (by omega)) ?_
    rw [if_pos (by rw [List.length_map, List.length_map]; omega), ← List.map_append, hL]
    refine ob (same_eq _ (by rw [List.length_map]; omega) (by rw [List.length_map]; omega)) ?_
    rw [if_pos rfl]
    simp
  | succ d ih =>
    intro k j hd hj hk
    obtain ⟨k, rfl⟩ : ∃ m, k = m + 1 := ⟨k - 1, by omega⟩
    have hlt : j < (ls c).length := by omega
    have ew : wrap64 ((j : Int) + 1) = ((j + 1 : Nat) : Int) := by rw [w64 (by omega) (by omega)]; omega
    have hr := ih k (j + 1) (by omega) (by omega) (by omega)
    have ho := off_succ (ls c) j hlt
    have ho2 := off_le (ls c) (j + 1)
    rw [ls_flat] at ho2
    have hp := line_pos c j hlt
    have hcut := cut_line (ls c) j hlt
    rw [ls_flat] at hcut
    have hbt := ls_BT hB j hlt
    have hends := fun h => ls_ends c j h
    have hs := str_at (ls c) j hlt
    have hap : strOfNums (c.take (off (ls c) j)) ++ strOfNums ((ls c).getD j []) = strOfNums (c.take (off (ls c) (j + 1))) := by
      rw [← strOfNums_append, ← hcut]
      congr 1
      have := List.take_append_drop (off (ls c) j) (c.take (off (ls c) (j + 1)))
      rw [List.take_take, Nat.min_eq_left (by omega)] at this
      exact this
    have hsz : (strOfNums (c.take (off (ls c) j))).size = off (ls c) j := by rw [strOfNums_size, List.length_take]; omega
    generalize (ls c).getD j [] = l at ho hbt hends hs hap
    have hz : (strOfNums l).size = l.length := strOfNums_size l
    have g1 : (j : Int) < (((ls c).map strOfNums).length : Int) := by rw [List.length_map]; omega
    have g2 : (0 : Int) ≤ (j : Int) := by omega
    have g3 : ¬ (strOfNums l).toList = [] := by
      intro h
      have := str_nil h
      rw [this, List.length_nil] at ho
      omega
    have e2 : wrap64 (((strOfNums l).size : Int) - 1) = (l.length : Int) - 1 := by rw [hz, w64 (by omega) (by omega)]
    have g4 : (0 : Int) ≤ (l.length : Int) - 1 := by omega
    have g5 : (l.length : Int) - 1 < ((strOfNums l).size : Int) := by rw [hz]; omega
    have g6 : (strOfNums (c.take (off (ls c) j))).size + (strOfNums l).size ≤ 9223372036854775807 := by rw [hsz, hz]; omega
    simp only [redpenlaw03_LinesJoins.l0]
    rw [if_pos g1, if_pos g2, if_pos g1, hs, if_neg g3, e2, if_pos g4, if_pos g5, bt_str hbt, ew, if_pos g6, hap, hr]
    by_cases hl : rd l ((l.length : Int) - 1) = 10
    · rw [if_pos hl]
    · rw [if_neg hl, if_neg (by
        rw [List.length_map]
        intro h
        exact hl (hends (by omega)))]
theorem LinesJoins : redpenlaw03_LinesJoins.Pure := by
  intro a b _ ha hwa _ hb hwb
  have hA := BT_of_wf hwa
  have hB := BT_of_wf hwb
  obtain ⟨k, hk⟩ : ∃ k : Nat, 20000 ≤ k := ⟨20000, Nat.le_refl _⟩
  refine ⟨k, ?_⟩
  unfold redpenlaw03_LinesJoins.f
  refine ob (lines_awake (by omega)) ?_
  rw [if_pos rfl]
  rw [w64 (by omega) (by omega)]
  by_cases hbig : (a.length : Int) + (b.length : Int) > 2000
  · rw [if_pos hbig]
  rw [if_neg hbig]
  refine ob (a := []) rfl ?_
  rw [if_pos (by rw [List.length_nil]; omega)]
  refine ob (a := a) rfl ?_
  rw [if_pos (by omega)]
  refine ob (split_eq (b := a ++ [10]) (by rw [List.length_append]; simp; omega) (by rw [List.length_append]; simp; omega)) ?_
  refine ob (a := []) rfl ?_
  rw [if_pos (by rw [List.length_nil]; omega)]
  refine ob (a := a) rfl ?_
  rw [if_pos (by omega)]
  refine ob (a := a ++ [10]) rfl ?_
  rw [if_pos (by rw [List.length_append]; simp; omega)]
  refine ob (a := a ++ 10 :: b) (by rw [List.append_assoc]; rfl) ?_
  refine ob (split_eq (b := a ++ 10 :: b) (by rw [List.length_append]; simp; omega) (by rw [List.length_append]; simp; omega)) ?_
  have hC : BT (a ++ 10 :: b) := hA.app (fun x hx => by
    rcases List.mem_cons.1 hx with rfl | hx
    · decide
    · exact hB x hx)
  have hn := ls_count (a ++ 10 :: b)
  have hcl : (a ++ 10 :: b).length ≤ 4000 := by rw [List.length_append]; simp; omega
  have := joins_from (c := a ++ 10 :: b) (x1 := b) (L := ls (a ++ [10])) hC hcl (by omega) (ls_join a b).symm (ls (a ++ 10 :: b)).length k 0 (by omega) (by omega) (by omega)
  rw [off_zero] at this
  exact this
end Go.Proofs.Ytgjnelloegkicaa.Pure
