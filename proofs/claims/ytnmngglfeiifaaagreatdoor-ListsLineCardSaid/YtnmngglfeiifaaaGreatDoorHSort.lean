/- slices.Sort and slices.Compact over a row of texts of the call's own (the shelf's contracts turned to the print's rows). -/
import Derived.Test.YtnmngglfeiifaaaGreatDoorHShelfG
import Derived.Test.YtnmngglfeiifaaaGreatDoorXP
import Derived.Sort.Grow
namespace Go.Proofs.YtnmngglfeiifaaaGreatDoor.H
open Go.RowKit Go.Proofs.YtnmngglfeiifaaaGreatDoorW.PrintWords Go.Proofs.YtnmngglfeiifaaaGreatDoorW.PrintLast Go.Proofs.YtnmngglfeiifaaaGreatDoor.X
open Go.Sort (putRow putCells mapBlock Holds)
open Go.Proofs (encStr)
set_option linter.unusedVariables false
set_option linter.unusedSimpArgs false

theorem put_cells (d : Array (List UInt8)) (cur : Array Value) (h : d.size ≤ cur.size) : (putCells encStr 0 d cur).size = cur.size ∧ (putCells encStr 0 d cur).toList.take d.size = d.toList.map encStr := by
  refine ⟨by simp [putCells], ?_⟩
  apply List.ext_getElem?
  intro k
  rw [List.getElem?_take]
  by_cases hk : k < d.size
  · rw [if_pos hk, Array.getElem?_toList, List.getElem?_map, Array.getElem?_toList]
    unfold putCells
    rw [Array.getElem?_mapIdx, Array.getElem?_eq_getElem (show k < cur.size by omega), Array.getElem?_eq_getElem hk, Option.map_some, Option.map_some, if_pos ⟨Nat.zero_le _, by omega⟩, Nat.sub_zero, getElem!_pos d k hk]
  · rw [if_neg hk, List.getElem?_map, Array.getElem?_toList, Array.getElem?_eq_none (by omega)]
    rfl
theorem put_at (w : World) (g : Nat) (cur : Array Value) (e : TypeId) (m : Nat × Nat) (d : Array (List UInt8)) (h : w.heap[g]? = some (.cells cur e m)) : (putRow encStr w g 0 d).heap[g]? = some (.cells (putCells encStr 0 d cur) e m) := by
  unfold putRow mapBlock
  show (w.heap.modify g _)[g]? = _
  rw [Array.getElem?_modify, if_pos rfl, h]
  rfl
theorem put_far (w : World) (g k : Nat) (d : Array (List UInt8)) (h : k ≠ g) : (putRow encStr w g 0 d).heap[k]? = w.heap[k]? := by
  unfold putRow mapBlock
  show (w.heap.modify g _)[k]? = _
  rw [Array.getElem?_modify, if_neg (Ne.symm h)]
theorem put_size (w : World) (g : Nat) (d : Array (List UInt8)) : (putRow encStr w g 0 d).heap.size = w.heap.size := by
  unfold putRow mapBlock
  exact Array.size_modify
theorem lt_of_blk' {w : World} {g : Nat} {o : Obj} (h : w.heap[g]? = some o) : g < w.heap.size := (Array.getElem?_eq_some_iff.1 h).1
theorem grow_at (w : World) (os : Array Obj) (k : Nat) (h : k < w.heap.size) : (Go.Sort.grow w os).heap[k]? = w.heap[k]? := by
  show (w.heap ++ os)[k]? = _
  rw [Array.getElem?_append_left h]
/-- The world behind a put of a row's cells, some draws, some blocks more: only the row's block is another one. -/
theorem put_grown (w : World) (g n : Nat) (d : Array (List UInt8)) (os : Array Obj) : w.grownBy (Go.Sort.grow (putRow encStr (Go.Sort.ahead w n) g 0 d) os) (some g) := by
  refine ⟨rfl, rfl, rfl, ?_, fun k hk hne => ?_⟩
  · show w.heap.size ≤ ((putRow encStr (Go.Sort.ahead w n) g 0 d).heap ++ os).size
    rw [Array.size_append, put_size]
    show w.heap.size ≤ w.heap.size + os.size
    omega
  · rw [grow_at _ _ _ (by rw [put_size]; exact hk), put_far _ _ _ _ (fun e => hne (by rw [e]))]
    rfl
/-- A row's block, told anew. -/
theorem row_put {w : World} {base g cap : Nat} {cur : Array Value} {xs ys : List ByteArray} {e : Nat} (hb : base ≤ g) (hg : w.heap[g]? = some (.cells cur e (0, 0))) (hc : cap ≤ maxLen) (hcs : cur.size = cap * 1) (n : Nat) (os : Array Obj) (d : Array (List UInt8)) (hd : d.size ≤ cap) (m : Nat) (hm : m ≤ d.size)
    (hy : (d.toList.map encStr).take m = encs Value.string ys) (hl : ys.length = m) :
    (Go.Sort.grow (putRow encStr (Go.Sort.ahead w n) g 0 d) os).ownsRow base e 1 (.slice (some ⟨g, 0, none⟩) m cap) ys.length (encs Value.string ys) := by
  have hlt := lt_of_blk' hg
  obtain ⟨c1, c2⟩ := put_cells d cur (by omega)
  refine ⟨by rw [encs_length]; omega, .inr ⟨g, cap, putCells encStr 0 d cur, by rw [hl], hb, ?_, by omega, hc, by rw [c1, hcs], ?_⟩⟩
  · rw [grow_at _ _ _ (by rw [put_size]; exact hlt)]
    exact put_at (Go.Sort.ahead w n) g cur e (0, 0) d hg
  · rw [hl, Nat.mul_one, ← hy, ← c2, List.take_take, Nat.min_eq_left hm]
def byt (s : ByteArray) : List UInt8 := s.data.toList
def unb (l : List UInt8) : ByteArray := ⟨l.toArray⟩
theorem enc_byt (xs : List ByteArray) : (xs.map byt).map encStr = encs Value.string xs := by
  rw [List.map_map]
  rfl
/-- Sorted by a key, by insertion. -/
def insK {α : Type} (k : α → List UInt8) (x : α) : List α → List α
  | [] => [x]
  | y :: t => if k y < k x then y :: insK k x t else x :: y :: t
def sortK {α : Type} (k : α → List UInt8) : List α → List α
  | [] => []
  | x :: t => insK k x (sortK k t)
section
variable {α : Type} (k : α → List UInt8)
theorem insK_perm (x : α) : ∀ l, (insK k x l).Perm (x :: l)
  | [] => List.Perm.refl _
  | y :: t => by
    unfold insK
    split
    · exact ((insK_perm x t).cons y).trans (List.Perm.swap x y t)
    · exact List.Perm.refl _
theorem sortK_perm : ∀ l, (sortK k l).Perm l
  | [] => List.Perm.refl _
  | x :: t => (insK_perm k x _).trans ((sortK_perm t).cons x)
theorem insK_pw (x : α) : ∀ l : List α, l.Pairwise (fun a b => ¬ k b < k a) → (insK k x l).Pairwise (fun a b => ¬ k b < k a)
  | [], _ => List.pairwise_singleton _ _
  | y :: t, h => by
    obtain ⟨h1, h2⟩ := List.pairwise_cons.1 h
    unfold insK
    split
    · rename_i hc
      refine List.pairwise_cons.2 ⟨fun z hz => ?_, insK_pw x t h2⟩
      rcases List.mem_cons.1 ((insK_perm k x t).subset hz) with rfl | hz
      · exact fun hh => List.lt_irrefl _ (List.lt_trans hc hh)
      · exact h1 z hz
    · rename_i hc
      refine List.pairwise_cons.2 ⟨fun z hz => ?_, h⟩
      rcases List.mem_cons.1 hz with rfl | hz
      · exact hc
      · exact List.not_lt.2 (List.le_trans (List.not_lt.1 hc) (List.not_lt.1 (h1 z hz)))
theorem sortK_pw : ∀ l : List α, (sortK k l).Pairwise (fun a b => ¬ k b < k a)
  | [] => List.Pairwise.nil
  | x :: t => insK_pw k x _ (sortK_pw t)
theorem key_inj {l : List α} (h : (l.map k).Nodup) {a b : α} (ha : a ∈ l) (hb : b ∈ l) (e : k a = k b) : a = b := by
  obtain ⟨i, hi, rfl⟩ := List.mem_iff_getElem.1 ha
  obtain ⟨j, hj, rfl⟩ := List.mem_iff_getElem.1 hb
  have hi' : i < (l.map k).length := by rw [List.length_map]; exact hi
  have hj' : j < (l.map k).length := by rw [List.length_map]; exact hj
  have : i = j := (List.getElem_inj (h₀ := hi') (h₁ := hj') h).1 (by rw [List.getElem_map, List.getElem_map]; exact e)
  subst this
  rfl
theorem sortK_unique {l m : List α} (hn : (l.map k).Nodup) (hp : m.Perm l) (hs : m.Pairwise (fun a b => ¬ k b < k a)) : m = sortK k l := by
  refine List.Perm.eq_of_pairwise (le := fun a b => ¬ k b < k a) ?_ hs (sortK_pw k l) (hp.trans (sortK_perm k l).symm)
  intro a b ha hb h1 h2
  exact key_inj k hn (hp.subset ha) ((sortK_perm k l).subset hb) (List.le_antisymm (List.not_lt.1 h1) (List.not_lt.1 h2))
end
/-- Sorted by their bytes. -/
def sortB (ss : List ByteArray) : List ByteArray := sortK byt ss
theorem sortB_len (ss : List ByteArray) : (sortB ss).length = ss.length := (sortK_perm byt ss).length_eq
theorem merge_sortB (ss : List ByteArray) : ((ss.map byt).mergeSort fun x y => decide (x ≤ y)) = (sortB ss).map byt := by
  refine List.Perm.eq_of_pairwise (le := fun a b => decide (a ≤ b) = true) ?_ ?_ ?_ ?_
  · intro a b _ _ h1 h2
    exact List.le_antisymm (of_decide_eq_true h1) (of_decide_eq_true h2)
  · refine List.pairwise_mergeSort ?_ ?_ _
    · intro a b c h1 h2
      exact decide_eq_true (List.le_trans (of_decide_eq_true h1) (of_decide_eq_true h2))
    · intro a b
      rcases Decidable.em (a ≤ b) with h | h
      · rw [decide_eq_true h, Bool.true_or]
      · rw [decide_eq_true (List.le_of_lt (List.not_le.1 h)), Bool.or_true]
  · refine List.pairwise_map.2 ((sortK_pw byt ss).imp ?_)
    intro a b h
    exact decide_eq_true (List.not_lt.1 h)
  · exact (List.mergeSort_perm _ _).trans ((sortK_perm byt ss).map byt).symm
theorem holds_row {w : World} {g : Nat} {cur : Array Value} {e : TypeId} {xs : List ByteArray} (hg : w.heap[g]? = some (.cells cur e (0, 0))) (ht : cur.toList.take (xs.length * 1) = encs Value.string xs) : Holds encStr w g 0 (xs.map byt).toArray := by
  intro j hj
  rw [List.size_toArray, List.length_map] at hj
  refine ⟨?_, by simp [World.frozen?, hg]⟩
  have h1 : (cur.toList.take (xs.length * 1))[j]? = (encs Value.string xs)[j]? := by rw [ht]
  rw [List.getElem?_take, if_pos (by omega), Array.getElem?_toList] at h1
  have h2 : (encs Value.string xs)[j]? = some (.string xs[j]) := by
    show (xs.map Value.string)[j]? = _
    rw [List.getElem?_map, List.getElem?_eq_getElem hj]
    rfl
  rw [h2] at h1
  rw [Nat.zero_add]
  have h3 : (xs.map byt).toArray[j]! = byt xs[j] := by
    rw [getElem!_pos _ j (by simpa using hj)]
    simp
  rw [h3]
  simp [World.cell?, hg, h1]
  rfl
theorem sort_at (w : World) (base : Nat) (ok : Nat → Prop) (v : Value) (ss : List ByteArray) (hR : Kd.string.R 9 w base ok v ss) (hl : ss.length < 4611686018427387904) :
    Calls Tryz.prog 25 #[v] w fun e w' => e = .returned (.tuple #[]) ∧ Kd.string.R 9 w' base ok v (sortB ss) ∧ w.grownBy w' v.ownBlock := by
  have hok := hR.1
  have hown := Kd.own_of_R hR
  rcases hown.2 with ⟨rfl, h0⟩ | ⟨g, cap, cur, rfl, hb, hg, hnc, hcm, hcs, hct⟩
  · obtain rfl : ss = [] := List.eq_nil_of_length_eq_zero h0
    refine (L.slices_Sort_string_none none 0 w).mono ?_
    rintro e w' ⟨rfl, rfl⟩
    exact ⟨rfl, (by exact Kd.R_nil Kd.string _ _ _ _), ⟨rfl, rfl, rfl, Nat.le_refl _, fun _ _ _ => rfl⟩⟩
  · have h := L.slices_Sort_string g 0 cap (ss.map byt) w (holds_row hg hct) (lt_of_blk' hg) (by rw [List.length_map]; exact hl)
    rw [List.length_map] at h
    refine h.mono ?_
    rintro e w' ⟨rfl, n, os, rfl⟩
    refine ⟨rfl, Kd.R_of_own ?_ hok, put_grown w g n _ os⟩
    rw [merge_sortB]
    have hz : ((sortB ss).map byt).length = ss.length := by rw [List.length_map, sortB_len]
    exact row_put (xs := ss) (ys := sortB ss) hb hg hcm hcs n os ((sortB ss).map byt).toArray (by rw [List.size_toArray, hz]; omega) ss.length (by rw [List.size_toArray, hz]; exact Nat.le_refl _) (by
      rw [List.take_of_length_le (by rw [List.length_map]; show ((sortB ss).map byt).length ≤ _; omega)]
      exact enc_byt _) (sortB_len ss)
/-- One of each row of equal ones. -/
def compactB (ss : List ByteArray) : List ByteArray := (Lib.compact (ss.map byt)).map unb
theorem compact_le (l : List (List UInt8)) (n : Nat) (h : l.length = n) : (Lib.compact l).length ≤ n := by
  unfold Lib.compact Lib.compactUpTo
  rw [List.length_map]
  refine Nat.le_trans (List.length_filter_le _ _) ?_
  rw [List.length_range, h]
  exact Nat.le_refl _
theorem compact_at (w : World) (base : Nat) (ok : Nat → Prop) (v : Value) (ss : List ByteArray) (hR : Kd.string.R 9 w base ok v ss) (hl : ss.length < 4611686018427387904) :
    Calls Tryz.prog 26 #[v] w fun e w' => ∃ v', e = .returned v' ∧ Kd.string.R 9 w' base ok v' (compactB ss) ∧ w.grownBy w' v.ownBlock := by
  have hok := hR.1
  have hown := Kd.own_of_R hR
  rcases hown.2 with ⟨rfl, h0⟩ | ⟨g, cap, cur, rfl, hb, hg, hnc, hcm, hcs, hct⟩
  · obtain rfl : ss = [] := List.eq_nil_of_length_eq_zero h0
    refine (L.slices_Compact_string_empty none 0 w).mono ?_
    rintro e w' ⟨rfl, rfl⟩
    exact ⟨_, rfl, Kd.R_nil _ _ _ _ _, ⟨rfl, rfl, rfl, Nat.le_refl _, fun _ _ _ => rfl⟩⟩
  · have h := L.slices_Compact_string g 0 cap (ss.map byt) w (holds_row hg hct) (by rw [List.length_map]; omega) (by rw [List.length_map]; exact hnc)
    rw [List.length_map] at h
    refine h.mono ?_
    rintro e w' ⟨rfl, q, rfl⟩
    refine ⟨_, rfl, Kd.R_of_own ?_ hok, ?_⟩
    · have hle : (Lib.compact (ss.map byt)).length ≤ ss.length := compact_le _ _ (by rw [List.length_map])
      have hl2 : (compactB ss).length = (Lib.compact (ss.map byt)).length := List.length_map ..
      rw [hl2]
      have hd : (Lib.compact (ss.map byt) ++ List.replicate (ss.length - (Lib.compact (ss.map byt)).length) ([] : List UInt8)).toArray.size = ss.length := by rw [List.size_toArray, List.length_append, List.length_replicate]; omega
      have := row_put (xs := ss) (ys := compactB ss) hb hg hcm hcs q #[] (Lib.compact (ss.map byt) ++ List.replicate (ss.length - (Lib.compact (ss.map byt)).length) ([] : List UInt8)).toArray (by rw [hd]; exact hnc) (Lib.compact (ss.map byt)).length (by rw [hd]; exact hle) (by
        show ((Lib.compact (ss.map byt) ++ List.replicate (ss.length - (Lib.compact (ss.map byt)).length) ([] : List UInt8)).map encStr).take _ = _
        rw [List.map_append, List.take_left' (by rw [List.length_map])]
        unfold compactB encs
        rw [List.map_map]
        rfl) hl2
      rw [hl2] at this
      exact this
    · exact put_grown w g q _ #[]
end Go.Proofs.YtnmngglfeiifaaaGreatDoor.H
