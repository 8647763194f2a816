/- The printed functions are the plain ones. -/
import Derived.Test.YtjabpbnlpljlkaaDoorPShowMadex
import Derived.Test.YtjabpbnlpljlkaaDoorHM
import Derived.Laws.BitsLemmas
import Derived.Test.YtjabpbnlpljlkaaDoorHPrint
import Derived.Test.YtjabpbnlpljlkaaDoorHMade
section
/- hunks.table and hunks.Changes, as printed, tell the plain changes. -/
namespace Go.Proofs.YtjabpbnlpljlkaaDoor.Pure
open Go.RowKit Go.Proofs.YtjabpbnlpljlkaaDoor.PShowMade Go.Proofs.YtjabpbnlpljlkaaDoorW.PrintWords Go.Proofs.YtjabpbnlpljlkaaDoorW.PrintLast Go.Proofs.YtjabpbnlpljlkaaDoorW.PrintMore
open Go.Proofs.YtjabpbnlpljlkaaDoor.M Go.Proofs.YtjabpbnlpljlkaaDoor.X
set_option linter.unusedVariables false
set_option linter.unusedSimpArgs false
theorem hw64 (a : Int) (b : Nat) (h : a = (b : Int)) (hb : b < 1000000000000) : wrap64 a = (b : Int) := by
  subst h; rw [w64 (by omega) (by omega)]
theorem rdL (n m : Nat) (v : Nat → Nat → Int) (i : Nat) (h : i < n) : rd_L10 (tabOf n m v) (i : Int) = (List.range m).map (v i) := by
  unfold rd_L10
  rw [Int.toNat_natCast]
  exact tabOf_row n m v i h
theorem rdrow (m : Nat) (f : Nat → Int) (k : Nat) (h : k < m) : rd ((List.range m).map f) (k : Int) = f k := by
  unfold rd
  rw [Int.toNat_natCast]
  exact getD_map_range m f k 0 h
theorem rdOf_at (x : List ByteArray) (i : Nat) (h : i < x.length) : rdOf ByteArray.empty x (i : Int) = x[i] := by
  unfold rdOf
  rw [Int.toNat_natCast, List.getD_eq_getElem?_getD, List.getElem?_eq_getElem h]; rfl
section
variable (x y : List ByteArray) (hx : x.length ≤ 100000) (hy : y.length ≤ 100000)
include hx hy
set_option maxHeartbeats 1600000 in
theorem table_l2 (r : List (List Int)) (i : Nat) (hi : i < x.length) (cont : ∀ v : Nat → Nat → Int, (∀ i' k', i ≤ i' → i' ≤ x.length → k' ≤ y.length → v i' k' = lv x y i' k') → (∀ i', i' ≤ x.length → v i' y.length = 0) →
      Ev (fun f => hunks_table.l1 f x y ((i : Int) - 1) (tabOf (x.length + 1) (y.length + 1) v)) r) :
    ∀ (k : Nat) (v : Nat → Nat → Int), k ≤ y.length → (∀ i' k', i < i' → i' ≤ x.length → k' ≤ y.length → v i' k' = lv x y i' k') → (∀ i', i' ≤ x.length → v i' y.length = 0) → (∀ k', k ≤ k' → k' ≤ y.length → v i k' = lv x y i k') →
      Ev (fun f => hunks_table.l2 f x y (i : Int) ((k : Int) - 1) (tabOf (x.length + 1) (y.length + 1) v)) r := by
  intro k
  induction k with
  | zero =>
    intro v hk h1 h2 h3
    refine Ev.step (f := fun f => hunks_table.l1 f x y ((i : Int) - 1) (tabOf (x.length + 1) (y.length + 1) v)) (fun f => ?_) (cont v (fun i' k' a b c => ?_) h2)
    · simp only [hunks_table.l2]
      rw [if_neg (by omega), w64 (by omega) (by omega)]
    · rcases Nat.lt_or_eq_of_le a with a | a
      · exact h1 i' k' a b c
      · subst a; exact h3 k' (Nat.zero_le _) c
  | succ k ih =>
    intro v hk h1 h2 h3
    have hk' : k < y.length := by omega
    have ek : ((k + 1 : Nat) : Int) - 1 = (k : Int) := by omega
    have e1 : wrap64 ((i : Int) + 1) = ((i + 1 : Nat) : Int) := hw64 _ _ (by omega) (by omega)
    have e2 : wrap64 ((k : Int) + 1) = ((k + 1 : Nat) : Int) := hw64 _ _ (by omega) (by omega)
    have e3 : wrap64 ((k : Int) - 1) = (k : Int) - 1 := w64 (by omega) (by omega)
    have hv := lv_at x y i k hi hk'
    have hrg := lv_range x y (i + 1) (k + 1)
    rw [ek]
    refine Ev.step (f := fun f => hunks_table.l2 f x y (i : Int) ((k : Int) - 1) (tabOf (x.length + 1) (y.length + 1) (fun i' k' => if i' = i ∧ k' = k then lv x y i k else v i' k'))) (fun f => ?_) (ih _ (by omega) (fun i' k' a b c => ?_) (fun i' a => ?_) (fun k' a b => ?_))
    · simp only [hunks_table.l2]
      rw [if_pos (by omega), if_pos (by omega), if_pos (by omega), if_pos (by omega), if_pos (by omega), rdOf_at x i hi, rdOf_at y k hk', e1, e2, e3, rdL _ _ _ (i + 1) (by omega), rdL _ _ _ i (by omega)]
      simp only [tabOf_len, row_len]
      rw [rdrow _ _ (k + 1) (by omega), rdrow _ _ k (by omega), rdrow _ _ (k + 1) (by omega), h1 (i + 1) (k + 1) (by omega) (by omega) (by omega), h1 (i + 1) k (by omega) (by omega) (by omega), h3 (k + 1) (by omega) (by omega), Int.toNat_natCast, Int.toNat_natCast]
      rw [if_pos (show (i : Int) < ((x.length + 1 : Nat) : Int) by omega), if_pos (show (0 : Int) ≤ ((i + 1 : Nat) : Int) by omega), if_pos (show ((i + 1 : Nat) : Int) < ((x.length + 1 : Nat) : Int) by omega), if_pos (show (0 : Int) ≤ ((k + 1 : Nat) : Int) by omega), if_pos (show ((k + 1 : Nat) : Int) < ((y.length + 1 : Nat) : Int) by omega), if_pos (show (k : Int) < ((y.length + 1 : Nat) : Int) by omega)]
      rw [tabOf_set, tabOf_set]
      by_cases he : x[i].toList = y[k].toList
      · rw [if_pos he] at hv ⊢
        rw [hv, w64 (by omega) (by omega)]
      · rw [if_neg he] at hv ⊢
        rw [if_pos (show (0 : Int) ≤ ((i + 1 : Nat) : Int) by omega), if_pos (show ((i + 1 : Nat) : Int) < ((x.length + 1 : Nat) : Int) by omega), if_pos (show (k : Int) < ((y.length + 1 : Nat) : Int) by omega), if_pos (show (0 : Int) ≤ ((k + 1 : Nat) : Int) by omega), if_pos (show ((k + 1 : Nat) : Int) < ((y.length + 1 : Nat) : Int) by omega), if_pos (show (k : Int) < ((y.length + 1 : Nat) : Int) by omega)]
        rw [if_pos (show (i : Int) < ((x.length + 1 : Nat) : Int) by omega), hv]
        rfl
    · exact (if_neg (by omega)).trans (h1 i' k' a b c)
    · exact (if_neg (by omega)).trans (h2 i' a)
    · by_cases h : k' = k
      · subst h; exact if_pos ⟨rfl, rfl⟩
      · exact (if_neg (fun z => h z.2)).trans (h3 k' (by omega) b)
theorem table_l1 : ∀ (i : Nat) (v : Nat → Nat → Int), i ≤ x.length → (∀ i' k', i ≤ i' → i' ≤ x.length → k' ≤ y.length → v i' k' = lv x y i' k') → (∀ i', i' ≤ x.length → v i' y.length = 0) →
      Ev (fun f => hunks_table.l1 f x y ((i : Int) - 1) (tabOf (x.length + 1) (y.length + 1) v)) (tabOf (x.length + 1) (y.length + 1) (lv x y)) := by
  intro i
  induction i with
  | zero =>
    intro v hi h1 h2
    refine Ev.step (f := fun _ => some (tabOf (x.length + 1) (y.length + 1) v)) (fun f => ?_) ?_
    · simp only [hunks_table.l1]
      rw [if_neg (by omega)]
    · rw [tabOf_congr _ _ v (lv x y) (fun i k a b => h1 i k (Nat.zero_le _) (by omega) (by omega))]
      exact Ev.now _
  | succ i ih =>
    intro v hi h1 h2
    have ei : ((i + 1 : Nat) : Int) - 1 = (i : Int) := by omega
    rw [ei]
    refine Ev.step (f := fun f => hunks_table.l2 f x y (i : Int) ((y.length : Int) - 1) (tabOf (x.length + 1) (y.length + 1) v)) (fun f => ?_) (table_l2 x y hx hy _ i (by omega) (fun u a b => ih u (by omega) a b) y.length v (Nat.le_refl _) (fun i' k' a b c => h1 i' k' (by omega) b c) h2 (fun k' a b => ?_))
    · simp only [hunks_table.l1]
      rw [if_pos (by omega), w64 (by omega) (by omega)]
    · obtain rfl : k' = y.length := by omega
      rw [h2 i (by omega), lv_end' x y i _ (Nat.le_refl _)]
theorem table_l0 : ∀ (d j : Nat), x.length + 1 - j = d → j ≤ x.length + 1 →
      Ev (fun f => hunks_table.l0 f x y ((List.range (x.length + 1)).map fun i => if i < j then (List.range (y.length + 1)).map (fun _ => (0 : Int)) else []) ((x.length + 1 : Nat) : Int) (j : Int)) (tabOf (x.length + 1) (y.length + 1) (lv x y)) := by
  intro d
  induction d with
  | zero =>
    intro j hd hj
    obtain rfl : j = x.length + 1 := by omega
    refine Ev.step (f := fun f => hunks_table.l1 f x y ((x.length : Int) - 1) (tabOf (x.length + 1) (y.length + 1) (fun _ _ => 0))) (fun f => ?_) (table_l1 x y hx hy x.length _ (Nat.le_refl _) (fun i' k' a b c => ?_) (fun i' a => rfl))
    · simp only [hunks_table.l0]
      rw [if_neg (by omega), w64 (by omega) (by omega)]
      congr 1
      exact map_range_congr _ _ _ fun i hi => if_pos hi
    · rw [lv_end x y i' k' a]
  | succ d ih =>
    intro j hd hj
    have ey : wrap64 ((y.length : Int) + 1) = ((y.length + 1 : Nat) : Int) := hw64 _ _ (by omega) (by omega)
    have ej : wrap64 ((j : Int) + 1) = ((j + 1 : Nat) : Int) := hw64 _ _ (by omega) (by omega)
    refine Ev.step (f := fun f => hunks_table.l0 f x y ((List.range (x.length + 1)).map fun i => if i < j + 1 then (List.range (y.length + 1)).map (fun _ => (0 : Int)) else []) ((x.length + 1 : Nat) : Int) ((j + 1 : Nat) : Int)) (fun f => ?_) (ih (j + 1) (by omega) (by omega))
    · simp only [hunks_table.l0]
      rw [ey, ej, Int.toNat_natCast, Int.toNat_natCast, if_pos (by omega), if_pos (by omega), if_pos (by omega), if_pos (by omega), if_pos (by rw [List.length_map, List.length_range]; omega), set_map_range, replicate_map_range]
      congr 1
      refine map_range_congr _ _ _ fun i hi => ?_
      by_cases h : i = j
      · rw [if_pos h, if_pos (by omega)]
      · rw [if_neg h]
        by_cases h2 : i < j
        · rw [if_pos h2, if_pos (by omega)]
        · rw [if_neg h2, if_neg (by omega)]
theorem table_ev : Ev (fun f => hunks_table.f f x y) (tabOf (x.length + 1) (y.length + 1) (lv x y)) := by
  have ex : wrap64 ((x.length : Int) + 1) = ((x.length + 1 : Nat) : Int) := hw64 _ _ (by omega) (by omega)
  refine Ev.congr (f := fun f => hunks_table.l0 f x y ((List.range (x.length + 1)).map fun i => if i < 0 then (List.range (y.length + 1)).map (fun _ => (0 : Int)) else []) ((x.length + 1 : Nat) : Int) ((0 : Nat) : Int)) (fun f => ?_) (table_l0 x y hx hy _ 0 rfl (Nat.zero_le _))
  unfold hunks_table.f
  rw [ex, Int.toNat_natCast, if_pos (by omega), if_pos (by omega)]
  simp only [Option.bind_some]
  rw [List.length_replicate, replicate_map_range]
  congr 1
end
def toS (c : Ch) : S82 := ⟨c.o, c.os, c.n, c.ns⟩
theorem toS_flushed (c : Ch) (out : List S82) : out ++ (flushed c).map toS = if c.os + c.ns > 0 then out ++ [toS c] else out := by
  unfold flushed
  split
  · rfl
  · exact List.append_nil _
section
variable (x y : List ByteArray) (hx : x.length ≤ 100000) (hy : y.length ≤ 100000) (fr : Nat) (hfr : fr ≤ 100000)
include hx hy hfr
set_option maxHeartbeats 3200000 in
theorem chg_l2 : ∀ (d i k : Nat) (c : Ch) (out : List S82), (x.length - i) + (y.length - k) ≤ d → i ≤ x.length → k ≤ y.length → 0 ≤ c.os → c.os ≤ i → 0 ≤ c.ns → c.ns ≤ k → out.length ≤ i + k →
      Ev (fun f => hunks_Changes.l2 f x y (tabOf (x.length + 1) (y.length + 1) (lv x y)) (i : Int) (k : Int) (fr : Int) out c.o c.os c.n c.ns) (out ++ (grp fr i k c (script (x.drop i) (y.drop k))).map toS) := by
  intro d
  induction d with
  | zero =>
    intro i k c out hd hi hk a1 a2 a3 a4 hl
    obtain rfl : i = x.length := by omega
    obtain rfl : k = y.length := by omega
    rw [List.drop_length, List.drop_length, script_nil]
    refine Ev.step (f := fun f => hunks_Changes.j6 f x y (tabOf (x.length + 1) (y.length + 1) (lv x y)) (x.length : Int) (y.length : Int) false (fr : Int) out c.o c.os c.n c.ns) (fun f => ?_) (Ev.step (f := fun _ => some (out ++ (flushed c).map toS)) (fun f => ?_) (Ev.now _))
    · simp only [hunks_Changes.l2]
      rw [if_neg (by omega), decide_eq_false (by omega)]
    · simp only [hunks_Changes.j6]
      rw [if_neg (by simp), w64 (by omega) (by omega), toS_flushed]
      by_cases h : c.os + c.ns > 0
      · rw [if_pos h, if_pos h, if_pos (by omega)]; rfl
      · rw [if_neg h, if_neg h]
  | succ d ih =>
    intro i k c out hd hi hk a1 a2 a3 a4 hl
    by_cases hz : (x.length - i) + (y.length - k) ≤ d
    · exact ih i k c out hz hi hk a1 a2 a3 a4 hl
    have e1 : ∀ _ : Unit, wrap64 ((i : Int) + 1) = ((i + 1 : Nat) : Int) := fun _ => hw64 _ _ (by omega) (by omega)
    have e2 : ∀ _ : Unit, wrap64 ((k : Int) + 1) = ((k + 1 : Nat) : Int) := fun _ => hw64 _ _ (by omega) (by omega)
    have e3 : ∀ _ : Unit, wrap64 (c.os + 1) = c.os + 1 := fun _ => w64 (by omega) (by omega)
    have e4 : ∀ _ : Unit, wrap64 (c.ns + 1) = c.ns + 1 := fun _ => w64 (by omega) (by omega)
    have ei : ((i + 1 : Nat) : Int) = (i : Int) + 1 := by omega
    have ekk : ((k + 1 : Nat) : Int) = (k : Int) + 1 := by omega
    by_cases h1 : i < x.length
    · have dx := List.drop_eq_getElem_cons h1
      have eT : ∀ f : Nat, hunks_Changes.l2 (f + 1) x y (tabOf (x.length + 1) (y.length + 1) (lv x y)) (i : Int) (k : Int) (fr : Int) out c.o c.os c.n c.ns = hunks_Changes.j6 f x y (tabOf (x.length + 1) (y.length + 1) (lv x y)) (i : Int) (k : Int) true (fr : Int) out c.o c.os c.n c.ns := by
        intro f
        simp only [hunks_Changes.l2]
        rw [if_pos (by omega)]
      have del : Ev (fun f => hunks_Changes.l2 f x y (tabOf (x.length + 1) (y.length + 1) (lv x y)) ((i + 1 : Nat) : Int) (k : Int) (fr : Int) out c.o (c.os + 1) c.n c.ns) (out ++ (grp fr i k c (.del :: script (x.drop (i + 1)) (y.drop k))).map toS) := by
        have := ih (i + 1) k ⟨c.o, c.os + 1, c.n, c.ns⟩ out (by omega) (by omega) hk (by show 0 ≤ c.os + 1; omega) (by show c.os + 1 ≤ _; omega) a3 a4 (by omega)
        rw [grp_del]
        rw [ei] at this ⊢
        exact this
      by_cases h2 : k < y.length
      · have dy := List.drop_eq_getElem_cons h2
        have e6 : ∀ f : Nat, hunks_Changes.j6 (f + 1) x y (tabOf (x.length + 1) (y.length + 1) (lv x y)) (i : Int) (k : Int) true (fr : Int) out c.o c.os c.n c.ns = hunks_Changes.j7 f x y (tabOf (x.length + 1) (y.length + 1) (lv x y)) (i : Int) (k : Int) (x[i].toList == y[k].toList) (fr : Int) out c.o c.os c.n c.ns := by
          intro f
          simp only [hunks_Changes.j6]
          rw [if_pos (by simp), if_pos (by omega), if_pos (by omega), if_pos (by omega), if_pos (by omega), rdOf_at x i h1, rdOf_at y k h2]
        by_cases he : x[i].toList = y[k].toList
        · have e5 : ∀ _ : Unit, wrap64 ((fr : Int) + ((i + 1 : Nat) : Int)) = (fr : Int) + ((i : Int) + 1) := fun _ => by rw [w64 (by omega) (by omega)]; omega
          have e5' : ∀ _ : Unit, wrap64 ((fr : Int) + ((k + 1 : Nat) : Int)) = (fr : Int) + ((k : Int) + 1) := fun _ => by rw [w64 (by omega) (by omega)]; omega
          have hfl : (flushed c).length ≤ 1 := by unfold flushed; split <;> simp
          have step := ih (i + 1) (k + 1) ⟨fr + ((i : Int) + 1), 0, fr + ((k : Int) + 1), 0⟩ (out ++ (flushed c).map toS) (by omega) (by omega) (by omega) (Int.le_refl _) (by show (0 : Int) ≤ _; omega) (Int.le_refl _) (by show (0 : Int) ≤ _; omega) (by rw [List.length_append, List.length_map]; omega)
          have hgoal : out ++ (grp fr i k c (script (x.drop i) (y.drop k))).map toS = (out ++ (flushed c).map toS) ++ (grp fr ((i + 1 : Nat) : Int) ((k + 1 : Nat) : Int) ⟨fr + ((i : Int) + 1), 0, fr + ((k : Int) + 1), 0⟩ (script (x.drop (i + 1)) (y.drop (k + 1)))).map toS := by
            rw [dx, dy, script_cons, if_pos he, grp_keep, ei, ekk, List.map_append, List.append_assoc]
          rw [hgoal]
          refine Ev.step eT (Ev.step e6 (Ev.step (fun f => ?_) step))
          simp only [hunks_Changes.j7]
          rw [if_pos (by simp [he]), w64 (x := c.os + c.ns) (by omega) (by omega), e1 (), e2 (), e5 (), e5' (), toS_flushed]
          by_cases h : c.os + c.ns > 0
          · rw [if_pos h, if_pos h, if_pos (by omega)]; rfl
          · rw [if_neg h, if_neg h]
        · have eN : ∀ f : Nat, hunks_Changes.j7 (f + 1) x y (tabOf (x.length + 1) (y.length + 1) (lv x y)) (i : Int) (k : Int) (x[i].toList == y[k].toList) (fr : Int) out c.o c.os c.n c.ns = if lv x y (i + 1) k ≥ lv x y i (k + 1) then hunks_Changes.l2 f x y (tabOf (x.length + 1) (y.length + 1) (lv x y)) ((i + 1 : Nat) : Int) (k : Int) (fr : Int) out c.o (c.os + 1) c.n c.ns else hunks_Changes.l2 f x y (tabOf (x.length + 1) (y.length + 1) (lv x y)) (i : Int) ((k + 1 : Nat) : Int) (fr : Int) out c.o c.os c.n (c.ns + 1) := by
            intro f
            simp only [hunks_Changes.j7]
            rw [if_neg (by simp [he]), if_pos (by omega), if_neg (by omega), e1 (), e2 (), e3 (), e4 (), rdL _ _ _ (i + 1) (by omega), rdL _ _ _ i (by omega)]
            simp only [tabOf_len, row_len]
            rw [rdrow _ _ k (by omega), rdrow _ _ (k + 1) (by omega)]
            rw [if_pos (by omega), if_pos (by omega), if_pos (by omega), if_pos (by omega), if_pos (by omega), if_pos (by omega), if_pos (by omega), if_pos (by omega)]
          have hlv : (lv x y (i + 1) k ≥ lv x y i (k + 1)) ↔ lcs (x.drop i) (y.drop (k + 1)) ≤ lcs (x.drop (i + 1)) (y.drop k) := by unfold lv; omega
          refine Ev.step eT (Ev.step e6 (Ev.step eN ?_))
          rw [dx, dy, script_cons, if_neg he, ← dx, ← dy]
          by_cases hc : lv x y (i + 1) k ≥ lv x y i (k + 1)
          · simp only [if_pos hc]
            rw [if_pos (hlv.1 hc)]
            exact del
          · simp only [if_neg hc]
            rw [if_neg (fun h => hc (hlv.2 h))]
            have ins := ih i (k + 1) ⟨c.o, c.os, c.n, c.ns + 1⟩ out (by omega) hi (by omega) a1 a2 (by show 0 ≤ c.ns + 1; omega) (by show c.ns + 1 ≤ _; omega) (by omega)
            rw [grp_ins]
            rw [ekk] at ins ⊢
            exact ins
      · obtain rfl : k = y.length := by omega
        rw [dx, List.drop_length, script_del]
        refine Ev.step eT (Ev.step (f := fun f => hunks_Changes.j7 f x y (tabOf (x.length + 1) (y.length + 1) (lv x y)) (i : Int) (y.length : Int) false (fr : Int) out c.o c.os c.n c.ns) (fun f => ?_) (Ev.step (fun f => ?_) (by have := del; rw [List.drop_length] at this; exact this)))
        · simp only [hunks_Changes.j6]
          rw [if_pos (by simp), if_pos (by omega), if_neg (by omega)]
        · simp only [hunks_Changes.j7]
          rw [if_neg (by simp), if_pos (by omega), if_pos trivial, e1 (), e3 ()]
    · obtain rfl : i = x.length := by omega
      have h2 : k < y.length := by omega
      have dy := List.drop_eq_getElem_cons h2
      rw [dy, List.drop_length, script_ins]
      have ins := ih x.length (k + 1) ⟨c.o, c.os, c.n, c.ns + 1⟩ out (by omega) hi (by omega) a1 a2 (by show 0 ≤ c.ns + 1; omega) (by show c.ns + 1 ≤ _; omega) (by omega)
      rw [List.drop_length] at ins
      rw [grp_ins]
      rw [ekk] at ins
      refine Ev.step (f := fun f => hunks_Changes.j6 f x y (tabOf (x.length + 1) (y.length + 1) (lv x y)) (x.length : Int) (k : Int) true (fr : Int) out c.o c.os c.n c.ns) (fun f => ?_) (Ev.step (f := fun f => hunks_Changes.j7 f x y (tabOf (x.length + 1) (y.length + 1) (lv x y)) (x.length : Int) (k : Int) false (fr : Int) out c.o c.os c.n c.ns) (fun f => ?_) (Ev.step (fun f => ?_) ins))
      · simp only [hunks_Changes.l2]
        rw [if_neg (by omega), decide_eq_true (by omega)]
      · simp only [hunks_Changes.j6]
        rw [if_pos (by simp), if_neg (by omega)]
      · simp only [hunks_Changes.j7]
        rw [if_neg (by simp), if_neg (by omega), e2 (), e4 (), ekk]
theorem chg_j3 : Ev (fun f => hunks_Changes.j3 f x y (fr : Int)) ((if x.length > 1000 ∨ y.length > 1000 then [⟨fr, x.length, fr, y.length⟩] else grp fr 0 0 ⟨fr, 0, fr, 0⟩ (script x y)).map toS) := by
  refine Ev.step (f := fun f => hunks_Changes.j4 f x y (decide (x.length > 1000 ∨ y.length > 1000)) (fr : Int)) (fun f => ?_) ?_
  · simp only [hunks_Changes.j3]
    by_cases h : x.length > 1000
    · rw [if_pos (by omega), decide_eq_true (Or.inl h)]
    · rw [if_neg (by omega)]
      congr 1
      by_cases h2 : y.length > 1000
      · rw [decide_eq_true (Or.inr h2), decide_eq_true (by omega)]
      · rw [decide_eq_false (by omega), decide_eq_false (by omega)]
  · by_cases h : x.length > 1000 ∨ y.length > 1000
    · rw [if_pos h, decide_eq_true h]
      refine Ev.step (f := fun _ => some [⟨(fr : Int), (x.length : Int), (fr : Int), (y.length : Int)⟩]) (fun f => ?_) (Ev.now _)
      simp only [hunks_Changes.j4]
      rw [if_pos trivial]
    · rw [if_neg h, decide_eq_false h]
      have main := chg_l2 x y hx hy fr hfr _ 0 0 ⟨fr, 0, fr, 0⟩ [] (Nat.le_refl _) (Nat.zero_le _) (Nat.zero_le _) (Int.le_refl _) (Int.le_refl _) (Int.le_refl _) (Int.le_refl _) (Nat.zero_le _)
      rw [List.drop_zero, List.drop_zero, List.nil_append, show ((0 : Nat) : Int) = 0 from rfl] at main
      refine Ev.step (fun f => ?_) (Ev.bind (f := fun f T => hunks_Changes.l2 f x y T 0 0 (fr : Int) [] (fr : Int) 0 (fr : Int) 0) (table_ev x y hx hy) main)
      simp only [hunks_Changes.j4]
      rw [if_neg (by simp), w64 (by omega) (by omega)]
end
set_option maxHeartbeats 1600000 in
theorem chg_l1 (fr : Nat) (hfr : fr ≤ 100000) : ∀ (n : Nat) (x y : List ByteArray), x.length = n → x.length ≤ 100000 → y.length ≤ 100000 →
    Ev (fun f => hunks_Changes.l1 f x y (fr : Int)) ((if (strip x y).1.length > 1000 ∨ (strip x y).2.length > 1000 then [⟨fr, (strip x y).1.length, fr, (strip x y).2.length⟩] else grp fr 0 0 ⟨fr, 0, fr, 0⟩ (script (strip x y).1 (strip x y).2)).map toS) := by
  intro n
  induction n with
  | zero =>
    intro x y hn hx hy
    rw [strip_neg x y (by omega)]
    refine Ev.step (fun f => ?_) (chg_j3 x y hx hy fr hfr)
    simp only [hunks_Changes.l1]
    rw [if_neg (by omega)]
  | succ n ih =>
    intro x y hn hx hy
    by_cases h2 : 0 < y.length
    · have e1 : wrap64 ((x.length : Int) - 1) = ((x.length - 1 : Nat) : Int) := hw64 _ _ (by omega) (by omega)
      have e2 : wrap64 ((y.length : Int) - 1) = ((y.length - 1 : Nat) : Int) := hw64 _ _ (by omega) (by omega)
      have l1 : rdOf ByteArray.empty x ((x.length - 1 : Nat) : Int) = lastOf x := by unfold rdOf lastOf; rw [Int.toNat_natCast]
      have l2 : rdOf ByteArray.empty y ((y.length - 1 : Nat) : Int) = lastOf y := by unfold rdOf lastOf; rw [Int.toNat_natCast]
      by_cases he : (lastOf x).toList = (lastOf y).toList
      · rw [strip_pos x y ⟨by omega, h2, he⟩]
        refine Ev.step (fun f => ?_) (ih (x.take (x.length - 1)) (y.take (y.length - 1)) (by rw [List.length_take]; omega) (by rw [List.length_take]; omega) (by rw [List.length_take]; omega))
        simp only [hunks_Changes.l1]
        rw [if_pos (by omega), if_pos (by omega), e1, e2, l1, l2, if_pos (by omega), if_pos (by omega), if_pos (by omega), if_pos (by omega), if_pos he, if_pos (by omega), if_pos (by omega), Int.toNat_natCast, Int.toNat_natCast]
      · rw [strip_neg x y (fun h => he h.2.2)]
        refine Ev.step (fun f => ?_) (chg_j3 x y hx hy fr hfr)
        simp only [hunks_Changes.l1]
        rw [if_pos (by omega), if_pos (by omega), e1, e2, l1, l2, if_pos (by omega), if_pos (by omega), if_pos (by omega), if_pos (by omega), if_neg he]
    · rw [strip_neg x y (by omega)]
      refine Ev.step (fun f => ?_) (chg_j3 x y hx hy fr hfr)
      simp only [hunks_Changes.l1]
      rw [if_pos (by omega), if_neg (by omega)]
theorem chg_l0 (p q : List ByteArray) (hp : p.length ≤ 100000) (hq : q.length ≤ 100000) : ∀ (d j : Nat), p.length - j = d → j ≤ p.length → j ≤ q.length → j + pre (p.drop j) (q.drop j) = pre p q →
    Ev (fun f => hunks_Changes.l0 f p q (j : Int)) ((chgs p q).map toS) := by
  intro d
  have fin : ∀ j : Nat, j ≤ p.length → j ≤ q.length → j = pre p q → Ev (fun f => hunks_Changes.j1 f p q (j : Int)) ((chgs p q).map toS) := by
    intro j h1 h2 h3
    have main := chg_l1 j (by omega) _ (p.drop j) (q.drop j) rfl (by rw [List.length_drop]; omega) (by rw [List.length_drop]; omega)
    unfold chgs
    rw [← h3]
    refine Ev.step (fun f => ?_) main
    simp only [hunks_Changes.j1]
    rw [if_pos (by omega), if_pos (by omega), if_pos (by omega), Int.toNat_natCast]
  induction d with
  | zero =>
    intro j hd h1 h2 h3
    obtain rfl : j = p.length := by omega
    rw [List.drop_length, pre_nil] at h3
    refine Ev.step (fun f => ?_) (fin _ h1 h2 h3)
    simp only [hunks_Changes.l0]
    rw [if_neg (by omega)]
  | succ d ih =>
    intro j hd h1 h2 h3
    have hlt : j < p.length := by omega
    by_cases hq2 : j < q.length
    · rw [List.drop_eq_getElem_cons hlt, List.drop_eq_getElem_cons hq2, pre_cons] at h3
      by_cases he : p[j].toList = q[j].toList
      · rw [if_pos he] at h3
        refine Ev.step (fun f => ?_) (ih (j + 1) (by omega) (by omega) (by omega) (by omega))
        simp only [hunks_Changes.l0]
        rw [if_pos (by omega), if_pos (by omega), if_pos (by omega), rdOf_at p j hlt, rdOf_at q j hq2, if_pos he, hw64 ((j : Int) + 1) (j + 1) (by omega) (by omega)]
      · rw [if_neg he] at h3
        refine Ev.step (fun f => ?_) (fin j h1 h2 (by omega))
        simp only [hunks_Changes.l0]
        rw [if_pos (by omega), if_pos (by omega), if_pos (by omega), rdOf_at p j hlt, rdOf_at q j hq2, if_neg he]
    · rw [List.drop_eq_nil_of_le (show q.length ≤ j by omega), pre_nil'] at h3
      refine Ev.step (fun f => ?_) (fin j h1 h2 (by omega))
      simp only [hunks_Changes.l0]
      rw [if_pos (by omega), if_neg (by omega)]
theorem changes_ev (p q : List ByteArray) (hp : p.length ≤ 100000) (hq : q.length ≤ 100000) : Ev (fun f => hunks_Changes.f f p q) ((chgs p q).map toS) :=
  Ev.congr (fun f => rfl) (chg_l0 p q hp hq _ 0 rfl (Nat.zero_le _) (Nat.zero_le _) (by rw [Nat.zero_add]; rfl))
end Go.Proofs.YtjabpbnlpljlkaaDoor.Pure
end
section
/- lines.Split, as printed, tells the plain lines. -/
namespace Go.Proofs.YtjabpbnlpljlkaaDoor.Pure
open Go.RowKit Go.Proofs.YtjabpbnlpljlkaaDoor.PShowMade Go.Proofs.YtjabpbnlpljlkaaDoorW.PrintWords Go.Proofs.YtjabpbnlpljlkaaDoorW.PrintLast
open Go.Proofs.YtjabpbnlpljlkaaDoor.M Go.Proofs.YtjabpbnlpljlkaaDoor.X
set_option linter.unusedVariables false
set_option linter.unusedSimpArgs false
theorem new_eq {b : List Int} (hl : b.length < 100000000000) : lines_New.f b = some [b] := by
  unfold lines_New.f
  rw [if_pos hl]
theorem nlines_eq {b : List Int} (hl : b.length < 100000000000) : lines_Index_Lines.f [b] = some ((ls b).length : Int) := by
  show (if b.length < 100000000000 then some (nlines b) else none) = _
  rw [if_pos hl, nlines_ls]
theorem span_in {b : List Int} (hl : b.length < 100000000000) (j : Nat) (hj : j < (ls b).length) : lines_Index_Span.f [b] ((j : Int) + 1) = some ((off (ls b) j : Int), (((ls b).getD j []).length : Int), 0) := by
  show (if b.length < 100000000000 then (if (j : Int) + 1 < 1 then some (0, 0, 2) else if nlines b < (j : Int) + 1 then some (0, 0, 2) else some ((spanOf b ((j : Int) + 1)).1, (spanOf b ((j : Int) + 1)).2, 0)) else none) = _
  have h2 := begins_next b j hj
  have h3 := off_succ (ls b) j hj
  rw [if_pos hl, if_neg (by omega), nlines_ls, if_neg (by omega)]
  unfold spanOf
  simp only
  rw [show ((j : Int) + 1).toNat - 1 = j by omega, show ((j : Int) + 1).toNat = j + 1 by omega, begins_lt b j hj, h2, h3]
  congr 3
  omega
theorem split_from {b : List Int} (hb : b.length ≤ 1000000) : ∀ (d k j : Nat), (ls b).length - j = d → j ≤ (ls b).length → d < k →
    lines_Split.l0 k b (((ls b).take j).map strOfNums) [b] ((ls b).length : Int) j = some ((ls b).map strOfNums) := by
  have hn := ls_count b
  intro d
  induction d with
  | zero =>
    intro k j hd hj hk
    obtain ⟨k, rfl⟩ : ∃ m, k = m + 1 := ⟨k - 1, by omega⟩
    simp only [lines_Split.l0]
    rw [if_neg (by omega), List.take_of_length_le (by omega)]
  | succ d ih =>
    intro k j hd hj hk
    obtain ⟨k, rfl⟩ : ∃ m, k = m + 1 := ⟨k - 1, by omega⟩
    have hlt : j < (ls b).length := by omega
    have ew : wrap64 ((j : Int) + 1) = ((j + 1 : Nat) : Int) := by rw [w64 (by omega) (by omega)]; omega
    have ho := off_succ (ls b) j hlt
    have ho2 := off_le (ls b) (j + 1)
    rw [ls_flat] at ho2
    have g1 : (j : Int) < ((ls b).length : Int) := by omega
    have g2 : (0 : Int) ≤ (off (ls b) j : Int) := by omega
    have g3 : (off (ls b) j : Int) ≤ (off (ls b) (j + 1) : Int) := by omega
    have g4 : (off (ls b) (j + 1) : Int) ≤ (b.length : Int) := by omega
    have g5 : ((j : Int) + 1) = ((j + 1 : Nat) : Int) := by omega
    have g6 : b.length < 100000000000 := by omega
    have hr := ih k (j + 1) (by omega) (by omega) (by omega)
    have e2 : wrap64 ((off (ls b) j : Int) + (((ls b).getD j []).length : Int)) = (off (ls b) (j + 1) : Int) := by
      have e3 : (off (ls b) j : Int) + (((ls b).getD j []).length : Int) = (off (ls b) (j + 1) : Int) := by omega
      rw [e3]
      exact w64 (by omega) (by omega)
    have hl : (((ls b).take j).map strOfNums).length < 8796093022208 := by
      rw [List.length_map, List.length_take]
      have : min j (ls b).length ≤ j := Nat.min_le_left _ _
      omega
    have hs := span_in (b := b) g6 j hlt
    have hc := cut_line (ls b) j hlt
    rw [ls_flat] at hc
    have hm : ((ls b).take (j + 1)).map strOfNums = ((ls b).take j).map strOfNums ++ [strOfNums ((ls b).getD j [])] := by
      rw [List.take_succ_eq_append_getElem hlt, List.map_append]
      simp [List.getD, hlt]
    rw [g5] at hs
    simp only [lines_Split.l0]
    rw [if_pos g1, ew]
    refine ob hs ?_
    simp only
    rw [e2, if_pos g2, if_pos g3, if_pos g4, if_pos hl, Int.toNat_natCast, Int.toNat_natCast, hc, ← hm, hr]
theorem split_eq {b : List Int} (hb : b.length ≤ 1000000) {k : Nat} (hk : b.length < k) : lines_Split.f k b = some ((ls b).map strOfNums) := by
  have hn := ls_count b
  unfold lines_Split.f
  refine ob (new_eq (by omega)) ?_
  refine ob (nlines_eq (by omega)) ?_
  have := split_from hb (ls b).length k 0 (by omega) (by omega) (by omega)
  exact this
end Go.Proofs.YtjabpbnlpljlkaaDoor.Pure
end
section
/- hunks.hunk and hunks.Make, as printed, tell the plain hunks. -/
namespace Go.Proofs.YtjabpbnlpljlkaaDoor.Pure
open Go.RowKit Go.Proofs.YtjabpbnlpljlkaaDoor.PShowMade Go.Proofs.YtjabpbnlpljlkaaDoorW.PrintWords Go.Proofs.YtjabpbnlpljlkaaDoorW.PrintLast Go.Proofs.YtjabpbnlpljlkaaDoorW.PrintMore
open Go.Proofs.YtjabpbnlpljlkaaDoor.M Go.Proofs.YtjabpbnlpljlkaaDoor.X
set_option linter.unusedVariables false
set_option linter.unusedSimpArgs false
def Short (P : List ByteArray) : Prop := ∀ i : Nat, (P.getD i ByteArray.empty).size ≤ 1000000
def toL (l : Ln) : S29 := ⟨l.sg, l.tx, l.br⟩
def toH (h : Hk) : S26 := ⟨h.o, h.os, h.n, h.ns, h.ls.map toL⟩
theorem line_eq (sg : Int) (s : ByteArray) (h : s.size ≤ 1000000) : hunks_line.f sg s = some ((lineM sg s).sg, (lineM sg s).tx, (lineM sg s).br) := by
  have e : (⟨#[10]⟩ : ByteArray).size = 1 := rfl
  have hs : stringslite_HasSuffix.f s (⟨#[10]⟩ : ByteArray) = some (nlEnd s) := by
    unfold stringslite_HasSuffix.f nlEnd
    rw [e]
    by_cases h1 : 1 ≤ s.size
    · have e1 : wrap64 ((s.size : Int) - ((1 : Nat) : Int)) = ((s.size - 1 : Nat) : Int) := hw64 _ _ (by omega) (by omega)
      rw [if_pos (by omega), e1, if_pos (by omega), if_pos (by omega), if_pos h1, Int.toNat_natCast]
    · rw [if_neg (by omega), if_neg h1]
  unfold hunks_line.f strings_CutSuffix.f stringslite_CutSuffix.f
  rw [hs]
  simp only [Option.bind_some]
  unfold lineM
  by_cases h2 : nlEnd s = true
  · have h1 : 1 ≤ s.size := by
      by_cases h1 : 1 ≤ s.size
      · exact h1
      · unfold nlEnd at h2; rw [if_neg h1] at h2; cases h2
    have e1 : wrap64 ((s.size : Int) - ((1 : Nat) : Int)) = ((s.size - 1 : Nat) : Int) := hw64 _ _ (by omega) (by omega)
    rw [if_pos h2, if_pos h2, e, e1, if_pos (by omega), if_pos (by omega), Int.toNat_natCast]
    rfl
  · rw [if_neg h2, if_neg h2]
    rfl
theorem piece_short {P : List ByteArray} (h : Short P) (a b : Nat) : Short (piece P a b) := by
  intro i
  unfold piece
  rw [List.getD_eq_getElem?_getD, List.getElem?_drop, List.getElem?_take]
  split
  · have := h (a + i)
    rw [List.getD_eq_getElem?_getD] at this
    exact this
  · show ByteArray.empty.size ≤ _
    exact Nat.zero_le _
theorem piece_eq (P : List ByteArray) (a b : Nat) : (P.take (b : Int).toNat).drop (a : Int).toNat = piece P a b := by
  rw [Int.toNat_natCast, Int.toNat_natCast]; rfl
theorem put_snoc (y : List ByteArray) (sg : Int) (acc : List S29) (i : Nat) (hi : i < y.length) (r : List S29) (h : r = acc ++ ((y.drop i).map (lineM sg)).map toL) : r = (acc ++ [(⟨(lineM sg y[i]).sg, (lineM sg y[i]).tx, (lineM sg y[i]).br⟩ : S29)]) ++ ((y.drop (i + 1)).map (lineM sg)).map toL := by
  rw [h, List.drop_eq_getElem_cons hi, List.map_cons, List.map_cons, List.append_assoc]
  rfl
theorem rdOf_short {y : List ByteArray} (h : Short y) (i : Nat) (hi : i < y.length) : y[i].size ≤ 1000000 := by
  have := h i
  rw [List.getD_eq_getElem?_getD, List.getElem?_eq_getElem hi] at this
  exact this
theorem cnt_from (sg : Int) (L : List Ln) (hL : L.length ≤ 1000000) : ∀ (d i c : Nat), L.length - i = d → i ≤ L.length → c ≤ i → Ev (fun f => hunks_count.l0 f sg (c : Int) (L.map toL) (L.length : Int) (i : Int)) ((c + cntM sg (L.drop i) : Nat) : Int) := by
  intro d
  induction d with
  | zero =>
    intro i c hd hi hc
    obtain rfl : i = L.length := by omega
    rw [List.drop_length]
    refine Ev.step (f := fun _ => some (c : Int)) (fun f => ?_) (Ev.now _)
    simp only [hunks_count.l0]
    rw [if_neg (by omega)]
  | succ d ih =>
    intro i c hd hi hc
    have hlt : i < L.length := by omega
    have e1 : ∀ _ : Unit, wrap64 ((i : Int) + 1) = ((i + 1 : Nat) : Int) := fun _ => hw64 _ _ (by omega) (by omega)
    have e2 : ∀ _ : Unit, wrap64 ((c : Int) + 1) = ((c + 1 : Nat) : Int) := fun _ => hw64 _ _ (by omega) (by omega)
    have hr : (rd_T29 (L.map toL) (i : Int)).f0 = L[i].sg := by
      unfold rd_T29
      rw [Int.toNat_natCast, List.getD_eq_getElem?_getD, List.getElem?_map, List.getElem?_eq_getElem hlt]
      rfl
    rw [List.drop_eq_getElem_cons hlt]
    by_cases h : L[i].sg = sg
    · have := ih (i + 1) (c + 1) (by omega) (by omega) (by omega)
      rw [show c + cntM sg (L[i] :: L.drop (i + 1)) = c + 1 + cntM sg (L.drop (i + 1)) by rw [cntM_cons, if_pos h]; omega]
      refine Ev.step (fun f => ?_) this
      simp only [hunks_count.l0]
      rw [if_pos (by omega), if_pos (by omega), if_pos (by rw [List.length_map]; omega), hr, if_pos h, e1 (), e2 ()]
    · have := ih (i + 1) c (by omega) (by omega) (by omega)
      rw [show c + cntM sg (L[i] :: L.drop (i + 1)) = c + cntM sg (L.drop (i + 1)) by rw [cntM_cons, if_neg h]]
      refine Ev.step (fun f => ?_) this
      simp only [hunks_count.l0]
      rw [if_pos (by omega), if_pos (by omega), if_pos (by rw [List.length_map]; omega), hr, if_neg h, e1 ()]
theorem count_ev (sg : Int) (L : List Ln) (hL : L.length ≤ 1000000) : Ev (fun f => hunks_count.f f (L.map toL) sg) (cntM sg L : Int) := by
  have := cnt_from sg L hL _ 0 0 rfl (Nat.zero_le _) (Nat.le_refl _)
  rw [List.drop_zero, Nat.zero_add] at this
  refine Ev.congr (fun f => ?_) this
  unfold hunks_count.f
  rw [List.length_map]
  rfl
theorem hunk_l4 (P Q : List ByteArray) (hP : P.length ≤ 10000) (hQ : Q.length ≤ 10000) (sP : Short P) (sQ : Short Q) (ctx : Nat) (hctx : ctx ≤ 16) (h0 h2 : Int) (y : List ByteArray) (hy : y.length ≤ 10000) (sy : Short y) (L : List Ln) (hL : L.length ≤ 100000) : ∀ (d i : Nat) (acc : List S29), y.length - i = d → i ≤ y.length → acc.length ≤ 60000 + i → L.map toL = acc ++ ((y.drop i).map (lineM 32)).map toL →
    Ev (fun f => hunks_hunk.l4 f y (y.length : Int) (i : Int) h0 0 h2 0 acc) (h0, (L.length : Int) - (cntM 43 L : Int), h2, (L.length : Int) - (cntM 45 L : Int), L.map toL) := by
  intro d
  induction d with
  | zero =>
    intro i acc hd hi ha he
    obtain rfl : i = y.length := by omega
    rw [List.drop_length, List.map_nil, List.map_nil, List.append_nil] at he
    subst he
    have c1 := cntM_le 43 L
    have c2 := cntM_le 45 L
    have g1 := count_ev 43 L (by omega)
    have g2 := count_ev 45 L (by omega)
    refine Ev.step (fun f => ?_) (Ev.bind (f := fun f t => (hunks_count.f f (L.map toL) 45).bind fun t2 => some (h0, wrap64 (((L.map toL).length : Int) - t), h2, wrap64 (((L.map toL).length : Int) - t2), L.map toL)) g1 (Ev.bind g2 ⟨0, fun f _ => ?_⟩))
    · simp only [hunks_hunk.l4]
      rw [if_neg (by omega)]
    · simp only
      rw [List.length_map, w64 (by omega) (by omega), w64 (by omega) (by omega)]
  | succ d ih =>
    intro i acc hd hi ha he
    have hlt : i < y.length := by omega
    have e1 : ∀ _ : Unit, wrap64 ((i : Int) + 1) = ((i + 1 : Nat) : Int) := fun _ => hw64 _ _ (by omega) (by omega)
    refine Ev.step (fun f => ?_) (ih (i + 1) (acc ++ [(⟨(lineM 32 y[i]).sg, (lineM 32 y[i]).tx, (lineM 32 y[i]).br⟩ : S29)]) (by omega) (by omega) (by rw [List.length_append, List.length_singleton]; omega) (put_snoc y 32 acc i hlt _ he))
    simp only [hunks_hunk.l4]
    rw [if_pos (by omega), if_pos (by omega), if_pos (by omega), rdOf_at y i hlt, line_eq 32 y[i] (rdOf_short sy i hlt), e1 ()]
    simp only [Option.bind_some]
    rw [if_pos (by omega)]
set_option maxHeartbeats 800000 in
theorem hunk_l3 (P Q : List ByteArray) (hP : P.length ≤ 10000) (hQ : Q.length ≤ 10000) (sP : Short P) (sQ : Short Q) (ctx : Nat) (hctx : ctx ≤ 16) (h0 h2 : Int) (G : List S82) (gl : Int) (g o os n ns : Nat) (hg : g ≤ 100000) (ho : o ≤ 100000) (h3 : o + os ≤ P.length) (h4 : n + ns ≤ Q.length) (hz : 0 ≤ ctx) {r : Int × Int × Int × Int × List S29} (y : List ByteArray) (hy : y.length ≤ 10000) (sy : Short y) {acc0 : List S29}
    (cont : Ev (fun f => hunks_hunk.l0 f P Q (ctx : Int) ((o + os : Nat) : Int) G gl ((g + 1 : Nat) : Int) h0 0 h2 0 (acc0 ++ (y.map (lineM 43)).map toL)) r) : ∀ (d i : Nat) (_ : y.length - i = d) (_ : i ≤ y.length) (acc : List S29) (_ : acc.length ≤ 60000 + i) (_ : acc0 ++ (y.map (lineM 43)).map toL = acc ++ ((y.drop i).map (lineM 43)).map toL),
    Ev (fun f => hunks_hunk.l3 f P Q (ctx : Int) G gl (g : Int) y (y.length : Int) (i : Int) h0 0 h2 0 acc (o : Int) (os : Int) (n : Int) (ns : Int)) r := by
  intro d
  induction d with
  | zero =>
    intro i hd hi acc ha he
    obtain rfl : i = y.length := by omega
    rw [List.drop_length, List.map_nil, List.map_nil, List.append_nil] at he
    have e4 : ∀ _ : Unit, wrap64 ((o : Int) + (os : Int)) = ((o + os : Nat) : Int) := fun _ => hw64 _ _ (by omega) (by omega)
    have e5 : ∀ _ : Unit, wrap64 ((n : Int) + (ns : Int)) = ((n + ns : Nat) : Int) := fun _ => hw64 _ _ (by omega) (by omega)
    have e6 : ∀ _ : Unit, wrap64 ((g : Int) + 1) = ((g + 1 : Nat) : Int) := fun _ => hw64 _ _ (by omega) (by omega)
    refine Ev.step (fun f => ?_) cont
    · simp only [hunks_hunk.l3]
      rw [if_neg (by omega), e4 (), e6 (), ← he]
  | succ d ih =>
    intro i hd hi acc ha he
    have hlt : i < y.length := by omega
    have e1 : ∀ _ : Unit, wrap64 ((i : Int) + 1) = ((i + 1 : Nat) : Int) := fun _ => hw64 _ _ (by omega) (by omega)
    refine Ev.step (fun f => ?_) (ih (i + 1) (by omega) (by omega) (acc ++ [(⟨(lineM 43 y[i]).sg, (lineM 43 y[i]).tx, (lineM 43 y[i]).br⟩ : S29)]) (by rw [List.length_append, List.length_singleton]; omega) (put_snoc y 43 acc i hlt _ he))
    simp only [hunks_hunk.l3]
    rw [if_pos (by omega), if_pos (by omega), if_pos (by omega), rdOf_at y i hlt, line_eq 43 y[i] (rdOf_short sy i hlt), e1 ()]
    simp only [Option.bind_some]
    rw [if_pos (by omega)]
set_option maxHeartbeats 800000 in
theorem hunk_l2 (P Q : List ByteArray) (hP : P.length ≤ 10000) (hQ : Q.length ≤ 10000) (sP : Short P) (sQ : Short Q) (ctx : Nat) (hctx : ctx ≤ 16) (h0 h2 : Int) (G : List S82) (gl : Int) (g o os n ns : Nat) (hg : g ≤ 100000) (ho : o ≤ 100000) (h3 : o + os ≤ P.length) (h4 : n + ns ≤ Q.length) (hz : 0 ≤ ctx) {r : Int × Int × Int × Int × List S29} (y : List ByteArray) (hy : y.length ≤ 10000) (sy : Short y) {acc0 : List S29}
    (cont : Ev (fun f => hunks_hunk.l3 f P Q (ctx : Int) G gl (g : Int) (piece Q n (n + ns)) ((piece Q n (n + ns)).length : Int) ((0 : Nat) : Int) h0 0 h2 0 (acc0 ++ (y.map (lineM 45)).map toL) (o : Int) (os : Int) (n : Int) (ns : Int)) r) : ∀ (d i : Nat) (_ : y.length - i = d) (_ : i ≤ y.length) (acc : List S29) (_ : acc.length ≤ 60000 + i) (_ : acc0 ++ (y.map (lineM 45)).map toL = acc ++ ((y.drop i).map (lineM 45)).map toL),
    Ev (fun f => hunks_hunk.l2 f P Q (ctx : Int) G gl (g : Int) y (y.length : Int) (i : Int) h0 0 h2 0 acc (o : Int) (os : Int) (n : Int) (ns : Int)) r := by
  intro d
  induction d with
  | zero =>
    intro i hd hi acc ha he
    obtain rfl : i = y.length := by omega
    rw [List.drop_length, List.map_nil, List.map_nil, List.append_nil] at he
    have e4 : ∀ _ : Unit, wrap64 ((o : Int) + (os : Int)) = ((o + os : Nat) : Int) := fun _ => hw64 _ _ (by omega) (by omega)
    have e5 : ∀ _ : Unit, wrap64 ((n : Int) + (ns : Int)) = ((n + ns : Nat) : Int) := fun _ => hw64 _ _ (by omega) (by omega)
    have e6 : ∀ _ : Unit, wrap64 ((g : Int) + 1) = ((g + 1 : Nat) : Int) := fun _ => hw64 _ _ (by omega) (by omega)
    refine Ev.step (fun f => ?_) cont
    · simp only [hunks_hunk.l2]
      rw [if_neg (by omega), e5 (), if_pos (by omega), if_pos (by omega), if_pos (by omega), piece_eq, ← he]
      rfl
  | succ d ih =>
    intro i hd hi acc ha he
    have hlt : i < y.length := by omega
    have e1 : ∀ _ : Unit, wrap64 ((i : Int) + 1) = ((i + 1 : Nat) : Int) := fun _ => hw64 _ _ (by omega) (by omega)
    refine Ev.step (fun f => ?_) (ih (i + 1) (by omega) (by omega) (acc ++ [(⟨(lineM 45 y[i]).sg, (lineM 45 y[i]).tx, (lineM 45 y[i]).br⟩ : S29)]) (by rw [List.length_append, List.length_singleton]; omega) (put_snoc y 45 acc i hlt _ he))
    simp only [hunks_hunk.l2]
    rw [if_pos (by omega), if_pos (by omega), if_pos (by omega), rdOf_at y i hlt, line_eq 45 y[i] (rdOf_short sy i hlt), e1 ()]
    simp only [Option.bind_some]
    rw [if_pos (by omega)]
set_option maxHeartbeats 800000 in
theorem hunk_l1 (P Q : List ByteArray) (hP : P.length ≤ 10000) (hQ : Q.length ≤ 10000) (sP : Short P) (sQ : Short Q) (ctx : Nat) (hctx : ctx ≤ 16) (h0 h2 : Int) (G : List S82) (gl : Int) (g o os n ns : Nat) (hg : g ≤ 100000) (ho : o ≤ 100000) (h3 : o + os ≤ P.length) (h4 : n + ns ≤ Q.length) (hz : 0 ≤ ctx) {r : Int × Int × Int × Int × List S29} (y : List ByteArray) (hy : y.length ≤ 10000) (sy : Short y) {acc0 : List S29}
    (cont : Ev (fun f => hunks_hunk.l2 f P Q (ctx : Int) G gl (g : Int) (piece P o (o + os)) ((piece P o (o + os)).length : Int) ((0 : Nat) : Int) h0 0 h2 0 (acc0 ++ (y.map (lineM 32)).map toL) (o : Int) (os : Int) (n : Int) (ns : Int)) r) : ∀ (d i : Nat) (_ : y.length - i = d) (_ : i ≤ y.length) (acc : List S29) (_ : acc.length ≤ 60000 + i) (_ : acc0 ++ (y.map (lineM 32)).map toL = acc ++ ((y.drop i).map (lineM 32)).map toL),
    Ev (fun f => hunks_hunk.l1 f P Q (ctx : Int) G gl (g : Int) y (y.length : Int) (i : Int) h0 0 h2 0 acc (o : Int) (os : Int) (n : Int) (ns : Int)) r := by
  intro d
  induction d with
  | zero =>
    intro i hd hi acc ha he
    obtain rfl : i = y.length := by omega
    rw [List.drop_length, List.map_nil, List.map_nil, List.append_nil] at he
    have e4 : ∀ _ : Unit, wrap64 ((o : Int) + (os : Int)) = ((o + os : Nat) : Int) := fun _ => hw64 _ _ (by omega) (by omega)
    have e5 : ∀ _ : Unit, wrap64 ((n : Int) + (ns : Int)) = ((n + ns : Nat) : Int) := fun _ => hw64 _ _ (by omega) (by omega)
    have e6 : ∀ _ : Unit, wrap64 ((g : Int) + 1) = ((g + 1 : Nat) : Int) := fun _ => hw64 _ _ (by omega) (by omega)
    refine Ev.step (fun f => ?_) cont
    · simp only [hunks_hunk.l1]
      rw [if_neg (by omega), e4 (), if_pos (by omega), if_pos (by omega), if_pos (by omega), piece_eq, ← he]
      rfl
  | succ d ih =>
    intro i hd hi acc ha he
    have hlt : i < y.length := by omega
    have e1 : ∀ _ : Unit, wrap64 ((i : Int) + 1) = ((i + 1 : Nat) : Int) := fun _ => hw64 _ _ (by omega) (by omega)
    refine Ev.step (fun f => ?_) (ih (i + 1) (by omega) (by omega) (acc ++ [(⟨(lineM 32 y[i]).sg, (lineM 32 y[i]).tx, (lineM 32 y[i]).br⟩ : S29)]) (by rw [List.length_append, List.length_singleton]; omega) (put_snoc y 32 acc i hlt _ he))
    simp only [hunks_hunk.l1]
    rw [if_pos (by omega), if_pos (by omega), if_pos (by omega), rdOf_at y i hlt, line_eq 32 y[i] (rdOf_short sy i hlt), e1 ()]
    simp only [Option.bind_some]
    rw [if_pos (by omega)]
theorem hunk_l0 (P Q : List ByteArray) (hP : P.length ≤ 10000) (hQ : Q.length ≤ 10000) (sP : Short P) (sQ : Short Q) (ctx : Nat) (hctx : ctx ≤ 16) (h0 h2 : Int) (L : List Ln) (hL : L.length ≤ 40000) (G : List Ch) (hG : G.length ≤ 10000) : ∀ (cs : List Ch) (g a : Nat) (acc : List S29), G.drop g = cs → Fit P Q a cs → a ≤ P.length → acc.length ≤ 40000 →
    L.map toL = acc ++ (bodyM P Q a cs ++ (piece P (endM a cs) (min (endM a cs + ctx) P.length)).map (lineM 32)).map toL →
    Ev (fun f => hunks_hunk.l0 f P Q (ctx : Int) (a : Int) (G.map toS) (G.length : Int) (g : Int) h0 0 h2 0 acc) (h0, (L.length : Int) - (cntM 43 L : Int), h2, (L.length : Int) - (cntM 45 L : Int), L.map toL) := by
  intro cs
  induction cs with
  | nil =>
    intro g a acc hd hF ha hacc he
    have hl : G.length ≤ g := by
      have := congrArg List.length hd
      rw [List.length_drop, List.length_nil] at this
      omega
    have e1 : ∀ _ : Unit, wrap64 ((a : Int) + (ctx : Int)) = ((a + ctx : Nat) : Int) := fun _ => hw64 _ _ (by omega) (by omega)
    have e2 : mn ((a + ctx : Nat) : Int) (P.length : Int) = ((min (a + ctx) P.length : Nat) : Int) := by unfold mn; split <;> omega
    have he' : L.map toL = acc ++ (((piece P a (min (a + ctx) P.length)).drop 0).map (lineM 32)).map toL := he
    have pl := piece_len P a (min (a + ctx) P.length) (by omega)
    refine Ev.step (fun f => ?_) (hunk_l4 P Q hP hQ sP sQ ctx hctx h0 h2 (piece P a (min (a + ctx) P.length)) (by omega) (piece_short sP _ _) L (by omega) _ 0 acc rfl (Nat.zero_le _) (by omega) he')
    simp only [hunks_hunk.l0]
    rw [if_neg (by omega), e1 (), e2, if_pos (by omega), if_pos (by omega), if_pos (by omega), piece_eq]
    rfl
  | cons c cs ih =>
    intro g a acc hd hF ha hacc he
    obtain ⟨o, os, n, ns, rfl, h1, h3, h4, h5⟩ := hF
    have hg : g < G.length := by
      have := congrArg List.length hd
      rw [List.length_drop, List.length_cons] at this
      omega
    have hget : G[g] = ⟨o, os, n, ns⟩ ∧ G.drop (g + 1) = cs := by
      rw [List.drop_eq_getElem_cons hg] at hd
      injection hd with d1 d2
      exact ⟨d1, d2⟩
    have hr : rd_T82 (G.map toS) (g : Int) = ⟨(o : Int), (os : Int), (n : Int), (ns : Int)⟩ := by
      unfold rd_T82
      rw [Int.toNat_natCast, List.getD_eq_getElem?_getD, List.getElem?_map, List.getElem?_eq_getElem hg, hget.1]
      rfl
    have t1 : ((o : Int) + (os : Int)).toNat = o + os := by omega
    have t2 : ((n : Int) + (ns : Int)).toNat = n + ns := by omega
    have he2 : L.map toL = ((acc ++ ((piece P a o).map (lineM 32)).map toL) ++ ((piece P o (o + os)).map (lineM 45)).map toL) ++ ((piece Q n (n + ns)).map (lineM 43)).map toL ++ (bodyM P Q (o + os) cs ++ (piece P (endM (o + os) cs) (min (endM (o + os) cs + ctx) P.length)).map (lineM 32)).map toL := by
      rw [he]
      simp only [bodyM_cons, endM_cons, Int.toNat_natCast, t1, t2, List.map_append, List.append_assoc]
    have hlen := congrArg List.length he2
    simp only [List.length_append, List.length_map] at hlen
    have p1 := piece_len P a o (by omega)
    have p2 := piece_len P o (o + os) h3
    have p3 := piece_len Q n (n + ns) h4
    have main := ih (g + 1) (o + os) _ hget.2 h5 h3 (by simp only [List.length_append, List.length_map]; omega) he2
    have s3 := hunk_l3 P Q hP hQ sP sQ ctx hctx h0 h2 (G.map toS) (G.length : Int) g o os n ns (by omega) (by omega) (by omega) (by omega) (by omega) (piece Q n (n + ns)) (by omega) (piece_short sQ _ _) main _ 0 rfl (Nat.zero_le _) (acc ++ ((piece P a o).map (lineM 32)).map toL ++ ((piece P o (o + os)).map (lineM 45)).map toL) (by simp only [List.length_append, List.length_map]; omega) rfl
    have s2 := hunk_l2 P Q hP hQ sP sQ ctx hctx h0 h2 (G.map toS) (G.length : Int) g o os n ns (by omega) (by omega) h3 h4 (by omega) (piece P o (o + os)) (by omega) (piece_short sP _ _) s3 _ 0 rfl (Nat.zero_le _) (acc ++ ((piece P a o).map (lineM 32)).map toL) (by simp only [List.length_append, List.length_map]; omega) rfl
    have s1 := hunk_l1 P Q hP hQ sP sQ ctx hctx h0 h2 (G.map toS) (G.length : Int) g o os n ns (by omega) (by omega) h3 h4 (by omega) (piece P a o) (by omega) (piece_short sP _ _) s2 _ 0 rfl (Nat.zero_le _) acc (by omega) rfl
    refine Ev.step (fun f => ?_) s1
    simp only [hunks_hunk.l0]
    rw [hr]
    simp only
    rw [if_pos (by omega), if_pos (by omega), if_pos (by rw [List.length_map]; omega), if_pos (by omega), if_pos (by omega), if_pos (by omega), piece_eq]
    rfl
theorem hunk_ev (P Q : List ByteArray) (hP : P.length ≤ 10000) (hQ : Q.length ≤ 10000) (sP : Short P) (sQ : Short Q) (ctx : Nat) (hctx : ctx ≤ 16) (c : Ch) (cs : List Ch) (hG : (c :: cs).length ≤ 10000) (hF : Fit P Q 0 (c :: cs)) (hL : (linesM P Q ctx (c.o.toNat - min ctx c.o.toNat) (c :: cs)).length ≤ 40000) :
    Ev (fun f => hunks_hunk.f f P Q ((c :: cs).map toS) (ctx : Int)) ((hunkM P Q ctx c cs).o, (hunkM P Q ctx c cs).os, (hunkM P Q ctx c cs).n, (hunkM P Q ctx c cs).ns, (hunkM P Q ctx c cs).ls.map toL) := by
  obtain ⟨o, os, n, ns, rfl, h1, h3, h4, h5⟩ := hF
  have hr : rd_T82 (((⟨o, os, n, ns⟩ : Ch) :: cs).map toS) 0 = ⟨(o : Int), (os : Int), (n : Int), (ns : Int)⟩ := rfl
  have e1 : mn (ctx : Int) (o : Int) = ((min ctx o : Nat) : Int) := by unfold mn; split <;> omega
  have e2 : ∀ _ : Unit, wrap64 ((o : Int) - ((min ctx o : Nat) : Int)) = ((o - min ctx o : Nat) : Int) := fun _ => hw64 _ _ (by omega) (by omega)
  have e3 : ∀ _ : Unit, wrap64 ((n : Int) - ((min ctx o : Nat) : Int)) = (n : Int) - ((min ctx o : Nat) : Int) := fun _ => w64 (by omega) (by omega)
  have main := hunk_l0 P Q hP hQ sP sQ ctx hctx ((o - min ctx o : Nat) : Int) ((n : Int) - ((min ctx o : Nat) : Int)) (linesM P Q ctx (o - min ctx o) (⟨o, os, n, ns⟩ :: cs)) hL (⟨o, os, n, ns⟩ :: cs) hG (⟨o, os, n, ns⟩ :: cs) 0 (o - min ctx o) [] rfl ⟨o, os, n, ns, rfl, by omega, h3, h4, h5⟩ (by omega) (by simp) rfl
  refine Ev.congr (fun f => ?_) main
  unfold hunks_hunk.f
  rw [hr]
  simp only
  rw [if_pos (by rw [List.length_map, List.length_cons]; omega), e1, e2 (), e3 (), List.length_map]
  rfl
theorem rdS_map (l : List Ch) (i : Nat) (hi : i < l.length) : rd_T82 (l.map toS) (i : Int) = toS l[i] := by
  unfold rd_T82
  rw [Int.toNat_natCast, List.getD_eq_getElem?_getD, List.getElem?_map, List.getElem?_eq_getElem hi]
  rfl
theorem fit_get {P Q : List ByteArray} : ∀ {l : List Ch} {a : Nat} (i : Nat) (hi : i < l.length), Fit P Q a l → ∃ o os n ns : Nat, l[i] = ⟨o, os, n, ns⟩ ∧ o + os ≤ P.length ∧ n + ns ≤ Q.length
  | _ :: _, _, 0, _, ⟨o, os, n, ns, h1, h2, h3, h4, h5⟩ => ⟨o, os, n, ns, h1, h3, h4⟩
  | _ :: l, _, i + 1, hi, ⟨o, os, n, ns, h1, h2, h3, h4, h5⟩ => by
    obtain ⟨o', os', n', ns', g1, g2, g3⟩ := fit_get (l := l) i (by simpa using hi) h5
    exact ⟨o', os', n', ns', by rw [List.getElem_cons_succ]; exact g1, g2, g3⟩
set_option maxHeartbeats 1600000 in
theorem make_l1 (P Q : List ByteArray) (hP : P.length ≤ 10000) (ctx : Nat) (hctx : ctx ≤ 16) (c : Ch) (cs : List Ch) (hF : Fit P Q 0 (c :: cs)) (hl : (c :: cs).length ≤ 10000) (acc : List S26) (hacc : acc.length ≤ 100000)
    {r : List S26 × Int} {h1 h2 h3 h4 : Int} {h5 : List S29} (hh : Ev (fun f => hunks_hunk.f f P Q ((c :: cs.take (nearM ctx c cs)).map toS) (ctx : Int)) (h1, h2, h3, h4, h5))
    (cont : Ev (fun f => hunks_Make.l0 f (ctx : Int) P Q (acc ++ [(⟨h1, h2, h3, h4, h5⟩ : S26)]) ((cs.drop (nearM ctx c cs)).map toS)) r) :
    ∀ (d j : Nat) (p : Ch), nearM ctx c cs - j = d → (hj : j < (c :: cs).length) → (c :: cs)[j] = p → j + nearM ctx p (cs.drop j) = nearM ctx c cs → Ev (fun f => hunks_Make.l1 f (ctx : Int) P Q acc ((c :: cs).map toS) ((j + 1 : Nat) : Int)) r := by
  have fin : ∀ j : Nat, j = nearM ctx c cs → j < (c :: cs).length → Ev (fun f => (hunks_hunk.f f P Q (((c :: cs).map toS).take ((j + 1 : Nat) : Int).toNat) (ctx : Int)).bind fun bt => (if acc.length < 2513169434916 then (hunks_Make.l0 f (ctx : Int) P Q (acc ++ [(⟨bt.1, bt.2.1, bt.2.2.1, bt.2.2.2.1, bt.2.2.2.2⟩ : S26)]) (((c :: cs).map toS).drop ((j + 1 : Nat) : Int).toNat)) else none)) r := by
    intro j hj hlt
    subst hj
    refine Ev.bind (a := (h1, h2, h3, h4, h5)) ?_ ?_
    · rw [Int.toNat_natCast, ← List.map_take]
      exact hh
    · simp only [if_pos (show acc.length < 2513169434916 by omega), Int.toNat_natCast, ← List.map_drop, List.drop_succ_cons]
      exact cont
  intro d
  induction d with
  | zero =>
    intro j p hd hj hp hn
    have h0 : nearM ctx p (cs.drop j) = 0 := by omega
    have hjm : j = nearM ctx c cs := by omega
    have main := fin j hjm hj
    obtain ⟨o, os, n, ns, g1, g2, g3⟩ := fit_get j hj hF
    have r1 := rdS_map (c :: cs) j hj
    rw [g1] at r1
    by_cases hlast : j + 1 < (c :: cs).length
    · obtain ⟨o', os', n', ns', k1, k2, k3⟩ := fit_get (j + 1) hlast hF
      have r2 := rdS_map (c :: cs) (j + 1) hlast
      rw [k1] at r2
      have q0 : (rd_T82 ((c :: cs).map toS) (j : Int)).f0 = (o : Int) := by rw [r1]; rfl
      have q1 : (rd_T82 ((c :: cs).map toS) (j : Int)).f1 = (os : Int) := by rw [r1]; rfl
      have q2 : (rd_T82 ((c :: cs).map toS) ((j + 1 : Nat) : Int)).f0 = (o' : Int) := by rw [r2]; rfl
      have hdj : cs.drop j = ⟨o', os', n', ns'⟩ :: cs.drop (j + 1) := by
        have hl' : j < cs.length := by rw [List.length_cons] at hlast; omega
        rw [List.drop_eq_getElem_cons hl']
        rw [List.getElem_cons_succ] at k1
        rw [k1]
      rw [hdj, ← hp, g1] at h0
      have hgap : ¬ ((o' : Int) - ((o : Int) + (os : Int)) ≤ 2 * (ctx : Int)) := by
        intro hle
        unfold nearM at h0
        rw [if_pos hle] at h0
        omega
      have e1 : ∀ _ : Unit, wrap64 (((j + 1 : Nat) : Int) - 1) = (j : Int) := fun _ => hw64 _ _ (by omega) (by rw [List.length_cons] at hl hj; omega)
      have e2 : ∀ _ : Unit, wrap64 ((o : Int) + (os : Int)) = (o : Int) + (os : Int) := fun _ => w64 (by omega) (by omega)
      have e3 : ∀ _ : Unit, wrap64 ((o' : Int) - ((o : Int) + (os : Int))) = (o' : Int) - ((o : Int) + (os : Int)) := fun _ => w64 (by omega) (by omega)
      have e4 : ∀ _ : Unit, wrap64 (2 * (ctx : Int)) = 2 * (ctx : Int) := fun _ => w64 (by omega) (by omega)
      refine Ev.step (fun f => ?_) main
      simp only [hunks_Make.l1]
      rw [e1 (), q0, q1, q2, List.length_map, e2 (), e3 (), e4 (), if_pos (by omega), if_pos (by omega), if_pos (by omega), if_pos (by omega), if_neg hgap, if_pos (by omega)]
    · refine Ev.step (fun f => ?_) main
      simp only [hunks_Make.l1]
      rw [List.length_map, if_neg (by omega), if_pos (by omega), if_pos (by omega)]
  | succ d ih =>
    intro j p hd hj hp hn
    have h0 : nearM ctx p (cs.drop j) ≠ 0 := by omega
    obtain ⟨o, os, n, ns, g1, g2, g3⟩ := fit_get j hj hF
    have r1 := rdS_map (c :: cs) j hj
    rw [g1] at r1
    have hlast : j + 1 < (c :: cs).length := by
      have := nearM_le ctx (cs.drop j) p
      rw [List.length_drop] at this
      rw [List.length_cons]
      omega
    obtain ⟨o', os', n', ns', k1, k2, k3⟩ := fit_get (j + 1) hlast hF
    have r2 := rdS_map (c :: cs) (j + 1) hlast
    rw [k1] at r2
    have q0 : (rd_T82 ((c :: cs).map toS) (j : Int)).f0 = (o : Int) := by rw [r1]; rfl
    have q1 : (rd_T82 ((c :: cs).map toS) (j : Int)).f1 = (os : Int) := by rw [r1]; rfl
    have q2 : (rd_T82 ((c :: cs).map toS) ((j + 1 : Nat) : Int)).f0 = (o' : Int) := by rw [r2]; rfl
    have hdj : cs.drop j = ⟨o', os', n', ns'⟩ :: cs.drop (j + 1) := by
      have hl' : j < cs.length := by rw [List.length_cons] at hlast; omega
      rw [List.drop_eq_getElem_cons hl']
      rw [List.getElem_cons_succ] at k1
      rw [k1]
    have hn2 := hn
    rw [hdj, ← hp, g1] at h0 hn2
    have hgap : (o' : Int) - ((o : Int) + (os : Int)) ≤ 2 * (ctx : Int) := by
      apply Decidable.byContradiction
      intro hle
      unfold nearM at h0
      rw [if_neg hle] at h0
      exact h0 rfl
    have hn3 : j + 1 + nearM ctx ⟨o', os', n', ns'⟩ (cs.drop (j + 1)) = nearM ctx c cs := by
      have e : nearM ctx ⟨o, os, n, ns⟩ (⟨o', os', n', ns'⟩ :: cs.drop (j + 1)) = nearM ctx ⟨o', os', n', ns'⟩ (cs.drop (j + 1)) + 1 := by
        conv => lhs; unfold nearM
        exact if_pos hgap
      omega
    have e1 : ∀ _ : Unit, wrap64 (((j + 1 : Nat) : Int) - 1) = (j : Int) := fun _ => hw64 _ _ (by omega) (by rw [List.length_cons] at hl hj; omega)
    have e2 : ∀ _ : Unit, wrap64 ((o : Int) + (os : Int)) = (o : Int) + (os : Int) := fun _ => w64 (by omega) (by omega)
    have e3 : ∀ _ : Unit, wrap64 ((o' : Int) - ((o : Int) + (os : Int))) = (o' : Int) - ((o : Int) + (os : Int)) := fun _ => w64 (by omega) (by omega)
    have e4 : ∀ _ : Unit, wrap64 (2 * (ctx : Int)) = 2 * (ctx : Int) := fun _ => w64 (by omega) (by omega)
    have e5 : ∀ _ : Unit, wrap64 (((j + 1 : Nat) : Int) + 1) = ((j + 1 + 1 : Nat) : Int) := fun _ => hw64 _ _ (by omega) (by rw [List.length_cons] at hl hj; omega)
    refine Ev.step (fun f => ?_) (ih (j + 1) ⟨o', os', n', ns'⟩ (by omega) hlast k1 hn3)
    simp only [hunks_Make.l1]
    rw [e1 (), q0, q1, q2, List.length_map, e2 (), e3 (), e4 (), e5 (), if_pos (by omega), if_pos (by omega), if_pos (by omega), if_pos (by omega), if_pos hgap]
theorem make_l0 (P Q : List ByteArray) (hP : P.length ≤ 1000) (hQ : Q.length ≤ 1000) (sP : Short P) (sQ : Short Q) (ctx : Nat) (hctx : ctx ≤ 16) : ∀ (k : Nat) (l : List Ch) (fst : Bool) (a b m tot : Nat) (acc : List S26), l.length ≤ k → k ≤ 5000 → acc.length + k ≤ 10000 → GoodC P Q fst a b m l tot → St ctx a b l →
    Ev (fun f => hunks_Make.l0 f (ctx : Int) P Q acc (l.map toS)) (acc ++ (makeM P Q ctx l).map toH, 0) := by
  intro k
  induction k with
  | zero =>
    intro l fst a b m tot acc hl hk hacc hG hs
    cases l with
    | nil =>
      rw [makeM_nil, show ([] : List Hk).map toH = [] from rfl, List.append_nil]
      refine Ev.step (f := fun _ => some (acc, 0)) (fun f => ?_) (Ev.now _)
      simp only [hunks_Make.l0]
      rw [if_neg (by simp)]
    | cons c cs => simp at hl
  | succ k ih =>
    intro l fst a b m tot acc hl hk hacc hG hs
    cases l with
    | nil =>
      rw [makeM_nil, show ([] : List Hk).map toH = [] from rfl, List.append_nil]
      refine Ev.step (f := fun _ => some (acc, 0)) (fun f => ?_) (Ev.now _)
      simp only [hunks_Make.l0]
      rw [if_neg (by simp)]
    | cons c cs =>
      have hF := hG.fit
      have hng := near_gap P Q ctx cs c a hF
      obtain ⟨m', hR⟩ := hG.rest1 (nearM ctx c cs)
      have hnl := nearM_le ctx cs c
      rw [List.length_cons] at hl
      have hlen : (linesM P Q ctx (c.o.toNat - min ctx c.o.toNat) (c :: cs.take (nearM ctx c cs))).length ≤ 40000 := by
        have hG0 := hG
        obtain ⟨o, os, n, ns, rfl, h1, h2, h3, h4, h5, h6, h7, h8, h9⟩ := hG
        obtain ⟨s1, _⟩ := hG0.start hs
        have s1' : GoodC P Q true (o - min ctx o) (n - min ctx o) m ((⟨o, os, n, ns⟩ :: cs.take (nearM ctx ⟨o, os, n, ns⟩ cs)) ++ cs.drop (nearM ctx ⟨o, os, n, ns⟩ cs)) tot := by rw [List.cons_append, List.take_append_drop]; exact s1
        have hx := (hunk_lines (ctx := ctx) _ _ s1').2.2
        simp only [Int.toNat_natCast]
        omega
      have hF0 : Fit P Q 0 (c :: cs) := hF.mono (Nat.zero_le _)
      have hh := hunk_ev P Q (by omega) (by omega) sP sQ ctx hctx c (cs.take (nearM ctx c cs)) (by rw [List.length_cons, List.length_take]; omega) (by have := hF0.take (nearM ctx c cs + 1); rw [List.take_succ_cons] at this; exact this) hlen
      have cont := ih (cs.drop (nearM ctx c cs)) false _ _ m' tot (acc ++ [toH (hunkM P Q ctx c (cs.take (nearM ctx c cs)))]) (by rw [List.length_drop]; omega) (by omega) (by rw [List.length_append, List.length_singleton]; omega) hR (.inl hng)
      have main := make_l1 P Q (by omega) ctx hctx c cs hF0 (by rw [List.length_cons]; omega) acc (by omega) hh cont _ 0 c rfl (by simp) rfl (by rw [List.drop_zero, Nat.zero_add])
      rw [makeM_cons, List.map_cons]
      rw [List.append_assoc] at main
      refine Ev.step (fun f => ?_) main
      simp only [hunks_Make.l0]
      rw [if_pos (by simp only [List.length_map, List.length_cons]; omega)]
      rfl
theorem make_ev (p q : List Int) (hp : p.length ≤ 1000) (hq : q.length ≤ 1000) (ctx : Nat) (hctx : ctx ≤ 16) :
    Ev (fun f => hunks_Make.f f p q (ctx : Int)) ((makeM ((ls p).map strOfNums) ((ls q).map strOfNums) ctx (chgs ((ls p).map strOfNums) ((ls q).map strOfNums))).map toH, 0) := by
  have short : ∀ b : List Int, b.length ≤ 1000 → Short ((ls b).map strOfNums) := by
    intro b hb i
    rw [List.getD_eq_getElem?_getD, List.getElem?_map]
    by_cases hi : i < (ls b).length
    · rw [List.getElem?_eq_getElem hi]
      show (strOfNums (ls b)[i]).size ≤ _
      rw [strOfNums_size]
      have h1 := off_succ (ls b) i hi
      have h2 := off_le (ls b) (i + 1)
      rw [ls_flat] at h2
      rw [List.getD_eq_getElem?_getD, List.getElem?_eq_getElem hi] at h1
      have h3 : off (ls b) (i + 1) = off (ls b) i + (ls b)[i].length := h1
      omega
    · rw [List.getElem?_eq_none (by omega)]
      exact Nat.zero_le _
  have sP := short p hp
  have sQ := short q hq
  have cp := ls_count p
  have cq := ls_count q
  have hP : Ev (fun f => lines_Split.f f p) ((ls p).map strOfNums) := ⟨p.length + 1, fun k hk => split_eq (by omega) (by omega)⟩
  have hQ : Ev (fun f => lines_Split.f f q) ((ls q).map strOfNums) := ⟨q.length + 1, fun k hk => split_eq (by omega) (by omega)⟩
  have lP : ((ls p).map strOfNums).length ≤ 1000 := by rw [List.length_map]; omega
  have lQ : ((ls q).map strOfNums).length ≤ 1000 := by rw [List.length_map]; omega
  generalize (ls p).map strOfNums = P at *
  generalize (ls q).map strOfNums = Q at *
  have hC := changes_ev P Q (by omega) (by omega)
  have hG := chgs_good P Q lP lQ
  have hl := chgs_len P Q
  have main := make_l0 P Q lP lQ sP sQ ctx hctx (chgs P Q).length (chgs P Q) true 0 0 0 _ [] (Nat.le_refl _) (by omega) (by simp; omega) hG (.inr ⟨rfl, rfl⟩)
  rw [List.nil_append] at main
  refine Ev.congr (f := fun f => hunks_Make.j0 f p q (ctx : Int) false) (fun f => ?_) (Ev.step (fun f => ?_) (Ev.bind (f := fun f t => (lines_Split.f f q).bind fun t2 => (hunks_Changes.f f t t2).bind fun t3 => hunks_Make.l0 f (ctx : Int) t t2 [] t3) hP (Ev.bind (f := fun f t2 => (hunks_Changes.f f P t2).bind fun t3 => hunks_Make.l0 f (ctx : Int) P t2 [] t3) hQ (Ev.bind (f := fun f t3 => hunks_Make.l0 f (ctx : Int) P Q [] t3) hC main))))
  · unfold hunks_Make.f
    rw [if_neg (by omega), decide_eq_false (by omega)]
  · simp only [hunks_Make.j0]
    rw [if_neg (by simp)]
end Go.Proofs.YtjabpbnlpljlkaaDoor.Pure
end
section
/- The printed Check is the plain one. -/
namespace Go.Proofs.YtjabpbnlpljlkaaDoor.Pure
open Go.RowKit Go.Proofs.YtjabpbnlpljlkaaDoor.PShowMade Go.Proofs.YtjabpbnlpljlkaaDoorW.PrintWords Go.Proofs.YtjabpbnlpljlkaaDoorW.PrintLast Go.Proofs.YtjabpbnlpljlkaaDoor.X
set_option linter.unusedVariables false
set_option linter.unusedSimpArgs false
theorem w64' {x : Int} (h0 : -9223372036854775808 ≤ x) (h1 : x < 9223372036854775808) : wrap64 x = x := by unfold wrap64; omega
abbrev PLn := S29
theorem rd_get (l : List PLn) (i : Nat) (h : i < l.length) : rd_T29 l (i : Int) = l[i] := by
  unfold rd_T29
  rw [Int.toNat_natCast, List.getD_eq_getElem?_getD, List.getElem?_eq_getElem h]
  rfl
def lastM (sg : Int) (l : List PLn) : Bool := l.all fun x => !(decide (x.f0 = 32) || decide (sg = 32) || decide (x.f0 = sg))
def hasNl (s : ByteArray) : Bool := (bytesOf s).any fun c => decide (c = 10)
def scanM : List PLn → Int → Int → Sum Int (Int × Int)
  | [], o, n => .inr (o, n)
  | x :: t, o, n => if hasNl x.f1 = true then .inl 14 else if x.f0 = 32 then scanM t (o + 1) (n + 1) else if x.f0 = 43 then scanM t o (n + 1) else if x.f0 = 45 then scanM t (o + 1) n else .inl 7
def bareM : List PLn → Int
  | [] => 0
  | x :: t => if x.f2 = true then (if lastM x.f0 t = true then bareM t else 15) else bareM t
def checkM (a b c d : Int) (l : List PLn) : Int := match scanM l 0 0 with
  | .inl e => e
  | .inr (o, n) => if a < 0 ∨ c < 0 ∨ a > 65536 ∨ c > 65536 then 2 else if o ≠ b ∨ n ≠ d ∨ o + n = 0 then 13 else bareM l
theorem scanM_range : ∀ (l : List PLn) (o n : Int) {o' n' : Int}, scanM l o n = .inr (o', n') → o ≤ o' ∧ n ≤ n' ∧ o' ≤ o + l.length ∧ n' ≤ n + l.length ∧ (l ≠ [] → o + n < o' + n')
  | [], o, n, o', n', h => by
    unfold scanM at h
    injection h with h
    injection h with h1 h2
    subst h1 h2
    simp
  | x :: t, o, n, o', n', h => by
    unfold scanM at h
    simp only [List.length_cons]
    split at h
    · cases h
    split at h
    · have := scanM_range t _ _ h
      refine ⟨by omega, by omega, by omega, by omega, fun _ => by omega⟩
    split at h
    · have := scanM_range t _ _ h
      refine ⟨by omega, by omega, by omega, by omega, fun _ => by omega⟩
    split at h
    · have := scanM_range t _ _ h
      refine ⟨by omega, by omega, by omega, by omega, fun _ => by omega⟩
    · cases h
theorem index_nl (s : ByteArray) : (Lib.indexByte s.data.toList (10 : Int).toNat.toUInt8 ≥ 0) ↔ hasNl s = true := by
  unfold hasNl bytesOf
  rw [List.any_map]
  generalize s.data.toList = l
  induction l with
  | nil => simp [Lib.indexByte]
  | cons b l ih =>
    have hb : (b == (10 : Int).toNat.toUInt8) = decide (((b.toNat : Nat) : Int) = 10) := by
      rw [Bool.eq_iff_iff, beq_iff_eq, decide_eq_true_eq, ← UInt8.toNat_inj]
      show b.toNat = 10 ↔ _
      omega
    have hge := Lib.indexByte_ge l (10 : Int).toNat.toUInt8
    unfold Lib.indexByte
    rw [hb, List.any_cons]
    show _ ↔ (decide (((b.toNat : Nat) : Int) = 10) || l.any _) = true
    by_cases h : ((b.toNat : Nat) : Int) = 10
    · simp [h]
    · rw [decide_eq_false h]
      simp only [Bool.false_eq_true, if_false, Bool.false_or]
      rw [← ih]
      by_cases h1 : Lib.indexByte l (10 : Int).toNat.toUInt8 = -1
      · rw [h1]; simp
      · have : (Lib.indexByte l (10 : Int).toNat.toUInt8 == -1) = false := beq_eq_false_iff_ne.mpr h1
        rw [this]
        simp only [Bool.false_eq_true, if_false]
        omega
theorem last_ev (sg : Int) (l : List PLn) (hl : l.length ≤ 1000) : ∀ (e i : Nat), l.length - i = e → i ≤ l.length → Ev (fun k => show_last.l0 k sg l (l.length : Int) (i : Int)) (lastM sg (l.drop i)) := by
  intro e
  induction e with
  | zero =>
    intro i hd hi
    rw [List.drop_of_length_le (by omega)]
    refine Ev.step (f := fun _ => some true) (fun k => ?_) (Ev.now _)
    simp only [show_last.l0]
    rw [if_neg (by omega)]
  | succ e ih =>
    intro i hd hi
    have hlt : i < l.length := by omega
    have ew : wrap64 ((i : Int) + 1) = ((i + 1 : Nat) : Int) := by rw [w64' (by omega) (by omega)]; omega
    have hx := rd_get l i hlt
    rw [List.drop_eq_getElem_cons hlt]
    show Ev _ ((!(decide (l[i].f0 = 32) || decide (sg = 32) || decide (l[i].f0 = sg))) && lastM sg (l.drop (i + 1)))
    by_cases h1 : l[i].f0 = 32
    · rw [decide_eq_true h1]
      simp only [Bool.true_or, Bool.not_true, Bool.false_and]
      refine Ev.step (f := fun _ => some false) (fun k => ?_) (Ev.now _)
      simp only [show_last.l0, hx]
      rw [if_pos (by omega), if_pos (by omega), if_pos (by omega), if_pos h1]
    by_cases h2 : sg = 32
    · rw [decide_eq_true h2]
      simp only [Bool.or_true, Bool.true_or, Bool.not_true, Bool.false_and]
      refine Ev.step (f := fun _ => some false) (fun k => ?_) (Ev.now _)
      simp only [show_last.l0, hx]
      rw [if_pos (by omega), if_pos (by omega), if_pos (by omega), if_neg h1, if_pos h2]
    by_cases h3 : l[i].f0 = sg
    · rw [decide_eq_true h3]
      simp only [Bool.or_true, Bool.not_true, Bool.false_and]
      refine Ev.step (f := fun _ => some false) (fun k => ?_) (Ev.now _)
      simp only [show_last.l0, hx]
      rw [if_pos (by omega), if_pos (by omega), if_pos (by omega), if_neg h1, if_neg h2, if_pos h3]
    · rw [decide_eq_false h1, decide_eq_false h2, decide_eq_false h3]
      simp only [Bool.or_false, Bool.not_false, Bool.true_and]
      refine Ev.step (fun k => ?_) (ih (i + 1) (by omega) (by omega))
      simp only [show_last.l0, hx]
      rw [if_pos (by omega), if_pos (by omega), if_pos (by omega), if_neg h1, if_neg h2, if_neg h3, ew]
section
variable (a b c d : Int) (l : List PLn) (hl : l.length ≤ 1000)
include hl
theorem check_l1 : ∀ (e i : Nat), l.length - i = e → i ≤ l.length → Ev (fun k => show_Check.l1 k l (l.length : Int) (i : Int) a b c d l) (bareM (l.drop i)) := by
  intro e
  induction e with
  | zero =>
    intro i hd hi
    rw [List.drop_of_length_le (by omega)]
    refine Ev.step (f := fun _ => some 0) (fun k => ?_) (Ev.now _)
    simp only [show_Check.l1]
    rw [if_neg (by omega)]
  | succ e ih =>
    intro i hd hi
    have hlt : i < l.length := by omega
    have ew : wrap64 ((i : Int) + 1) = ((i + 1 : Nat) : Int) := by rw [w64' (by omega) (by omega)]; omega
    have hx := rd_get l i hlt
    rw [List.drop_eq_getElem_cons hlt]
    show Ev _ (if l[i].f2 = true then (if lastM l[i].f0 (l.drop (i + 1)) = true then bareM (l.drop (i + 1)) else 15) else bareM (l.drop (i + 1)))
    by_cases h2 : l[i].f2 = true
    · rw [if_pos h2]
      have hla := last_ev l[i].f0 (l.drop (i + 1)) (by rw [List.length_drop]; omega) _ 0 rfl (by omega)
      rw [List.drop_zero] at hla
      refine Ev.step (f := fun k => (show_last.f k (l.drop (i + 1)) l[i].f0).bind fun t => if t = true then show_Check.l1 k l (l.length : Int) ((i + 1 : Nat) : Int) a b c d l else some 15) (fun k => ?_) (Ev.bind hla ?_)
      · simp only [show_Check.l1, hx, ew, Int.toNat_natCast]
        rw [if_pos (by omega), if_pos (by omega), if_pos (by omega), if_pos h2, if_pos (by omega), if_pos (by omega)]
      · by_cases h3 : lastM l[i].f0 (l.drop (i + 1)) = true
        · simp only [if_pos h3]
          exact ih (i + 1) (by omega) (by omega)
        · simp only [if_neg h3]
          exact Ev.now _
    · rw [if_neg h2]
      refine Ev.step (fun k => ?_) (ih (i + 1) (by omega) (by omega))
      simp only [show_Check.l1, hx, ew]
      rw [if_pos (by omega), if_pos (by omega), if_pos (by omega), if_neg h2]
def finM (o n : Int) : Int := if a < 0 ∨ c < 0 ∨ a > 65536 ∨ c > 65536 then 2 else if o ≠ b ∨ n ≠ d ∨ o + n = 0 then 13 else bareM l
theorem check_end (o n : Int) (ho : 0 ≤ o ∧ o ≤ 1000) (hn : 0 ≤ n ∧ n ≤ 1000) : Ev (fun k => show_Check.l0 k o n l (l.length : Int) (l.length : Int) a b c d l) (finM a b c d l o n) := by
  have j1 : ∀ t : Bool, (t = true ↔ (a < 0 ∨ c < 0 ∨ a > 65536 ∨ c > 65536)) → Ev (fun k => show_Check.j1 k o n t a b c d l) (finM a b c d l o n) := by
    intro t ht
    unfold finM
    cases t with
    | true =>
      rw [if_pos (ht.1 rfl)]
      refine Ev.step (f := fun _ => some 2) (fun k => ?_) (Ev.now _)
      simp only [show_Check.j1]
      rw [if_pos trivial]
    | false =>
      rw [if_neg (fun h => by have := ht.2 h; cases this)]
      have e1 : wrap64 (o + n) = o + n := w64' (by omega) (by omega)
      by_cases g1 : o = b
      · by_cases g2 : n = d
        · by_cases g3 : o + n = 0
          · rw [if_pos (.inr (.inr g3))]
            refine Ev.step (f := fun _ => some 13) (fun k => ?_) (Ev.now _)
            simp only [show_Check.j1, e1]
            rw [if_neg (by simp), if_pos g1, if_pos g2, if_pos g3]
          · rw [if_neg (by omega)]
            have h0 := check_l1 a b c d l hl _ 0 rfl (by omega)
            rw [List.drop_zero] at h0
            refine Ev.step (fun k => ?_) h0
            simp only [show_Check.j1, e1]
            rw [if_neg (by simp), if_pos g1, if_pos g2, if_neg g3]
            rfl
        · rw [if_pos (.inr (.inl g2))]
          refine Ev.step (f := fun _ => some 13) (fun k => ?_) (Ev.now _)
          simp only [show_Check.j1]
          rw [if_neg (by simp), if_pos g1, if_neg g2]
      · rw [if_pos (.inl g1)]
        refine Ev.step (f := fun _ => some 13) (fun k => ?_) (Ev.now _)
        simp only [show_Check.j1]
        rw [if_neg (by simp), if_neg g1]
  by_cases q1 : a < 0
  · refine Ev.step (fun k => ?_) (j1 true (by simp [q1]))
    simp only [show_Check.l0]
    rw [if_neg (by omega), if_pos q1]
  by_cases q2 : c < 0
  · refine Ev.step (fun k => ?_) (j1 true (by simp [q2]))
    simp only [show_Check.l0]
    rw [if_neg (by omega), if_neg q1, if_pos q2]
  by_cases q3 : a > 65536
  · refine Ev.step (fun k => ?_) (j1 true (by simp; omega))
    simp only [show_Check.l0]
    rw [if_neg (by omega), if_neg q1, if_neg q2, if_pos q3]
  · refine Ev.step (fun k => ?_) (j1 (decide (c > 65536)) (by simp; omega))
    simp only [show_Check.l0]
    rw [if_neg (by omega), if_neg q1, if_neg q2, if_neg q3]
def restM (t : List PLn) (o n : Int) : Int := match scanM t o n with
  | .inl e => e
  | .inr (o, n) => finM a b c d l o n
theorem check_l0 : ∀ (e i : Nat) (o n : Int), l.length - i = e → i ≤ l.length → 0 ≤ o ∧ o ≤ i → 0 ≤ n ∧ n ≤ i → Ev (fun k => show_Check.l0 k o n l (l.length : Int) (i : Int) a b c d l) (restM a b c d l (l.drop i) o n) := by
  intro e
  induction e with
  | zero =>
    intro i o n hd hi ho hn
    have : i = l.length := by omega
    subst this
    rw [List.drop_of_length_le (Nat.le_refl _)]
    exact check_end a b c d l hl o n (by omega) (by omega)
  | succ e ih =>
    intro i o n hd hi ho hn
    have hlt : i < l.length := by omega
    have ew : wrap64 ((i : Int) + 1) = ((i + 1 : Nat) : Int) := by rw [w64' (by omega) (by omega)]; omega
    have eo : wrap64 (o + 1) = o + 1 := w64' (by omega) (by omega)
    have en : wrap64 (n + 1) = n + 1 := w64' (by omega) (by omega)
    have hx := rd_get l i hlt
    have hnl := index_nl l[i].f1
    rw [List.drop_eq_getElem_cons hlt]
    generalize hz : Lib.indexByte l[i].f1.data.toList (10 : Int).toNat.toUInt8 = z at hnl
    have hidx : strings_IndexByte.f l[i].f1 10 = some z := by unfold strings_IndexByte.f; rw [hz]
    unfold restM scanM
    by_cases h0 : hasNl l[i].f1 = true
    · rw [if_pos h0]
      refine Ev.step (f := fun _ => some 14) (fun k => ?_) (Ev.now _)
      simp only [show_Check.l0, hx, hidx, Option.bind_some]
      rw [if_pos (by omega), if_pos (by omega), if_pos (by omega), if_pos (hnl.2 h0)]
    rw [if_neg h0]
    have hz0 : ¬ z ≥ 0 := fun h => h0 (hnl.1 h)
    by_cases h1 : l[i].f0 = 32
    · rw [if_pos h1]
      refine Ev.step (fun k => ?_) (ih (i + 1) (o + 1) (n + 1) (by omega) (by omega) (by omega) (by omega))
      simp only [show_Check.l0, hx, hidx, Option.bind_some, eo, en, ew]
      rw [if_pos (by omega), if_pos (by omega), if_pos (by omega), if_neg hz0, if_pos h1]
    rw [if_neg h1]
    by_cases h2 : l[i].f0 = 43
    · rw [if_pos h2]
      refine Ev.step (fun k => ?_) (ih (i + 1) o (n + 1) (by omega) (by omega) (by omega) (by omega))
      simp only [show_Check.l0, hx, hidx, Option.bind_some, eo, en, ew]
      rw [if_pos (by omega), if_pos (by omega), if_pos (by omega), if_neg hz0, if_neg h1, if_pos h2]
    rw [if_neg h2]
    by_cases h3 : l[i].f0 = 45
    · rw [if_pos h3]
      refine Ev.step (fun k => ?_) (ih (i + 1) (o + 1) n (by omega) (by omega) (by omega) (by omega))
      simp only [show_Check.l0, hx, hidx, Option.bind_some, eo, en, ew]
      rw [if_pos (by omega), if_pos (by omega), if_pos (by omega), if_neg hz0, if_neg h1, if_neg h2, if_pos h3]
    · rw [if_neg h3]
      refine Ev.step (f := fun _ => some 7) (fun k => ?_) (Ev.now _)
      simp only [show_Check.l0, hx, hidx, Option.bind_some]
      rw [if_pos (by omega), if_pos (by omega), if_pos (by omega), if_neg hz0, if_neg h1, if_neg h2, if_neg h3]
theorem check_ev : Ev (fun k => show_Check.f k a b c d l) (checkM a b c d l) := by
  have h := check_l0 a b c d l hl _ 0 0 0 rfl (by omega) (by omega) (by omega)
  rw [List.drop_zero] at h
  exact h
end
end Go.Proofs.YtjabpbnlpljlkaaDoor.Pure
end
section
/- The printed Print is the plain one, of hunks that are not too many. -/
namespace Go.Proofs.YtjabpbnlpljlkaaDoor.Pure
open Go.RowKit Go.Proofs.YtjabpbnlpljlkaaDoor.PShowMade Go.Proofs.YtjabpbnlpljlkaaDoorW.PrintWords Go.Proofs.YtjabpbnlpljlkaaDoorW.PrintLast Go.Proofs.YtjabpbnlpljlkaaDoor.X
set_option linter.unusedVariables false
set_option linter.unusedSimpArgs false
def numM (n : Nat) : ByteArray := ⟨(Lib.decDigits n).toArray⟩
theorem num_small {n : Nat} (h : n < 10) : numM n = ⟨#[UInt8.ofNat (48 + n % 10)]⟩ := by
  unfold numM
  rw [Lib.decDigits, dif_pos h, Nat.mod_eq_of_lt h]
theorem num_big {n : Nat} (h : ¬ n < 10) : numM n = numM (n / 10) ++ ⟨#[UInt8.ofNat (48 + n % 10)]⟩ := by
  unfold numM
  rw [Lib.decDigits, dif_neg h]
  apply ByteArray.ext
  simp
theorem one_size (b : UInt8) : (⟨#[b]⟩ : ByteArray).size = 1 := rfl
theorem num_lt : ∀ (d n : Nat), n < 10 ^ d → 1 ≤ d → (numM n).size ≤ d
  | 0, n, h, h1 => by omega
  | d + 1, n, h, h1 => by
    by_cases h10 : n < 10
    · rw [num_small h10, one_size]; omega
    · rw [num_big h10, ByteArray.size_append, one_size]
      have hd : 1 ≤ d := by
        rcases Nat.eq_zero_or_pos d with rfl | hd
        · simp at h; omega
        · exact hd
      have := num_lt d (n / 10) (by rw [Nat.pow_succ] at h; omega) hd
      omega
theorem num_size {n : Nat} (h : n ≤ 70000) : (numM n).size ≤ 5 := num_lt 5 n (by omega) (by omega)
theorem itoa_eq {n : Nat} (h : n ≤ 70000) : strconv_Itoa.f (n : Int) = some (numM n) := by
  show Go.Proofs.YtjabpbnlpljlkaaDoor.H.itoaG (n : Int) = _
  unfold Go.Proofs.YtjabpbnlpljlkaaDoor.H.itoaG
  rw [if_pos (by omega), if_pos (by omega), Lib.itoa_nonneg]
  rfl
def fromM (a b : Nat) : Nat := if b > 0 then a + 1 else a
def sideM (sg : ByteArray) (a b : Nat) : ByteArray := ((sg ++ numM (fromM a b)) ++ (⟨#[44]⟩ : ByteArray)) ++ numM b
theorem from_le {a b : Nat} (ha : a ≤ 65536) : fromM a b ≤ 70000 := by unfold fromM; split <;> omega
theorem side_eq (sg : ByteArray) {a b : Nat} (hsg : sg.size ≤ 10) (ha : a ≤ 65536) (hb : b ≤ 1000) : show_side.f sg (a : Int) (b : Int) = some (sideM sg a b) := by
  have s1 := num_size (from_le (b := b) ha)
  have s2 := num_size (n := b) (by omega)
  have eb := itoa_eq (n := b) (by omega)
  unfold show_side.f sideM
  by_cases h : b > 0
  · have ef : fromM a b = a + 1 := by unfold fromM; rw [if_pos h]
    rw [ef] at s1 ⊢
    have ew : wrap64 ((a : Int) + 1) = ((a + 1 : Nat) : Int) := by rw [w64' (by omega) (by omega)]; omega
    rw [if_pos (by omega), ew, itoa_eq (by omega), eb]
    simp only [Option.bind_some, ByteArray.size_append, one_size]
    rw [if_pos (by omega), if_pos (by omega), if_pos (by omega)]
  · have ef : fromM a b = a := by unfold fromM; rw [if_neg h]
    rw [ef] at s1 ⊢
    rw [if_neg (by omega), itoa_eq (by omega), eb]
    simp only [Option.bind_some, ByteArray.size_append, one_size]
    rw [if_pos (by omega), if_pos (by omega), if_pos (by omega)]
def headM (a b c d : Nat) : ByteArray := ((((⟨#[64, 64, 32]⟩ : ByteArray) ++ sideM ⟨#[45]⟩ a b) ++ (⟨#[32]⟩ : ByteArray)) ++ sideM ⟨#[43]⟩ c d) ++ (⟨#[32, 64, 64, 10]⟩ : ByteArray)
theorem side_size (sg : ByteArray) {a b : Nat} (ha : a ≤ 65536) (hb : b ≤ 1000) : (sideM sg a b).size ≤ sg.size + 11 := by
  have s1 := num_size (from_le (b := b) ha)
  have s2 := num_size (n := b) (by omega)
  unfold sideM
  simp only [ByteArray.size_append, one_size]
  omega
theorem sz3 : (⟨#[64, 64, 32]⟩ : ByteArray).size = 3 := rfl
theorem sz4 : (⟨#[32, 64, 64, 10]⟩ : ByteArray).size = 4 := rfl
theorem head_size {a b c d : Nat} (ha : a ≤ 65536) (hb : b ≤ 1000) (hc : c ≤ 65536) (hd : d ≤ 1000) : (headM a b c d).size ≤ 100 := by
  have s1 := side_size ⟨#[45]⟩ ha hb
  have s2 := side_size ⟨#[43]⟩ hc hd
  simp only [one_size] at s1 s2
  unfold headM
  simp only [ByteArray.size_append, one_size, sz3, sz4]
  omega
theorem head_eq {a b c d : Nat} (ha : a ≤ 65536) (hb : b ≤ 1000) (hc : c ≤ 65536) (hd : d ≤ 1000) (l : List PLn) : show_Head.f (a : Int) (b : Int) (c : Int) (d : Int) l = some (headM a b c d) := by
  have s1 := side_size ⟨#[45]⟩ ha hb
  have s2 := side_size ⟨#[43]⟩ hc hd
  simp only [one_size] at s1 s2
  unfold show_Head.f headM
  rw [side_eq _ (by rw [one_size]; omega) ha hb, side_eq _ (by rw [one_size]; omega) hc hd]
  simp only [Option.bind_some, ByteArray.size_append, one_size, sz3]
  rw [if_pos (by omega), if_pos (by omega), if_pos (by omega), if_pos (by omega)]
theorem check0 {a b c d : Int} {l : List PLn} (hl : l.length ≤ 1000) (h : checkM a b c d l = 0) : ∃ a' b' c' d' : Nat, a = a' ∧ b = b' ∧ c = c' ∧ d = d' ∧ a' ≤ 65536 ∧ b' ≤ 1000 ∧ c' ≤ 65536 ∧ d' ≤ 1000 := by
  unfold checkM at h
  cases hs : scanM l 0 0 with
  | inl e =>
    exfalso
    rw [hs] at h
    simp only at h
    subst h
    have : ∀ (l : List PLn) (o n : Int), scanM l o n ≠ .inl 0 := by
      intro l
      induction l with
      | nil => intro o n h; unfold scanM at h; cases h
      | cons x t ih =>
        intro o n h
        unfold scanM at h
        split at h
        · injection h with h; omega
        split at h
        · exact ih _ _ h
        split at h
        · exact ih _ _ h
        split at h
        · exact ih _ _ h
        · injection h with h; omega
    exact this _ _ _ hs
  | inr p =>
    obtain ⟨o, n⟩ := p
    have hr := scanM_range l 0 0 hs
    rw [hs] at h
    simp only at h
    split at h
    · omega
    split at h
    · omega
    · exact ⟨a.toNat, b.toNat, c.toNat, d.toNat, by omega, by omega, by omega, by omega, by omega, by omega, by omega, by omega⟩
def bareT : ByteArray := ⟨#[92, 32, 78, 111, 32, 110, 101, 119, 108, 105, 110, 101, 32, 97, 116, 32, 101, 110, 100, 32, 111, 102, 32, 102, 105, 108, 101, 10]⟩
theorem bare_size : bareT.size = 28 := rfl
def plineM (o : ByteArray) (x : PLn) : ByteArray := if x.f2 = true then (o ++ ((strOfNums [x.f0] ++ x.f1) ++ (⟨#[10]⟩ : ByteArray))) ++ bareT else o ++ ((strOfNums [x.f0] ++ x.f1) ++ (⟨#[10]⟩ : ByteArray))
def plinesM (o : ByteArray) (l : List PLn) : ByteArray := l.foldl plineM o
theorem son_size (v : Int) : (strOfNums [v]).size = 1 := rfl
theorem pline_size (o : ByteArray) (x : PLn) : (plineM o x).size ≤ o.size + x.f1.size + 30 := by
  unfold plineM
  split <;> simp only [ByteArray.size_append, one_size, son_size, bare_size] <;> omega
theorem plines_size : ∀ (l : List PLn) (o : ByteArray), (∀ x ∈ l, x.f1.size ≤ 1000) → (plinesM o l).size ≤ o.size + l.length * 1030
  | [], o, _ => by simp [plinesM]
  | x :: t, o, h => by
    have h1 := pline_size o x
    have h2 := h x (by simp)
    have h3 := plines_size t (plineM o x) (fun y hy => h y (by simp [hy]))
    show (plinesM (plineM o x) t).size ≤ _
    simp only [List.length_cons]
    omega
abbrev PHk := S26
theorem rdH_get (l : List PHk) (i : Nat) (h : i < l.length) : rd_T26 l (i : Int) = l[i] := by
  unfold rd_T26
  rw [Int.toNat_natCast, List.getD_eq_getElem?_getD, List.getElem?_eq_getElem h]
  rfl
def PGood (h : PHk) : Prop := h.f4.length ≤ 1000 ∧ ∀ x ∈ h.f4, x.f1.size ≤ 1000
def printM : ByteArray → List PHk → ByteArray × Int
  | o, [] => (o, 0)
  | o, h :: t => if checkM h.f0 h.f1 h.f2 h.f3 h.f4 = 0 then printM (plinesM (o ++ headM h.f0.toNat h.f1.toNat h.f2.toNat h.f3.toNat) h.f4) t else (⟨#[]⟩, checkM h.f0 h.f1 h.f2 h.f3 h.f4)
section
variable (hs : List PHk) (hn : hs.length ≤ 1000) (hg : ∀ h ∈ hs, PGood h)
include hn hg
theorem p_l1 {i : Nat} (hi : i < hs.length) {R : ByteArray × Int} : ∀ (e j : Nat) (o : ByteArray), hs[i].f4.length - j = e → j ≤ hs[i].f4.length → o.size + e * 1030 ≤ 4000000000 →
    Ev (fun k => show_Print.l0 k (plinesM o (hs[i].f4.drop j)) hs (hs.length : Int) ((i + 1 : Nat) : Int)) R → Ev (fun k => show_Print.l1 k o hs (hs.length : Int) (i : Int) hs[i].f4 (hs[i].f4.length : Int) (j : Int)) R := by
  have hG := hg _ (List.getElem_mem hi)
  have hG1 := hG.1
  intro e
  induction e with
  | zero =>
    intro j o hd hj hz h
    rw [List.drop_of_length_le (by omega)] at h
    have ew : wrap64 ((i : Int) + 1) = ((i + 1 : Nat) : Int) := by rw [w64' (by omega) (by omega)]; omega
    refine Ev.step (fun k => ?_) h
    simp only [show_Print.l1]
    rw [if_neg (by omega), ew]
    rfl
  | succ e ih =>
    intro j o hd hj hz h
    have hlt : j < hs[i].f4.length := by omega
    have ew : wrap64 ((j : Int) + 1) = ((j + 1 : Nat) : Int) := by rw [w64' (by omega) (by omega)]; omega
    have hx := rd_get hs[i].f4 j hlt
    have hxs := hG.2 _ (List.getElem_mem hlt)
    rw [List.drop_eq_getElem_cons hlt] at h
    have hls := pline_size o hs[i].f4[j]
    have hnext := ih (j + 1) (plineM o hs[i].f4[j]) (by omega) (by omega) (by omega) h
    clear h ih
    refine Ev.step (fun k => ?_) hnext
    simp only [show_Print.l1, Option.bind_some, hx, ew]
    clear hnext hls hx
    generalize hs[i].f4[j] = x at *
    rw [if_pos (by omega), if_pos (by omega), if_pos (by omega), if_pos (by rw [son_size]; omega), if_pos (by simp only [ByteArray.size_append, son_size]; omega), if_pos (by simp only [ByteArray.size_append, son_size, one_size]; omega)]
    unfold plineM
    by_cases hb : x.f2 = true
    · rw [if_pos hb, if_pos hb, if_pos (by simp only [ByteArray.size_append, son_size, one_size]; omega)]
      rfl
    · rw [if_neg hb, if_neg hb]
theorem p_l0 : ∀ (e i : Nat) (o : ByteArray), hs.length - i = e → i ≤ hs.length → o.size + e * 1100000 ≤ 2000000000 → Ev (fun k => show_Print.l0 k o hs (hs.length : Int) (i : Int)) (printM o (hs.drop i)) := by
  intro e
  induction e with
  | zero =>
    intro i o hd hi hz
    rw [List.drop_of_length_le (by omega)]
    refine Ev.step (f := fun _ => some (o, 0)) (fun k => ?_) (Ev.now _)
    simp only [show_Print.l0]
    rw [if_neg (by omega)]
  | succ e ih =>
    intro i o hd hi hz
    have hlt : i < hs.length := by omega
    have hG := hg _ (List.getElem_mem hlt)
    have hG1 := hG.1
    rw [List.drop_eq_getElem_cons hlt]
    unfold printM
    have hx := rdH_get hs i hlt
    refine Ev.step (f := fun k => (show_Check.f k hs[i].f0 hs[i].f1 hs[i].f2 hs[i].f3 hs[i].f4).bind fun t => (if t = 0 then ((show_Head.f hs[i].f0 hs[i].f1 hs[i].f2 hs[i].f3 hs[i].f4).bind fun u => (if o.size + u.size ≤ 140737488355328 then (show_Print.l1 k (o ++ u) hs (hs.length : Int) (i : Int) hs[i].f4 (hs[i].f4.length : Int) ((0 : Nat) : Int)) else (none))) else (some ((⟨#[]⟩ : ByteArray), t)))) (fun k => ?_) (Ev.bind (check_ev hs[i].f0 hs[i].f1 hs[i].f2 hs[i].f3 hs[i].f4 (by omega)) ?_)
    · simp only [show_Print.l0, hx]
      rw [if_pos (by omega), if_pos (by omega), if_pos (by omega)]
      rfl
    · by_cases h0 : checkM hs[i].f0 hs[i].f1 hs[i].f2 hs[i].f3 hs[i].f4 = 0
      · obtain ⟨a, b, c, d, ea, eb, ec, ed, ha, hb, hc, hd'⟩ := check0 (by omega) h0
        have hh : show_Head.f hs[i].f0 hs[i].f1 hs[i].f2 hs[i].f3 hs[i].f4 = some (headM hs[i].f0.toNat hs[i].f1.toNat hs[i].f2.toNat hs[i].f3.toNat) := by
          rw [ea, eb, ec, ed]
          exact head_eq ha hb hc hd' _
        have hz2 : (headM hs[i].f0.toNat hs[i].f1.toNat hs[i].f2.toNat hs[i].f3.toNat).size ≤ 100 := by
          rw [ea, eb, ec, ed]
          exact head_size ha hb hc hd'
        have hz3 : (o ++ headM hs[i].f0.toNat hs[i].f1.toNat hs[i].f2.toNat hs[i].f3.toNat).size ≤ o.size + 100 := by rw [ByteArray.size_append]; omega
        simp only [if_pos h0, hh, Option.bind_some]
        clear hh ea eb ec ed
        generalize headM hs[i].f0.toNat hs[i].f1.toNat hs[i].f2.toNat hs[i].f3.toNat = u at *
        simp only [if_pos (show o.size + u.size ≤ 140737488355328 by omega)]
        have hl := plines_size hs[i].f4 (o ++ u) hG.2
        refine p_l1 hs hn hg hlt _ 0 (o ++ u) rfl (by omega) (by omega) ?_
        rw [List.drop_zero]
        exact ih (i + 1) _ (by omega) (by omega) (by omega)
      · simp only [if_neg h0]
        exact Ev.now _
end
end Go.Proofs.YtjabpbnlpljlkaaDoor.Pure
end
section
/- Hunks that are a path are right for Check; what Print prints of them: as many newlines as rows. -/
namespace Go.Proofs.YtjabpbnlpljlkaaDoor.Pure
open Go.RowKit Go.Proofs.YtjabpbnlpljlkaaDoor.PShowMade Go.Proofs.YtjabpbnlpljlkaaDoorW.PrintWords Go.Proofs.YtjabpbnlpljlkaaDoorW.PrintLast Go.Proofs.YtjabpbnlpljlkaaDoor.X
open Go.Proofs.YtjabpbnlpljlkaaDoor.M
set_option linter.unusedVariables false
set_option linter.unusedSimpArgs false
theorem hasNl_no {s : ByteArray} (h : NoNl s) : ¬ hasNl s = true := by
  unfold hasNl
  rw [List.any_eq_true]
  rintro ⟨x, hx, e⟩
  exact h x hx (by simpa using e)
theorem scan_path : ∀ (l : List Ln) (o n : Int), (∀ x ∈ l, x.sg = 32 ∨ x.sg = 45 ∨ x.sg = 43) → (∀ x ∈ l, NoNl x.tx) → scanM (l.map toL) o n = .inr (o + ((l.length : Int) - (cntM 43 l : Int)), n + ((l.length : Int) - (cntM 45 l : Int)))
  | [], o, n, _, _ => by
    unfold scanM cntM
    simp
  | x :: t, o, n, hs, hn => by
    have ih := fun o n => scan_path t o n (fun y hy => hs y (by simp [hy])) (fun y hy => hn y (by simp [hy]))
    rw [List.map_cons]
    unfold scanM
    have e0 : (toL x).f0 = x.sg := rfl
    have e1 : (toL x).f1 = x.tx := rfl
    rw [e0, e1, if_neg (hasNl_no (hn x (by simp))), cntM_cons, cntM_cons, List.length_cons]
    rcases hs x (by simp) with h | h | h
    · rw [if_pos h, if_neg (by omega), if_neg (by omega), ih]
      congr 2 <;> omega
    · rw [if_neg (by omega), if_neg (by omega), if_pos h, if_neg (by omega), if_pos h, ih]
      congr 2 <;> omega
    · rw [if_neg (by omega), if_pos h, if_pos h, if_neg (by omega), ih]
      congr 2 <;> omega
theorem last_map (sg : Int) (l : List Ln) : lastM sg (l.map toL) = lastL sg l := by
  unfold lastM lastL
  rw [List.all_map]
  rfl
theorem bare_map : ∀ (l : List Ln), bareOk l → bareM (l.map toL) = 0
  | [], _ => rfl
  | x :: t, ⟨h1, h2⟩ => by
    have ih := bare_map t h2
    rw [List.map_cons]
    unfold bareM
    rw [last_map, ih]
    by_cases hb : (toL x).f2 = true
    · rw [if_pos hb, if_pos (show lastL (toL x).f0 t = true from h1 hb)]
    · rw [if_neg hb]
section
variable {P Q : List ByteArray} (cP : CleanL P) (cQ : CleanL Q) (uP : Cut P) (uQ : Cut Q)
include cP cQ uP uQ
theorem check_path {o n o' n' : Nat} {ls : List Ln} (hp : Path P Q o n ls o' n') (hne : ls ≠ []) (ho : o ≤ 65536) (hn : n ≤ 65536) : checkM o ((o' : Int) - o) n ((n' : Int) - n) (ls.map toL) = 0 := by
  have hc := path_counts hp
  have hb := cnt_both ls
  have hl : 1 ≤ ls.length := by
    cases ls with
    | nil => exact absurd rfl hne
    | cons x t => simp
  unfold checkM
  rw [scan_path ls 0 0 (path_sg hp) (path_all (fun x => NoNl x.tx) cP cQ hp)]
  simp only
  rw [if_neg (by omega), if_neg (by omega)]
  exact bare_map ls (path_bare uP uQ hp)
end
theorem nls_num (n : Nat) : nls (numM n) = 0 := by
  have one : ∀ k : Nat, k < 10 → nls ⟨#[UInt8.ofNat (48 + k)]⟩ = 0 := by decide
  induction n using Nat.strongRecOn with
  | _ n ih =>
    by_cases h : n < 10
    · rw [num_small h]; exact one (n % 10) (by omega)
    · rw [num_big h, nls_append, ih (n / 10) (by omega), one (n % 10) (by omega)]
theorem nls_head (a b c d : Nat) : nls (headM a b c d) = 1 := by
  have h1 : nls ⟨#[64, 64, 32]⟩ = 0 := by decide
  have h2 : nls ⟨#[32]⟩ = 0 := by decide
  have h3 : nls ⟨#[32, 64, 64, 10]⟩ = 1 := by decide
  have h4 : nls ⟨#[45]⟩ = 0 := by decide
  have h5 : nls ⟨#[43]⟩ = 0 := by decide
  have h6 : nls ⟨#[44]⟩ = 0 := by decide
  unfold headM sideM
  simp only [nls_append, nls_num, h1, h2, h3, h4, h5, h6]
theorem nls_line (o : ByteArray) (x : Ln) (hs : x.sg = 32 ∨ x.sg = 45 ∨ x.sg = 43) (hn : NoNl x.tx) : nls (plineM o (toL x)) = nls o + 1 + if x.br = true then 1 else 0 := by
  have h1 : nls (strOfNums [x.sg]) = 0 := by
    rcases hs with h | h | h <;> rw [h] <;> decide
  have h2 : nls ⟨#[10]⟩ = 1 := by decide
  have h3 : nls bareT = 1 := by decide
  unfold plineM
  show nls (if x.br = true then _ else _) = _
  by_cases hb : x.br = true
  · rw [if_pos hb, if_pos hb]
    simp only [nls_append, h2, h3]
    show nls o + (nls (strOfNums [x.sg]) + nls x.tx + 1) + 1 = _
    rw [h1, nls_none hn]
  · rw [if_neg hb, if_neg hb]
    simp only [nls_append, h2]
    show nls o + (nls (strOfNums [x.sg]) + nls x.tx + 1) = _
    rw [h1, nls_none hn]
theorem nls_lines : ∀ (l : List Ln) (o : ByteArray), (∀ x ∈ l, x.sg = 32 ∨ x.sg = 45 ∨ x.sg = 43) → (∀ x ∈ l, NoNl x.tx) → nls (plinesM o (l.map toL)) = nls o + l.length + bares l
  | [], o, _, _ => by simp [plinesM, bares]
  | x :: t, o, hs, hn => by
    have ih := nls_lines t (plineM o (toL x)) (fun y hy => hs y (by simp [hy])) (fun y hy => hn y (by simp [hy]))
    rw [List.map_cons]
    show nls (plinesM (plineM o (toL x)) (t.map toL)) = _
    rw [ih, nls_line o x (hs x (by simp)) (hn x (by simp))]
    unfold bares
    rw [List.countP_cons, List.length_cons]
    split <;> omega
theorem plines_ge : ∀ (l : List PLn) (o : ByteArray), o.size ≤ (plinesM o l).size
  | [], o => Nat.le_refl _
  | x :: t, o => by
    have ih := plines_ge t (plineM o x)
    have h : o.size ≤ (plineM o x).size := by
      unfold plineM
      split <;> simp only [ByteArray.size_append] <;> omega
    exact Nat.le_trans h ih
def rowsH : List Hk → Nat
  | [] => 0
  | h :: t => 1 + h.ls.length + rowsH t
section
variable {P Q : List ByteArray} (cP : CleanL P) (cQ : CleanL Q) (uP : Cut P) (uQ : Cut Q) (lP : P.length ≤ 1000) (lQ : Q.length ≤ 1000)
include cP cQ uP uQ lP lQ
theorem check_hk {a b : Nat} {h : Hk} {t : List Hk} (hh : HkPath P Q a b (h :: t)) : checkM h.o h.os h.n h.ns (h.ls.map toL) = 0 ∧ (∀ x ∈ h.ls, x.sg = 32 ∨ x.sg = 45 ∨ x.sg = 43) ∧ (∀ x ∈ h.ls, NoNl x.tx) := by
  obtain ⟨o, n, o', n', h1, h2, h3, h4, h5, h6, h7, h8, h9, h10, h11⟩ := hh
  have he := path_ends h10
  rw [h1, h2, h3, h4]
  exact ⟨check_path cP cQ uP uQ h10 h9 (by omega) (by omega), path_sg h10, path_all (fun x => NoNl x.tx) cP cQ h10⟩
theorem print_hk : ∀ (hs : List Hk) (a b : Nat) (o : ByteArray), HkPath P Q a b hs → (printM o (hs.map toH)).2 = 0 ∧ nls (printM o (hs.map toH)).1 = nls o + rowsH hs + baresH hs ∧ o.size ≤ (printM o (hs.map toH)).1.size
  | [], a, b, o, _ => ⟨rfl, rfl, Nat.le_refl _⟩
  | h :: t, a, b, o, hh => by
    obtain ⟨c1, c2, c3⟩ := check_hk cP cQ uP uQ lP lQ hh
    obtain ⟨o1, n1, o', n', h1, h2, h3, h4, h5, h6, h7, h8, h9, h10, h11⟩ := hh
    rw [List.map_cons]
    unfold printM
    rw [if_pos (show checkM (toH h).f0 (toH h).f1 (toH h).f2 (toH h).f3 (toH h).f4 = 0 from c1)]
    obtain ⟨i1, i2, i3⟩ := print_hk t o' n' (plinesM (o ++ headM (toH h).f0.toNat (toH h).f1.toNat (toH h).f2.toNat (toH h).f3.toNat) (toH h).f4) h11
    have hl : nls (plinesM (o ++ headM (toH h).f0.toNat (toH h).f1.toNat (toH h).f2.toNat (toH h).f3.toNat) (h.ls.map toL)) = _ := nls_lines h.ls _ c2 c3
    have hg := plines_ge (toH h).f4 (o ++ headM (toH h).f0.toNat (toH h).f1.toNat (toH h).f2.toNat (toH h).f3.toNat)
    refine ⟨i1, ?_, ?_⟩
    · rw [i2]
      show nls (plinesM (o ++ headM (toH h).f0.toNat (toH h).f1.toNat (toH h).f2.toNat (toH h).f3.toNat) (h.ls.map toL)) + _ + _ = _
      rw [hl, nls_append, nls_head]
      show _ = nls o + (1 + h.ls.length + rowsH t) + (bares h.ls + baresH t)
      omega
    · rw [ByteArray.size_append] at hg
      omega
end
theorem path_len {P Q : List ByteArray} {ls : List Ln} {a b a' b' : Nat} (hp : Path P Q a b ls a' b') : ls.length ≤ P.length + Q.length := by
  have h1 := path_counts hp
  have h2 := cnt_both ls
  have h3 := path_ends hp
  omega
theorem hk_good {P Q : List ByteArray} (lP : P.length ≤ 400) (lQ : Q.length ≤ 400) (sP : ∀ i, (lnB P i).size ≤ 1000) (sQ : ∀ i, (lnB Q i).size ≤ 1000) : ∀ {hs : List Hk} {a b : Nat}, HkPath P Q a b hs → ∀ h ∈ hs.map toH, PGood h
  | [], _, _, _, h, hm => by cases hm
  | g :: t, a, b, hh, h, hm => by
    obtain ⟨o1, n1, o', n', h1, h2, h3, h4, h5, h6, h7, h8, h9, h10, h11⟩ := hh
    rw [List.map_cons] at hm
    rcases List.mem_cons.1 hm with rfl | hm
    · refine ⟨?_, fun x hx => ?_⟩
      · show (g.ls.map toL).length ≤ 1000
        rw [List.length_map]
        have := path_len h10
        omega
      · obtain ⟨y, hy, rfl⟩ := List.mem_map.1 (show x ∈ g.ls.map toL from hx)
        exact path_all (fun x => x.tx.size ≤ 1000) (fun i _ sg => Nat.le_trans (lineM_size sg _) (sP i)) (fun i _ sg => Nat.le_trans (lineM_size sg _) (sQ i)) h10 y hy
    · exact hk_good lP lQ sP sQ h11 h hm
theorem print_size {P Q : List ByteArray} (lP : P.length ≤ 400) (lQ : Q.length ≤ 400) (sP : ∀ i, (lnB P i).size ≤ 1000) (sQ : ∀ i, (lnB Q i).size ≤ 1000) (cP : CleanL P) (cQ : CleanL Q) (uP : Cut P) (uQ : Cut Q) : ∀ (hs : List Hk) (a b : Nat) (o : ByteArray), HkPath P Q a b hs → (printM o (hs.map toH)).1.size ≤ o.size + hs.length * 1100000
  | [], a, b, o, _ => by show o.size ≤ _; omega
  | h :: t, a, b, o, hh => by
    obtain ⟨c1, c2, c3⟩ := check_hk cP cQ uP uQ (by omega) (by omega) hh
    have hg := hk_good lP lQ sP sQ hh (toH h) (by simp)
    obtain ⟨o1, n1, o', n', h1, h2, h3, h4, h5, h6, h7, h8, h9, h10, h11⟩ := hh
    have he := path_ends h10
    rw [List.map_cons]
    unfold printM
    rw [if_pos (show checkM (toH h).f0 (toH h).f1 (toH h).f2 (toH h).f3 (toH h).f4 = 0 from c1)]
    have i1 := print_size lP lQ sP sQ cP cQ uP uQ t o' n' (plinesM (o ++ headM (toH h).f0.toNat (toH h).f1.toNat (toH h).f2.toNat (toH h).f3.toNat) (toH h).f4) h11
    have hz := plines_size (toH h).f4 (o ++ headM (toH h).f0.toNat (toH h).f1.toNat (toH h).f2.toNat (toH h).f3.toNat) hg.2
    have hl := hg.1
    have hd : (headM (toH h).f0.toNat (toH h).f1.toNat (toH h).f2.toNat (toH h).f3.toNat).size ≤ 100 := by
      show (headM h.o.toNat h.os.toNat h.n.toNat h.ns.toNat).size ≤ 100
      rw [h1, h2, h3, h4]
      exact head_size (by omega) (by omega) (by omega) (by omega)
    rw [ByteArray.size_append] at hz
    rw [List.length_cons]
    omega
theorem nlTo_count (s : ByteArray) : ∀ i, i ≤ s.size → Go.Proofs.YtjabpbnlpljlkaaDoor.H.nlTo s i = ((bytesOf s).take i).count 10
  | 0, _ => rfl
  | i + 1, h => by
    have ih := nlTo_count s i (by omega)
    have hl : i < (bytesOf s).length := by rw [bytesOf_length]; exact h
    have hg : (bytesOf s)[i] = (Go.Proofs.YtjabpbnlpljlkaaDoor.H.at_ s i : Int) := by
      rw [Go.Proofs.YtjabpbnlpljlkaaDoor.H.at_get s i h]
      simp [bytesOf]
      rfl
    rw [List.take_succ_eq_append_getElem hl, List.count_append, ← ih, hg]
    show (Go.Proofs.YtjabpbnlpljlkaaDoor.H.nlTo s i + if Go.Proofs.YtjabpbnlpljlkaaDoor.H.at_ s i = 10 then 1 else 0) = Go.Proofs.YtjabpbnlpljlkaaDoor.H.nlTo s i + _
    by_cases hc : Go.Proofs.YtjabpbnlpljlkaaDoor.H.at_ s i = 10
    · rw [if_pos hc, hc]; rfl
    · rw [if_neg hc, List.count_eq_zero.2 (fun hm => by have := List.mem_singleton.1 hm; omega)]
theorem nlF_eq (s : ByteArray) (h : s.size ≤ 140737488355328) : Go.Proofs.YtjabpbnlpljlkaaDoor.H.nlF s = some ((nls s : Nat) : Int) := by
  unfold Go.Proofs.YtjabpbnlpljlkaaDoor.H.nlF
  rw [if_pos h, nlTo_count s s.size (Nat.le_refl _), List.take_of_length_le (by rw [bytesOf_length]; omega)]
  rfl
end Go.Proofs.YtjabpbnlpljlkaaDoor.Pure
end
section
/- Text, as printed, tells some bytes; not many. -/
namespace Go.Proofs.YtjabpbnlpljlkaaDoor.Pure
open Go.RowKit Go.Proofs.YtjabpbnlpljlkaaDoor.PShowMade Go.Proofs.YtjabpbnlpljlkaaDoorW.PrintWords Go.Proofs.YtjabpbnlpljlkaaDoorW.PrintLast
open Go.Proofs.YtjabpbnlpljlkaaDoor.M Go.Proofs.YtjabpbnlpljlkaaDoor.X
set_option linter.unusedVariables false
set_option linter.unusedSimpArgs false
theorem tx_wf {l : List Int} (h : ∀ x ∈ l, (Lit.int .u8 x).wf = true) : BT l := by
  intro x hx
  have := h x hx
  simp [Lit.wf, IntKind.min, IntKind.max, IntKind.signed, IntKind.bits] at this
  omega
theorem tx_end (l0 : List Int) (a : Bool) (acc : List Int) (hB : BT acc) (hl : acc.length ≤ 240) : ∃ t : List Int, (∀ f : Nat, (if a = true then (if (acc.length : Int) > 0 then (if 0 ≤ (wrap64 ((acc.length : Int) - 1)) then (if (wrap64 ((acc.length : Int) - 1)) ≤ (acc.length : Int) then (some (acc.take ((wrap64 ((acc.length : Int) - 1)) : Int).toNat)) else (none)) else (none)) else (some acc)) else (some acc)) = some t) ∧ BT t ∧ t.length ≤ 240 := by
  by_cases h1 : a = true
  · by_cases h2 : 0 < acc.length
    · refine ⟨acc.take (acc.length - 1), fun f => ?_, hB.take _, by rw [List.length_take]; omega⟩
      have e : wrap64 ((acc.length : Int) - 1) = ((acc.length - 1 : Nat) : Int) := by rw [w64 (by omega) (by omega)]; omega
      rw [if_pos h1, if_pos (by omega), e, if_pos (by omega), if_pos (by omega), Int.toNat_natCast]
    · exact ⟨acc, fun f => by rw [if_pos h1, if_neg (by omega)], hB, hl⟩
  · exact ⟨acc, fun f => by rw [if_neg h1], hB, hl⟩
theorem tx_piece (r : Int) (h0 : 0 ≤ r) (h6 : r < 6) : ∃ p : ByteArray, rdOf ByteArray.empty [(⟨#[97]⟩ : ByteArray), (⟨#[98]⟩ : ByteArray), (⟨#[99]⟩ : ByteArray), (⟨#[]⟩ : ByteArray), (⟨#[97, 13]⟩ : ByteArray), (⟨#[119, 111, 114, 100]⟩ : ByteArray)] r = p ∧ p.size ≤ 4 ∧ BT (bytesOf p) ∧ (bytesOf p).length ≤ 4 ∧ ∀ x ∈ bytesOf p, x ≠ 10 := by
  rcases (show r = 0 ∨ r = 1 ∨ r = 2 ∨ r = 3 ∨ r = 4 ∨ r = 5 by omega) with rfl | rfl | rfl | rfl | rfl | rfl
  all_goals exact ⟨_, rfl, by decide +kernel, by unfold BT; decide +kernel, by decide +kernel, by decide +kernel⟩
theorem tx_from (l0 : List Int) (hB : BT l0) (hl0 : l0.length ≤ 140737488351232) (a : Bool) : ∀ (d i : Nat) (acc : List Int), l0.length - i = d → i ≤ l0.length → i ≤ 40 → acc.length ≤ 5 * i → BT acc →
    ∃ t : List Int, Ev (fun f => redpenlaw19_Text.l0 f a acc l0 (l0.length : Int) (i : Int)) t ∧ BT t ∧ t.length ≤ 240 := by
  intro d
  induction d with
  | zero =>
    intro i acc hd hi h40 hl hBa
    obtain ⟨t, h1, h2, h3⟩ := tx_end l0 a acc hBa (by omega)
    refine ⟨t, Ev.step (f := fun _ => some t) (fun f => ?_) (Ev.now _), h2, h3⟩
    simp only [redpenlaw19_Text.l0]
    rw [if_neg (by omega)]
    exact h1 f
  | succ d ih =>
    intro i acc hd hi h40 hl hBa
    have hlt : i < l0.length := by omega
    by_cases h4 : i = 40
    · obtain ⟨t, h1, h2, h3⟩ := tx_end l0 a acc hBa (by omega)
      refine ⟨t, Ev.step (f := fun _ => some t) (fun f => ?_) (Ev.now _), h2, h3⟩
      simp only [redpenlaw19_Text.l0]
      rw [if_pos (by omega), if_pos (by omega), if_pos (by omega), if_pos (by omega)]
      exact h1 f
    · have hr : 0 ≤ rd l0 (i : Int) ∧ rd l0 (i : Int) < 256 := by
        have e : rd l0 (i : Int) = l0[i] := by
          unfold rd
          rw [Int.toNat_natCast, List.getD_eq_getElem?_getD, List.getElem?_eq_getElem hlt]
          rfl
        rw [e]
        exact hB _ (List.getElem_mem hlt)
      have ht : ∀ _ : Unit, Int.tmod (rd l0 (i : Int)) 6 = rd l0 (i : Int) % 6 := fun _ => Int.tmod_eq_emod_of_nonneg hr.1
      have hm : 0 ≤ rd l0 (i : Int) % 6 ∧ rd l0 (i : Int) % 6 < 6 := by omega
      generalize rd l0 (i : Int) % 6 = r at ht hm
      obtain ⟨p, hp1, hp2, hp3, hp4, _⟩ := tx_piece r hm.1 hm.2
      have ew : ∀ _ : Unit, wrap64 ((i : Int) + 1) = ((i + 1 : Nat) : Int) := fun _ => by rw [w64 (by omega) (by omega)]; omega
      obtain ⟨t, h1, h2, h3⟩ := ih (i + 1) (acc ++ bytesOf p ++ [10]) (by omega) (by omega) (by omega) (by rw [List.length_append, List.length_append, List.length_singleton]; omega) (by
        intro x hx
        rcases List.mem_append.1 hx with hx | hx
        · rcases List.mem_append.1 hx with hx | hx
          · exact hBa x hx
          · exact hp3 x hx
        · obtain rfl := List.mem_singleton.1 hx
          omega)
      refine ⟨t, Ev.step (fun f => ?_) h1, h2, h3⟩
      simp only [redpenlaw19_Text.l0]
      rw [if_pos (by omega), if_pos (by omega), if_pos (by omega), if_neg (by omega)]
      simp only [Option.bind_some]
      rw [ht (), hp1, if_pos hm.1, if_pos (by simp only [List.length_cons, List.length_nil]; omega), if_pos (by omega), if_pos (by rw [List.length_append]; omega), ew ()]
theorem text_ev (l0 : List Int) (hB : BT l0) (hl0 : l0.length ≤ 140737488351232) (a : Bool) : ∃ t : List Int, Ev (fun f => redpenlaw19_Text.f f l0 a) t ∧ BT t ∧ t.length ≤ 240 := by
  obtain ⟨t, h1, h2, h3⟩ := tx_from l0 hB hl0 a _ 0 [] rfl (Nat.zero_le _) (Nat.zero_le _) (Nat.zero_le _) (fun x hx => by cases hx)
  exact ⟨t, Ev.congr (fun f => rfl) h1, h2, h3⟩
end Go.Proofs.YtjabpbnlpljlkaaDoor.Pure
end
