/- hunks.table and hunks.Changes, as printed, tell the plain changes. -/
import Derived.Test.YtokgkhndhlcfpaaPHunksOnex
import Derived.Test.YtokgkhndhlcfpaaMHunks
namespace Go.Proofs.Ytokgkhndhlcfpaa.Pure
open Go.RowKit Go.Proofs.Ytokgkhndhlcfpaa.PHunksOne Go.Proofs.YtokgkhndhlcfpaaW.PrintWords Go.Proofs.YtokgkhndhlcfpaaW.PrintLast Go.Proofs.YtokgkhndhlcfpaaW.PrintMore
open Go.Proofs.Ytokgkhndhlcfpaa.M Go.Proofs.Ytokgkhndhlcfpaa.X
set_option linter.unusedVariables false
set_option linter.unusedSimpArgs false

theorem hw64 (a : Int) (b : Nat) (h : a = (b : Int)) (hb : b < 1000000000000) : wrap64 a = (b : Int) := by
  subst h; rw [w64 (by omega) (by omega)]
theorem rdL (n m : Nat) (v : Nat → Nat → Int) (i : Nat) (h : i < n) : rd_L1 (tabOf n m v) (i : Int) = (List.range m).map (v i) := by
  unfold rd_L1
  rw [Int.toNat_natCast]
  exact tabOf_row n m v i h
theorem rdrow (m : Nat) (f : Nat → Int) (k : Nat) (h : k < m) : rd ((List.range m).map f) (k : Int) = f k := by
  unfold rd
  rw [Int.toNat_natCast]
  exact getD_map_range m f k 0 h
theorem rdOf_at (x : List ByteArray) (i : Nat) (h : i < x.length) : rdOf ByteArray.empty x (i : Int) = x[i] := by
  unfold rdOf
  rw [Int.toNat_natCast, List.getD_eq_getElem?_getD, List.getElem?_eq_getElem h]; rfl

section
variable (x y : List ByteArray) (hx : x.length ≤ 100000) (hy : y.length ≤ 100000)
include hx hy
set_option maxHeartbeats 1600000 in
theorem table_l2 (r : List (List Int)) (i : Nat) (hi : i < x.length) (cont : ∀ v : Nat → Nat → Int, (∀ i' k', i ≤ i' → i' ≤ x.length → k' ≤ y.length → v i' k' = lv x y i' k') → (∀ i', i' ≤ x.length → v i' y.length = 0) →
      Ev (fun f => hunks_table.l1 f x y ((i : Int) - 1) (tabOf (x.length + 1) (y.length + 1) v)) r) :
    ∀ (k : Nat) (v : Nat → Nat → Int), k ≤ y.length → (∀ i' k', i < i' → i' ≤ x.length → k' ≤ y.length → v i' k' = lv x y i' k') → (∀ i', i' ≤ x.length → v i' y.length = 0) → (∀ k', k ≤ k' → k' ≤ y.length → v i k' = lv x y i k') →
      Ev (fun f => hunks_table.l2 f x y (i : Int) ((k : Int) - 1) (tabOf (x.length + 1) (y.length + 1) v)) r := by
  intro k
  induction k with
  | zero =>
    intro v hk h1 h2 h3
    refine Ev.step (f := fun f => hunks_table.l1 f x y ((i : Int) - 1) (tabOf (x.length + 1) (y.length + 1) v)) (fun f => ?_) (cont v (fun i' k' a b c => ?_) h2)
    · simp only [hunks_table.l2]
      rw [if_neg (by omega), w64 (by omega) (by omega)]
    · rcases Nat.lt_or_eq_of_le a with a | a
      · exact h1 i' k' a b c
      · subst a; exact h3 k' (Nat.zero_le _) c
  | succ k ih =>
    intro v hk h1 h2 h3
    have hk' : k < y.length := by omega
    have ek : ((k + 1 : Nat) : Int) - 1 = (k : Int) := by omega
    have e1 : wrap64 ((i : Int) + 1) = ((i + 1 : Nat) : Int) := hw64 _ _ (by omega) (by omega)
    have e2 : wrap64 ((k : Int) + 1) = ((k + 1 : Nat) : Int) := hw64 _ _ (by omega) (by omega)
    have e3 : wrap64 ((k : Int) - 1) = (k : Int) - 1 := w64 (by omega) (by omega)
    have hv := lv_at x y i k hi hk'
    have hrg := lv_range x y (i + 1) (k + 1)
    rw [ek]
    refine Ev.step (f := fun f => hunks_table.l2 f x y (i : Int) ((k : Int) - 1) (tabOf (x.length + 1) (y.length + 1) (fun i' k' => if i' = i ∧ k' = k then lv x y i k else v i' k'))) (fun f => ?_) (ih _ (by omega) (fun i' k' a b c => ?_) (fun i' a => ?_) (fun k' a b => ?_))
    · simp only [hunks_table.l2]
      rw [if_pos (by omega), if_pos (by omega), if_pos (by omega), if_pos (by omega), if_pos (by omega), rdOf_at x i hi, rdOf_at y k hk', e1, e2, e3, rdL _ _ _ (i + 1) (by omega), rdL _ _ _ i (by omega)]
      simp only [tabOf_len, row_len]
      rw [rdrow _ _ (k + 1) (by omega), rdrow _ _ k (by omega), rdrow _ _ (k + 1) (by omega), h1 (i + 1) (k + 1) (by omega) (by omega) (by omega), h1 (i + 1) k (by omega) (by omega) (by omega), h3 (k + 1) (by omega) (by omega), Int.toNat_natCast, Int.toNat_natCast]
      rw [if_pos (show (i : Int) < ((x.length + 1 : Nat) : Int) by omega), if_pos (show (0 : Int) ≤ ((i + 1 : Nat) : Int) by omega), if_pos (show ((i + 1 : Nat) : Int) < ((x.length + 1 : Nat) : Int) by omega), if_pos (show (0 : Int) ≤ ((k + 1 : Nat) : Int) by omega), if_pos (show ((k + 1 : Nat) : Int) < ((y.length + 1 : Nat) : Int) by omega), if_pos (show (k : Int) < ((y.length + 1 : Nat) : Int) by omega)]
      rw [tabOf_set, tabOf_set]
      by_cases he : x[i].toList = y[k].toList
      · rw [if_pos he] at hv ⊢
        rw [hv, w64 (by omega) (by omega)]
      · rw [if_neg he] at hv ⊢
        rw [if_pos (show (0 : Int) ≤ ((i + 1 : Nat) : Int) by omega), if_pos (show ((i + 1 : Nat) : Int) < ((x.length + 1 : Nat) : Int) by omega), if_pos (show (k : Int) < ((y.length + 1 : Nat) : Int) by omega), if_pos (show (0 : Int) ≤ ((k + 1 : Nat) : Int) by omega), if_pos (show ((k + 1 : Nat) : Int) < ((y.length + 1 : Nat) : Int) by omega), if_pos (show (k : Int) < ((y.length + 1 : Nat) : Int) by omega)]
        rw [if_pos (show (i : Int) < ((x.length + 1 : Nat) : Int) by omega), hv]
        rfl
    · exact (if_neg (by omega)).trans (h1 i' k' a b c)
    · exact (if_neg (by omega)).trans (h2 i' a)
    · by_cases h : k' = k
      · subst h; exact if_pos ⟨rfl, rfl⟩
      · exact (if_neg (fun z => h z.2)).trans (h3 k' (by omega) b)
theorem table_l1 : ∀ (i : Nat) (v : Nat → Nat → Int), i ≤ x.length → (∀ i' k', i ≤ i' → i' ≤ x.length → k' ≤ y.length → v i' k' = lv x y i' k') → (∀ i', i' ≤ x.length → v i' y.length = 0) →
      Ev (fun f => hunks_table.l1 f x y ((i : Int) - 1) (tabOf (x.length + 1) (y.length + 1) v)) (tabOf (x.length + 1) (y.length + 1) (lv x y)) := by
  intro i
  induction i with
  | zero =>
    intro v hi h1 h2
    refine Ev.step (f := fun _ => some (tabOf (x.length + 1) (y.length + 1) v)) (fun f => ?_) ?_
    · simp only [hunks_table.l1]
      rw [if_neg (by omega)]
    · rw [tabOf_congr _ _ v (lv x y) (fun i k a b => h1 i k (Nat.zero_le _) (by omega) (by omega))]
      exact Ev.now _
  | succ i ih =>
    intro v hi h1 h2
    have ei : ((i + 1 : Nat) : Int) - 1 = (i : Int) := by omega
    rw [ei]
    refine Ev.step (f := fun f => hunks_table.l2 f x y (i : Int) ((y.length : Int) - 1) (tabOf (x.length + 1) (y.length + 1) v)) (fun f => ?_) (table_l2 x y hx hy _ i (by omega) (fun u a b => ih u (by omega) a b) y.length v (Nat.le_refl _) (fun i' k' a b c => h1 i' k' (by omega) b c) h2 (fun k' a b => ?_))
    · simp only [hunks_table.l1]
      rw [if_pos (by omega), w64 (by omega) (by omega)]
    · obtain rfl : k' = y.length := by omega
      rw [h2 i (by omega), lv_end' x y i _ (Nat.le_refl _)]
theorem table_l0 : ∀ (d j : Nat), x.length + 1 - j = d → j ≤ x.length + 1 →
      Ev (fun f => hunks_table.l0 f x y ((List.range (x.length + 1)).map fun i => if i < j then (List.range (y.length + 1)).map (fun _ => (0 : Int)) else []) ((x.length + 1 : Nat) : Int) (j : Int)) (tabOf (x.length + 1) (y.length + 1) (lv x y)) := by
  intro d
  induction d with
  | zero =>
    intro j hd hj
    obtain rfl : j = x.length + 1 := by omega
    refine Ev.step (f := fun f => hunks_table.l1 f x y ((x.length : Int) - 1) (tabOf (x.length + 1) (y.length + 1) (fun _ _ => 0))) (fun f => ?_) (table_l1 x y hx hy x.length _ (Nat.le_refl _) (fun i' k' a b c => ?_) (fun i' a => rfl))
    · simp only [hunks_table.l0]
      rw [if_neg (by omega), w64 (by omega) (by omega)]
      congr 1
      exact map_range_congr _ _ _ fun i hi => if_pos hi
    · rw [lv_end x y i' k' a]
  | succ d ih =>
    intro j hd hj
    have ey : wrap64 ((y.length : Int) + 1) = ((y.length + 1 : Nat) : Int) := hw64 _ _ (by omega) (by omega)
    have ej : wrap64 ((j : Int) + 1) = ((j + 1 : Nat) : Int) := hw64 _ _ (by omega) (by omega)
    refine Ev.step (f := fun f => hunks_table.l0 f x y ((List.range (x.length + 1)).map fun i => if i < j + 1 then (List.range (y.length + 1)).map (fun _ => (0 : Int)) else []) ((x.length + 1 : Nat) : Int) ((j + 1 : Nat) : Int)) (fun f => ?_) (ih (j + 1) (by omega) (by omega))
    · simp only [hunks_table.l0]
      rw [ey, ej, Int.toNat_natCast, Int.toNat_natCast, if_pos (by omega), if_pos (by omega), if_pos (by omega), if_pos (by omega), if_pos (by rw [List.length_map, List.length_range]; omega), set_map_range, replicate_map_range]
      congr 1
      refine map_range_congr _ _ _ fun i hi => ?_
      by_cases h : i = j
      · rw [if_pos h, if_pos (by omega)]
      · rw [if_neg h]
        by_cases h2 : i < j
        · rw [if_pos h2, if_pos (by omega)]
        · rw [if_neg h2, if_neg (by omega)]
theorem table_ev : Ev (fun f => hunks_table.f f x y) (tabOf (x.length + 1) (y.length + 1) (lv x y)) := by
  have ex : wrap64 ((x.length : Int) + 1) = ((x.length + 1 : Nat) : Int) := hw64 _ _ (by omega) (by omega)
  refine Ev.congr (f := fun f => hunks_table.l0 f x y ((List.range (x.length + 1)).map fun i => if i < 0 then (List.range (y.length + 1)).map (fun _ => (0 : Int)) else []) ((x.length + 1 : Nat) : Int) ((0 : Nat) : Int)) (fun f => ?_) (table_l0 x y hx hy _ 0 rfl (Nat.zero_le _))
  unfold hunks_table.f
  rw [ex, Int.toNat_natCast, if_pos (by omega), if_pos (by omega)]
  simp only [Option.bind_some]
  rw [List.length_replicate, replicate_map_range]
  congr 1
end
/-- A change as it is printed. -/
def toS (c : Ch) : S39 := ⟨c.o, c.os, c.n, c.ns⟩
theorem toS_flushed (c : Ch) (out : List S39) : out ++ (flushed c).map toS = if c.os + c.ns > 0 then out ++ [toS c] else out := by
  unfold flushed
  split
  · rfl
  · exact List.append_nil _
section
variable (x y : List ByteArray) (hx : x.length ≤ 100000) (hy : y.length ≤ 100000) (fr : Nat) (hfr : fr ≤ 100000)
include hx hy hfr
set_option maxHeartbeats 3200000 in
theorem chg_l2 : ∀ (d i k : Nat) (c : Ch) (out : List S39), (x.length - i) + (y.length - k) ≤ d → i ≤ x.length → k ≤ y.length → 0 ≤ c.os → c.os ≤ i → 0 ≤ c.ns → c.ns ≤ k → out.length ≤ i + k →
      Ev (fun f => hunks_Changes.l2 f x y (tabOf (x.length + 1) (y.length + 1) (lv x y)) (i : Int) (k : Int) (fr : Int) out c.o c.os c.n c.ns) (out ++ (grp fr i k c (script (x.drop i) (y.drop k))).map toS) := by
  intro d
  induction d with
  | zero =>
    intro i k c out hd hi hk a1 a2 a3 a4 hl
    obtain rfl : i = x.length := by omega
    obtain rfl : k = y.length := by omega
    rw [List.drop_length, List.drop_length, script_nil]
    refine Ev.step (f := fun f => hunks_Changes.j6 f x y (tabOf (x.length + 1) (y.length + 1) (lv x y)) (x.length : Int) (y.length : Int) false (fr : Int) out c.o c.os c.n c.ns) (fun f => ?_) (Ev.step (f := fun _ => some (out ++ (flushed c).map toS)) (fun f => ?_) (Ev.now _))
    · simp only [hunks_Changes.l2]
      rw [if_neg (by omega), decide_eq_false (by omega)]
    · simp only [hunks_Changes.j6]
      rw [if_neg (by simp), w64 (by omega) (by omega), toS_flushed]
      by_cases h : c.os + c.ns > 0
      · rw [if_pos h, if_pos h, if_pos (by omega)]; rfl
      · rw [if_neg h, if_neg h]
  | succ d ih =>
    intro i k c out hd hi hk a1 a2 a3 a4 hl
    by_cases hz : (x.length - i) + (y.length - k) ≤ d
    · exact ih i k c out hz hi hk a1 a2 a3 a4 hl
    have e1 : ∀ _ : Unit, wrap64 ((i : Int) + 1) = ((i + 1 : Nat) : Int) := fun _ => hw64 _ _ (by omega) (by omega)
    have e2 : ∀ _ : Unit, wrap64 ((k : Int) + 1) = ((k + 1 : Nat) : Int) := fun _ => hw64 _ _ (by omega) (by omega)
    have e3 : ∀ _ : Unit, wrap64 (c.os + 1) = c.os + 1 := fun _ => w64 (by omega) (by omega)
    have e4 : ∀ _ : Unit, wrap64 (c.ns + 1) = c.ns + 1 := fun _ => w64 (by omega) (by omega)
    have ei : ((i + 1 : Nat) : Int) = (i : Int) + 1 := by omega
    have ekk : ((k + 1 : Nat) : Int) = (k : Int) + 1 := by omega
    by_cases h1 : i < x.length
    · have dx := List.drop_eq_getElem_cons h1
      have eT : ∀ f : Nat, hunks_Changes.l2 (f + 1) x y (tabOf (x.length + 1) (y.length + 1) (lv x y)) (i : Int) (k : Int) (fr : Int) out c.o c.os c.n c.ns = hunks_Changes.j6 f x y (tabOf (x.length + 1) (y.length + 1) (lv x y)) (i : Int) (k : Int) true (fr : Int) out c.o c.os c.n c.ns := by
        intro f
        simp only [hunks_Changes.l2]
        rw [if_pos (by omega)]
      have del : Ev (fun f => hunks_Changes.l2 f x y (tabOf (x.length + 1) (y.length + 1) (lv x y)) ((i + 1 : Nat) : Int) (k : Int) (fr : Int) out c.o (c.os + 1) c.n c.ns) (out ++ (grp fr i k c (.del :: script (x.drop (i + 1)) (y.drop k))).map toS) := by
        have := ih (i + 1) k ⟨c.o, c.os + 1, c.n, c.ns⟩ out (by omega) (by omega) hk (by show 0 ≤ c.os + 1; omega) (by show c.os + 1 ≤ _; omega) a3 a4 (by omega)
        rw [grp_del]
        rw [ei] at this ⊢
        exact this
      by_cases h2 : k < y.length
      · have dy := List.drop_eq_getElem_cons h2
        have e6 : ∀ f : Nat, hunks_Changes.j6 (f + 1) x y (tabOf (x.length + 1) (y.length + 1) (lv x y)) (i : Int) (k : Int) true (fr : Int) out c.o c.os c.n c.ns = hunks_Changes.j7 f x y (tabOf (x.length + 1) (y.length + 1) (lv x y)) (i : Int) (k : Int) (x[i].toList == y[k].toList) (fr : Int) out c.o c.os c.n c.ns := by
          intro f
          simp only [hunks_Changes.j6]
          rw [if_pos (by simp), if_pos (by omega), if_pos (by omega), if_pos (by omega), if_pos (by omega), rdOf_at x i h1, rdOf_at y k h2]
        by_cases he : x[i].toList = y[k].toList
        · have e5 : ∀ _ : Unit, wrap64 ((fr : Int) + ((i + 1 : Nat) : Int)) = (fr : Int) + ((i : Int) + 1) := fun _ => by rw [w64 (by omega) (by omega)]; omega
          have e5' : ∀ _ : Unit, wrap64 ((fr : Int) + ((k + 1 : Nat) : Int)) = (fr : Int) + ((k : Int) + 1) := fun _ => by rw [w64 (by omega) (by omega)]; omega
          have hfl : (flushed c).length ≤ 1 := by unfold flushed; split <;> simp
          have step := ih (i + 1) (k + 1) ⟨fr + ((i : Int) + 1), 0, fr + ((k : Int) + 1), 0⟩ (out ++ (flushed c).map toS) (by omega) (by omega) (by omega) (Int.le_refl _) (by show (0 : Int) ≤ _; omega) (Int.le_refl _) (by show (0 : Int) ≤ _; omega) (by rw [List.length_append, List.length_map]; omega)
          have hgoal : out ++ (grp fr i k c (script (x.drop i) (y.drop k))).map toS = (out ++ (flushed c).map toS) ++ (grp fr ((i + 1 : Nat) : Int) ((k + 1 : Nat) : Int) ⟨fr + ((i : Int) + 1), 0, fr + ((k : Int) + 1), 0⟩ (script (x.drop (i + 1)) (y.drop (k + 1)))).map toS := by
            rw [dx, dy, script_cons, if_pos he, grp_keep, ei, ekk, List.map_append, List.append_assoc]
          rw [hgoal]
          refine Ev.step eT (Ev.step e6 (Ev.step (fun f => ?_) step))
          simp only [hunks_Changes.j7]
          rw [if_pos (by simp [he]), w64 (x := c.os + c.ns) (by omega) (by omega), e1 (), e2 (), e5 (), e5' (), toS_flushed]
          by_cases h : c.os + c.ns > 0
          · rw [if_pos h, if_pos h, if_pos (by omega)]; rfl
          · rw [if_neg h, if_neg h]
        · have eN : ∀ f : Nat, hunks_Changes.j7 (f + 1) x y (tabOf (x.length + 1) (y.length + 1) (lv x y)) (i : Int) (k : Int) (x[i].toList == y[k].toList) (fr : Int) out c.o c.os c.n c.ns = if lv x y (i + 1) k ≥ lv x y i (k + 1) then hunks_Changes.l2 f x y (tabOf (x.length + 1) (y.length + 1) (lv x y)) ((i + 1 : Nat) : Int) (k : Int) (fr : Int) out c.o (c.os + 1) c.n c.ns else hunks_Changes.l2 f x y (tabOf (x.length + 1) (y.length + 1) (lv x y)) (i : Int) ((k + 1 : Nat) : Int) (fr : Int) out c.o c.os c.n (c.ns + 1) := by
            intro f
            simp only [hunks_Changes.j7]
            rw [if_neg (by simp [he]), if_pos (by omega), if_neg (by omega), e1 (), e2 (), e3 (), e4 (), rdL _ _ _ (i + 1) (by omega), rdL _ _ _ i (by omega)]
            simp only [tabOf_len, row_len]
            rw [rdrow _ _ k (by omega), rdrow _ _ (k + 1) (by omega)]
            rw [if_pos (by omega), if_pos (by omega), if_pos (by omega), if_pos (by omega), if_pos (by omega), if_pos (by omega), if_pos (by omega), if_pos (by omega)]
          have hlv : (lv x y (i + 1) k ≥ lv x y i (k + 1)) ↔ lcs (x.drop i) (y.drop (k + 1)) ≤ lcs (x.drop (i + 1)) (y.drop k) := by unfold lv; omega
          refine Ev.step eT (Ev.step e6 (Ev.step eN ?_))
          rw [dx, dy, script_cons, if_neg he, ← dx, ← dy]
          by_cases hc : lv x y (i + 1) k ≥ lv x y i (k + 1)
          · simp only [if_pos hc]
            rw [if_pos (hlv.1 hc)]
            exact del
          · simp only [if_neg hc]
            rw [if_neg (fun h => hc (hlv.2 h))]
            have ins := ih i (k + 1) ⟨c.o, c.os, c.n, c.ns + 1⟩ out (by omega) hi (by omega) a1 a2 (by show 0 ≤ c.ns + 1; omega) (by show c.ns + 1 ≤ _; omega) (by omega)
            rw [grp_ins]
            rw [ekk] at ins ⊢
            exact ins
      · obtain rfl : k = y.length := by omega
        rw [dx, List.drop_length, script_del]
        refine Ev.step eT (Ev.step (f := fun f => hunks_Changes.j7 f x y (tabOf (x.length + 1) (y.length + 1) (lv x y)) (i : Int) (y.length : Int) false (fr : Int) out c.o c.os c.n c.ns) (fun f => ?_) (Ev.step (fun f => ?_) (by have := del; rw [List.drop_length] at this; exact this)))
        · simp only [hunks_Changes.j6]
          rw [if_pos (by simp), if_pos (by omega), if_neg (by omega)]
        · simp only [hunks_Changes.j7]
          rw [if_neg (by simp), if_pos (by omega), if_pos trivial, e1 (), e3 ()]
    · obtain rfl : i = x.length := by omega
      have h2 : k < y.length := by omega
      have dy := List.drop_eq_getElem_cons h2
      rw [dy, List.drop_length, script_ins]
      have ins := ih x.length (k + 1) ⟨c.o, c.os, c.n, c.ns + 1⟩ out (by omega) hi (by omega) a1 a2 (by show 0 ≤ c.ns + 1; omega) (by show c.ns + 1 ≤ _; omega) (by omega)
      rw [List.drop_length] at ins
      rw [grp_ins]
      rw [ekk] at ins
      refine Ev.step (f := fun f => hunks_Changes.j6 f x y (tabOf (x.length + 1) (y.length + 1) (lv x y)) (x.length : Int) (k : Int) true (fr : Int) out c.o c.os c.n c.ns) (fun f => ?_) (Ev.step (f := fun f => hunks_Changes.j7 f x y (tabOf (x.length + 1) (y.length + 1) (lv x y)) (x.length : Int) (k : Int) false (fr : Int) out c.o c.os c.n c.ns) (fun f => ?_) (Ev.step (fun f => ?_) ins))
      · simp only [hunks_Changes.l2]
        rw [if_neg (by omega), decide_eq_true (by omega)]
      · simp only [hunks_Changes.j6]
        rw [if_pos (by simp), if_neg (by omega)]
      · simp only [hunks_Changes.j7]
        rw [if_neg (by simp), if_neg (by omega), e2 (), e4 (), ekk]
theorem chg_j3 : Ev (fun f => hunks_Changes.j3 f x y (fr : Int)) ((if x.length > 1000 ∨ y.length > 1000 then [⟨fr, x.length, fr, y.length⟩] else grp fr 0 0 ⟨fr, 0, fr, 0⟩ (script x y)).map toS) := by
  refine Ev.step (f := fun f => hunks_Changes.j4 f x y (decide (x.length > 1000 ∨ y.length > 1000)) (fr : Int)) (fun f => ?_) ?_
  · simp only [hunks_Changes.j3]
    by_cases h : x.length > 1000
    · rw [if_pos (by omega), decide_eq_true (Or.inl h)]
    · rw [if_neg (by omega)]
      congr 1
      by_cases h2 : y.length > 1000
      · rw [decide_eq_true (Or.inr h2), decide_eq_true (by omega)]
      · rw [decide_eq_false (by omega), decide_eq_false (by omega)]
  · by_cases h : x.length > 1000 ∨ y.length > 1000
    · rw [if_pos h, decide_eq_true h]
      refine Ev.step (f := fun _ => some [⟨(fr : Int), (x.length : Int), (fr : Int), (y.length : Int)⟩]) (fun f => ?_) (Ev.now _)
      simp only [hunks_Changes.j4]
      rw [if_pos trivial]
    · rw [if_neg h, decide_eq_false h]
      have main := chg_l2 x y hx hy fr hfr _ 0 0 ⟨fr, 0, fr, 0⟩ [] (Nat.le_refl _) (Nat.zero_le _) (Nat.zero_le _) (Int.le_refl _) (Int.le_refl _) (Int.le_refl _) (Int.le_refl _) (Nat.zero_le _)
      rw [List.drop_zero, List.drop_zero, List.nil_append, show ((0 : Nat) : Int) = 0 from rfl] at main
      refine Ev.step (fun f => ?_) (Ev.bind (f := fun f T => hunks_Changes.l2 f x y T 0 0 (fr : Int) [] (fr : Int) 0 (fr : Int) 0) (table_ev x y hx hy) main)
      simp only [hunks_Changes.j4]
      rw [if_neg (by simp), w64 (by omega) (by omega)]
end
set_option maxHeartbeats 1600000 in
theorem chg_l1 (fr : Nat) (hfr : fr ≤ 100000) : ∀ (n : Nat) (x y : List ByteArray), x.length = n → x.length ≤ 100000 → y.length ≤ 100000 →
    Ev (fun f => hunks_Changes.l1 f x y (fr : Int)) ((if (strip x y).1.length > 1000 ∨ (strip x y).2.length > 1000 then [⟨fr, (strip x y).1.length, fr, (strip x y).2.length⟩] else grp fr 0 0 ⟨fr, 0, fr, 0⟩ (script (strip x y).1 (strip x y).2)).map toS) := by
  intro n
  induction n with
  | zero =>
    intro x y hn hx hy
    rw [strip_neg x y (by omega)]
    refine Ev.step (fun f => ?_) (chg_j3 x y hx hy fr hfr)
    simp only [hunks_Changes.l1]
    rw [if_neg (by omega)]
  | succ n ih =>
    intro x y hn hx hy
    by_cases h2 : 0 < y.length
    · have e1 : wrap64 ((x.length : Int) - 1) = ((x.length - 1 : Nat) : Int) := hw64 _ _ (by omega) (by omega)
      have e2 : wrap64 ((y.length : Int) - 1) = ((y.length - 1 : Nat) : Int) := hw64 _ _ (by omega) (by omega)
      have l1 : rdOf ByteArray.empty x ((x.length - 1 : Nat) : Int) = lastOf x := by unfold rdOf lastOf; rw [Int.toNat_natCast]
      have l2 : rdOf ByteArray.empty y ((y.length - 1 : Nat) : Int) = lastOf y := by unfold rdOf lastOf; rw [Int.toNat_natCast]
      by_cases he : (lastOf x).toList = (lastOf y).toList
      · rw [strip_pos x y ⟨by omega, h2, he⟩]
        refine Ev.step (fun f => ?_) (ih (x.take (x.length - 1)) (y.take (y.length - 1)) (by rw [List.length_take]; omega) (by rw [List.length_take]; omega) (by rw [List.length_take]; omega))
        simp only [hunks_Changes.l1]
        rw [if_pos (by omega), if_pos (by omega), e1, e2, l1, l2, if_pos (by omega), if_pos (by omega), if_pos (by omega), if_pos (by omega), if_pos he, if_pos (by omega), if_pos (by omega), Int.toNat_natCast, Int.toNat_natCast]
      · rw [strip_neg x y (fun h => he h.2.2)]
        refine Ev.step (fun f => ?_) (chg_j3 x y hx hy fr hfr)
        simp only [hunks_Changes.l1]
        rw [if_pos (by omega), if_pos (by omega), e1, e2, l1, l2, if_pos (by omega), if_pos (by omega), if_pos (by omega), if_pos (by omega), if_neg he]
    · rw [strip_neg x y (by omega)]
      refine Ev.step (fun f => ?_) (chg_j3 x y hx hy fr hfr)
      simp only [hunks_Changes.l1]
      rw [if_pos (by omega), if_neg (by omega)]
theorem chg_l0 (p q : List ByteArray) (hp : p.length ≤ 100000) (hq : q.length ≤ 100000) : ∀ (d j : Nat), p.length - j = d → j ≤ p.length → j ≤ q.length → j + pre (p.drop j) (q.drop j) = pre p q →
    Ev (fun f => hunks_Changes.l0 f p q (j : Int)) ((chgs p q).map toS) := by
  intro d
  have fin : ∀ j : Nat, j ≤ p.length → j ≤ q.length → j = pre p q → Ev (fun f => hunks_Changes.j1 f p q (j : Int)) ((chgs p q).map toS) := by
    intro j h1 h2 h3
    have main := chg_l1 j (by omega) _ (p.drop j) (q.drop j) rfl (by rw [List.length_drop]; omega) (by rw [List.length_drop]; omega)
    unfold chgs
    rw [← h3]
    refine Ev.step (fun f => ?_) main
    simp only [hunks_Changes.j1]
    rw [if_pos (by omega), if_pos (by omega), if_pos (by omega), Int.toNat_natCast]
  induction d with
  | zero =>
    intro j hd h1 h2 h3
    obtain rfl : j = p.length := by omega
    rw [List.drop_length, pre_nil] at h3
    refine Ev.step (fun f => ?_) (fin _ h1 h2 h3)
    simp only [hunks_Changes.l0]
    rw [if_neg (by omega)]
  | succ d ih =>
    intro j hd h1 h2 h3
    have hlt : j < p.length := by omega
    by_cases hq2 : j < q.length
    · rw [List.drop_eq_getElem_cons hlt, List.drop_eq_getElem_cons hq2, pre_cons] at h3
      by_cases he : p[j].toList = q[j].toList
      · rw [if_pos he] at h3
        refine Ev.step (fun f => ?_) (ih (j + 1) (by omega) (by omega) (by omega) (by omega))
        simp only [hunks_Changes.l0]
        rw [if_pos (by omega), if_pos (by omega), if_pos (by omega), rdOf_at p j hlt, rdOf_at q j hq2, if_pos he, hw64 ((j : Int) + 1) (j + 1) (by omega) (by omega)]
      · rw [if_neg he] at h3
        refine Ev.step (fun f => ?_) (fin j h1 h2 (by omega))
        simp only [hunks_Changes.l0]
        rw [if_pos (by omega), if_pos (by omega), if_pos (by omega), rdOf_at p j hlt, rdOf_at q j hq2, if_neg he]
    · rw [List.drop_eq_nil_of_le (show q.length ≤ j by omega), pre_nil'] at h3
      refine Ev.step (fun f => ?_) (fin j h1 h2 (by omega))
      simp only [hunks_Changes.l0]
      rw [if_pos (by omega), if_neg (by omega)]
theorem changes_ev (p q : List ByteArray) (hp : p.length ≤ 100000) (hq : q.length ≤ 100000) : Ev (fun f => hunks_Changes.f f p q) ((chgs p q).map toS) :=
  Ev.congr (fun f => rfl) (chg_l0 p q hp hq _ 0 rfl (Nat.zero_le _) (Nat.zero_le _) (by rw [Nat.zero_add]; rfl))
end Go.Proofs.Ytokgkhndhlcfpaa.Pure
