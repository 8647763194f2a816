/- The reference's Common, as printed, tells the length of the longest common row. -/
import Derived.Test.YtokgkhndhlcfpaaBHunksHunksChanges
namespace Go.Proofs.Ytokgkhndhlcfpaa.Pure
open Go.RowKit Go.Proofs.Ytokgkhndhlcfpaa.PHunksChanges Go.Proofs.YtokgkhndhlcfpaaW.PrintWords Go.Proofs.YtokgkhndhlcfpaaW.PrintLast Go.Proofs.YtokgkhndhlcfpaaW.PrintMore
open Go.Proofs.Ytokgkhndhlcfpaa.M Go.Proofs.Ytokgkhndhlcfpaa.X
set_option linter.unusedVariables false
set_option linter.unusedSimpArgs false

section
variable (x y : List ByteArray) (hx : x.length ≤ 100000) (hy : y.length ≤ 100000)
include hx hy
set_option maxHeartbeats 1600000 in
theorem comm_l1 (r : Int) (i : Nat) (hi : i < x.length) (cont : Ev (fun f => redpenref18_Common.l0 f x y ((List.range (y.length + 1)).map (lv x y i)) ((i : Int) - 1)) r) : ∀ (k : Nat) (v : Nat → Int), k ≤ y.length → (∀ k', k ≤ k' → k' ≤ y.length → v k' = lv x y i k') →
      Ev (fun f => redpenref18_Common.l1 f x y ((List.range (y.length + 1)).map (lv x y (i + 1))) (i : Int) ((k : Int) - 1) ((List.range (y.length + 1)).map v)) r := by
  intro k
  induction k with
  | zero =>
    intro v hk h3
    refine Ev.step (fun f => ?_) cont
    simp only [redpenref18_Common.l1]
    rw [if_neg (by omega), w64 (by omega) (by omega), map_range_congr (y.length + 1) v (lv x y i) (fun k' hk' => h3 k' (Nat.zero_le _) (by omega))]
  | succ k ih =>
    intro v hk h3
    have hk' : k < y.length := by omega
    have ek : ((k + 1 : Nat) : Int) - 1 = (k : Int) := by omega
    have e2 : ∀ _ : Unit, wrap64 ((k : Int) + 1) = ((k + 1 : Nat) : Int) := fun _ => hw64 _ _ (by omega) (by omega)
    have e3 : ∀ _ : Unit, wrap64 ((k : Int) - 1) = (k : Int) - 1 := fun _ => w64 (by omega) (by omega)
    have hv := lv_at x y i k hi hk'
    have hrg := lv_range x y (i + 1) (k + 1)
    have hn := ih (fun k' => if k' = k then lv x y i k else v k') (by omega) (fun k' a b => by
      by_cases h : k' = k
      · subst h; exact if_pos rfl
      · exact (if_neg h).trans (h3 k' (by omega) b))
    rw [ek]
    refine Ev.step (fun f => ?_) hn
    simp only [redpenref18_Common.l1]
    rw [if_pos (by omega), if_pos (by omega), if_pos (by omega), if_pos (by omega), if_pos (by omega), rdOf_at x i hi, rdOf_at y k hk', e2 (), e3 ()]
    simp only [row_len]
    rw [rdrow _ _ (k + 1) (by omega), rdrow _ _ k (by omega), rdrow _ _ (k + 1) (by omega), h3 (k + 1) (by omega) (by omega), Int.toNat_natCast]
    rw [set_map_range, set_map_range, set_map_range]
    by_cases he : x[i].toList = y[k].toList
    · rw [if_pos he] at hv ⊢
      rw [if_pos (by omega), if_pos (by omega), if_pos (by omega), w64 (by omega) (by omega), hv]
    · rw [if_neg he] at hv ⊢
      rw [if_pos (by omega), if_pos (by omega), if_pos (by omega)]
      by_cases hc : lv x y (i + 1) k > lv x y i (k + 1)
      · rw [if_pos hc, if_pos (by omega), hv, if_neg (by omega)]
      · rw [if_neg hc, if_pos (by omega), hv]
        by_cases hc2 : lv x y (i + 1) k < lv x y i (k + 1)
        · rw [if_pos hc2]
        · rw [if_neg hc2, show lv x y (i + 1) k = lv x y i (k + 1) by omega]
theorem comm_l0 : ∀ (i : Nat), i ≤ x.length → Ev (fun f => redpenref18_Common.l0 f x y ((List.range (y.length + 1)).map (lv x y i)) ((i : Int) - 1)) (lcs x y : Int) := by
  have ey : ∀ _ : Unit, wrap64 ((y.length : Int) + 1) = ((y.length + 1 : Nat) : Int) := fun _ => hw64 _ _ (by omega) (by omega)
  intro i
  induction i with
  | zero =>
    intro hi
    refine Ev.step (f := fun _ => some (lcs x y : Int)) (fun f => ?_) (Ev.now _)
    simp only [redpenref18_Common.l0]
    rw [if_neg (by omega), if_pos (by rw [row_len]; omega)]
    have := rdrow (y.length + 1) (lv x y 0) 0 (by omega)
    rw [show ((0 : Nat) : Int) = 0 from rfl] at this
    rw [this]
    rfl
  | succ i ih =>
    intro hi
    have ei : ((i + 1 : Nat) : Int) - 1 = (i : Int) := by omega
    have main := comm_l1 x y hx hy (lcs x y : Int) i (by omega) (ih (by omega)) y.length (fun _ => 0) (Nat.le_refl _) (fun k' a b => by rw [lv_end' x y i k' a])
    rw [ei]
    refine Ev.step (fun f => ?_) main
    simp only [redpenref18_Common.l0]
    rw [if_pos (by omega), ey (), Int.toNat_natCast, if_pos (by omega), if_pos (by omega), w64 (by omega) (by omega), replicate_map_range]
theorem common_ev : Ev (fun f => redpenref18_Common.f f x y) (lcs x y : Int) := by
  have ey : ∀ _ : Unit, wrap64 ((y.length : Int) + 1) = ((y.length + 1 : Nat) : Int) := fun _ => hw64 _ _ (by omega) (by omega)
  refine Ev.congr (fun f => ?_) (comm_l0 x y hx hy x.length (Nat.le_refl _))
  unfold redpenref18_Common.f
  rw [ey (), Int.toNat_natCast, if_pos (by omega), if_pos (by omega), w64 (by omega) (by omega), replicate_map_range, map_range_congr (y.length + 1) (fun _ => 0) (lv x y x.length) (fun k' _ => (lv_end x y _ k' (Nat.le_refl _)).symm)]
end
end Go.Proofs.Ytokgkhndhlcfpaa.Pure
