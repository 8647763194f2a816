-- x
import Derived.Test.YtokgkhndhlcfpaaPHunksOnex0
import Derived.Test.YtokgkhndhlcfpaaPHunksOnex2
namespace Go.Proofs.Ytokgkhndhlcfpaa.PHunksOne
open Go.RowKit Go.Proofs.Ytokgkhndhlcfpaa.X Go.Proofs.YtokgkhndhlcfpaaW.PrintWords Go.Proofs.YtokgkhndhlcfpaaW.PrintLast Go.Proofs.YtokgkhndhlcfpaaW.PrintMore
attribute [local go_sem] max2_int min2_int max_two min_two max_three min_three max_four min_four   -- for this text's walks alone
set_option linter.unusedVariables false
set_option linter.unusedSimpArgs false

/-! ### hunks_Changes: function 20 -/
mutual
def hunks_Changes.j1 : Nat → List ByteArray → List ByteArray → Int → Option ((List (S39)))
 | 0, _, _, _ => none
 | k + 1, x0, x1, x125000 => if 0 ≤ x125000 then (if x125000 ≤ (x0.length : Int) then (if x125000 ≤ (x1.length : Int) then (hunks_Changes.l1 k (x0.drop (x125000 : Int).toNat) (x1.drop (x125000 : Int).toNat) x125000) else (none)) else (none)) else (none)
def hunks_Changes.j3 : Nat → List ByteArray → List ByteArray → Int → Option ((List (S39)))
 | 0, _, _, _ => none
 | k + 1, x6, x7, x125000 => if (x6.length : Int) > 1000 then (hunks_Changes.j4 k x6 x7 true x125000) else (hunks_Changes.j4 k x6 x7 (decide ((x7.length : Int) > 1000)) x125000)
def hunks_Changes.j4 : Nat → List ByteArray → List ByteArray → Bool → Int → Option ((List (S39)))
 | 0, _, _, _, _ => none
 | k + 1, x6, x7, x83, x125000 => if x83 = true then (some (([(⟨x125000, (x6.length : Int), x125000, (x7.length : Int)⟩ : S39)] : List (S39)))) else ((hunks_table.f k x6 x7).bind fun t152 => (hunks_Changes.l2 k x6 x7 t152 0 0 x125000 ([] : List (S39)) (wrap64 x125000) 0 (wrap64 x125000) 0))
def hunks_Changes.l2 : Nat → List ByteArray → List ByteArray → List (List Int) → Int → Int → Int → List (S39) → Int → Int → Int → Int → Option ((List (S39)))
 | 0, _, _, _, _, _, _, _, _, _, _, _ => none
 | k + 1, x6, x7, x8, x12, x13, x125000, x156000, x157000, x157001, x157002, x157003 => if x12 < (x6.length : Int) then (hunks_Changes.j6 k x6 x7 x8 x12 x13 true x125000 x156000 x157000 x157001 x157002 x157003) else (hunks_Changes.j6 k x6 x7 x8 x12 x13 (decide (x13 < (x7.length : Int))) x125000 x156000 x157000 x157001 x157002 x157003)
def hunks_Changes.j6 : Nat → List ByteArray → List ByteArray → List (List Int) → Int → Int → Bool → Int → List (S39) → Int → Int → Int → Int → Option ((List (S39)))
 | 0, _, _, _, _, _, _, _, _, _, _, _, _ => none
 | k + 1, x6, x7, x8, x12, x13, x108, x125000, x156000, x157000, x157001, x157002, x157003 => if x108 = true then (if x12 < (x6.length : Int) then (if x13 < (x7.length : Int) then (if 0 ≤ x12 then (if 0 ≤ x13 then (hunks_Changes.j7 k x6 x7 x8 x12 x13 ((rdOf ByteArray.empty x6 x12).toList == (rdOf ByteArray.empty x7 x13).toList) x125000 x156000 x157000 x157001 x157002 x157003) else (none)) else (none)) else (hunks_Changes.j7 k x6 x7 x8 x12 x13 false x125000 x156000 x157000 x157001 x157002 x157003)) else (hunks_Changes.j7 k x6 x7 x8 x12 x13 false x125000 x156000 x157000 x157001 x157002 x157003)) else (if (wrap64 (x157001 + x157003)) > 0 then (if x156000.length < 4398046511104 then (some (x156000 ++ [(⟨x157000, x157001, x157002, x157003⟩ : S39)])) else (none)) else (some x156000))
def hunks_Changes.j7 : Nat → List ByteArray → List ByteArray → List (List Int) → Int → Int → Bool → Int → List (S39) → Int → Int → Int → Int → Option ((List (S39)))
 | 0, _, _, _, _, _, _, _, _, _, _, _, _ => none
 | k + 1, x6, x7, x8, x12, x13, x115, x125000, x156000, x157000, x157001, x157002, x157003 => if x115 = true then (if (wrap64 (x157001 + x157003)) > 0 then (if x156000.length < 4398046511104 then (hunks_Changes.l2 k x6 x7 x8 (wrap64 (x12 + 1)) (wrap64 (x13 + 1)) x125000 (x156000 ++ [(⟨x157000, x157001, x157002, x157003⟩ : S39)]) (wrap64 (x125000 + (wrap64 (x12 + 1)))) 0 (wrap64 (x125000 + (wrap64 (x13 + 1)))) 0) else (none)) else (hunks_Changes.l2 k x6 x7 x8 (wrap64 (x12 + 1)) (wrap64 (x13 + 1)) x125000 x156000 (wrap64 (x125000 + (wrap64 (x12 + 1)))) 0 (wrap64 (x125000 + (wrap64 (x13 + 1)))) 0)) else (if x12 < (x6.length : Int) then (if x13 = (x7.length : Int) then (hunks_Changes.l2 k x6 x7 x8 (wrap64 (x12 + 1)) x13 x125000 x156000 x157000 (wrap64 (x157001 + 1)) x157002 x157003) else (if 0 ≤ (wrap64 (x12 + 1)) then (if (wrap64 (x12 + 1)) < (x8.length : Int) then (if 0 ≤ x13 then (if x13 < ((rd_L1 x8 (wrap64 (x12 + 1))).length : Int) then (if 0 ≤ x12 then (if x12 < (x8.length : Int) then (if 0 ≤ (wrap64 (x13 + 1)) then (if (wrap64 (x13 + 1)) < ((rd_L1 x8 x12).length : Int) then (if (rd (rd_L1 x8 (wrap64 (x12 + 1))) x13) ≥ (rd (rd_L1 x8 x12) (wrap64 (x13 + 1))) then (hunks_Changes.l2 k x6 x7 x8 (wrap64 (x12 + 1)) x13 x125000 x156000 x157000 (wrap64 (x157001 + 1)) x157002 x157003) else (hunks_Changes.l2 k x6 x7 x8 x12 (wrap64 (x13 + 1)) x125000 x156000 x157000 x157001 x157002 (wrap64 (x157003 + 1)))) else (none)) else (none)) else (none)) else (none)) else (none)) else (none)) else (none)) else (none))) else (hunks_Changes.l2 k x6 x7 x8 x12 (wrap64 (x13 + 1)) x125000 x156000 x157000 x157001 x157002 (wrap64 (x157003 + 1))))
def hunks_Changes.l1 : Nat → List ByteArray → List ByteArray → Int → Option ((List (S39)))
 | 0, _, _, _ => none
 | k + 1, x6, x7, x125000 => if (x6.length : Int) > 0 then (if (x7.length : Int) > 0 then (if 0 ≤ (wrap64 ((x6.length : Int) - 1)) then (if (wrap64 ((x6.length : Int) - 1)) < (x6.length : Int) then (if 0 ≤ (wrap64 ((x7.length : Int) - 1)) then (if (wrap64 ((x7.length : Int) - 1)) < (x7.length : Int) then (if (rdOf ByteArray.empty x6 (wrap64 ((x6.length : Int) - 1))).toList = (rdOf ByteArray.empty x7 (wrap64 ((x7.length : Int) - 1))).toList then (if (wrap64 ((x6.length : Int) - 1)) ≤ (x6.length : Int) then (if (wrap64 ((x7.length : Int) - 1)) ≤ (x7.length : Int) then (hunks_Changes.l1 k (x6.take ((wrap64 ((x6.length : Int) - 1)) : Int).toNat) (x7.take ((wrap64 ((x7.length : Int) - 1)) : Int).toNat) x125000) else (none)) else (none)) else (hunks_Changes.j3 k x6 x7 x125000)) else (none)) else (none)) else (none)) else (none)) else (hunks_Changes.j3 k x6 x7 x125000)) else (hunks_Changes.j3 k x6 x7 x125000)
def hunks_Changes.l0 : Nat → List ByteArray → List ByteArray → Int → Option ((List (S39)))
 | 0, _, _, _ => none
 | k + 1, x0, x1, x125000 => if x125000 < (x0.length : Int) then (if x125000 < (x1.length : Int) then (if 0 ≤ x125000 then (if (rdOf ByteArray.empty x0 x125000).toList = (rdOf ByteArray.empty x1 x125000).toList then (hunks_Changes.l0 k x0 x1 (wrap64 (x125000 + 1))) else (hunks_Changes.j1 k x0 x1 x125000)) else (none)) else (hunks_Changes.j1 k x0 x1 x125000)) else (hunks_Changes.j1 k x0 x1 x125000)
end
def hunks_Changes.f (k : Nat) (l0 : List ByteArray) (l1 : List ByteArray) : Option ((List (S39))) := hunks_Changes.l0 k l0 l1 0
theorem hunks_Changes.mono_l : ∀ k, (∀ y0 y1 y2, LeO (hunks_Changes.j1 k y0 y1 y2) (hunks_Changes.j1 (k + 1) y0 y1 y2)) ∧ (∀ y0 y1 y2, LeO (hunks_Changes.j3 k y0 y1 y2) (hunks_Changes.j3 (k + 1) y0 y1 y2)) ∧ (∀ y0 y1 y2 y3, LeO (hunks_Changes.j4 k y0 y1 y2 y3) (hunks_Changes.j4 (k + 1) y0 y1 y2 y3)) ∧ (∀ y0 y1 y2 y3 y4 y5 y6 y7 y8 y9 y10, LeO (hunks_Changes.l2 k y0 y1 y2 y3 y4 y5 y6 y7 y8 y9 y10) (hunks_Changes.l2 (k + 1) y0 y1 y2 y3 y4 y5 y6 y7 y8 y9 y10)) ∧ (∀ y0 y1 y2 y3 y4 y5 y6 y7 y8 y9 y10 y11, LeO (hunks_Changes.j6 k y0 y1 y2 y3 y4 y5 y6 y7 y8 y9 y10 y11) (hunks_Changes.j6 (k + 1) y0 y1 y2 y3 y4 y5 y6 y7 y8 y9 y10 y11)) ∧ (∀ y0 y1 y2 y3 y4 y5 y6 y7 y8 y9 y10 y11, LeO (hunks_Changes.j7 k y0 y1 y2 y3 y4 y5 y6 y7 y8 y9 y10 y11) (hunks_Changes.j7 (k + 1) y0 y1 y2 y3 y4 y5 y6 y7 y8 y9 y10 y11)) ∧ (∀ y0 y1 y2, LeO (hunks_Changes.l1 k y0 y1 y2) (hunks_Changes.l1 (k + 1) y0 y1 y2)) ∧ (∀ y0 y1 y2, LeO (hunks_Changes.l0 k y0 y1 y2) (hunks_Changes.l0 (k + 1) y0 y1 y2))
 | 0 => ⟨fun _ _ _ r h => by simp [hunks_Changes.j1] at h, fun _ _ _ r h => by simp [hunks_Changes.j3] at h, fun _ _ _ _ r h => by simp [hunks_Changes.j4] at h, fun _ _ _ _ _ _ _ _ _ _ _ r h => by simp [hunks_Changes.l2] at h, fun _ _ _ _ _ _ _ _ _ _ _ _ r h => by simp [hunks_Changes.j6] at h, fun _ _ _ _ _ _ _ _ _ _ _ _ r h => by simp [hunks_Changes.j7] at h, fun _ _ _ r h => by simp [hunks_Changes.l1] at h, fun _ _ _ r h => by simp [hunks_Changes.l0] at h⟩
 | k + 1 => by
  obtain ⟨ih0, ih1, ih2, ih3, ih4, ih5, ih6, ih7⟩ := hunks_Changes.mono_l k
  refine ⟨?_, ?_, ?_, ?_, ?_, ?_, ?_, ?_⟩
  ·intro y0 y1 y2
   unfold hunks_Changes.j1
   repeat' first
   | (with_reducible exact ih0 _ _ _)
   | (with_reducible exact ih1 _ _ _)
   | (with_reducible exact ih2 _ _ _ _)
   | (with_reducible exact ih3 _ _ _ _ _ _ _ _ _ _ _)
   | (with_reducible exact ih4 _ _ _ _ _ _ _ _ _ _ _ _)
   | (with_reducible exact ih5 _ _ _ _ _ _ _ _ _ _ _ _)
   | (with_reducible exact ih6 _ _ _)
   | (with_reducible exact ih7 _ _ _)
   | (with_reducible exact hunks_table.mono _ _ _)
   | (with_reducible exact LeO.refl _)
   | (with_reducible exact LeO.none _)
   | (with_reducible refine LeO.ite ?_ ?_)
   | (with_reducible refine LeO.bind ?_ (fun _ => ?_))
   | exact ih0 _ _ _
   | exact ih1 _ _ _
   | exact ih2 _ _ _ _
   | exact ih3 _ _ _ _ _ _ _ _ _ _ _
   | exact ih4 _ _ _ _ _ _ _ _ _ _ _ _
   | exact ih5 _ _ _ _ _ _ _ _ _ _ _ _
   | exact ih6 _ _ _
   | exact ih7 _ _ _
   | exact hunks_table.mono _ _ _
   | exact LeO.none _
   | refine LeO.ite ?_ ?_
   | refine LeO.bind ?_ (fun _ => ?_)
  ·intro y0 y1 y2
   unfold hunks_Changes.j3
   repeat' first
   | (with_reducible exact ih0 _ _ _)
   | (with_reducible exact ih1 _ _ _)
   | (with_reducible exact ih2 _ _ _ _)
   | (with_reducible exact ih3 _ _ _ _ _ _ _ _ _ _ _)
   | (with_reducible exact ih4 _ _ _ _ _ _ _ _ _ _ _ _)
   | (with_reducible exact ih5 _ _ _ _ _ _ _ _ _ _ _ _)
   | (with_reducible exact ih6 _ _ _)
   | (with_reducible exact ih7 _ _ _)
   | (with_reducible exact hunks_table.mono _ _ _)
   | (with_reducible exact LeO.refl _)
   | (with_reducible exact LeO.none _)
   | (with_reducible refine LeO.ite ?_ ?_)
   | (with_reducible refine LeO.bind ?_ (fun _ => ?_))
   | exact ih0 _ _ _
   | exact ih1 _ _ _
   | exact ih2 _ _ _ _
   | exact ih3 _ _ _ _ _ _ _ _ _ _ _
   | exact ih4 _ _ _ _ _ _ _ _ _ _ _ _
   | exact ih5 _ _ _ _ _ _ _ _ _ _ _ _
   | exact ih6 _ _ _
   | exact ih7 _ _ _
   | exact hunks_table.mono _ _ _
   | exact LeO.none _
   | refine LeO.ite ?_ ?_
   | refine LeO.bind ?_ (fun _ => ?_)
  ·intro y0 y1 y2 y3
   unfold hunks_Changes.j4
   repeat' first
   | (with_reducible exact ih0 _ _ _)
   | (with_reducible exact ih1 _ _ _)
   | (with_reducible exact ih2 _ _ _ _)
   | (with_reducible exact ih3 _ _ _ _ _ _ _ _ _ _ _)
   | (with_reducible exact ih4 _ _ _ _ _ _ _ _ _ _ _ _)
   | (with_reducible exact ih5 _ _ _ _ _ _ _ _ _ _ _ _)
   | (with_reducible exact ih6 _ _ _)
   | (with_reducible exact ih7 _ _ _)
   | (with_reducible exact hunks_table.mono _ _ _)
   | (with_reducible exact LeO.refl _)
   | (with_reducible exact LeO.none _)
   | (with_reducible refine LeO.ite ?_ ?_)
   | (with_reducible refine LeO.bind ?_ (fun _ => ?_))
   | exact ih0 _ _ _
   | exact ih1 _ _ _
   | exact ih2 _ _ _ _
   | exact ih3 _ _ _ _ _ _ _ _ _ _ _
   | exact ih4 _ _ _ _ _ _ _ _ _ _ _ _
   | exact ih5 _ _ _ _ _ _ _ _ _ _ _ _
   | exact ih6 _ _ _
   | exact ih7 _ _ _
   | exact hunks_table.mono _ _ _
   | exact LeO.none _
   | refine LeO.ite ?_ ?_
   | refine LeO.bind ?_ (fun _ => ?_)
  ·intro y0 y1 y2 y3 y4 y5 y6 y7 y8 y9 y10
   unfold hunks_Changes.l2
   repeat' first
   | (with_reducible exact ih0 _ _ _)
   | (with_reducible exact ih1 _ _ _)
   | (with_reducible exact ih2 _ _ _ _)
   | (with_reducible exact ih3 _ _ _ _ _ _ _ _ _ _ _)
   | (with_reducible exact ih4 _ _ _ _ _ _ _ _ _ _ _ _)
   | (with_reducible exact ih5 _ _ _ _ _ _ _ _ _ _ _ _)
   | (with_reducible exact ih6 _ _ _)
   | (with_reducible exact ih7 _ _ _)
   | (with_reducible exact hunks_table.mono _ _ _)
   | (with_reducible exact LeO.refl _)
   | (with_reducible exact LeO.none _)
   | (with_reducible refine LeO.ite ?_ ?_)
   | (with_reducible refine LeO.bind ?_ (fun _ => ?_))
   | exact ih0 _ _ _
   | exact ih1 _ _ _
   | exact ih2 _ _ _ _
   | exact ih3 _ _ _ _ _ _ _ _ _ _ _
   | exact ih4 _ _ _ _ _ _ _ _ _ _ _ _
   | exact ih5 _ _ _ _ _ _ _ _ _ _ _ _
   | exact ih6 _ _ _
   | exact ih7 _ _ _
   | exact hunks_table.mono _ _ _
   | exact LeO.none _
   | refine LeO.ite ?_ ?_
   | refine LeO.bind ?_ (fun _ => ?_)
  ·intro y0 y1 y2 y3 y4 y5 y6 y7 y8 y9 y10 y11
   unfold hunks_Changes.j6
   repeat' first
   | (with_reducible exact ih0 _ _ _)
   | (with_reducible exact ih1 _ _ _)
   | (with_reducible exact ih2 _ _ _ _)
   | (with_reducible exact ih3 _ _ _ _ _ _ _ _ _ _ _)
   | (with_reducible exact ih4 _ _ _ _ _ _ _ _ _ _ _ _)
   | (with_reducible exact ih5 _ _ _ _ _ _ _ _ _ _ _ _)
   | (with_reducible exact ih6 _ _ _)
   | (with_reducible exact ih7 _ _ _)
   | (with_reducible exact hunks_table.mono _ _ _)
   | (with_reducible exact LeO.refl _)
   | (with_reducible exact LeO.none _)
   | (with_reducible refine LeO.ite ?_ ?_)
   | (with_reducible refine LeO.bind ?_ (fun _ => ?_))
   | exact ih0 _ _ _
   | exact ih1 _ _ _
   | exact ih2 _ _ _ _
   | exact ih3 _ _ _ _ _ _ _ _ _ _ _
   | exact ih4 _ _ _ _ _ _ _ _ _ _ _ _
   | exact ih5 _ _ _ _ _ _ _ _ _ _ _ _
   | exact ih6 _ _ _
   | exact ih7 _ _ _
   | exact hunks_table.mono _ _ _
   | exact LeO.none _
   | refine LeO.ite ?_ ?_
   | refine LeO.bind ?_ (fun _ => ?_)
  ·intro y0 y1 y2 y3 y4 y5 y6 y7 y8 y9 y10 y11
   unfold hunks_Changes.j7
   repeat' first
   | (with_reducible exact ih0 _ _ _)
   | (with_reducible exact ih1 _ _ _)
   | (with_reducible exact ih2 _ _ _ _)
   | (with_reducible exact ih3 _ _ _ _ _ _ _ _ _ _ _)
   | (with_reducible exact ih4 _ _ _ _ _ _ _ _ _ _ _ _)
   | (with_reducible exact ih5 _ _ _ _ _ _ _ _ _ _ _ _)
   | (with_reducible exact ih6 _ _ _)
   | (with_reducible exact ih7 _ _ _)
   | (with_reducible exact hunks_table.mono _ _ _)
   | (with_reducible exact LeO.refl _)
   | (with_reducible exact LeO.none _)
   | (with_reducible refine LeO.ite ?_ ?_)
   | (with_reducible refine LeO.bind ?_ (fun _ => ?_))
   | exact ih0 _ _ _
   | exact ih1 _ _ _
   | exact ih2 _ _ _ _
   | exact ih3 _ _ _ _ _ _ _ _ _ _ _
   | exact ih4 _ _ _ _ _ _ _ _ _ _ _ _
   | exact ih5 _ _ _ _ _ _ _ _ _ _ _ _
   | exact ih6 _ _ _
   | exact ih7 _ _ _
   | exact hunks_table.mono _ _ _
   | exact LeO.none _
   | refine LeO.ite ?_ ?_
   | refine LeO.bind ?_ (fun _ => ?_)
  ·intro y0 y1 y2
   unfold hunks_Changes.l1
   repeat' first
   | (with_reducible exact ih0 _ _ _)
   | (with_reducible exact ih1 _ _ _)
   | (with_reducible exact ih2 _ _ _ _)
   | (with_reducible exact ih3 _ _ _ _ _ _ _ _ _ _ _)
   | (with_reducible exact ih4 _ _ _ _ _ _ _ _ _ _ _ _)
   | (with_reducible exact ih5 _ _ _ _ _ _ _ _ _ _ _ _)
   | (with_reducible exact ih6 _ _ _)
   | (with_reducible exact ih7 _ _ _)
   | (with_reducible exact hunks_table.mono _ _ _)
   | (with_reducible exact LeO.refl _)
   | (with_reducible exact LeO.none _)
   | (with_reducible refine LeO.ite ?_ ?_)
   | (with_reducible refine LeO.bind ?_ (fun _ => ?_))
   | exact ih0 _ _ _
   | exact ih1 _ _ _
   | exact ih2 _ _ _ _
   | exact ih3 _ _ _ _ _ _ _ _ _ _ _
   | exact ih4 _ _ _ _ _ _ _ _ _ _ _ _
   | exact ih5 _ _ _ _ _ _ _ _ _ _ _ _
   | exact ih6 _ _ _
   | exact ih7 _ _ _
   | exact hunks_table.mono _ _ _
   | exact LeO.none _
   | refine LeO.ite ?_ ?_
   | refine LeO.bind ?_ (fun _ => ?_)
  ·intro y0 y1 y2
   unfold hunks_Changes.l0
   repeat' first
   | (with_reducible exact ih0 _ _ _)
   | (with_reducible exact ih1 _ _ _)
   | (with_reducible exact ih2 _ _ _ _)
   | (with_reducible exact ih3 _ _ _ _ _ _ _ _ _ _ _)
   | (with_reducible exact ih4 _ _ _ _ _ _ _ _ _ _ _ _)
   | (with_reducible exact ih5 _ _ _ _ _ _ _ _ _ _ _ _)
   | (with_reducible exact ih6 _ _ _)
   | (with_reducible exact ih7 _ _ _)
   | (with_reducible exact hunks_table.mono _ _ _)
   | (with_reducible exact LeO.refl _)
   | (with_reducible exact LeO.none _)
   | (with_reducible refine LeO.ite ?_ ?_)
   | (with_reducible refine LeO.bind ?_ (fun _ => ?_))
   | exact ih0 _ _ _
   | exact ih1 _ _ _
   | exact ih2 _ _ _ _
   | exact ih3 _ _ _ _ _ _ _ _ _ _ _
   | exact ih4 _ _ _ _ _ _ _ _ _ _ _ _
   | exact ih5 _ _ _ _ _ _ _ _ _ _ _ _
   | exact ih6 _ _ _
   | exact ih7 _ _ _
   | exact hunks_table.mono _ _ _
   | exact LeO.none _
   | refine LeO.ite ?_ ?_
   | refine LeO.bind ?_ (fun _ => ?_)
theorem hunks_Changes.mono : ∀ a0 a1 k, LeO (hunks_Changes.f k a0 a1) (hunks_Changes.f (k + 1) a0 a1) := by
 intro a0 a1 k
 obtain ⟨ih0, ih1, ih2, ih3, ih4, ih5, ih6, ih7⟩ := hunks_Changes.mono_l k
 unfold hunks_Changes.f
 repeat' first
   | (with_reducible exact ih0 _ _ _)
   | (with_reducible exact ih1 _ _ _)
   | (with_reducible exact ih2 _ _ _ _)
   | (with_reducible exact ih3 _ _ _ _ _ _ _ _ _ _ _)
   | (with_reducible exact ih4 _ _ _ _ _ _ _ _ _ _ _ _)
   | (with_reducible exact ih5 _ _ _ _ _ _ _ _ _ _ _ _)
   | (with_reducible exact ih6 _ _ _)
   | (with_reducible exact ih7 _ _ _)
   | (with_reducible exact hunks_table.mono _ _ _)
   | (with_reducible exact LeO.refl _)
   | (with_reducible exact LeO.none _)
   | (with_reducible refine LeO.ite ?_ ?_)
   | (with_reducible refine LeO.bind ?_ (fun _ => ?_))
   | exact ih0 _ _ _
   | exact ih1 _ _ _
   | exact ih2 _ _ _ _
   | exact ih3 _ _ _ _ _ _ _ _ _ _ _
   | exact ih4 _ _ _ _ _ _ _ _ _ _ _ _
   | exact ih5 _ _ _ _ _ _ _ _ _ _ _ _
   | exact ih6 _ _ _
   | exact ih7 _ _ _
   | exact hunks_table.mono _ _ _
   | exact LeO.none _
   | refine LeO.ite ?_ ?_
   | refine LeO.bind ?_ (fun _ => ?_)
set_option maxHeartbeats 8000000 in
set_option maxRecDepth 100000 in
theorem hunks_Changes.calls (k : Nat) (P0_ : Nat → Prop) (A0 : Option Addr) (c0 : Nat) (l0 : List ByteArray) (P1_ : Nat → Prop) (A1 : Option Addr) (c1 : Nat) (l1 : List ByteArray) (r : List (S39)) (w : World) (hs0 : Kd.V Kd.string 9 w w.heap.size (fun k_ => P0_ k_) (.slice A0 l0.length c0) l0) (hs1 : Kd.V Kd.string 9 w w.heap.size (fun k_ => P1_ k_) (.slice A1 l1.length c1) l1) (h : hunks_Changes.f k l0 l1 = some r) :
  Calls Try.prog 20 #[.slice A0 l0.length c0, .slice A1 l1.length c1] w fun e w' => ∃ v0_ : Value, e = .returned (v0_) ∧ Kd.R k39 39 w' w.heap.size (fun k_ => (w.heap.size ≤ k_)) v0_ r ∧ Below w.heap.size w w' := by
 have hu39 := Try.underlying39
 have HO0 := Aside0.mk (show Kd.V Kd.string 9 w w.heap.size (fun k_ => ((P0_ k_ ∨ P1_ k_) ∨ w.heap.size ≤ k_)) (.slice A0 l0.length c0) l0 from Kd.V_mono hs0 (fun k_ hk => .inl (.inl hk)))
 have HO1 := Aside0.mk (show Kd.V Kd.string 9 w w.heap.size (fun k_ => ((P0_ k_ ∨ P1_ k_) ∨ w.heap.size ≤ k_)) (.slice A1 l1.length c1) l1 from Kd.V_mono hs1 (fun k_ hk => .inl (.inr hk)))
 have HB := Aside0.mk (Below.refl w.heap.size w)
 have H : (hunks_Changes.l0 k l0 l1 0) = some r := h
 clear h
 have HC3 := Aside0.mk H
 clear H
 go_enter Try.func20, Try.ntmps20
 go_upto_block 0 with (first | ((with_reducible refine gate_dst (N := 5) rfl ?_); (try (refine gate_guard (by rfl) ?_; dsimp only)); refine box_event ?hg (N := 5) ?hd (cs := #[.int .i64 0]) (t := 3) ?hr ?_; (case hd => rfl); (case hg => rfl); (case hr => first | (go_simp; done) | (go_simp; rfl)); intro gb124 hg w4 hbox hb; have n0_ := Aside0.mk (Kd.V_below (Kd.V_elderB (by (with_reducible repeat (first | apply Kd.V_alloc | apply Kd.V_drewN | apply Kd.V_drew)); exact HO0.out) gb124 (Nat.le_of_eq hg.symm)) hb); have n1_ := Aside0.mk (Kd.V_below (Kd.V_elderB (by (with_reducible repeat (first | apply Kd.V_alloc | apply Kd.V_drewN | apply Kd.V_drew)); exact HO1.out) gb124 (Nat.le_of_eq hg.symm)) hb); have n2_ := Aside0.mk (below_step (by repeat (first | (with_reducible first | exact HB.out | apply below_alloc | apply pw_below_drewN | apply below_drew1) | exact HB.out)) hb); have n3_ := Aside0.mk (hbox); have n4_ := Aside0.mk ((by rw [hg]; exact (below_size (by repeat (first | (with_reducible first | exact HB.out | apply below_alloc | apply pw_below_drewN | apply below_drew1) | exact HB.out))) : w.heap.size ≤ gb124)); have n5_ := Aside0.mk ((by rw [hg]; exact (below_size (by repeat (first | (with_reducible first | exact HB.out | apply below_alloc | apply pw_below_drewN | apply below_drew1) | exact HB.out))) : w.heap.size ≤ gb124)); clear HO0; clear HO1; clear HB; have HO0 := n0_; have HO1 := n1_; have HB := n2_; have BK124 := n3_; have GW124 := n4_; have GE124 := n5_; clear n0_ n1_ n2_ n3_ n4_ n5_; clear hb hbox hg; have hcz5_0 : w4.cell? ⟨gb124, 0, none⟩ = some (.int .i64 0) := (blk_cell BK124.out 0).trans rfl; have hfz5_0 := blk_frozen BK124.out 0))
 repeat (go_quiet (first | ((with_reducible refine gate_dst (N := 5) rfl ?_); (try (refine gate_guard (by rfl) ?_; dsimp only)); refine box_event ?hg (N := 5) ?hd (cs := #[.int .i64 0]) (t := 3) ?hr ?_; (case hd => rfl); (case hg => rfl); (case hr => first | (go_simp; done) | (go_simp; rfl)); intro gb124 hg w4 hbox hb; have n0_ := Aside0.mk (Kd.V_below (Kd.V_elderB (by (with_reducible repeat (first | apply Kd.V_alloc | apply Kd.V_drewN | apply Kd.V_drew)); exact HO0.out) gb124 (Nat.le_of_eq hg.symm)) hb); have n1_ := Aside0.mk (Kd.V_below (Kd.V_elderB (by (with_reducible repeat (first | apply Kd.V_alloc | apply Kd.V_drewN | apply Kd.V_drew)); exact HO1.out) gb124 (Nat.le_of_eq hg.symm)) hb); have n2_ := Aside0.mk (below_step (by repeat (first | (with_reducible first | exact HB.out | apply below_alloc | apply pw_below_drewN | apply below_drew1) | exact HB.out)) hb); have n3_ := Aside0.mk (hbox); have n4_ := Aside0.mk ((by rw [hg]; exact (below_size (by repeat (first | (with_reducible first | exact HB.out | apply below_alloc | apply pw_below_drewN | apply below_drew1) | exact HB.out))) : w.heap.size ≤ gb124)); have n5_ := Aside0.mk ((by rw [hg]; exact (below_size (by repeat (first | (with_reducible first | exact HB.out | apply below_alloc | apply pw_below_drewN | apply below_drew1) | exact HB.out))) : w.heap.size ≤ gb124)); clear HO0; clear HO1; clear HB; have HO0 := n0_; have HO1 := n1_; have HB := n2_; have BK124 := n3_; have GW124 := n4_; have GE124 := n5_; clear n0_ n1_ n2_ n3_ n4_ n5_; clear hb hbox hg; have hcz5_0 : w4.cell? ⟨gb124, 0, none⟩ = some (.int .i64 0) := (blk_cell BK124.out 0).trans rfl; have hfz5_0 := blk_frozen BK124.out 0)); go_upto_block 0 with (first | ((with_reducible refine gate_dst (N := 5) rfl ?_); (try (refine gate_guard (by rfl) ?_; dsimp only)); refine box_event ?hg (N := 5) ?hd (cs := #[.int .i64 0]) (t := 3) ?hr ?_; (case hd => rfl); (case hg => rfl); (case hr => first | (go_simp; done) | (go_simp; rfl)); intro gb124 hg w4 hbox hb; have n0_ := Aside0.mk (Kd.V_below (Kd.V_elderB (by (with_reducible repeat (first | apply Kd.V_alloc | apply Kd.V_drewN | apply Kd.V_drew)); exact HO0.out) gb124 (Nat.le_of_eq hg.symm)) hb); have n1_ := Aside0.mk (Kd.V_below (Kd.V_elderB (by (with_reducible repeat (first | apply Kd.V_alloc | apply Kd.V_drewN | apply Kd.V_drew)); exact HO1.out) gb124 (Nat.le_of_eq hg.symm)) hb); have n2_ := Aside0.mk (below_step (by repeat (first | (with_reducible first | exact HB.out | apply below_alloc | apply pw_below_drewN | apply below_drew1) | exact HB.out)) hb); have n3_ := Aside0.mk (hbox); have n4_ := Aside0.mk ((by rw [hg]; exact (below_size (by repeat (first | (with_reducible first | exact HB.out | apply below_alloc | apply pw_below_drewN | apply below_drew1) | exact HB.out))) : w.heap.size ≤ gb124)); have n5_ := Aside0.mk ((by rw [hg]; exact (below_size (by repeat (first | (with_reducible first | exact HB.out | apply below_alloc | apply pw_below_drewN | apply below_drew1) | exact HB.out))) : w.heap.size ≤ gb124)); clear HO0; clear HO1; clear HB; have HO0 := n0_; have HO1 := n1_; have HB := n2_; have BK124 := n3_; have GW124 := n4_; have GE124 := n5_; clear n0_ n1_ n2_ n3_ n4_ n5_; clear hb hbox hg; have hcz5_0 : w4.cell? ⟨gb124, 0, none⟩ = some (.int .i64 0) := (blk_cell BK124.out 0).trans rfl; have hfz5_0 := blk_frozen BK124.out 0)))
 (try simp only [Act.put, List.setIfInBounds_toArray, List.set_cons_zero, List.set_cons_succ])
 go_cut [] (fun wc => ∃ (kq : Nat) (x125000_2 : Int), Aside0 (hunks_Changes.j1 kq l0 l1 x125000_2 = some r) ∧ Aside0 (kq ≤ k) ∧ Aside0 (Kd.V Kd.string 9 wc w.heap.size (fun k_ => ((P0_ k_ ∨ P1_ k_) ∨ w.heap.size ≤ k_) ∧ k_ ≠ gb124) (.slice A0 l0.length c0) l0) ∧ Aside0 (Kd.V Kd.string 9 wc w.heap.size (fun k_ => ((P0_ k_ ∨ P1_ k_) ∨ w.heap.size ≤ k_) ∧ k_ ≠ gb124) (.slice A1 l1.length c1) l1) ∧ Aside0 (wc.heap[gb124]? = some (.cells #[.int .i64 x125000_2] 3 (0, 0))) ∧ Aside0 (Below w.heap.size w wc))
 case first =>
  have H := HC3.out
  clear HC3
  have H' := Aside0.mk H
  clear H
  go_wp2
  repeat (go_quiet (fail); try go_wp2)
  go_loopg [] k (fun kq w' => ∃ (x125000_1 : Int), Aside0 (hunks_Changes.l0 kq l0 l1 x125000_1 = some r) ∧ Aside0 (kq ≤ k) ∧ Aside0 (Kd.V Kd.string 9 w' w.heap.size (fun k_ => ((P0_ k_ ∨ P1_ k_) ∨ w.heap.size ≤ k_) ∧ k_ ≠ gb124) (.slice A0 l0.length c0) l0) ∧ Aside0 (Kd.V Kd.string 9 w' w.heap.size (fun k_ => ((P0_ k_ ∨ P1_ k_) ∨ w.heap.size ≤ k_) ∧ k_ ≠ gb124) (.slice A1 l1.length c1) l1) ∧ Aside0 (w'.heap[gb124]? = some (.cells #[.int .i64 x125000_1] 3 (0, 0))) ∧ Aside0 (Below w.heap.size w w'))
  case atStart => exact ⟨(0), H', ⟨Nat.le_refl _⟩, ⟨by (with_reducible repeat (first | apply Kd.V_alloc | apply Kd.V_drewN | apply Kd.V_drew)); exact Kd.V_mono (Kd.V_far (p := ⟨gb124, 0, none⟩) (Kd.V_mono HO0.out (fun k_ hk => (⟨hk, hk.2⟩ : _ ∧ k_ ≠ gb124))) (fun _ hk => hk.2) (.int .i64 0)) (fun _ hk => ⟨hk.1.1, hk.1.2⟩)⟩, ⟨by (with_reducible repeat (first | apply Kd.V_alloc | apply Kd.V_drewN | apply Kd.V_drew)); exact Kd.V_mono (Kd.V_far (p := ⟨gb124, 0, none⟩) (Kd.V_mono HO1.out (fun k_ hk => (⟨hk, hk.2⟩ : _ ∧ k_ ≠ gb124))) (fun _ hk => hk.2) (.int .i64 0)) (fun _ hk => ⟨hk.1.1, hk.1.2⟩)⟩, ⟨by (with_reducible repeat (first | refine blk_drewN ?_ _ | refine blk_drew ?_ | refine blk_alloc ?_ _)); refine blk_put (cs := #[.int .i64 0]) ?_ 0 _ rfl; (with_reducible repeat (first | refine blk_drewN ?_ _ | refine blk_drew ?_ | refine blk_alloc ?_ _)); exact BK124.out⟩, ⟨by repeat (first | (with_reducible first | exact HB.out | apply below_alloc | apply pw_below_drewN | apply below_drew1 | refine below_set ?_ GE124.out) | exact HB.out)⟩⟩
  case round =>
   clear H'
   (try clear c1); (try clear c2); (try clear p2); (try clear hcz5_0); (try clear hfz5_0)
   obtain ⟨x125000_1, HA, HK1, HO_0, HO_1, BK124, HB⟩ := hrel
   cases gk with
   | zero => exact absurd HA.out (by simp [hunks_Changes.l0])
   | succ k1 =>
    have H := HA.out
    clear HA
    simp only [hunks_Changes.l0] at H
    by_cases c6 : x125000_1 < (l0.length : Int)
    ·rw [if_pos c6] at H
     have c6b0 : decide (x125000_1 < (l0.length : Int)) = true := decide_eq_true c6
     clear c6
     (first | rw [c6b0] | (simp only [i64_w, i32_w]; rw [c6b0]) | skip)
     by_cases c7 : x125000_1 < (l1.length : Int)
     ·rw [if_pos c7] at H
      have c7b0 : decide (x125000_1 < (l1.length : Int)) = true := decide_eq_true c7
      clear c7
      by_cases c8 : 0 ≤ x125000_1
      ·rw [if_pos c8] at H
       have c8b0 : decide (0 ≤ x125000_1) = true := decide_eq_true c8
       clear c8
       by_cases c9 : (rdOf ByteArray.empty l0 x125000_1).toList = (rdOf ByteArray.empty l1 x125000_1).toList
       ·rw [if_pos c9] at H
        have c9b0 : ((rdOf ByteArray.empty l0 x125000_1).toList == (rdOf ByteArray.empty l1 x125000_1).toList) = true := beq_iff_eq.mpr c9
        have c9b1 : ((rdOf ByteArray.empty l0 x125000_1).toList != (rdOf ByteArray.empty l1 x125000_1).toList) = false := bne_eq_false_iff_eq.mpr c9
        clear c9
        have H' := Aside0.mk H
        clear H
        have hcz10_0 : wr.cell? ⟨gb124, 0, none⟩ = some (.int .i64 x125000_1) := (blk_cell BK124.out 0).trans rfl
        have hfz10_0 := blk_frozen BK124.out 0
        have p125 : 0 ≤ (x125000_1 : Int) := of_decide_eq_true (by first | (with_reducible assumption) | assumption)
        have q125 : x125000_1 < (l0.length : Int) := of_decide_eq_true (by first | (with_reducible assumption) | assumption)
        obtain ⟨ad125, e125, hx125_0⟩ := Kd.at_string (Kd.V_reads' HO_0.out).2.2 x125000_1 p125 q125
        cases e125
        replace p125 := eq_true p125
        replace q125 := eq_true q125
        have p126 : 0 ≤ (x125000_1 : Int) := of_decide_eq_true (by first | (with_reducible assumption) | assumption)
        have q126 : x125000_1 < (l1.length : Int) := of_decide_eq_true (by first | (with_reducible assumption) | assumption)
        obtain ⟨ad126, e126, hx126_0⟩ := Kd.at_string (Kd.V_reads' HO_1.out).2.2 x125000_1 p126 q126
        cases e126
        replace p126 := eq_true p126
        replace q126 := eq_true q126
        go_wp2
        repeat (go_quiet (fail); try go_wp2)
        go_roundg k1
        case measure => have := HK1.out; omega
        case rel => exact ⟨(wrap64 (x125000_1 + 1)), H', ⟨by have := HK1.out; omega⟩, ⟨by (with_reducible repeat (first | apply Kd.V_alloc | apply Kd.V_drewN | apply Kd.V_drew)); exact Kd.V_mono (Kd.V_far (p := ⟨gb124, 0, none⟩) (Kd.V_mono HO_0.out (fun k_ hk => (⟨hk, hk.2⟩ : _ ∧ k_ ≠ gb124))) (fun _ hk => hk.2) (.int .i64 (wrap64 (x125000_1 + 1)))) (fun _ hk => ⟨hk.1.1, hk.1.2⟩)⟩, ⟨by (with_reducible repeat (first | apply Kd.V_alloc | apply Kd.V_drewN | apply Kd.V_drew)); exact Kd.V_mono (Kd.V_far (p := ⟨gb124, 0, none⟩) (Kd.V_mono HO_1.out (fun k_ hk => (⟨hk, hk.2⟩ : _ ∧ k_ ≠ gb124))) (fun _ hk => hk.2) (.int .i64 (wrap64 (x125000_1 + 1)))) (fun _ hk => ⟨hk.1.1, hk.1.2⟩)⟩, ⟨by (with_reducible repeat (first | refine blk_drewN ?_ _ | refine blk_drew ?_ | refine blk_alloc ?_ _)); refine blk_put (cs := #[.int .i64 x125000_1]) ?_ 0 _ rfl; (with_reducible repeat (first | refine blk_drewN ?_ _ | refine blk_drew ?_ | refine blk_alloc ?_ _)); exact BK124.out⟩, ⟨by repeat (first | (with_reducible first | exact HB.out | apply below_alloc | apply pw_below_drewN | apply below_drew1 | refine below_set ?_ GE124.out) | exact HB.out)⟩⟩
       ·rw [if_neg c9] at H
        have c9b0 : ((rdOf ByteArray.empty l0 x125000_1).toList == (rdOf ByteArray.empty l1 x125000_1).toList) = false := beq_eq_false_iff_ne.mpr c9
        have c9b1 : ((rdOf ByteArray.empty l0 x125000_1).toList != (rdOf ByteArray.empty l1 x125000_1).toList) = true := bne_iff_ne.mpr c9
        have H' := Aside0.mk H
        clear H
        have hcz11_0 : wr.cell? ⟨gb124, 0, none⟩ = some (.int .i64 x125000_1) := (blk_cell BK124.out 0).trans rfl
        have hfz11_0 := blk_frozen BK124.out 0
        have p125 : 0 ≤ (x125000_1 : Int) := of_decide_eq_true (by first | (with_reducible assumption) | assumption)
        have q125 : x125000_1 < (l0.length : Int) := of_decide_eq_true (by first | (with_reducible assumption) | assumption)
        obtain ⟨ad125, e125, hx125_0⟩ := Kd.at_string (Kd.V_reads' HO_0.out).2.2 x125000_1 p125 q125
        cases e125
        replace p125 := eq_true p125
        replace q125 := eq_true q125
        have p126 : 0 ≤ (x125000_1 : Int) := of_decide_eq_true (by first | (with_reducible assumption) | assumption)
        have q126 : x125000_1 < (l1.length : Int) := of_decide_eq_true (by first | (with_reducible assumption) | assumption)
        obtain ⟨ad126, e126, hx126_0⟩ := Kd.at_string (Kd.V_reads' HO_1.out).2.2 x125000_1 p126 q126
        cases e126
        replace p126 := eq_true p126
        replace q126 := eq_true q126
        go_wp2
        repeat (go_quiet (fail); try go_wp2)
        go_meet
        case rel => exact ⟨_, (x125000_1), H', ⟨by have := HK1.out; first | omega | exact Nat.le_refl _⟩, ⟨by (with_reducible repeat (first | apply Kd.V_alloc | apply Kd.V_drewN | apply Kd.V_drew)); exact HO_0.out⟩, ⟨by (with_reducible repeat (first | apply Kd.V_alloc | apply Kd.V_drewN | apply Kd.V_drew)); exact HO_1.out⟩, ⟨by (with_reducible repeat (first | refine blk_drewN ?_ _ | refine blk_drew ?_ | refine blk_alloc ?_ _)); exact BK124.out⟩, ⟨by repeat (first | (with_reducible first | exact HB.out | apply below_alloc | apply pw_below_drewN | apply below_drew1 | refine below_set ?_ GE124.out) | exact HB.out)⟩⟩
      ·rw [if_neg c8] at H
       exact absurd H (by simp)
     ·rw [if_neg c7] at H
      have c7b0 : decide (x125000_1 < (l1.length : Int)) = false := decide_eq_false c7
      clear c7
      have H' := Aside0.mk H
      clear H
      have hcz12_0 : wr.cell? ⟨gb124, 0, none⟩ = some (.int .i64 x125000_1) := (blk_cell BK124.out 0).trans rfl
      have hfz12_0 := blk_frozen BK124.out 0
      go_wp2
      repeat (go_quiet (fail); try go_wp2)
      go_meet
      case rel => exact ⟨_, (x125000_1), H', ⟨by have := HK1.out; first | omega | exact Nat.le_refl _⟩, ⟨by (with_reducible repeat (first | apply Kd.V_alloc | apply Kd.V_drewN | apply Kd.V_drew)); exact HO_0.out⟩, ⟨by (with_reducible repeat (first | apply Kd.V_alloc | apply Kd.V_drewN | apply Kd.V_drew)); exact HO_1.out⟩, ⟨by (with_reducible repeat (first | refine blk_drewN ?_ _ | refine blk_drew ?_ | refine blk_alloc ?_ _)); exact BK124.out⟩, ⟨by repeat (first | (with_reducible first | exact HB.out | apply below_alloc | apply pw_below_drewN | apply below_drew1 | refine below_set ?_ GE124.out) | exact HB.out)⟩⟩
    ·rw [if_neg c6] at H
     have c6b0 : decide (x125000_1 < (l0.length : Int)) = false := decide_eq_false c6
     clear c6
     (first | rw [c6b0] | (simp only [i64_w, i32_w]; rw [c6b0]) | skip)
     have H' := Aside0.mk H
     clear H
     have hcz13_0 : wr.cell? ⟨gb124, 0, none⟩ = some (.int .i64 x125000_1) := (blk_cell BK124.out 0).trans rfl
     have hfz13_0 := blk_frozen BK124.out 0
     go_wp2
     repeat (go_quiet (fail); try go_wp2)
     go_meet
     case rel => exact ⟨_, (x125000_1), H', ⟨by have := HK1.out; first | omega | exact Nat.le_refl _⟩, ⟨by (with_reducible repeat (first | apply Kd.V_alloc | apply Kd.V_drewN | apply Kd.V_drew)); exact HO_0.out⟩, ⟨by (with_reducible repeat (first | apply Kd.V_alloc | apply Kd.V_drewN | apply Kd.V_drew)); exact HO_1.out⟩, ⟨by (with_reducible repeat (first | refine blk_drewN ?_ _ | refine blk_drew ?_ | refine blk_alloc ?_ _)); exact BK124.out⟩, ⟨by repeat (first | (with_reducible first | exact HB.out | apply below_alloc | apply pw_below_drewN | apply below_drew1 | refine below_set ?_ GE124.out) | exact HB.out)⟩⟩
 case rest =>
  clear HC3
  (try clear c1); (try clear p1); (try clear q1); (try clear hx1); (try clear c2); (try clear p2); (try clear c6); (try clear c6b0); (try clear p6); (try clear c7); (try clear c7b0); (try clear c8); (try clear c8b0); (try clear c9); (try clear c9b0); (try clear c9b1); (try clear p12); (try clear q12); (try clear hx12); (try clear hcz10_0); (try clear hcz11_0); (try clear hcz12_0); (try clear hcz13_0); (try clear hcz5_0); (try clear hfz10_0); (try clear hfz11_0); (try clear hfz12_0); (try clear hfz13_0); (try clear hfz5_0); (try clear hx125_0); (try clear hx126_0); (try clear p125); (try clear p126); (try clear p2); (try clear q125); (try clear q126)
  obtain ⟨kq, x125000_2, HA, HJ2, HO_0, HO_1, BK124, HB⟩ := hcut
  cases kq with
  | zero => exact absurd HA.out (by simp [hunks_Changes.j1])
  | succ kj2 =>
   have H := HA.out
   clear HA
   simp only [hunks_Changes.j1] at H
   by_cases c14 : 0 ≤ x125000_2
   ·rw [if_pos c14] at H
    have c14b0 := eq_true c14
    have c14b1 : decide (0 ≤ x125000_2) = true := decide_eq_true c14
    clear c14
    by_cases c15 : x125000_2 ≤ (l0.length : Int)
    ·rw [if_pos c15] at H
     have c15b0 := eq_true c15
     have c15b1 : decide (x125000_2 ≤ (l0.length : Int)) = true := decide_eq_true c15
     clear c15
     obtain ⟨y127, hy127⟩ : ∃ y_ : List ByteArray, y_ = (l0.drop (x125000_2 : Int).toNat) := ⟨_, rfl⟩
     replace H : (if x125000_2 ≤ (l1.length : Int) then (hunks_Changes.l1 kj2 y127 (l1.drop (x125000_2 : Int).toNat) x125000_2) else (none)) = some r := by first | (rw [hy127]; with_reducible exact H) | (have H2_ := (Option.bind_some _ _).symm.trans H; rw [hy127]; with_reducible exact H2_) | (have H2_ := (Option.bind_some _ _).symm.trans H; with_reducible exact H2_) | with_reducible exact H | (rw [hy127]; exact H) | exact H
     have Ny127 := Aside0.mk hy127
     clear hy127
     have c16b0 := eq_true (of_decide_eq_true (by first | (with_reducible assumption) | assumption) : 0 ≤ x125000_2)
     by_cases c17 : x125000_2 ≤ (l1.length : Int)
     ·rw [if_pos c17] at H
      have c17b0 := eq_true c17
      have c17b1 : decide (x125000_2 ≤ (l1.length : Int)) = true := decide_eq_true c17
      clear c17
      obtain ⟨y132, hy132⟩ : ∃ y_ : List ByteArray, y_ = (l1.drop (x125000_2 : Int).toNat) := ⟨_, rfl⟩
      replace H : (hunks_Changes.l1 kj2 y127 y132 x125000_2) = some r := by first | (rw [hy132]; with_reducible exact H) | (have H2_ := (Option.bind_some _ _).symm.trans H; rw [hy132]; with_reducible exact H2_) | (have H2_ := (Option.bind_some _ _).symm.trans H; with_reducible exact H2_) | with_reducible exact H | (rw [hy132]; exact H) | exact H
      have Ny132 := Aside0.mk hy132
      clear hy132
      have HC18 := Aside0.mk H
      clear H
      have hcz19_0 : wc.cell? ⟨gb124, 0, none⟩ = some (.int .i64 x125000_2) := (blk_cell BK124.out 0).trans rfl
      have hfz19_0 := blk_frozen BK124.out 0
      have q20 : (x125000_2 : Int) ≤ ((l0.length : Int) : Int) := of_decide_eq_true (by first | (with_reducible assumption) | assumption)
      obtain ⟨i020, hi020, _, hsz20, _⟩ := info_parts info9
      have hroom20 : l0.length ≤ c0 := (Kd.V_reads' HO_0.out).2.1
      have hC20 : Kd.F Kd.string _ _ A0 l0.length l0 := (Kd.V_at (base := w.heap.size) HO_0.out).2.2
      have q020 : (0 : Int) ≤ (x125000_2 : Int) := of_decide_eq_true (by first | (with_reducible assumption) | assumption)
      have hcut20 := cut_from (P := Try.prog) 29 9 .i64 Try.underlying29 hi020 1 hsz20 A0 l0.length c0 x125000_2 q020 q20
      have hr20 := Kd.F_cut (m := (x125000_2 : Int).toNat) (c := c0) hC20 (by omega) hroom20
      obtain ⟨A20, hA20⟩ : ∃ A1z_, A1z_ = (if c0 = (x125000_2 : Int).toNat then A0 else (A0 : Option Addr).map (·.add ((x125000_2 : Int).toNat * 1))) := ⟨_, rfl⟩
      obtain ⟨c20, hc20⟩ : ∃ c1z_, c1z_ = c0 - (x125000_2 : Int).toNat := ⟨_, rfl⟩
      have hy20 : y127.length = l0.length - (x125000_2 : Int).toNat := (by rw [Ny127.out, List.length_drop] <;> omega)
      rw [show (l0).drop (x125000_2 : Int).toNat = y127 from Ny127.out.symm] at hr20
      replace hr20 : Kd.F Kd.string _ _ A20 y127.length y127 := (by rw [hA20]; exact hr20)
      rw [← hy20, ← hA20, ← hc20] at hcut20
      have HO131 := Aside0.mk (show Kd.V Kd.string 9 _ w.heap.size _ (.slice A20 y127.length c20) y127 from Kd.V_mk (by rw [hy20, hc20]; exact Nat.sub_le_sub_right hroom20 _) hr20)
      have HC131 := Aside0.mk (show y127.length ≤ c20 from by rw [hy20, hc20]; exact Nat.sub_le_sub_right hroom20 _)
      clear hr20 hC20 hroom20 hi020 hsz20 hc20
      have KY20 := Aside0.mk hy20
      have KA20 := Aside0.mk hA20
      clear hy20 hA20
      replace q20 := eq_true q20
      have q21 : (x125000_2 : Int) ≤ ((l1.length : Int) : Int) := of_decide_eq_true (by first | (with_reducible assumption) | assumption)
      obtain ⟨i021, hi021, _, hsz21, _⟩ := info_parts info9
      have hroom21 : l1.length ≤ c1 := (Kd.V_reads' HO_1.out).2.1
      have hC21 : Kd.F Kd.string _ _ A1 l1.length l1 := (Kd.V_at (base := w.heap.size) HO_1.out).2.2
      have q021 : (0 : Int) ≤ (x125000_2 : Int) := of_decide_eq_true (by first | (with_reducible assumption) | assumption)
      have hcut21 := cut_from (P := Try.prog) 29 9 .i64 Try.underlying29 hi021 1 hsz21 A1 l1.length c1 x125000_2 q021 q21
      have hr21 := Kd.F_cut (m := (x125000_2 : Int).toNat) (c := c1) hC21 (by omega) hroom21
      obtain ⟨A21, hA21⟩ : ∃ A1z_, A1z_ = (if c1 = (x125000_2 : Int).toNat then A1 else (A1 : Option Addr).map (·.add ((x125000_2 : Int).toNat * 1))) := ⟨_, rfl⟩
      obtain ⟨c21, hc21⟩ : ∃ c1z_, c1z_ = c1 - (x125000_2 : Int).toNat := ⟨_, rfl⟩
      have hy21 : y132.length = l1.length - (x125000_2 : Int).toNat := (by rw [Ny132.out, List.length_drop] <;> omega)
      rw [show (l1).drop (x125000_2 : Int).toNat = y132 from Ny132.out.symm] at hr21
      replace hr21 : Kd.F Kd.string _ _ A21 y132.length y132 := (by rw [hA21]; exact hr21)
      rw [← hy21, ← hA21, ← hc21] at hcut21
      have HO136 := Aside0.mk (show Kd.V Kd.string 9 _ w.heap.size _ (.slice A21 y132.length c21) y132 from Kd.V_mk (by rw [hy21, hc21]; exact Nat.sub_le_sub_right hroom21 _) hr21)
      have HC136 := Aside0.mk (show y132.length ≤ c21 from by rw [hy21, hc21]; exact Nat.sub_le_sub_right hroom21 _)
      clear hr21 hC21 hroom21 hi021 hsz21 hc21
      have KY21 := Aside0.mk hy21
      have KA21 := Aside0.mk hA21
      clear hy21 hA21
      replace q21 := eq_true q21
      go_upto_block 2 with (fail)
      repeat (go_quiet (fail); go_upto_block 2 with (fail))
      go_cut [6, 7] (fun v6 v7 wc => ∃ (kq : Nat) (x6_17 : List ByteArray) (x7_17 : List ByteArray), Aside0 (hunks_Changes.j3 kq x6_17 x7_17 x125000_2 = some r) ∧ Aside0 (kq ≤ kj2) ∧ Aside0 (Kd.V Kd.string 9 wc w.heap.size (fun k_ => ((P0_ k_ ∨ P1_ k_) ∨ w.heap.size ≤ k_) ∧ k_ ≠ gb124) v6 x6_17) ∧ Aside0 (Kd.V Kd.string 9 wc w.heap.size (fun k_ => ((P0_ k_ ∨ P1_ k_) ∨ w.heap.size ≤ k_) ∧ k_ ≠ gb124) v7 x7_17) ∧ Aside0 (wc.heap[gb124]? = some (.cells #[.int .i64 x125000_2] 3 (0, 0))) ∧ Aside0 (Below w.heap.size w wc))
      case first =>
       have H := HC18.out
       clear HC18
       have H' := Aside0.mk H
       clear H
       go_wp2
       repeat (go_quiet (fail); try go_wp2)
       go_loopg [6, 7] kj2 (fun kq v6 v7 w' => ∃ (x6_2 : List ByteArray) (x7_2 : List ByteArray), Aside0 (hunks_Changes.l1 kq x6_2 x7_2 x125000_2 = some r) ∧ Aside0 (kq ≤ kj2) ∧ Aside0 (Kd.V Kd.string 9 w' w.heap.size (fun k_ => ((P0_ k_ ∨ P1_ k_) ∨ w.heap.size ≤ k_) ∧ k_ ≠ gb124) v6 x6_2) ∧ Aside0 (Kd.V Kd.string 9 w' w.heap.size (fun k_ => ((P0_ k_ ∨ P1_ k_) ∨ w.heap.size ≤ k_) ∧ k_ ≠ gb124) v7 x7_2) ∧ Aside0 (w'.heap[gb124]? = some (.cells #[.int .i64 x125000_2] 3 (0, 0))) ∧ Aside0 (Below w.heap.size w w'))
       case atStart => exact ⟨(y127), (y132), H', ⟨Nat.le_refl _⟩, ⟨by (with_reducible repeat (first | apply Kd.V_alloc | apply Kd.V_drewN | apply Kd.V_drew)); exact HO131.out⟩, ⟨by (with_reducible repeat (first | apply Kd.V_alloc | apply Kd.V_drewN | apply Kd.V_drew)); exact HO136.out⟩, ⟨by (with_reducible repeat (first | refine blk_drewN ?_ _ | refine blk_drew ?_ | refine blk_alloc ?_ _)); exact BK124.out⟩, ⟨by repeat (first | (with_reducible first | exact HB.out | apply below_alloc | apply pw_below_drewN | apply below_drew1 | refine below_set ?_ GE124.out) | exact HB.out)⟩⟩
       case round =>
        clear H'
        (try clear c1); (try clear p1); (try clear q1); (try clear hx1); (try clear c2); (try clear p2); (try clear q2); (try clear c6); (try clear c6b0); (try clear p6); (try clear c7); (try clear c7b0); (try clear c8); (try clear c8b0); (try clear c9); (try clear c9b0); (try clear c9b1); (try clear p12); (try clear q12); (try clear hx12); (try clear c14); (try clear c14b0); (try clear c14b1); (try clear c15); (try clear c15b0); (try clear c15b1); (try clear c16); (try clear c16b0); (try clear c17); (try clear c17b0); (try clear c17b1); (try clear c20); (try clear q20); (try clear c21); (try clear q21); (try clear hcz10_0); (try clear hcz11_0); (try clear hcz12_0); (try clear hcz13_0); (try clear hcz19_0); (try clear hcz5_0); (try clear hfz10_0); (try clear hfz11_0); (try clear hfz12_0); (try clear hfz13_0); (try clear hfz19_0); (try clear hfz5_0); (try clear hx125_0); (try clear hx126_0); (try clear p1); (try clear p12); (try clear p125); (try clear p126); (try clear p2); (try clear p6); (try clear q020); (try clear q021); (try clear q1); (try clear q12); (try clear q125); (try clear q126); (try clear q20); (try clear q21)
        obtain ⟨x6_2, x7_2, HA, HK2, HO_6, HO_7, BK124, HB⟩ := hrel
        cases gk with
        | zero => exact absurd HA.out (by simp [hunks_Changes.l1])
        | succ k2 =>
         have H := HA.out
         clear HA
         simp only [hunks_Changes.l1] at H
         by_cases c22 : (x6_2.length : Int) > 0
         ·rw [if_pos c22] at H
          have c22b0 : decide (0 < (x6_2.length : Int)) = true := decide_eq_true c22
          have c22b1 : decide (0 < x6_2.length) = true := decide_eq_true (by omega)
          clear c22
          (first | rw [c22b0] | (simp only [i64_w, i32_w]; rw [c22b0]) | skip)
          by_cases c23 : (x7_2.length : Int) > 0
          ·rw [if_pos c23] at H
           have c23b0 : decide (0 < (x7_2.length : Int)) = true := decide_eq_true c23
           have c23b1 : decide (0 < x7_2.length) = true := decide_eq_true (by omega)
           clear c23
           obtain ⟨ji24, hji24⟩ : ∃ j_ : Int, (wrap64 ((x6_2.length : Int) - 1)) = j_ := ⟨_, rfl⟩
           replace H : (if 0 ≤ (ji24) then (if (ji24) < (x6_2.length : Int) then (if 0 ≤ (wrap64 ((x7_2.length : Int) - 1)) then (if (wrap64 ((x7_2.length : Int) - 1)) < (x7_2.length : Int) then (if (rdOf ByteArray.empty x6_2 (ji24)).toList = (rdOf ByteArray.empty x7_2 (wrap64 ((x7_2.length : Int) - 1))).toList then (if (ji24) ≤ (x6_2.length : Int) then (if (wrap64 ((x7_2.length : Int) - 1)) ≤ (x7_2.length : Int) then (hunks_Changes.l1 k2 (x6_2.take ((ji24) : Int).toNat) (x7_2.take ((wrap64 ((x7_2.length : Int) - 1)) : Int).toNat) x125000_2) else (none)) else (none)) else (hunks_Changes.j3 k2 x6_2 x7_2 x125000_2)) else (none)) else (none)) else (none)) else (none)) = some r := by first | (rw [hji24] at H; exact H) | (simp only [hji24] at H ⊢; exact H)
           have hji24w : (IntKind.i64.wrap ((x6_2.length : Int) - 1)) = ji24 := (i64_w _).trans hji24
           by_cases c25 : 0 ≤ (ji24)
           ·rw [if_pos c25] at H
            have c25b0 : decide (0 ≤ (ji24)) = true := decide_eq_true c25
            clear c25
            by_cases c26 : (ji24) < (x6_2.length : Int)
            ·rw [if_pos c26] at H
             have c26b0 : decide ((ji24) < (x6_2.length : Int)) = true := decide_eq_true c26
             clear c26
             obtain ⟨ji27, hji27⟩ : ∃ j_ : Int, (wrap64 ((x7_2.length : Int) - 1)) = j_ := ⟨_, rfl⟩
             replace H : (if 0 ≤ (ji27) then (if (ji27) < (x7_2.length : Int) then (if (rdOf ByteArray.empty x6_2 (ji24)).toList = (rdOf ByteArray.empty x7_2 (ji27)).toList then (if (ji24) ≤ (x6_2.length : Int) then (if (ji27) ≤ (x7_2.length : Int) then (hunks_Changes.l1 k2 (x6_2.take ((ji24) : Int).toNat) (x7_2.take ((ji27) : Int).toNat) x125000_2) else (none)) else (none)) else (hunks_Changes.j3 k2 x6_2 x7_2 x125000_2)) else (none)) else (none)) = some r := by first | (rw [hji27] at H; exact H) | (simp only [hji27] at H ⊢; exact H)
             have hji27w : (IntKind.i64.wrap ((x7_2.length : Int) - 1)) = ji27 := (i64_w _).trans hji27
             by_cases c28 : 0 ≤ (ji27)
             ·rw [if_pos c28] at H
              have c28b0 : decide (0 ≤ (ji27)) = true := decide_eq_true c28
              clear c28
              by_cases c29 : (ji27) < (x7_2.length : Int)
              ·rw [if_pos c29] at H
               have c29b0 : decide ((ji27) < (x7_2.length : Int)) = true := decide_eq_true c29
               clear c29
               by_cases c30 : (rdOf ByteArray.empty x6_2 (ji24)).toList = (rdOf ByteArray.empty x7_2 (ji27)).toList
               ·rw [if_pos c30] at H
                have c30b0 : ((rdOf ByteArray.empty x6_2 (ji24)).toList == (rdOf ByteArray.empty x7_2 (ji27)).toList) = true := beq_iff_eq.mpr c30
                have c30b1 : ((rdOf ByteArray.empty x6_2 (ji24)).toList != (rdOf ByteArray.empty x7_2 (ji27)).toList) = false := bne_eq_false_iff_eq.mpr c30
                clear c30
                have c31b0 := eq_true (of_decide_eq_true (by first | (with_reducible assumption) | assumption) : 0 ≤ (ji24))
                by_cases c32 : (ji24) ≤ (x6_2.length : Int)
                ·rw [if_pos c32] at H
                 have c32b0 := eq_true c32
                 have c32b1 : decide ((ji24) ≤ (x6_2.length : Int)) = true := decide_eq_true c32
                 clear c32
                 obtain ⟨y139, hy139⟩ : ∃ y_ : List ByteArray, y_ = (x6_2.take ((ji24) : Int).toNat) := ⟨_, rfl⟩
                 replace H : (if (ji27) ≤ (x7_2.length : Int) then (hunks_Changes.l1 k2 y139 (x7_2.take ((ji27) : Int).toNat) x125000_2) else (none)) = some r := by first | (rw [hy139]; with_reducible exact H) | (have H2_ := (Option.bind_some _ _).symm.trans H; rw [hy139]; with_reducible exact H2_) | (have H2_ := (Option.bind_some _ _).symm.trans H; with_reducible exact H2_) | with_reducible exact H | (rw [hy139]; exact H) | exact H
                 have Ny139 := Aside0.mk hy139
                 clear hy139
                 have c33b0 := eq_true (of_decide_eq_true (by first | (with_reducible assumption) | assumption) : 0 ≤ (ji27))
                 by_cases c34 : (ji27) ≤ (x7_2.length : Int)
                 ·rw [if_pos c34] at H
                  have c34b0 := eq_true c34
                  have c34b1 : decide ((ji27) ≤ (x7_2.length : Int)) = true := decide_eq_true c34
                  clear c34
                  obtain ⟨y144, hy144⟩ : ∃ y_ : List ByteArray, y_ = (x7_2.take ((ji27) : Int).toNat) := ⟨_, rfl⟩
                  replace H : (hunks_Changes.l1 k2 y139 y144 x125000_2) = some r := by first | (rw [hy144]; with_reducible exact H) | (have H2_ := (Option.bind_some _ _).symm.trans H; rw [hy144]; with_reducible exact H2_) | (have H2_ := (Option.bind_some _ _).symm.trans H; with_reducible exact H2_) | with_reducible exact H | (rw [hy144]; exact H) | exact H
                  have Ny144 := Aside0.mk hy144
                  clear hy144
                  have H' := Aside0.mk H
                  clear H
                  obtain ⟨Ao35, co35, eo35⟩ := Kd.V_slice HO_6.out
                  subst eo35
                  obtain ⟨Ao36, co36, eo36⟩ := Kd.V_slice HO_7.out
                  subst eo36
                  have p137 : 0 ≤ ((ji24) : Int) := of_decide_eq_true (by first | (with_reducible assumption) | assumption)
                  have q137 : (ji24) < (x6_2.length : Int) := of_decide_eq_true (by first | (with_reducible assumption) | assumption)
                  obtain ⟨ad137, e137, hx137_0⟩ := Kd.at_string (Kd.V_reads' HO_6.out).2.2 (ji24) p137 q137
                  cases e137
                  replace p137 := eq_true p137
                  replace q137 := eq_true q137
                  have p138 : 0 ≤ ((ji27) : Int) := of_decide_eq_true (by first | (with_reducible assumption) | assumption)
                  have q138 : (ji27) < (x7_2.length : Int) := of_decide_eq_true (by first | (with_reducible assumption) | assumption)
                  obtain ⟨ad138, e138, hx138_0⟩ := Kd.at_string (Kd.V_reads' HO_7.out).2.2 (ji27) p138 q138
                  cases e138
                  replace p138 := eq_true p138
                  replace q138 := eq_true q138
                  have q37 : ((ji24) : Int) ≤ ((x6_2.length : Int) : Int) := of_decide_eq_true (by first | (with_reducible assumption) | assumption)
                  obtain ⟨i037, hi037, _, hsz37, _⟩ := info_parts info9
                  have hroom37 : x6_2.length ≤ co35 := (Kd.V_reads' HO_6.out).2.1
                  have hC37 : Kd.F Kd.string _ _ (some ad137) x6_2.length x6_2 := (Kd.V_at (base := w.heap.size) HO_6.out).2.2
                  have hcut37 := cut_to (P := Try.prog) 29 9 .i64 Try.underlying29 hi037 (some ad137) x6_2.length co35 (ji24) (of_decide_eq_true (by first | (with_reducible assumption) | assumption)) q37 hroom37
                  have hr37 := Kd.F_take (m := ((ji24) : Int).toNat) hC37 (by omega)
                  have hy37 : y139.length = ((ji24) : Int).toNat := (by rw [Ny139.out, List.length_take]; omega)
                  rw [← Ny139.out] at hr37
                  rw [← hy37] at hcut37
                  have HO143 := Aside0.mk (show Kd.V Kd.string 9 _ w.heap.size _ (.slice (some ad137) y139.length co35) y139 from Kd.V_mk (by omega) hr37)
                  have HC143 := Aside0.mk (show y139.length ≤ co35 from by omega)
                  clear hr37 hC37 hroom37 hi037 hsz37
                  have KY37 := Aside0.mk hy37
                  clear hy37
                  replace q37 := eq_true q37
                  have q38 : ((ji27) : Int) ≤ ((x7_2.length : Int) : Int) := of_decide_eq_true (by first | (with_reducible assumption) | assumption)
                  obtain ⟨i038, hi038, _, hsz38, _⟩ := info_parts info9
                  have hroom38 : x7_2.length ≤ co36 := (Kd.V_reads' HO_7.out).2.1
                  have hC38 : Kd.F Kd.string _ _ (some ad138) x7_2.length x7_2 := (Kd.V_at (base := w.heap.size) HO_7.out).2.2
                  have hcut38 := cut_to (P := Try.prog) 29 9 .i64 Try.underlying29 hi038 (some ad138) x7_2.length co36 (ji27) (of_decide_eq_true (by first | (with_reducible assumption) | assumption)) q38 hroom38
                  have hr38 := Kd.F_take (m := ((ji27) : Int).toNat) hC38 (by omega)
                  have hy38 : y144.length = ((ji27) : Int).toNat := (by rw [Ny144.out, List.length_take]; omega)
                  rw [← Ny144.out] at hr38
                  rw [← hy38] at hcut38
                  have HO148 := Aside0.mk (show Kd.V Kd.string 9 _ w.heap.size _ (.slice (some ad138) y144.length co36) y144 from Kd.V_mk (by omega) hr38)
                  have HC148 := Aside0.mk (show y144.length ≤ co36 from by omega)
                  clear hr38 hC38 hroom38 hi038 hsz38
                  have KY38 := Aside0.mk hy38
                  clear hy38
                  replace q38 := eq_true q38
                  go_wp2
                  repeat (go_quiet (fail); try go_wp2)
                  go_roundg k2
                  case measure => have := HJ2.out; have := HK2.out; omega
                  case rel => exact ⟨(y139), (y144), H', ⟨by have := HJ2.out; have := HK2.out; omega⟩, ⟨by (with_reducible repeat (first | apply Kd.V_alloc | apply Kd.V_drewN | apply Kd.V_drew)); exact HO143.out⟩, ⟨by (with_reducible repeat (first | apply Kd.V_alloc | apply Kd.V_drewN | apply Kd.V_drew)); exact HO148.out⟩, ⟨by (with_reducible repeat (first | refine blk_drewN ?_ _ | refine blk_drew ?_ | refine blk_alloc ?_ _)); exact BK124.out⟩, ⟨by repeat (first | (with_reducible first | exact HB.out | apply below_alloc | apply pw_below_drewN | apply below_drew1 | refine below_set ?_ GE124.out) | exact HB.out)⟩⟩
                 ·rw [if_neg c34] at H
                  exact absurd H (by simp)
                ·rw [if_neg c32] at H
                 exact absurd H (by simp)
               ·rw [if_neg c30] at H
                have c30b0 : ((rdOf ByteArray.empty x6_2 (ji24)).toList == (rdOf ByteArray.empty x7_2 (ji27)).toList) = false := beq_eq_false_iff_ne.mpr c30
                have c30b1 : ((rdOf ByteArray.empty x6_2 (ji24)).toList != (rdOf ByteArray.empty x7_2 (ji27)).toList) = true := bne_iff_ne.mpr c30
                have H' := Aside0.mk H
                clear H
                obtain ⟨Ao39, co39, eo39⟩ := Kd.V_slice HO_6.out
                subst eo39
                obtain ⟨Ao40, co40, eo40⟩ := Kd.V_slice HO_7.out
                subst eo40
                have p137 : 0 ≤ ((ji24) : Int) := of_decide_eq_true (by first | (with_reducible assumption) | assumption)
                have q137 : (ji24) < (x6_2.length : Int) := of_decide_eq_true (by first | (with_reducible assumption) | assumption)
                obtain ⟨ad137, e137, hx137_0⟩ := Kd.at_string (Kd.V_reads' HO_6.out).2.2 (ji24) p137 q137
                cases e137
                replace p137 := eq_true p137
                replace q137 := eq_true q137
                have p138 : 0 ≤ ((ji27) : Int) := of_decide_eq_true (by first | (with_reducible assumption) | assumption)
                have q138 : (ji27) < (x7_2.length : Int) := of_decide_eq_true (by first | (with_reducible assumption) | assumption)
                obtain ⟨ad138, e138, hx138_0⟩ := Kd.at_string (Kd.V_reads' HO_7.out).2.2 (ji27) p138 q138
                cases e138
                replace p138 := eq_true p138
                replace q138 := eq_true q138
                go_wp2
                repeat (go_quiet (fail); try go_wp2)
                go_meet
                case rel => exact ⟨_, (x6_2), (x7_2), H', ⟨by have := HJ2.out; have := HK2.out; first | omega | exact Nat.le_refl _⟩, ⟨by (with_reducible repeat (first | apply Kd.V_alloc | apply Kd.V_drewN | apply Kd.V_drew)); exact HO_6.out⟩, ⟨by (with_reducible repeat (first | apply Kd.V_alloc | apply Kd.V_drewN | apply Kd.V_drew)); exact HO_7.out⟩, ⟨by (with_reducible repeat (first | refine blk_drewN ?_ _ | refine blk_drew ?_ | refine blk_alloc ?_ _)); exact BK124.out⟩, ⟨by repeat (first | (with_reducible first | exact HB.out | apply below_alloc | apply pw_below_drewN | apply below_drew1 | refine below_set ?_ GE124.out) | exact HB.out)⟩⟩
              ·rw [if_neg c29] at H
               exact absurd H (by simp)
             ·rw [if_neg c28] at H
              exact absurd H (by simp)
            ·rw [if_neg c26] at H
             exact absurd H (by simp)
           ·rw [if_neg c25] at H
            exact absurd H (by simp)
          ·rw [if_neg c23] at H
           have c23b0 : decide (0 < (x7_2.length : Int)) = false := decide_eq_false c23
           have c23b1 : decide (0 < x7_2.length) = false := decide_eq_false (by omega)
           clear c23
           have H' := Aside0.mk H
           clear H
           obtain ⟨Ao41, co41, eo41⟩ := Kd.V_slice HO_6.out
           subst eo41
           obtain ⟨Ao42, co42, eo42⟩ := Kd.V_slice HO_7.out
           subst eo42
           go_wp2
           repeat (go_quiet (fail); try go_wp2)
           go_meet
           case rel => exact ⟨_, (x6_2), (x7_2), H', ⟨by have := HJ2.out; have := HK2.out; first | omega | exact Nat.le_refl _⟩, ⟨by (with_reducible repeat (first | apply Kd.V_alloc | apply Kd.V_drewN | apply Kd.V_drew)); exact HO_6.out⟩, ⟨by (with_reducible repeat (first | apply Kd.V_alloc | apply Kd.V_drewN | apply Kd.V_drew)); exact HO_7.out⟩, ⟨by (with_reducible repeat (first | refine blk_drewN ?_ _ | refine blk_drew ?_ | refine blk_alloc ?_ _)); exact BK124.out⟩, ⟨by repeat (first | (with_reducible first | exact HB.out | apply below_alloc | apply pw_below_drewN | apply below_drew1 | refine below_set ?_ GE124.out) | exact HB.out)⟩⟩
         ·rw [if_neg c22] at H
          have c22b0 : decide (0 < (x6_2.length : Int)) = false := decide_eq_false c22
          have c22b1 : decide (0 < x6_2.length) = false := decide_eq_false (by omega)
          clear c22
          (first | rw [c22b0] | (simp only [i64_w, i32_w]; rw [c22b0]) | skip)
          have H' := Aside0.mk H
          clear H
          obtain ⟨Ao43, co43, eo43⟩ := Kd.V_slice HO_6.out
          subst eo43
          go_wp2
          repeat (go_quiet (fail); try go_wp2)
          go_meet
          case rel => exact ⟨_, (x6_2), (x7_2), H', ⟨by have := HJ2.out; have := HK2.out; first | omega | exact Nat.le_refl _⟩, ⟨by (with_reducible repeat (first | apply Kd.V_alloc | apply Kd.V_drewN | apply Kd.V_drew)); exact HO_6.out⟩, ⟨by (with_reducible repeat (first | apply Kd.V_alloc | apply Kd.V_drewN | apply Kd.V_drew)); exact HO_7.out⟩, ⟨by (with_reducible repeat (first | refine blk_drewN ?_ _ | refine blk_drew ?_ | refine blk_alloc ?_ _)); exact BK124.out⟩, ⟨by repeat (first | (with_reducible first | exact HB.out | apply below_alloc | apply pw_below_drewN | apply below_drew1 | refine below_set ?_ GE124.out) | exact HB.out)⟩⟩
      case rest =>
       clear HC18
       (try clear c1); (try clear p1); (try clear q1); (try clear hx1); (try clear c2); (try clear p2); (try clear q2); (try clear c3); (try clear q3); (try clear c6); (try clear c6b0); (try clear p6); (try clear c7); (try clear c7b0); (try clear c8); (try clear c8b0); (try clear c9); (try clear c9b0); (try clear c9b1); (try clear p12); (try clear q12); (try clear hx12); (try clear p13); (try clear q13); (try clear hx13); (try clear c14); (try clear c14b0); (try clear c14b1); (try clear c15); (try clear c15b0); (try clear c15b1); (try clear c16); (try clear c16b0); (try clear c17); (try clear c17b0); (try clear c17b1); (try clear c20); (try clear q20); (try clear c21); (try clear q21); (try clear c22); (try clear c22b0); (try clear c22b1); (try clear c23); (try clear c23b0); (try clear c23b1); (try clear c25); (try clear c25b0); (try clear c26); (try clear c26b0); (try clear c28); (try clear c28b0); (try clear c29); (try clear c29b0); (try clear c30); (try clear c30b0); (try clear c30b1); (try clear c31); (try clear c31b0); (try clear c32); (try clear c32b0); (try clear c32b1); (try clear c33); (try clear c33b0); (try clear c34); (try clear c34b0); (try clear c34b1); (try clear q37); (try clear q38); (try clear hcz10_0); (try clear hcz11_0); (try clear hcz12_0); (try clear hcz13_0); (try clear hcz19_0); (try clear hcz5_0); (try clear hfz10_0); (try clear hfz11_0); (try clear hfz12_0); (try clear hfz13_0); (try clear hfz19_0); (try clear hfz5_0); (try clear hx125_0); (try clear hx126_0); (try clear hx137_0); (try clear hx138_0); (try clear p1); (try clear p12); (try clear p125); (try clear p126); (try clear p137); (try clear p138); (try clear p2); (try clear p6); (try clear q020); (try clear q021); (try clear q1); (try clear q12); (try clear q125); (try clear q126); (try clear q137); (try clear q138); (try clear q2); (try clear q20); (try clear q21); (try clear q37); (try clear q38)
       obtain ⟨kq, x6_17, x7_17, HA, HJ17, HO_6, HO_7, BK124, HB⟩ := hcut
       cases kq with
       | zero => exact absurd HA.out (by simp [hunks_Changes.j3])
       | succ kj17 =>
        have H := HA.out
        clear HA
        simp only [hunks_Changes.j3] at H
        have HC44 := Aside0.mk H
        clear H
        go_upto_region 7 with (fail)
        repeat (go_quiet (fail); go_upto_region 7 with (fail))
        go_cut [83] (fun v83 wc => ∃ (kq : Nat) (x83_43 : Bool), v83 = .bool x83_43 ∧ Aside0 (hunks_Changes.j4 kq x6_17 x7_17 x83_43 x125000_2 = some r) ∧ Aside0 (kq ≤ kj17) ∧ Aside0 (Kd.V Kd.string 9 wc w.heap.size (fun k_ => ((P0_ k_ ∨ P1_ k_) ∨ w.heap.size ≤ k_) ∧ k_ ≠ gb124) u6 x6_17) ∧ Aside0 (Kd.V Kd.string 9 wc w.heap.size (fun k_ => ((P0_ k_ ∨ P1_ k_) ∨ w.heap.size ≤ k_) ∧ k_ ≠ gb124) u7 x7_17) ∧ Aside0 (wc.heap[gb124]? = some (.cells #[.int .i64 x125000_2] 3 (0, 0))) ∧ Aside0 (Below w.heap.size w wc))
        case first =>
         have H := HC44.out
         clear HC44
         by_cases c45 : (x6_17.length : Int) > 1000
         ·rw [if_pos c45] at H
          have c45b0 : decide (1000 < (x6_17.length : Int)) = true := decide_eq_true c45
          have c45b1 : decide (1000 < x6_17.length) = true := decide_eq_true (by omega)
          clear c45
          (first | rw [c45b0] | (simp only [i64_w, i32_w]; rw [c45b0]) | skip)
          have H' := Aside0.mk H
          clear H
          obtain ⟨Ao46, co46, eo46⟩ := Kd.V_slice HO_6.out
          subst eo46
          go_wp2
          repeat (go_quiet (fail); try go_wp2)
          go_meet
          case rel => exact ⟨_, (true), (by first | rfl | (simp; done) | (simp [*]; done)), H', ⟨by have := HJ2.out; have := HJ17.out; first | omega | exact Nat.le_refl _⟩, ⟨by (with_reducible repeat (first | apply Kd.V_alloc | apply Kd.V_drewN | apply Kd.V_drew)); exact HO_6.out⟩, ⟨by (with_reducible repeat (first | apply Kd.V_alloc | apply Kd.V_drewN | apply Kd.V_drew)); exact HO_7.out⟩, ⟨by (with_reducible repeat (first | refine blk_drewN ?_ _ | refine blk_drew ?_ | refine blk_alloc ?_ _)); exact BK124.out⟩, ⟨by repeat (first | (with_reducible first | exact HB.out | apply below_alloc | apply pw_below_drewN | apply below_drew1 | refine below_set ?_ GE124.out) | exact HB.out)⟩⟩
         ·rw [if_neg c45] at H
          have c45b0 : decide (1000 < (x6_17.length : Int)) = false := decide_eq_false c45
          have c45b1 : decide (1000 < x6_17.length) = false := decide_eq_false (by omega)
          clear c45
          (first | rw [c45b0] | (simp only [i64_w, i32_w]; rw [c45b0]) | skip)
          have H' := Aside0.mk H
          clear H
          obtain ⟨Ao47, co47, eo47⟩ := Kd.V_slice HO_6.out
          subst eo47
          obtain ⟨Ao48, co48, eo48⟩ := Kd.V_slice HO_7.out
          subst eo48
          go_wp2
          repeat (go_quiet (fail); try go_wp2)
          go_meet
          case rel => exact ⟨_, (decide ((x7_17.length : Int) > 1000)), (by first | rfl | (simp; done) | (simp [*]; done)), H', ⟨by have := HJ2.out; have := HJ17.out; first | omega | exact Nat.le_refl _⟩, ⟨by (with_reducible repeat (first | apply Kd.V_alloc | apply Kd.V_drewN | apply Kd.V_drew)); exact HO_6.out⟩, ⟨by (with_reducible repeat (first | apply Kd.V_alloc | apply Kd.V_drewN | apply Kd.V_drew)); exact HO_7.out⟩, ⟨by (with_reducible repeat (first | refine blk_drewN ?_ _ | refine blk_drew ?_ | refine blk_alloc ?_ _)); exact BK124.out⟩, ⟨by repeat (first | (with_reducible first | exact HB.out | apply below_alloc | apply pw_below_drewN | apply below_drew1 | refine below_set ?_ GE124.out) | exact HB.out)⟩⟩
        case rest =>
         clear HC44
         (try clear c1); (try clear p1); (try clear q1); (try clear hx1); (try clear c2); (try clear p2); (try clear q2); (try clear c3); (try clear q3); (try clear c4); (try clear c6); (try clear c6b0); (try clear p6); (try clear c7); (try clear c7b0); (try clear c8); (try clear c8b0); (try clear c9); (try clear c9b0); (try clear c9b1); (try clear p12); (try clear q12); (try clear hx12); (try clear p13); (try clear q13); (try clear hx13); (try clear c14); (try clear c14b0); (try clear c14b1); (try clear c15); (try clear c15b0); (try clear c15b1); (try clear c16); (try clear c16b0); (try clear c17); (try clear c17b0); (try clear c17b1); (try clear c20); (try clear q20); (try clear c21); (try clear q21); (try clear c22); (try clear c22b0); (try clear c22b1); (try clear c23); (try clear c23b0); (try clear c23b1); (try clear c25); (try clear c25b0); (try clear c26); (try clear c26b0); (try clear c28); (try clear c28b0); (try clear c29); (try clear c29b0); (try clear c30); (try clear c30b0); (try clear c30b1); (try clear c31); (try clear c31b0); (try clear c32); (try clear c32b0); (try clear c32b1); (try clear c33); (try clear c33b0); (try clear c34); (try clear c34b0); (try clear c34b1); (try clear q37); (try clear q38); (try clear c45); (try clear c45b0); (try clear c45b1); (try clear hcz10_0); (try clear hcz11_0); (try clear hcz12_0); (try clear hcz13_0); (try clear hcz19_0); (try clear hcz5_0); (try clear hfz10_0); (try clear hfz11_0); (try clear hfz12_0); (try clear hfz13_0); (try clear hfz19_0); (try clear hfz5_0); (try clear hx125_0); (try clear hx126_0); (try clear hx137_0); (try clear hx138_0); (try clear p1); (try clear p12); (try clear p125); (try clear p126); (try clear p13); (try clear p137); (try clear p138); (try clear p2); (try clear p6); (try clear q020); (try clear q021); (try clear q1); (try clear q12); (try clear q125); (try clear q126); (try clear q13); (try clear q137); (try clear q138); (try clear q2); (try clear q20); (try clear q21); (try clear q3); (try clear q37); (try clear q38)
         obtain ⟨kq, x83_43, rfl, HA, HJ43, HO_6, HO_7, BK124, HB⟩ := hcut
         cases kq with
         | zero => exact absurd HA.out (by simp [hunks_Changes.j4])
         | succ kj43 =>
          have H := HA.out
          clear HA
          simp only [hunks_Changes.j4] at H
          by_cases c49 : x83_43 = true
          ·subst c49
           have H1 : (some (([(⟨x125000_2, (x6_17.length : Int), x125000_2, (x7_17.length : Int)⟩ : S39)] : List (S39)))) = some r := by rw [if_pos rfl] at H; exact H
           clear H
           have H := H1
           clear H1
           obtain ⟨y149, hy149⟩ : ∃ y_ : List (S39), y_ = (([(⟨x125000_2, (x6_17.length : Int), x125000_2, (x7_17.length : Int)⟩ : S39)] : List (S39))) := ⟨_, rfl⟩
           replace H : (some y149) = some r := by first | (rw [hy149]; with_reducible exact H) | (have H2_ := (Option.bind_some _ _).symm.trans H; rw [hy149]; with_reducible exact H2_) | (have H2_ := (Option.bind_some _ _).symm.trans H; with_reducible exact H2_) | with_reducible exact H | (rw [hy149]; exact H) | exact H
           have Ny149 := Aside0.mk hy149
           clear hy149
           obtain rfl := Option.some.inj H
           have hcz50_0 : wc.cell? ⟨gb124, 0, none⟩ = some (.int .i64 x125000_2) := (blk_cell BK124.out 0).trans rfl
           have hfz50_0 := blk_frozen BK124.out 0
           obtain ⟨Ao51, co51, eo51⟩ := Kd.V_slice HO_6.out
           subst eo51
           obtain ⟨Ao52, co52, eo52⟩ := Kd.V_slice HO_7.out
           subst eo52
           go_wp2_with (first | ((with_reducible refine gate_dst (N := 91) rfl ?_); (try (refine gate_guard (by rfl) ?_; dsimp only)); refine Kd.R_lit k39 _ 39 ?hg (N := 91) ?hd (xs := ([(⟨x125000_2, (x6_17.length : Int), x125000_2, (x7_17.length : Int)⟩ : S39)] : List (S39))) (inner := [.int .i64 x125000_2, .int .i64 (x6_17.length : Int), .int .i64 x125000_2, .int .i64 (x7_17.length : Int)]) (ok := fun _ => True) (okp := fun _ => True) ?hr ?hp (fun _ hk => hk) trivial (Below.refl _ _) (Nat.le_refl _) (by simp) ?_; (case hd => rfl); (case hg => rfl); (case hr => first | (go_simp; done) | (go_simp; rfl)); (case hp => exact (Reps.c4 (show Kd.M k39 _ _ _ (⟨x125000_2, (x6_17.length : Int), x125000_2, (x7_17.length : Int)⟩ : S39) [.int .i64 x125000_2, .int .i64 (x6_17.length : Int), .int .i64 x125000_2, .int .i64 (x7_17.length : Int)] from (k39_mkM _ _ _ (⟨x125000_2, (x6_17.length : Int), x125000_2, (x7_17.length : Int)⟩ : S39) )) (Reps.none _ _))); intro v150 w53 ho54 hb hg_ hnew_; clear hg_ hnew_; (first | rw [← Ny149.out] at ho54 | (simp only [Int.reduceToNat] at ho54; rw [← Ny149.out] at ho54)); have n0_ := Aside0.mk (Kd.V_elder' (by (with_reducible repeat (first | apply Kd.V_alloc | apply Kd.V_drewN | apply Kd.V_drew)); exact HO_6.out) (Kd.R_base ho54) hb); have n1_ := Aside0.mk (Kd.V_elder' (by (with_reducible repeat (first | apply Kd.V_alloc | apply Kd.V_drewN | apply Kd.V_drew)); exact HO_7.out) (Kd.R_base ho54) hb); have n2_ := Aside0.mk (Kd.R_lower (Kd.R_newM (M := fun k_ => (w.heap.size ≤ k_)) ho54 (below_size (by repeat (first | (with_reducible first | exact HB.out | apply below_alloc | apply pw_below_drewN | apply below_drew1 | refine below_set ?_ GE124.out) | exact HB.out))) (fun k_ h_ => h_)) (below_size (by repeat (first | (with_reducible first | exact HB.out | apply below_alloc | apply pw_below_drewN | apply below_drew1 | refine below_set ?_ GE124.out) | exact HB.out)))); have n3_ := Aside0.mk (blk_below (g := gb124) (o := .cells #[.int .i64 x125000_2] 3 (0, 0)) (by (with_reducible repeat (first | refine blk_drewN ?_ _ | refine blk_drew ?_ | refine blk_alloc ?_ _)); exact BK124.out) hb); have n4_ := Aside0.mk (below_step (by repeat (first | (with_reducible first | exact HB.out | apply below_alloc | apply pw_below_drewN | apply below_drew1 | refine below_set ?_ GE124.out) | exact HB.out)) hb); clear HO_6; clear HO_7; clear BK124; clear HB; have HO_6 := n0_; have HO_7 := n1_; have HO151 := n2_; have BK124 := n3_; have HB := n4_; clear n0_ n1_ n2_ n3_ n4_; clear hb ho54))
           repeat (go_quiet (first | ((with_reducible refine gate_dst (N := 91) rfl ?_); (try (refine gate_guard (by rfl) ?_; dsimp only)); refine Kd.R_lit k39 _ 39 ?hg (N := 91) ?hd (xs := ([(⟨x125000_2, (x6_17.length : Int), x125000_2, (x7_17.length : Int)⟩ : S39)] : List (S39))) (inner := [.int .i64 x125000_2, .int .i64 (x6_17.length : Int), .int .i64 x125000_2, .int .i64 (x7_17.length : Int)]) (ok := fun _ => True) (okp := fun _ => True) ?hr ?hp (fun _ hk => hk) trivial (Below.refl _ _) (Nat.le_refl _) (by simp) ?_; (case hd => rfl); (case hg => rfl); (case hr => first | (go_simp; done) | (go_simp; rfl)); (case hp => exact (Reps.c4 (show Kd.M k39 _ _ _ (⟨x125000_2, (x6_17.length : Int), x125000_2, (x7_17.length : Int)⟩ : S39) [.int .i64 x125000_2, .int .i64 (x6_17.length : Int), .int .i64 x125000_2, .int .i64 (x7_17.length : Int)] from (k39_mkM _ _ _ (⟨x125000_2, (x6_17.length : Int), x125000_2, (x7_17.length : Int)⟩ : S39) )) (Reps.none _ _))); intro v150 w53 ho54 hb hg_ hnew_; clear hg_ hnew_; (first | rw [← Ny149.out] at ho54 | (simp only [Int.reduceToNat] at ho54; rw [← Ny149.out] at ho54)); have n0_ := Aside0.mk (Kd.V_elder' (by (with_reducible repeat (first | apply Kd.V_alloc | apply Kd.V_drewN | apply Kd.V_drew)); exact HO_6.out) (Kd.R_base ho54) hb); have n1_ := Aside0.mk (Kd.V_elder' (by (with_reducible repeat (first | apply Kd.V_alloc | apply Kd.V_drewN | apply Kd.V_drew)); exact HO_7.out) (Kd.R_base ho54) hb); have n2_ := Aside0.mk (Kd.R_lower (Kd.R_newM (M := fun k_ => (w.heap.size ≤ k_)) ho54 (below_size (by repeat (first | (with_reducible first | exact HB.out | apply below_alloc | apply pw_below_drewN | apply below_drew1 | refine below_set ?_ GE124.out) | exact HB.out))) (fun k_ h_ => h_)) (below_size (by repeat (first | (with_reducible first | exact HB.out | apply below_alloc | apply pw_below_drewN | apply below_drew1 | refine below_set ?_ GE124.out) | exact HB.out)))); have n3_ := Aside0.mk (blk_below (g := gb124) (o := .cells #[.int .i64 x125000_2] 3 (0, 0)) (by (with_reducible repeat (first | refine blk_drewN ?_ _ | refine blk_drew ?_ | refine blk_alloc ?_ _)); exact BK124.out) hb); have n4_ := Aside0.mk (below_step (by repeat (first | (with_reducible first | exact HB.out | apply below_alloc | apply pw_below_drewN | apply below_drew1 | refine below_set ?_ GE124.out) | exact HB.out)) hb); clear HO_6; clear HO_7; clear BK124; clear HB; have HO_6 := n0_; have HO_7 := n1_; have HO151 := n2_; have BK124 := n3_; have HB := n4_; clear n0_ n1_ n2_ n3_ n4_; clear hb ho54)); try go_wp2_with (first | ((with_reducible refine gate_dst (N := 91) rfl ?_); (try (refine gate_guard (by rfl) ?_; dsimp only)); refine Kd.R_lit k39 _ 39 ?hg (N := 91) ?hd (xs := ([(⟨x125000_2, (x6_17.length : Int), x125000_2, (x7_17.length : Int)⟩ : S39)] : List (S39))) (inner := [.int .i64 x125000_2, .int .i64 (x6_17.length : Int), .int .i64 x125000_2, .int .i64 (x7_17.length : Int)]) (ok := fun _ => True) (okp := fun _ => True) ?hr ?hp (fun _ hk => hk) trivial (Below.refl _ _) (Nat.le_refl _) (by simp) ?_; (case hd => rfl); (case hg => rfl); (case hr => first | (go_simp; done) | (go_simp; rfl)); (case hp => exact (Reps.c4 (show Kd.M k39 _ _ _ (⟨x125000_2, (x6_17.length : Int), x125000_2, (x7_17.length : Int)⟩ : S39) [.int .i64 x125000_2, .int .i64 (x6_17.length : Int), .int .i64 x125000_2, .int .i64 (x7_17.length : Int)] from (k39_mkM _ _ _ (⟨x125000_2, (x6_17.length : Int), x125000_2, (x7_17.length : Int)⟩ : S39) )) (Reps.none _ _))); intro v150 w53 ho54 hb hg_ hnew_; clear hg_ hnew_; (first | rw [← Ny149.out] at ho54 | (simp only [Int.reduceToNat] at ho54; rw [← Ny149.out] at ho54)); have n0_ := Aside0.mk (Kd.V_elder' (by (with_reducible repeat (first | apply Kd.V_alloc | apply Kd.V_drewN | apply Kd.V_drew)); exact HO_6.out) (Kd.R_base ho54) hb); have n1_ := Aside0.mk (Kd.V_elder' (by (with_reducible repeat (first | apply Kd.V_alloc | apply Kd.V_drewN | apply Kd.V_drew)); exact HO_7.out) (Kd.R_base ho54) hb); have n2_ := Aside0.mk (Kd.R_lower (Kd.R_newM (M := fun k_ => (w.heap.size ≤ k_)) ho54 (below_size (by repeat (first | (with_reducible first | exact HB.out | apply below_alloc | apply pw_below_drewN | apply below_drew1 | refine below_set ?_ GE124.out) | exact HB.out))) (fun k_ h_ => h_)) (below_size (by repeat (first | (with_reducible first | exact HB.out | apply below_alloc | apply pw_below_drewN | apply below_drew1 | refine below_set ?_ GE124.out) | exact HB.out)))); have n3_ := Aside0.mk (blk_below (g := gb124) (o := .cells #[.int .i64 x125000_2] 3 (0, 0)) (by (with_reducible repeat (first | refine blk_drewN ?_ _ | refine blk_drew ?_ | refine blk_alloc ?_ _)); exact BK124.out) hb); have n4_ := Aside0.mk (below_step (by repeat (first | (with_reducible first | exact HB.out | apply below_alloc | apply pw_below_drewN | apply below_drew1 | refine below_set ?_ GE124.out) | exact HB.out)) hb); clear HO_6; clear HO_7; clear BK124; clear HB; have HO_6 := n0_; have HO_7 := n1_; have HO151 := n2_; have BK124 := n3_; have HB := n4_; clear n0_ n1_ n2_ n3_ n4_; clear hb ho54)))
           go_ret
           exact ⟨_, by first | rfl | (simp [errW_none, errW_some] <;> rfl) | (simp [*, errW_none, errW_some] <;> rfl), by (with_reducible repeat (first | apply Kd.R_alloc | apply Kd.R_drewN | apply Kd.R_drew)); exact Kd.R_mono HO151.out (fun _ hk => hk.1), by repeat (first | (with_reducible first | exact HB.out | apply below_alloc | apply pw_below_drewN | apply below_drew1 | refine below_set ?_ GE124.out) | exact HB.out)⟩
          ·replace c49 := Bool.eq_false_iff.mpr c49
           subst c49
           have H1 : ((hunks_table.f kj43 x6_17 x7_17).bind fun t152 => (hunks_Changes.l2 kj43 x6_17 x7_17 t152 0 0 x125000_2 ([] : List (S39)) (wrap64 x125000_2) 0 (wrap64 x125000_2) 0)) = some r := by rw [if_neg (show ¬ (false = true) by decide)] at H; exact H
           clear H
           have H := H1
           clear H1
           replace H := Option.bind_eq_some_iff.mp H
           obtain ⟨t152, A550, H⟩ := H
           replace H : (hunks_Changes.l2 kj43 x6_17 x7_17 t152 0 0 x125000_2 ([] : List (S39)) (wrap64 x125000_2) 0 (wrap64 x125000_2) 0) = some r := H
           have A55 := Aside0.mk A550
           clear A550
           have H' := Aside0.mk H
           clear H
           obtain ⟨Ao56, co56, eo56⟩ := Kd.V_slice HO_6.out
           subst eo56
           obtain ⟨Ao57, co57, eo57⟩ := Kd.V_slice HO_7.out
           subst eo57
           go_wp2_with (first | (go_at_call 41; (with_reducible refine (hunks_table.calls kj43 _ _ x6_17 _ _ x7_17 t152 _ ?side1 ?side2 ?side3 ?side4 A55.out).mono ?_); (case side1 => repeat (first | exact (Kd.V_reads' HO_6.out).2.2 | (with_reducible refine Kd.C_alloc ?_ _) | (with_reducible refine Kd.C_drewN ?_ _) | (with_reducible refine Kd.C_drew ?_))); (case side2 => exact (Kd.V_reads' HO_6.out).2.1); (case side3 => repeat (first | exact (Kd.V_reads' HO_7.out).2.2 | (with_reducible refine Kd.C_alloc ?_ _) | (with_reducible refine Kd.C_drewN ?_ _) | (with_reducible refine Kd.C_drew ?_))); (case side4 => exact (Kd.V_reads' HO_7.out).2.1); rintro e w58 ⟨v153, rfl, ho0, hb⟩; have n0_ := Aside0.mk (Kd.V_elder' (by (with_reducible repeat (first | apply Kd.V_alloc | apply Kd.V_drewN | apply Kd.V_drew)); exact HO_6.out) (Kd.S_base ho0) hb); have n1_ := Aside0.mk (Kd.V_elder' (by (with_reducible repeat (first | apply Kd.V_alloc | apply Kd.V_drewN | apply Kd.V_drew)); exact HO_7.out) (Kd.S_base ho0) hb); have n2_ := Aside0.mk (Kd.S_lower (Kd.S_newB (Kd.S_newM (M := fun k_ => (w.heap.size ≤ k_)) ho0 (below_size (by repeat (first | (with_reducible first | exact HB.out | apply below_alloc | apply pw_below_drewN | apply below_drew1 | refine below_set ?_ GE124.out) | exact HB.out))) (fun k_ h_ => h_)) (g := gb124) (o := .cells #[.int .i64 x125000_2] 3 (0, 0)) (by (with_reducible repeat (first | refine blk_drewN ?_ _ | refine blk_drew ?_ | refine blk_alloc ?_ _)); exact BK124.out)) (below_size (by repeat (first | (with_reducible first | exact HB.out | apply below_alloc | apply pw_below_drewN | apply below_drew1 | refine below_set ?_ GE124.out) | exact HB.out)))); have n3_ := Aside0.mk (blk_below (g := gb124) (o := .cells #[.int .i64 x125000_2] 3 (0, 0)) (by (with_reducible repeat (first | refine blk_drewN ?_ _ | refine blk_drew ?_ | refine blk_alloc ?_ _)); exact BK124.out) hb); have n4_ := Aside0.mk (below_step (by repeat (first | (with_reducible first | exact HB.out | apply below_alloc | apply pw_below_drewN | apply below_drew1 | refine below_set ?_ GE124.out) | exact HB.out)) hb); clear HO_6; clear HO_7; clear BK124; clear HB; have HO_6 := n0_; have HO_7 := n1_; have HO154 := n2_; have BK124 := n3_; have HB := n4_; clear n0_ n1_ n2_ n3_ n4_; (try clear hb); (try clear hb2); (try clear hk); (try clear hi); (try clear ho0)) | ((with_reducible refine gate_dst (N := 9) rfl ?_); (try (refine gate_guard (by rfl) ?_; dsimp only)); refine box_event ?hg (N := 9) ?hd (cs := #[.slice none 0 0]) (t := 34) ?hr ?_; (case hd => rfl); (case hg => rfl); (case hr => first | (go_simp; done) | (go_simp; rfl)); intro gb155 hg w59 hbox hb; have n0_ := Aside0.mk (Kd.V_below (Kd.V_elderB (by (with_reducible repeat (first | apply Kd.V_alloc | apply Kd.V_drewN | apply Kd.V_drew)); exact HO_6.out) gb155 (Nat.le_of_eq hg.symm)) hb); have n1_ := Aside0.mk (Kd.V_below (Kd.V_elderB (by (with_reducible repeat (first | apply Kd.V_alloc | apply Kd.V_drewN | apply Kd.V_drew)); exact HO_7.out) gb155 (Nat.le_of_eq hg.symm)) hb); have n2_ := Aside0.mk (Kd.S_below (by (with_reducible repeat (first | apply Kd.S_alloc | apply Kd.S_drewN | apply Kd.S_drew)); exact HO154.out) hb); have n3_ := Aside0.mk (blk_below (g := gb124) (o := .cells #[.int .i64 x125000_2] 3 (0, 0)) (by (with_reducible repeat (first | refine blk_drewN ?_ _ | refine blk_drew ?_ | refine blk_alloc ?_ _)); exact BK124.out) hb); have n4_ := Aside0.mk (below_step (by repeat (first | (with_reducible first | exact HB.out | apply below_alloc | apply pw_below_drewN | apply below_drew1 | refine below_set ?_ GE124.out) | exact HB.out)) hb); have n5_ := Aside0.mk (hbox); have n6_ := Aside0.mk ((by rw [hg]; exact (below_size (by repeat (first | (with_reducible first | exact HB.out | apply below_alloc | apply pw_below_drewN | apply below_drew1 | refine below_set ?_ GE124.out) | exact HB.out))) : w.heap.size ≤ gb155)); have n7_ := Aside0.mk ((by rw [hg]; exact (below_size (by repeat (first | (with_reducible first | exact HB.out | apply below_alloc | apply pw_below_drewN | apply below_drew1 | refine below_set ?_ GE124.out) | exact HB.out))) : w.heap.size ≤ gb155)); have n8_ := Aside0.mk ((by rw [hg]; exact Nat.ne_of_lt (blk_lt (g := gb124) (o := .cells #[.int .i64 x125000_2] 3 (0, 0)) (by (with_reducible repeat (first | refine blk_drewN ?_ _ | refine blk_drew ?_ | refine blk_alloc ?_ _)); exact BK124.out)) : gb124 ≠ gb155)); have n9_ := Aside0.mk ((by rw [hg]; exact Nat.ne_of_gt (blk_lt (g := gb124) (o := .cells #[.int .i64 x125000_2] 3 (0, 0)) (by (with_reducible repeat (first | refine blk_drewN ?_ _ | refine blk_drew ?_ | refine blk_alloc ?_ _)); exact BK124.out)) : gb155 ≠ gb124)); clear HO_6; clear HO_7; clear HO154; clear BK124; clear HB; have HO_6 := n0_; have HO_7 := n1_; have HO154 := n2_; have BK124 := n3_; have HB := n4_; have BK155 := n5_; have GW155 := n6_; have GE155 := n7_; have NB124_155 := n8_; have NB155_124 := n9_; clear n0_ n1_ n2_ n3_ n4_ n5_ n6_ n7_ n8_ n9_; clear hb hbox hg) | ((with_reducible refine gate_dst (N := 10) rfl ?_); (try (refine gate_guard (by rfl) ?_; dsimp only)); refine box_event ?hg (N := 10) ?hd (cs := #[.int .i64 0, .int .i64 0, .int .i64 0, .int .i64 0]) (t := 39) ?hr ?_; (case hd => rfl); (case hg => rfl); (case hr => first | (go_simp; done) | (go_simp; rfl)); intro gb156 hg w60 hbox hb; have n0_ := Aside0.mk (Kd.V_below (Kd.V_elderB (by (with_reducible repeat (first | apply Kd.V_alloc | apply Kd.V_drewN | apply Kd.V_drew)); exact HO_6.out) gb156 (Nat.le_of_eq hg.symm)) hb); have n1_ := Aside0.mk (Kd.V_below (Kd.V_elderB (by (with_reducible repeat (first | apply Kd.V_alloc | apply Kd.V_drewN | apply Kd.V_drew)); exact HO_7.out) gb156 (Nat.le_of_eq hg.symm)) hb); have n2_ := Aside0.mk (Kd.S_below (by (with_reducible repeat (first | apply Kd.S_alloc | apply Kd.S_drewN | apply Kd.S_drew)); exact HO154.out) hb); have n3_ := Aside0.mk (blk_below (g := gb124) (o := .cells #[.int .i64 x125000_2] 3 (0, 0)) (by (with_reducible repeat (first | refine blk_drewN ?_ _ | refine blk_drew ?_ | refine blk_alloc ?_ _)); exact BK124.out) hb); have n4_ := Aside0.mk (blk_below (g := gb155) (o := .cells #[.slice none 0 0] 34 (0, 0)) (by (with_reducible repeat (first | refine blk_drewN ?_ _ | refine blk_drew ?_ | refine blk_alloc ?_ _)); exact BK155.out) hb); have n5_ := Aside0.mk (below_step (by repeat (first | (with_reducible first | exact HB.out | apply below_alloc | apply pw_below_drewN | apply below_drew1 | refine below_set ?_ GE124.out | refine below_set ?_ GE155.out) | exact HB.out)) hb); have n6_ := Aside0.mk (hbox); have n7_ := Aside0.mk ((by rw [hg]; exact (below_size (by repeat (first | (with_reducible first | exact HB.out | apply below_alloc | apply pw_below_drewN | apply below_drew1 | refine below_set ?_ GE124.out | refine below_set ?_ GE155.out) | exact HB.out))) : w.heap.size ≤ gb156)); have n8_ := Aside0.mk ((by rw [hg]; exact (below_size (by repeat (first | (with_reducible first | exact HB.out | apply below_alloc | apply pw_below_drewN | apply below_drew1 | refine below_set ?_ GE124.out | refine below_set ?_ GE155.out) | exact HB.out))) : w.heap.size ≤ gb156)); have n9_ := Aside0.mk ((by rw [hg]; exact Nat.ne_of_lt (blk_lt (g := gb124) (o := .cells #[.int .i64 x125000_2] 3 (0, 0)) (by (with_reducible repeat (first | refine blk_drewN ?_ _ | refine blk_drew ?_ | refine blk_alloc ?_ _)); exact BK124.out)) : gb124 ≠ gb156)); have n10_ := Aside0.mk ((by rw [hg]; exact Nat.ne_of_gt (blk_lt (g := gb124) (o := .cells #[.int .i64 x125000_2] 3 (0, 0)) (by (with_reducible repeat (first | refine blk_drewN ?_ _ | refine blk_drew ?_ | refine blk_alloc ?_ _)); exact BK124.out)) : gb156 ≠ gb124)); have n11_ := Aside0.mk ((by rw [hg]; exact Nat.ne_of_lt (blk_lt (g := gb155) (o := .cells #[.slice none 0 0] 34 (0, 0)) (by (with_reducible repeat (first | refine blk_drewN ?_ _ | refine blk_drew ?_ | refine blk_alloc ?_ _)); exact BK155.out)) : gb155 ≠ gb156)); have n12_ := Aside0.mk ((by rw [hg]; exact Nat.ne_of_gt (blk_lt (g := gb155) (o := .cells #[.slice none 0 0] 34 (0, 0)) (by (with_reducible repeat (first | refine blk_drewN ?_ _ | refine blk_drew ?_ | refine blk_alloc ?_ _)); exact BK155.out)) : gb156 ≠ gb155)); clear HO_6; clear HO_7; clear HO154; clear BK124; clear BK155; clear HB; have HO_6 := n0_; have HO_7 := n1_; have HO154 := n2_; have BK124 := n3_; have BK155 := n4_; have HB := n5_; have BK156 := n6_; have GW156 := n7_; have GE156 := n8_; have NB124_156 := n9_; have NB156_124 := n10_; have NB155_156 := n11_; have NB156_155 := n12_; clear n0_ n1_ n2_ n3_ n4_ n5_ n6_ n7_ n8_ n9_ n10_ n11_ n12_; clear hb hbox hg; have hnb61 := NB156_124.out; have hnc61 := NB124_156.out; have hnb62 := NB156_155.out; have hnc62 := NB155_156.out; have hcz63_0 : w60.cell? ⟨gb156, 0, none⟩ = some (.int .i64 0) := (blk_cell BK156.out 0).trans rfl; have hcz63_1 : w60.cell? ⟨gb156, 1, none⟩ = some (.int .i64 0) := (blk_cell BK156.out 1).trans rfl; have hcz63_2 : w60.cell? ⟨gb156, 2, none⟩ = some (.int .i64 0) := (blk_cell BK156.out 2).trans rfl; have hcz63_3 : w60.cell? ⟨gb156, 3, none⟩ = some (.int .i64 0) := (blk_cell BK156.out 3).trans rfl; have hfz63_0 := blk_frozen BK156.out 0; have hfz63_1 := blk_frozen BK156.out 1; have hfz63_2 := blk_frozen BK156.out 2; have hfz63_3 := blk_frozen BK156.out 3; have hnb64 := NB124_155.out; have hnc64 := NB155_124.out; have hcz65_0 : w60.cell? ⟨gb124, 0, none⟩ = some (.int .i64 x125000_2) := (blk_cell BK124.out 0).trans rfl; have hfz65_0 := blk_frozen BK124.out 0) | go_in)
           repeat (go_quiet (first | (go_at_call 41; (with_reducible refine (hunks_table.calls kj43 _ _ x6_17 _ _ x7_17 t152 _ ?side1 ?side2 ?side3 ?side4 A55.out).mono ?_); (case side1 => repeat (first | exact (Kd.V_reads' HO_6.out).2.2 | (with_reducible refine Kd.C_alloc ?_ _) | (with_reducible refine Kd.C_drewN ?_ _) | (with_reducible refine Kd.C_drew ?_))); (case side2 => exact (Kd.V_reads' HO_6.out).2.1); (case side3 => repeat (first | exact (Kd.V_reads' HO_7.out).2.2 | (with_reducible refine Kd.C_alloc ?_ _) | (with_reducible refine Kd.C_drewN ?_ _) | (with_reducible refine Kd.C_drew ?_))); (case side4 => exact (Kd.V_reads' HO_7.out).2.1); rintro e w58 ⟨v153, rfl, ho0, hb⟩; have n0_ := Aside0.mk (Kd.V_elder' (by (with_reducible repeat (first | apply Kd.V_alloc | apply Kd.V_drewN | apply Kd.V_drew)); exact HO_6.out) (Kd.S_base ho0) hb); have n1_ := Aside0.mk (Kd.V_elder' (by (with_reducible repeat (first | apply Kd.V_alloc | apply Kd.V_drewN | apply Kd.V_drew)); exact HO_7.out) (Kd.S_base ho0) hb); have n2_ := Aside0.mk (Kd.S_lower (Kd.S_newB (Kd.S_newM (M := fun k_ => (w.heap.size ≤ k_)) ho0 (below_size (by repeat (first | (with_reducible first | exact HB.out | apply below_alloc | apply pw_below_drewN | apply below_drew1 | refine below_set ?_ GE124.out) | exact HB.out))) (fun k_ h_ => h_)) (g := gb124) (o := .cells #[.int .i64 x125000_2] 3 (0, 0)) (by (with_reducible repeat (first | refine blk_drewN ?_ _ | refine blk_drew ?_ | refine blk_alloc ?_ _)); exact BK124.out)) (below_size (by repeat (first | (with_reducible first | exact HB.out | apply below_alloc | apply pw_below_drewN | apply below_drew1 | refine below_set ?_ GE124.out) | exact HB.out)))); have n3_ := Aside0.mk (blk_below (g := gb124) (o := .cells #[.int .i64 x125000_2] 3 (0, 0)) (by (with_reducible repeat (first | refine blk_drewN ?_ _ | refine blk_drew ?_ | refine blk_alloc ?_ _)); exact BK124.out) hb); have n4_ := Aside0.mk (below_step (by repeat (first | (with_reducible first | exact HB.out | apply below_alloc | apply pw_below_drewN | apply below_drew1 | refine below_set ?_ GE124.out) | exact HB.out)) hb); clear HO_6; clear HO_7; clear BK124; clear HB; have HO_6 := n0_; have HO_7 := n1_; have HO154 := n2_; have BK124 := n3_; have HB := n4_; clear n0_ n1_ n2_ n3_ n4_; (try clear hb); (try clear hb2); (try clear hk); (try clear hi); (try clear ho0)) | ((with_reducible refine gate_dst (N := 9) rfl ?_); (try (refine gate_guard (by rfl) ?_; dsimp only)); refine box_event ?hg (N := 9) ?hd (cs := #[.slice none 0 0]) (t := 34) ?hr ?_; (case hd => rfl); (case hg => rfl); (case hr => first | (go_simp; done) | (go_simp; rfl)); intro gb155 hg w59 hbox hb; have n0_ := Aside0.mk (Kd.V_below (Kd.V_elderB (by (with_reducible repeat (first | apply Kd.V_alloc | apply Kd.V_drewN | apply Kd.V_drew)); exact HO_6.out) gb155 (Nat.le_of_eq hg.symm)) hb); have n1_ := Aside0.mk (Kd.V_below (Kd.V_elderB (by (with_reducible repeat (first | apply Kd.V_alloc | apply Kd.V_drewN | apply Kd.V_drew)); exact HO_7.out) gb155 (Nat.le_of_eq hg.symm)) hb); have n2_ := Aside0.mk (Kd.S_below (by (with_reducible repeat (first | apply Kd.S_alloc | apply Kd.S_drewN | apply Kd.S_drew)); exact HO154.out) hb); have n3_ := Aside0.mk (blk_below (g := gb124) (o := .cells #[.int .i64 x125000_2] 3 (0, 0)) (by (with_reducible repeat (first | refine blk_drewN ?_ _ | refine blk_drew ?_ | refine blk_alloc ?_ _)); exact BK124.out) hb); have n4_ := Aside0.mk (below_step (by repeat (first | (with_reducible first | exact HB.out | apply below_alloc | apply pw_below_drewN | apply below_drew1 | refine below_set ?_ GE124.out) | exact HB.out)) hb); have n5_ := Aside0.mk (hbox); have n6_ := Aside0.mk ((by rw [hg]; exact (below_size (by repeat (first | (with_reducible first | exact HB.out | apply below_alloc | apply pw_below_drewN | apply below_drew1 | refine below_set ?_ GE124.out) | exact HB.out))) : w.heap.size ≤ gb155)); have n7_ := Aside0.mk ((by rw [hg]; exact (below_size (by repeat (first | (with_reducible first | exact HB.out | apply below_alloc | apply pw_below_drewN | apply below_drew1 | refine below_set ?_ GE124.out) | exact HB.out))) : w.heap.size ≤ gb155)); have n8_ := Aside0.mk ((by rw [hg]; exact Nat.ne_of_lt (blk_lt (g := gb124) (o := .cells #[.int .i64 x125000_2] 3 (0, 0)) (by (with_reducible repeat (first | refine blk_drewN ?_ _ | refine blk_drew ?_ | refine blk_alloc ?_ _)); exact BK124.out)) : gb124 ≠ gb155)); have n9_ := Aside0.mk ((by rw [hg]; exact Nat.ne_of_gt (blk_lt (g := gb124) (o := .cells #[.int .i64 x125000_2] 3 (0, 0)) (by (with_reducible repeat (first | refine blk_drewN ?_ _ | refine blk_drew ?_ | refine blk_alloc ?_ _)); exact BK124.out)) : gb155 ≠ gb124)); clear HO_6; clear HO_7; clear HO154; clear BK124; clear HB; have HO_6 := n0_; have HO_7 := n1_; have HO154 := n2_; have BK124 := n3_; have HB := n4_; have BK155 := n5_; have GW155 := n6_; have GE155 := n7_; have NB124_155 := n8_; have NB155_124 := n9_; clear n0_ n1_ n2_ n3_ n4_ n5_ n6_ n7_ n8_ n9_; clear hb hbox hg) | ((with_reducible refine gate_dst (N := 10) rfl ?_); (try (refine gate_guard (by rfl) ?_; dsimp only)); refine box_event ?hg (N := 10) ?hd (cs := #[.int .i64 0, .int .i64 0, .int .i64 0, .int .i64 0]) (t := 39) ?hr ?_; (case hd => rfl); (case hg => rfl); (case hr => first | (go_simp; done) | (go_simp; rfl)); intro gb156 hg w60 hbox hb; have n0_ := Aside0.mk (Kd.V_below (Kd.V_elderB (by (with_reducible repeat (first | apply Kd.V_alloc | apply Kd.V_drewN | apply Kd.V_drew)); exact HO_6.out) gb156 (Nat.le_of_eq hg.symm)) hb); have n1_ := Aside0.mk (Kd.V_below (Kd.V_elderB (by (with_reducible repeat (first | apply Kd.V_alloc | apply Kd.V_drewN | apply Kd.V_drew)); exact HO_7.out) gb156 (Nat.le_of_eq hg.symm)) hb); have n2_ := Aside0.mk (Kd.S_below (by (with_reducible repeat (first | apply Kd.S_alloc | apply Kd.S_drewN | apply Kd.S_drew)); exact HO154.out) hb); have n3_ := Aside0.mk (blk_below (g := gb124) (o := .cells #[.int .i64 x125000_2] 3 (0, 0)) (by (with_reducible repeat (first | refine blk_drewN ?_ _ | refine blk_drew ?_ | refine blk_alloc ?_ _)); exact BK124.out) hb); have n4_ := Aside0.mk (blk_below (g := gb155) (o := .cells #[.slice none 0 0] 34 (0, 0)) (by (with_reducible repeat (first | refine blk_drewN ?_ _ | refine blk_drew ?_ | refine blk_alloc ?_ _)); exact BK155.out) hb); have n5_ := Aside0.mk (below_step (by repeat (first | (with_reducible first | exact HB.out | apply below_alloc | apply pw_below_drewN | apply below_drew1 | refine below_set ?_ GE124.out | refine below_set ?_ GE155.out) | exact HB.out)) hb); have n6_ := Aside0.mk (hbox); have n7_ := Aside0.mk ((by rw [hg]; exact (below_size (by repeat (first | (with_reducible first | exact HB.out | apply below_alloc | apply pw_below_drewN | apply below_drew1 | refine below_set ?_ GE124.out | refine below_set ?_ GE155.out) | exact HB.out))) : w.heap.size ≤ gb156)); have n8_ := Aside0.mk ((by rw [hg]; exact (below_size (by repeat (first | (with_reducible first | exact HB.out | apply below_alloc | apply pw_below_drewN | apply below_drew1 | refine below_set ?_ GE124.out | refine below_set ?_ GE155.out) | exact HB.out))) : w.heap.size ≤ gb156)); have n9_ := Aside0.mk ((by rw [hg]; exact Nat.ne_of_lt (blk_lt (g := gb124) (o := .cells #[.int .i64 x125000_2] 3 (0, 0)) (by (with_reducible repeat (first | refine blk_drewN ?_ _ | refine blk_drew ?_ | refine blk_alloc ?_ _)); exact BK124.out)) : gb124 ≠ gb156)); have n10_ := Aside0.mk ((by rw [hg]; exact Nat.ne_of_gt (blk_lt (g := gb124) (o := .cells #[.int .i64 x125000_2] 3 (0, 0)) (by (with_reducible repeat (first | refine blk_drewN ?_ _ | refine blk_drew ?_ | refine blk_alloc ?_ _)); exact BK124.out)) : gb156 ≠ gb124)); have n11_ := Aside0.mk ((by rw [hg]; exact Nat.ne_of_lt (blk_lt (g := gb155) (o := .cells #[.slice none 0 0] 34 (0, 0)) (by (with_reducible repeat (first | refine blk_drewN ?_ _ | refine blk_drew ?_ | refine blk_alloc ?_ _)); exact BK155.out)) : gb155 ≠ gb156)); have n12_ := Aside0.mk ((by rw [hg]; exact Nat.ne_of_gt (blk_lt (g := gb155) (o := .cells #[.slice none 0 0] 34 (0, 0)) (by (with_reducible repeat (first | refine blk_drewN ?_ _ | refine blk_drew ?_ | refine blk_alloc ?_ _)); exact BK155.out)) : gb156 ≠ gb155)); clear HO_6; clear HO_7; clear HO154; clear BK124; clear BK155; clear HB; have HO_6 := n0_; have HO_7 := n1_; have HO154 := n2_; have BK124 := n3_; have BK155 := n4_; have HB := n5_; have BK156 := n6_; have GW156 := n7_; have GE156 := n8_; have NB124_156 := n9_; have NB156_124 := n10_; have NB155_156 := n11_; have NB156_155 := n12_; clear n0_ n1_ n2_ n3_ n4_ n5_ n6_ n7_ n8_ n9_ n10_ n11_ n12_; clear hb hbox hg; have hnb61 := NB156_124.out; have hnc61 := NB124_156.out; have hnb62 := NB156_155.out; have hnc62 := NB155_156.out; have hcz63_0 : w60.cell? ⟨gb156, 0, none⟩ = some (.int .i64 0) := (blk_cell BK156.out 0).trans rfl; have hcz63_1 : w60.cell? ⟨gb156, 1, none⟩ = some (.int .i64 0) := (blk_cell BK156.out 1).trans rfl; have hcz63_2 : w60.cell? ⟨gb156, 2, none⟩ = some (.int .i64 0) := (blk_cell BK156.out 2).trans rfl; have hcz63_3 : w60.cell? ⟨gb156, 3, none⟩ = some (.int .i64 0) := (blk_cell BK156.out 3).trans rfl; have hfz63_0 := blk_frozen BK156.out 0; have hfz63_1 := blk_frozen BK156.out 1; have hfz63_2 := blk_frozen BK156.out 2; have hfz63_3 := blk_frozen BK156.out 3; have hnb64 := NB124_155.out; have hnc64 := NB155_124.out; have hcz65_0 : w60.cell? ⟨gb124, 0, none⟩ = some (.int .i64 x125000_2) := (blk_cell BK124.out 0).trans rfl; have hfz65_0 := blk_frozen BK124.out 0) | go_in); try go_wp2_with (first | (go_at_call 41; (with_reducible refine (hunks_table.calls kj43 _ _ x6_17 _ _ x7_17 t152 _ ?side1 ?side2 ?side3 ?side4 A55.out).mono ?_); (case side1 => repeat (first | exact (Kd.V_reads' HO_6.out).2.2 | (with_reducible refine Kd.C_alloc ?_ _) | (with_reducible refine Kd.C_drewN ?_ _) | (with_reducible refine Kd.C_drew ?_))); (case side2 => exact (Kd.V_reads' HO_6.out).2.1); (case side3 => repeat (first | exact (Kd.V_reads' HO_7.out).2.2 | (with_reducible refine Kd.C_alloc ?_ _) | (with_reducible refine Kd.C_drewN ?_ _) | (with_reducible refine Kd.C_drew ?_))); (case side4 => exact (Kd.V_reads' HO_7.out).2.1); rintro e w58 ⟨v153, rfl, ho0, hb⟩; have n0_ := Aside0.mk (Kd.V_elder' (by (with_reducible repeat (first | apply Kd.V_alloc | apply Kd.V_drewN | apply Kd.V_drew)); exact HO_6.out) (Kd.S_base ho0) hb); have n1_ := Aside0.mk (Kd.V_elder' (by (with_reducible repeat (first | apply Kd.V_alloc | apply Kd.V_drewN | apply Kd.V_drew)); exact HO_7.out) (Kd.S_base ho0) hb); have n2_ := Aside0.mk (Kd.S_lower (Kd.S_newB (Kd.S_newM (M := fun k_ => (w.heap.size ≤ k_)) ho0 (below_size (by repeat (first | (with_reducible first | exact HB.out | apply below_alloc | apply pw_below_drewN | apply below_drew1 | refine below_set ?_ GE124.out) | exact HB.out))) (fun k_ h_ => h_)) (g := gb124) (o := .cells #[.int .i64 x125000_2] 3 (0, 0)) (by (with_reducible repeat (first | refine blk_drewN ?_ _ | refine blk_drew ?_ | refine blk_alloc ?_ _)); exact BK124.out)) (below_size (by repeat (first | (with_reducible first | exact HB.out | apply below_alloc | apply pw_below_drewN | apply below_drew1 | refine below_set ?_ GE124.out) | exact HB.out)))); have n3_ := Aside0.mk (blk_below (g := gb124) (o := .cells #[.int .i64 x125000_2] 3 (0, 0)) (by (with_reducible repeat (first | refine blk_drewN ?_ _ | refine blk_drew ?_ | refine blk_alloc ?_ _)); exact BK124.out) hb); have n4_ := Aside0.mk (below_step (by repeat (first | (with_reducible first | exact HB.out | apply below_alloc | apply pw_below_drewN | apply below_drew1 | refine below_set ?_ GE124.out) | exact HB.out)) hb); clear HO_6; clear HO_7; clear BK124; clear HB; have HO_6 := n0_; have HO_7 := n1_; have HO154 := n2_; have BK124 := n3_; have HB := n4_; clear n0_ n1_ n2_ n3_ n4_; (try clear hb); (try clear hb2); (try clear hk); (try clear hi); (try clear ho0)) | ((with_reducible refine gate_dst (N := 9) rfl ?_); (try (refine gate_guard (by rfl) ?_; dsimp only)); refine box_event ?hg (N := 9) ?hd (cs := #[.slice none 0 0]) (t := 34) ?hr ?_; (case hd => rfl); (case hg => rfl); (case hr => first | (go_simp; done) | (go_simp; rfl)); intro gb155 hg w59 hbox hb; have n0_ := Aside0.mk (Kd.V_below (Kd.V_elderB (by (with_reducible repeat (first | apply Kd.V_alloc | apply Kd.V_drewN | apply Kd.V_drew)); exact HO_6.out) gb155 (Nat.le_of_eq hg.symm)) hb); have n1_ := Aside0.mk (Kd.V_below (Kd.V_elderB (by (with_reducible repeat (first | apply Kd.V_alloc | apply Kd.V_drewN | apply Kd.V_drew)); exact HO_7.out) gb155 (Nat.le_of_eq hg.symm)) hb); have n2_ := Aside0.mk (Kd.S_below (by (with_reducible repeat (first | apply Kd.S_alloc | apply Kd.S_drewN | apply Kd.S_drew)); exact HO154.out) hb); have n3_ := Aside0.mk (blk_below (g := gb124) (o := .cells #[.int .i64 x125000_2] 3 (0, 0)) (by (with_reducible repeat (first | refine blk_drewN ?_ _ | refine blk_drew ?_ | refine blk_alloc ?_ _)); exact BK124.out) hb); have n4_ := Aside0.mk (below_step (by repeat (first | (with_reducible first | exact HB.out | apply below_alloc | apply pw_below_drewN | apply below_drew1 | refine below_set ?_ GE124.out) | exact HB.out)) hb); have n5_ := Aside0.mk (hbox); have n6_ := Aside0.mk ((by rw [hg]; exact (below_size (by repeat (first | (with_reducible first | exact HB.out | apply below_alloc | apply pw_below_drewN | apply below_drew1 | refine below_set ?_ GE124.out) | exact HB.out))) : w.heap.size ≤ gb155)); have n7_ := Aside0.mk ((by rw [hg]; exact (below_size (by repeat (first | (with_reducible first | exact HB.out | apply below_alloc | apply pw_below_drewN | apply below_drew1 | refine below_set ?_ GE124.out) | exact HB.out))) : w.heap.size ≤ gb155)); have n8_ := Aside0.mk ((by rw [hg]; exact Nat.ne_of_lt (blk_lt (g := gb124) (o := .cells #[.int .i64 x125000_2] 3 (0, 0)) (by (with_reducible repeat (first | refine blk_drewN ?_ _ | refine blk_drew ?_ | refine blk_alloc ?_ _)); exact BK124.out)) : gb124 ≠ gb155)); have n9_ := Aside0.mk ((by rw [hg]; exact Nat.ne_of_gt (blk_lt (g := gb124) (o := .cells #[.int .i64 x125000_2] 3 (0, 0)) (by (with_reducible repeat (first | refine blk_drewN ?_ _ | refine blk_drew ?_ | refine blk_alloc ?_ _)); exact BK124.out)) : gb155 ≠ gb124)); clear HO_6; clear HO_7; clear HO154; clear BK124; clear HB; have HO_6 := n0_; have HO_7 := n1_; have HO154 := n2_; have BK124 := n3_; have HB := n4_; have BK155 := n5_; have GW155 := n6_; have GE155 := n7_; have NB124_155 := n8_; have NB155_124 := n9_; clear n0_ n1_ n2_ n3_ n4_ n5_ n6_ n7_ n8_ n9_; clear hb hbox hg) | ((with_reducible refine gate_dst (N := 10) rfl ?_); (try (refine gate_guard (by rfl) ?_; dsimp only)); refine box_event ?hg (N := 10) ?hd (cs := #[.int .i64 0, .int .i64 0, .int .i64 0, .int .i64 0]) (t := 39) ?hr ?_; (case hd => rfl); (case hg => rfl); (case hr => first | (go_simp; done) | (go_simp; rfl)); intro gb156 hg w60 hbox hb; have n0_ := Aside0.mk (Kd.V_below (Kd.V_elderB (by (with_reducible repeat (first | apply Kd.V_alloc | apply Kd.V_drewN | apply Kd.V_drew)); exact HO_6.out) gb156 (Nat.le_of_eq hg.symm)) hb); have n1_ := Aside0.mk (Kd.V_below (Kd.V_elderB (by (with_reducible repeat (first | apply Kd.V_alloc | apply Kd.V_drewN | apply Kd.V_drew)); exact HO_7.out) gb156 (Nat.le_of_eq hg.symm)) hb); have n2_ := Aside0.mk (Kd.S_below (by (with_reducible repeat (first | apply Kd.S_alloc | apply Kd.S_drewN | apply Kd.S_drew)); exact HO154.out) hb); have n3_ := Aside0.mk (blk_below (g := gb124) (o := .cells #[.int .i64 x125000_2] 3 (0, 0)) (by (with_reducible repeat (first | refine blk_drewN ?_ _ | refine blk_drew ?_ | refine blk_alloc ?_ _)); exact BK124.out) hb); have n4_ := Aside0.mk (blk_below (g := gb155) (o := .cells #[.slice none 0 0] 34 (0, 0)) (by (with_reducible repeat (first | refine blk_drewN ?_ _ | refine blk_drew ?_ | refine blk_alloc ?_ _)); exact BK155.out) hb); have n5_ := Aside0.mk (below_step (by repeat (first | (with_reducible first | exact HB.out | apply below_alloc | apply pw_below_drewN | apply below_drew1 | refine below_set ?_ GE124.out | refine below_set ?_ GE155.out) | exact HB.out)) hb); have n6_ := Aside0.mk (hbox); have n7_ := Aside0.mk ((by rw [hg]; exact (below_size (by repeat (first | (with_reducible first | exact HB.out | apply below_alloc | apply pw_below_drewN | apply below_drew1 | refine below_set ?_ GE124.out | refine below_set ?_ GE155.out) | exact HB.out))) : w.heap.size ≤ gb156)); have n8_ := Aside0.mk ((by rw [hg]; exact (below_size (by repeat (first | (with_reducible first | exact HB.out | apply below_alloc | apply pw_below_drewN | apply below_drew1 | refine below_set ?_ GE124.out | refine below_set ?_ GE155.out) | exact HB.out))) : w.heap.size ≤ gb156)); have n9_ := Aside0.mk ((by rw [hg]; exact Nat.ne_of_lt (blk_lt (g := gb124) (o := .cells #[.int .i64 x125000_2] 3 (0, 0)) (by (with_reducible repeat (first | refine blk_drewN ?_ _ | refine blk_drew ?_ | refine blk_alloc ?_ _)); exact BK124.out)) : gb124 ≠ gb156)); have n10_ := Aside0.mk ((by rw [hg]; exact Nat.ne_of_gt (blk_lt (g := gb124) (o := .cells #[.int .i64 x125000_2] 3 (0, 0)) (by (with_reducible repeat (first | refine blk_drewN ?_ _ | refine blk_drew ?_ | refine blk_alloc ?_ _)); exact BK124.out)) : gb156 ≠ gb124)); have n11_ := Aside0.mk ((by rw [hg]; exact Nat.ne_of_lt (blk_lt (g := gb155) (o := .cells #[.slice none 0 0] 34 (0, 0)) (by (with_reducible repeat (first | refine blk_drewN ?_ _ | refine blk_drew ?_ | refine blk_alloc ?_ _)); exact BK155.out)) : gb155 ≠ gb156)); have n12_ := Aside0.mk ((by rw [hg]; exact Nat.ne_of_gt (blk_lt (g := gb155) (o := .cells #[.slice none 0 0] 34 (0, 0)) (by (with_reducible repeat (first | refine blk_drewN ?_ _ | refine blk_drew ?_ | refine blk_alloc ?_ _)); exact BK155.out)) : gb156 ≠ gb155)); clear HO_6; clear HO_7; clear HO154; clear BK124; clear BK155; clear HB; have HO_6 := n0_; have HO_7 := n1_; have HO154 := n2_; have BK124 := n3_; have BK155 := n4_; have HB := n5_; have BK156 := n6_; have GW156 := n7_; have GE156 := n8_; have NB124_156 := n9_; have NB156_124 := n10_; have NB155_156 := n11_; have NB156_155 := n12_; clear n0_ n1_ n2_ n3_ n4_ n5_ n6_ n7_ n8_ n9_ n10_ n11_ n12_; clear hb hbox hg; have hnb61 := NB156_124.out; have hnc61 := NB124_156.out; have hnb62 := NB156_155.out; have hnc62 := NB155_156.out; have hcz63_0 : w60.cell? ⟨gb156, 0, none⟩ = some (.int .i64 0) := (blk_cell BK156.out 0).trans rfl; have hcz63_1 : w60.cell? ⟨gb156, 1, none⟩ = some (.int .i64 0) := (blk_cell BK156.out 1).trans rfl; have hcz63_2 : w60.cell? ⟨gb156, 2, none⟩ = some (.int .i64 0) := (blk_cell BK156.out 2).trans rfl; have hcz63_3 : w60.cell? ⟨gb156, 3, none⟩ = some (.int .i64 0) := (blk_cell BK156.out 3).trans rfl; have hfz63_0 := blk_frozen BK156.out 0; have hfz63_1 := blk_frozen BK156.out 1; have hfz63_2 := blk_frozen BK156.out 2; have hfz63_3 := blk_frozen BK156.out 3; have hnb64 := NB124_155.out; have hnc64 := NB155_124.out; have hcz65_0 : w60.cell? ⟨gb124, 0, none⟩ = some (.int .i64 x125000_2) := (blk_cell BK124.out 0).trans rfl; have hfz65_0 := blk_frozen BK124.out 0) | go_in))
           (try (refine bodyPost_end (results_none rfl _ _ _) rfl ?_; (try dsimp only); (try go_wp2); repeat (go_quiet (fail); try go_wp2)))
           go_loopg [12, 13] kj43 (fun kq v12 v13 w' => ∃ (x12_4 : Int) (x13_4 : Int) (x156000_4 : List (S39)) (x157000_4 : Int) (x157001_4 : Int) (x157002_4 : Int) (x157003_4 : Int) (u156000 : Value), v12 = .int .i64 x12_4 ∧ v13 = .int .i64 x13_4 ∧ Aside0 (hunks_Changes.l2 kq x6_17 x7_17 t152 x12_4 x13_4 x125000_2 x156000_4 x157000_4 x157001_4 x157002_4 x157003_4 = some r) ∧ Aside0 (kq ≤ kj43) ∧ Aside0 (Kd.V Kd.string 9 w' w.heap.size (fun k_ => ((P0_ k_ ∨ P1_ k_) ∨ w.heap.size ≤ k_) ∧ some k_ ≠ (v153 : Value).ownBlock ∧ some k_ ≠ (u156000 : Value).ownBlock ∧ k_ ≠ gb124 ∧ k_ ≠ gb155 ∧ k_ ≠ gb156) (.slice Ao56 x6_17.length co56) x6_17) ∧ Aside0 (Kd.V Kd.string 9 w' w.heap.size (fun k_ => ((P0_ k_ ∨ P1_ k_) ∨ w.heap.size ≤ k_) ∧ some k_ ≠ (v153 : Value).ownBlock ∧ some k_ ≠ (u156000 : Value).ownBlock ∧ k_ ≠ gb124 ∧ k_ ≠ gb155 ∧ k_ ≠ gb156) (.slice Ao57 x7_17.length co57) x7_17) ∧ Aside0 (Kd.S (Kd.slice 3 (Kd.int .i64)) 67 w' w.heap.size (fun k_ => (w.heap.size ≤ k_) ∧ k_ ≠ gb124) v153 t152) ∧ Aside0 (Kd.R k39 39 w' w.heap.size (fun k_ => (w.heap.size ≤ k_) ∧ k_ ≠ gb156) u156000 x156000_4) ∧ Aside0 (w'.heap[gb124]? = some (.cells #[.int .i64 x125000_2] 3 (0, 0))) ∧ Aside0 (w'.heap[gb155]? = some (.cells #[u156000] 34 (0, 0))) ∧ Aside0 (w'.heap[gb156]? = some (.cells #[.int .i64 x157000_4, .int .i64 x157001_4, .int .i64 x157002_4, .int .i64 x157003_4] 39 (0, 0))) ∧ Aside0 (Below w.heap.size w w'))
           case atStart => exact ⟨(0), (0), (([] : List (S39))), (wrap64 x125000_2), (0), (wrap64 x125000_2), (0), (.slice none 0 0), (by first | rfl | (simp; done) | (simp [*]; done)), (by first | rfl | (simp; done) | (simp [*]; done)), H', ⟨Nat.le_refl _⟩, ⟨by (with_reducible repeat (first | apply Kd.V_alloc | apply Kd.V_drewN | apply Kd.V_drew)); exact Kd.V_mono (Kd.V_far (p := ⟨gb156, 3, none⟩) (Kd.V_far (p := ⟨gb156, 2, none⟩) (Kd.V_far (p := ⟨gb156, 1, none⟩) (Kd.V_far (p := ⟨gb156, 0, none⟩) (Kd.V_far (p := ⟨gb156, 3, none⟩) (Kd.V_far (p := ⟨gb156, 2, none⟩) (Kd.V_far (p := ⟨gb156, 1, none⟩) (Kd.V_far (p := ⟨gb156, 0, none⟩) (Kd.V_mono HO_6.out (fun k_ hk => (⟨hk, hk.2⟩ : _ ∧ k_ ≠ gb156))) (fun _ hk => hk.2) (.int .i64 0)) (fun _ hk => hk.2) (.int .i64 0)) (fun _ hk => hk.2) (.int .i64 0)) (fun _ hk => hk.2) (.int .i64 0)) (fun _ hk => hk.2) (.int .i64 (wrap64 x125000_2))) (fun _ hk => hk.2) (.int .i64 0)) (fun _ hk => hk.2) (.int .i64 (wrap64 x125000_2))) (fun _ hk => hk.2) (.int .i64 0)) (fun _ hk => ⟨hk.1.1.1.1.1, ⟨hk.1.1.1.2, ⟨(by simp [Value.ownBlock]), ⟨hk.1.1.1.1.2, ⟨hk.1.1.2, hk.1.2⟩⟩⟩⟩⟩)⟩, ⟨by (with_reducible repeat (first | apply Kd.V_alloc | apply Kd.V_drewN | apply Kd.V_drew)); exact Kd.V_mono (Kd.V_far (p := ⟨gb156, 3, none⟩) (Kd.V_far (p := ⟨gb156, 2, none⟩) (Kd.V_far (p := ⟨gb156, 1, none⟩) (Kd.V_far (p := ⟨gb156, 0, none⟩) (Kd.V_far (p := ⟨gb156, 3, none⟩) (Kd.V_far (p := ⟨gb156, 2, none⟩) (Kd.V_far (p := ⟨gb156, 1, none⟩) (Kd.V_far (p := ⟨gb156, 0, none⟩) (Kd.V_mono HO_7.out (fun k_ hk => (⟨hk, hk.2⟩ : _ ∧ k_ ≠ gb156))) (fun _ hk => hk.2) (.int .i64 0)) (fun _ hk => hk.2) (.int .i64 0)) (fun _ hk => hk.2) (.int .i64 0)) (fun _ hk => hk.2) (.int .i64 0)) (fun _ hk => hk.2) (.int .i64 (wrap64 x125000_2))) (fun _ hk => hk.2) (.int .i64 0)) (fun _ hk => hk.2) (.int .i64 (wrap64 x125000_2))) (fun _ hk => hk.2) (.int .i64 0)) (fun _ hk => ⟨hk.1.1.1.1.1, ⟨hk.1.1.1.2, ⟨(by simp [Value.ownBlock]), ⟨hk.1.1.1.1.2, ⟨hk.1.1.2, hk.1.2⟩⟩⟩⟩⟩)⟩, ⟨by (with_reducible repeat (first | apply Kd.S_alloc | apply Kd.S_drewN | apply Kd.S_drew)); exact Kd.S_mono (Kd.S_far (p := ⟨gb156, 3, none⟩) (Kd.S_far (p := ⟨gb156, 2, none⟩) (Kd.S_far (p := ⟨gb156, 1, none⟩) (Kd.S_far (p := ⟨gb156, 0, none⟩) (Kd.S_far (p := ⟨gb156, 3, none⟩) (Kd.S_far (p := ⟨gb156, 2, none⟩) (Kd.S_far (p := ⟨gb156, 1, none⟩) (Kd.S_far (p := ⟨gb156, 0, none⟩) (Kd.S_types HO154.out BK156.out (by decide)) (fun _ hk => hk.2) (.int .i64 0)) (fun _ hk => hk.2) (.int .i64 0)) (fun _ hk => hk.2) (.int .i64 0)) (fun _ hk => hk.2) (.int .i64 0)) (fun _ hk => hk.2) (.int .i64 (wrap64 x125000_2))) (fun _ hk => hk.2) (.int .i64 0)) (fun _ hk => hk.2) (.int .i64 (wrap64 x125000_2))) (fun _ hk => hk.2) (.int .i64 0)) (fun _ hk => ⟨hk.1.1.1, hk.1.2⟩)⟩, ⟨by first | exact Kd.R_nil _ _ _ _ _ | exact Kd.N_nil _ _ _ _ _ | exact Kd.V_nil _ _ _ _ _ | exact Kd.Q_nil _ _ _ _ _ | exact Kd.S_nil _ _ _ _ _⟩, ⟨by (with_reducible repeat (first | refine blk_drewN ?_ _ | refine blk_drew ?_ | refine blk_alloc ?_ _)); refine blk_far ?_ NB124_156.out _; (with_reducible repeat (first | refine blk_drewN ?_ _ | refine blk_drew ?_ | refine blk_alloc ?_ _)); refine blk_far ?_ NB124_156.out _; (with_reducible repeat (first | refine blk_drewN ?_ _ | refine blk_drew ?_ | refine blk_alloc ?_ _)); refine blk_far ?_ NB124_156.out _; (with_reducible repeat (first | refine blk_drewN ?_ _ | refine blk_drew ?_ | refine blk_alloc ?_ _)); refine blk_far ?_ NB124_156.out _; (with_reducible repeat (first | refine blk_drewN ?_ _ | refine blk_drew ?_ | refine blk_alloc ?_ _)); refine blk_far ?_ NB124_156.out _; (with_reducible repeat (first | refine blk_drewN ?_ _ | refine blk_drew ?_ | refine blk_alloc ?_ _)); refine blk_far ?_ NB124_156.out _; (with_reducible repeat (first | refine blk_drewN ?_ _ | refine blk_drew ?_ | refine blk_alloc ?_ _)); refine blk_far ?_ NB124_156.out _; (with_reducible repeat (first | refine blk_drewN ?_ _ | refine blk_drew ?_ | refine blk_alloc ?_ _)); refine blk_far ?_ NB124_156.out _; (with_reducible repeat (first | refine blk_drewN ?_ _ | refine blk_drew ?_ | refine blk_alloc ?_ _)); exact BK124.out⟩, ⟨by (with_reducible repeat (first | refine blk_drewN ?_ _ | refine blk_drew ?_ | refine blk_alloc ?_ _)); refine blk_far ?_ NB155_156.out _; (with_reducible repeat (first | refine blk_drewN ?_ _ | refine blk_drew ?_ | refine blk_alloc ?_ _)); refine blk_far ?_ NB155_156.out _; (with_reducible repeat (first | refine blk_drewN ?_ _ | refine blk_drew ?_ | refine blk_alloc ?_ _)); refine blk_far ?_ NB155_156.out _; (with_reducible repeat (first | refine blk_drewN ?_ _ | refine blk_drew ?_ | refine blk_alloc ?_ _)); refine blk_far ?_ NB155_156.out _; (with_reducible repeat (first | refine blk_drewN ?_ _ | refine blk_drew ?_ | refine blk_alloc ?_ _)); refine blk_far ?_ NB155_156.out _; (with_reducible repeat (first | refine blk_drewN ?_ _ | refine blk_drew ?_ | refine blk_alloc ?_ _)); refine blk_far ?_ NB155_156.out _; (with_reducible repeat (first | refine blk_drewN ?_ _ | refine blk_drew ?_ | refine blk_alloc ?_ _)); refine blk_far ?_ NB155_156.out _; (with_reducible repeat (first | refine blk_drewN ?_ _ | refine blk_drew ?_ | refine blk_alloc ?_ _)); refine blk_far ?_ NB155_156.out _; (with_reducible repeat (first | refine blk_drewN ?_ _ | refine blk_drew ?_ | refine blk_alloc ?_ _)); exact BK155.out⟩, ⟨by (with_reducible repeat (first | refine blk_drewN ?_ _ | refine blk_drew ?_ | refine blk_alloc ?_ _)); refine blk_put (cs := #[.int .i64 (wrap64 x125000_2), .int .i64 0, .int .i64 (wrap64 x125000_2), .int .i64 0]) ?_ 3 _ rfl; (with_reducible repeat (first | refine blk_drewN ?_ _ | refine blk_drew ?_ | refine blk_alloc ?_ _)); refine blk_put (cs := #[.int .i64 (wrap64 x125000_2), .int .i64 0, .int .i64 0, .int .i64 0]) ?_ 2 _ rfl; (with_reducible repeat (first | refine blk_drewN ?_ _ | refine blk_drew ?_ | refine blk_alloc ?_ _)); refine blk_put (cs := #[.int .i64 (wrap64 x125000_2), .int .i64 0, .int .i64 0, .int .i64 0]) ?_ 1 _ rfl; (with_reducible repeat (first | refine blk_drewN ?_ _ | refine blk_drew ?_ | refine blk_alloc ?_ _)); refine blk_put (cs := #[.int .i64 0, .int .i64 0, .int .i64 0, .int .i64 0]) ?_ 0 _ rfl; (with_reducible repeat (first | refine blk_drewN ?_ _ | refine blk_drew ?_ | refine blk_alloc ?_ _)); refine blk_put (cs := #[.int .i64 0, .int .i64 0, .int .i64 0, .int .i64 0]) ?_ 3 _ rfl; (with_reducible repeat (first | refine blk_drewN ?_ _ | refine blk_drew ?_ | refine blk_alloc ?_ _)); refine blk_put (cs := #[.int .i64 0, .int .i64 0, .int .i64 0, .int .i64 0]) ?_ 2 _ rfl; (with_reducible repeat (first | refine blk_drewN ?_ _ | refine blk_drew ?_ | refine blk_alloc ?_ _)); refine blk_put (cs := #[.int .i64 0, .int .i64 0, .int .i64 0, .int .i64 0]) ?_ 1 _ rfl; (with_reducible repeat (first | refine blk_drewN ?_ _ | refine blk_drew ?_ | refine blk_alloc ?_ _)); refine blk_put (cs := #[.int .i64 0, .int .i64 0, .int .i64 0, .int .i64 0]) ?_ 0 _ rfl; (with_reducible repeat (first | refine blk_drewN ?_ _ | refine blk_drew ?_ | refine blk_alloc ?_ _)); exact BK156.out⟩, ⟨by repeat (first | (with_reducible first | exact HB.out | apply below_alloc | apply pw_below_drewN | apply below_drew1 | refine below_set ?_ GE124.out | refine below_set ?_ GE155.out | refine below_set ?_ GE156.out) | exact HB.out)⟩⟩
           case round =>
            clear H'
            (try clear c1); (try clear p1); (try clear q1); (try clear hx1); (try clear c2); (try clear p2); (try clear q2); (try clear c3); (try clear q3); (try clear c4); (try clear c6); (try clear c6b0); (try clear p6); (try clear c7); (try clear c7b0); (try clear c8); (try clear c8b0); (try clear c9); (try clear c9b0); (try clear c9b1); (try clear p12); (try clear q12); (try clear hx12); (try clear p13); (try clear q13); (try clear hx13); (try clear c14); (try clear c14b0); (try clear c14b1); (try clear c15); (try clear c15b0); (try clear c15b1); (try clear c16); (try clear c16b0); (try clear c17); (try clear c17b0); (try clear c17b1); (try clear c20); (try clear q20); (try clear c21); (try clear q21); (try clear c22); (try clear c22b0); (try clear c22b1); (try clear c23); (try clear c23b0); (try clear c23b1); (try clear c25); (try clear c25b0); (try clear c26); (try clear c26b0); (try clear c28); (try clear c28b0); (try clear c29); (try clear c29b0); (try clear c30); (try clear c30b0); (try clear c30b1); (try clear c31); (try clear c31b0); (try clear c32); (try clear c32b0); (try clear c32b1); (try clear c33); (try clear c33b0); (try clear c34); (try clear c34b0); (try clear c34b1); (try clear q37); (try clear q38); (try clear c45); (try clear c45b0); (try clear c45b1); (try clear c49); (try clear c61); (try clear c62); (try clear c64); (try clear p64); (try clear hcz10_0); (try clear hcz11_0); (try clear hcz12_0); (try clear hcz13_0); (try clear hcz19_0); (try clear hcz50_0); (try clear hcz5_0); (try clear hcz63_0); (try clear hcz63_1); (try clear hcz63_2); (try clear hcz63_3); (try clear hcz65_0); (try clear hfz10_0); (try clear hfz11_0); (try clear hfz12_0); (try clear hfz13_0); (try clear hfz19_0); (try clear hfz50_0); (try clear hfz5_0); (try clear hfz63_0); (try clear hfz63_1); (try clear hfz63_2); (try clear hfz63_3); (try clear hfz65_0); (try clear hx125_0); (try clear hx126_0); (try clear hx137_0); (try clear hx138_0); (try clear p1); (try clear p12); (try clear p125); (try clear p126); (try clear p13); (try clear p137); (try clear p138); (try clear p2); (try clear p6); (try clear q020); (try clear q021); (try clear q1); (try clear q12); (try clear q125); (try clear q126); (try clear q13); (try clear q137); (try clear q138); (try clear q2); (try clear q20); (try clear q21); (try clear q3); (try clear q37); (try clear q38)
            obtain ⟨x12_4, x13_4, x156000_4, x157000_4, x157001_4, x157002_4, x157003_4, u156000, rfl, rfl, HA, HK4, HO_6, HO_7, HO_8, HO_156000, BK124, BK155, BK156, HB⟩ := hrel
            cases gk with
            | zero => exact absurd HA.out (by simp [hunks_Changes.l2])
            | succ k4 =>
             have H := HA.out
             clear HA
             simp only [hunks_Changes.l2] at H
             have HC66 := Aside0.mk H
             clear H
             go_upto_region 15 with (fail)
             repeat (go_quiet (fail); go_upto_region 15 with (fail))
             (try (refine bodyPost_end (results_none rfl _ _ _) rfl ?_; (try dsimp only); (try go_wp2); repeat (go_quiet (fail); try go_wp2)))
             go_cut [108] (fun v108 wc => ∃ (kq : Nat) (x108_65 : Bool), v108 = .bool x108_65 ∧ Aside0 (hunks_Changes.j6 kq x6_17 x7_17 t152 x12_4 x13_4 x108_65 x125000_2 x156000_4 x157000_4 x157001_4 x157002_4 x157003_4 = some r) ∧ Aside0 (kq ≤ k4) ∧ Aside0 (Kd.V Kd.string 9 wc w.heap.size (fun k_ => ((P0_ k_ ∨ P1_ k_) ∨ w.heap.size ≤ k_) ∧ some k_ ≠ (v153 : Value).ownBlock ∧ some k_ ≠ (u156000 : Value).ownBlock ∧ k_ ≠ gb124 ∧ k_ ≠ gb155 ∧ k_ ≠ gb156) (.slice Ao56 x6_17.length co56) x6_17) ∧ Aside0 (Kd.V Kd.string 9 wc w.heap.size (fun k_ => ((P0_ k_ ∨ P1_ k_) ∨ w.heap.size ≤ k_) ∧ some k_ ≠ (v153 : Value).ownBlock ∧ some k_ ≠ (u156000 : Value).ownBlock ∧ k_ ≠ gb124 ∧ k_ ≠ gb155 ∧ k_ ≠ gb156) (.slice Ao57 x7_17.length co57) x7_17) ∧ Aside0 (Kd.S (Kd.slice 3 (Kd.int .i64)) 67 wc w.heap.size (fun k_ => (w.heap.size ≤ k_) ∧ k_ ≠ gb124) v153 t152) ∧ Aside0 (Kd.R k39 39 wc w.heap.size (fun k_ => (w.heap.size ≤ k_) ∧ k_ ≠ gb156) u156000 x156000_4) ∧ Aside0 (wc.heap[gb124]? = some (.cells #[.int .i64 x125000_2] 3 (0, 0))) ∧ Aside0 (wc.heap[gb155]? = some (.cells #[u156000] 34 (0, 0))) ∧ Aside0 (wc.heap[gb156]? = some (.cells #[.int .i64 x157000_4, .int .i64 x157001_4, .int .i64 x157002_4, .int .i64 x157003_4] 39 (0, 0))) ∧ Aside0 (Below w.heap.size w wc))
             case first =>
              have H := HC66.out
              clear HC66
              by_cases c67 : x12_4 < (x6_17.length : Int)
              ·rw [if_pos c67] at H
               have c67b0 : decide (x12_4 < (x6_17.length : Int)) = true := decide_eq_true c67
               clear c67
               (first | rw [c67b0] | (simp only [i64_w, i32_w]; rw [c67b0]) | skip)
               have H' := Aside0.mk H
               clear H
               go_wp2
               repeat (go_quiet (fail); try go_wp2)
               (try (refine bodyPost_end (results_none rfl _ _ _) rfl ?_; (try dsimp only); (try go_wp2); repeat (go_quiet (fail); try go_wp2)))
               go_meet
               case rel => exact ⟨_, (true), (by first | rfl | (simp; done) | (simp [*]; done)), H', ⟨by have := HJ2.out; have := HJ17.out; have := HJ43.out; have := HK4.out; first | omega | exact Nat.le_refl _⟩, ⟨by (with_reducible repeat (first | apply Kd.V_alloc | apply Kd.V_drewN | apply Kd.V_drew)); exact HO_6.out⟩, ⟨by (with_reducible repeat (first | apply Kd.V_alloc | apply Kd.V_drewN | apply Kd.V_drew)); exact HO_7.out⟩, ⟨by (with_reducible repeat (first | apply Kd.S_alloc | apply Kd.S_drewN | apply Kd.S_drew)); exact HO_8.out⟩, ⟨by (with_reducible repeat (first | apply Kd.R_alloc | apply Kd.R_drewN | apply Kd.R_drew)); exact HO_156000.out⟩, ⟨by (with_reducible repeat (first | refine blk_drewN ?_ _ | refine blk_drew ?_ | refine blk_alloc ?_ _)); exact BK124.out⟩, ⟨by (with_reducible repeat (first | refine blk_drewN ?_ _ | refine blk_drew ?_ | refine blk_alloc ?_ _)); exact BK155.out⟩, ⟨by (with_reducible repeat (first | refine blk_drewN ?_ _ | refine blk_drew ?_ | refine blk_alloc ?_ _)); exact BK156.out⟩, ⟨by repeat (first | (with_reducible first | exact HB.out | apply below_alloc | apply pw_below_drewN | apply below_drew1 | refine below_set ?_ GE124.out | refine below_set ?_ GE155.out | refine below_set ?_ GE156.out) | exact HB.out)⟩⟩
              ·rw [if_neg c67] at H
               have c67b0 : decide (x12_4 < (x6_17.length : Int)) = false := decide_eq_false c67
               clear c67
               (first | rw [c67b0] | (simp only [i64_w, i32_w]; rw [c67b0]) | skip)
               have H' := Aside0.mk H
               clear H
               go_wp2
               repeat (go_quiet (fail); try go_wp2)
               (try (refine bodyPost_end (results_none rfl _ _ _) rfl ?_; (try dsimp only); (try go_wp2); repeat (go_quiet (fail); try go_wp2)))
               go_meet
               case rel => exact ⟨_, (decide (x13_4 < (x7_17.length : Int))), (by first | rfl | (simp; done) | (simp [*]; done)), H', ⟨by have := HJ2.out; have := HJ17.out; have := HJ43.out; have := HK4.out; first | omega | exact Nat.le_refl _⟩, ⟨by (with_reducible repeat (first | apply Kd.V_alloc | apply Kd.V_drewN | apply Kd.V_drew)); exact HO_6.out⟩, ⟨by (with_reducible repeat (first | apply Kd.V_alloc | apply Kd.V_drewN | apply Kd.V_drew)); exact HO_7.out⟩, ⟨by (with_reducible repeat (first | apply Kd.S_alloc | apply Kd.S_drewN | apply Kd.S_drew)); exact HO_8.out⟩, ⟨by (with_reducible repeat (first | apply Kd.R_alloc | apply Kd.R_drewN | apply Kd.R_drew)); exact HO_156000.out⟩, ⟨by (with_reducible repeat (first | refine blk_drewN ?_ _ | refine blk_drew ?_ | refine blk_alloc ?_ _)); exact BK124.out⟩, ⟨by (with_reducible repeat (first | refine blk_drewN ?_ _ | refine blk_drew ?_ | refine blk_alloc ?_ _)); exact BK155.out⟩, ⟨by (with_reducible repeat (first | refine blk_drewN ?_ _ | refine blk_drew ?_ | refine blk_alloc ?_ _)); exact BK156.out⟩, ⟨by repeat (first | (with_reducible first | exact HB.out | apply below_alloc | apply pw_below_drewN | apply below_drew1 | refine below_set ?_ GE124.out | refine below_set ?_ GE155.out | refine below_set ?_ GE156.out) | exact HB.out)⟩⟩
             case rest =>
              clear HC66
              (try clear c1); (try clear p1); (try clear q1); (try clear hx1); (try clear c2); (try clear p2); (try clear q2); (try clear c3); (try clear q3); (try clear c4); (try clear c6); (try clear c6b0); (try clear p6); (try clear c7); (try clear c7b0); (try clear c8); (try clear c8b0); (try clear c9); (try clear c9b0); (try clear c9b1); (try clear p12); (try clear q12); (try clear hx12); (try clear p13); (try clear q13); (try clear hx13); (try clear c14); (try clear c14b0); (try clear c14b1); (try clear c15); (try clear c15b0); (try clear c15b1); (try clear c16); (try clear c16b0); (try clear c17); (try clear c17b0); (try clear c17b1); (try clear c20); (try clear q20); (try clear c21); (try clear q21); (try clear c22); (try clear c22b0); (try clear c22b1); (try clear c23); (try clear c23b0); (try clear c23b1); (try clear c25); (try clear c25b0); (try clear c26); (try clear c26b0); (try clear c28); (try clear c28b0); (try clear c29); (try clear c29b0); (try clear c30); (try clear c30b0); (try clear c30b1); (try clear c31); (try clear c31b0); (try clear c32); (try clear c32b0); (try clear c32b1); (try clear c33); (try clear c33b0); (try clear c34); (try clear c34b0); (try clear c34b1); (try clear q37); (try clear q38); (try clear c45); (try clear c45b0); (try clear c45b1); (try clear c49); (try clear c61); (try clear c62); (try clear c64); (try clear p64); (try clear c67); (try clear c67b0); (try clear hcz10_0); (try clear hcz11_0); (try clear hcz12_0); (try clear hcz13_0); (try clear hcz19_0); (try clear hcz50_0); (try clear hcz5_0); (try clear hcz63_0); (try clear hcz63_1); (try clear hcz63_2); (try clear hcz63_3); (try clear hcz65_0); (try clear hfz10_0); (try clear hfz11_0); (try clear hfz12_0); (try clear hfz13_0); (try clear hfz19_0); (try clear hfz50_0); (try clear hfz5_0); (try clear hfz63_0); (try clear hfz63_1); (try clear hfz63_2); (try clear hfz63_3); (try clear hfz65_0); (try clear hx125_0); (try clear hx126_0); (try clear hx137_0); (try clear hx138_0); (try clear p1); (try clear p12); (try clear p125); (try clear p126); (try clear p13); (try clear p137); (try clear p138); (try clear p2); (try clear p6); (try clear p64); (try clear q020); (try clear q021); (try clear q1); (try clear q12); (try clear q125); (try clear q126); (try clear q13); (try clear q137); (try clear q138); (try clear q2); (try clear q20); (try clear q21); (try clear q3); (try clear q37); (try clear q38)
              obtain ⟨kq, x108_65, rfl, HA, HJ65, HO_6, HO_7, HO_8, HO_156000, BK124, BK155, BK156, HB⟩ := hcut
              cases kq with
              | zero => exact absurd HA.out (by simp [hunks_Changes.j6])
              | succ kj65 =>
               have H := HA.out
               clear HA
               simp only [hunks_Changes.j6] at H
               by_cases c68 : x108_65 = true
               ·subst c68
                have H1 : (if x12_4 < (x6_17.length : Int) then (if x13_4 < (x7_17.length : Int) then (if 0 ≤ x12_4 then (if 0 ≤ x13_4 then (hunks_Changes.j7 kj65 x6_17 x7_17 t152 x12_4 x13_4 ((rdOf ByteArray.empty x6_17 x12_4).toList == (rdOf ByteArray.empty x7_17 x13_4).toList) x125000_2 x156000_4 x157000_4 x157001_4 x157002_4 x157003_4) else (none)) else (none)) else (hunks_Changes.j7 kj65 x6_17 x7_17 t152 x12_4 x13_4 false x125000_2 x156000_4 x157000_4 x157001_4 x157002_4 x157003_4)) else (hunks_Changes.j7 kj65 x6_17 x7_17 t152 x12_4 x13_4 false x125000_2 x156000_4 x157000_4 x157001_4 x157002_4 x157003_4)) = some r := by rw [if_pos rfl] at H; exact H
                clear H
                have H := H1
                clear H1
                have HC69 := Aside0.mk H
                clear H
                go_upto_region 18 with (fail)
                repeat (go_quiet (fail); go_upto_region 18 with (fail))
                (try (refine bodyPost_end (results_none rfl _ _ _) rfl ?_; (try dsimp only); (try go_wp2); repeat (go_quiet (fail); try go_wp2)))
                go_cut [115] (fun v115 wc => ∃ (kq : Nat) (x115_68 : Bool), v115 = .bool x115_68 ∧ Aside0 (hunks_Changes.j7 kq x6_17 x7_17 t152 x12_4 x13_4 x115_68 x125000_2 x156000_4 x157000_4 x157001_4 x157002_4 x157003_4 = some r) ∧ Aside0 (kq ≤ kj65) ∧ Aside0 (Kd.V Kd.string 9 wc w.heap.size (fun k_ => ((P0_ k_ ∨ P1_ k_) ∨ w.heap.size ≤ k_) ∧ some k_ ≠ (v153 : Value).ownBlock ∧ some k_ ≠ (u156000 : Value).ownBlock ∧ k_ ≠ gb124 ∧ k_ ≠ gb155 ∧ k_ ≠ gb156) (.slice Ao56 x6_17.length co56) x6_17) ∧ Aside0 (Kd.V Kd.string 9 wc w.heap.size (fun k_ => ((P0_ k_ ∨ P1_ k_) ∨ w.heap.size ≤ k_) ∧ some k_ ≠ (v153 : Value).ownBlock ∧ some k_ ≠ (u156000 : Value).ownBlock ∧ k_ ≠ gb124 ∧ k_ ≠ gb155 ∧ k_ ≠ gb156) (.slice Ao57 x7_17.length co57) x7_17) ∧ Aside0 (Kd.S (Kd.slice 3 (Kd.int .i64)) 67 wc w.heap.size (fun k_ => (w.heap.size ≤ k_) ∧ k_ ≠ gb124) v153 t152) ∧ Aside0 (Kd.R k39 39 wc w.heap.size (fun k_ => (w.heap.size ≤ k_) ∧ k_ ≠ gb156) u156000 x156000_4) ∧ Aside0 (wc.heap[gb124]? = some (.cells #[.int .i64 x125000_2] 3 (0, 0))) ∧ Aside0 (wc.heap[gb155]? = some (.cells #[u156000] 34 (0, 0))) ∧ Aside0 (wc.heap[gb156]? = some (.cells #[.int .i64 x157000_4, .int .i64 x157001_4, .int .i64 x157002_4, .int .i64 x157003_4] 39 (0, 0))) ∧ Aside0 (Below w.heap.size w wc))
                case first =>
                 have H := HC69.out
                 clear HC69
                 by_cases c70 : x12_4 < (x6_17.length : Int)
                 ·rw [if_pos c70] at H
                  have c70b0 : decide (x12_4 < (x6_17.length : Int)) = true := decide_eq_true c70
                  clear c70
                  (first | rw [c70b0] | (simp only [i64_w, i32_w]; rw [c70b0]) | skip)
                  by_cases c71 : x13_4 < (x7_17.length : Int)
                  ·rw [if_pos c71] at H
                   have c71b0 : decide (x13_4 < (x7_17.length : Int)) = true := decide_eq_true c71
                   clear c71
                   by_cases c72 : 0 ≤ x12_4
                   ·rw [if_pos c72] at H
                    have c72b0 : decide (0 ≤ x12_4) = true := decide_eq_true c72
                    clear c72
                    by_cases c73 : 0 ≤ x13_4
                    ·rw [if_pos c73] at H
                     have c73b0 : decide (0 ≤ x13_4) = true := decide_eq_true c73
                     clear c73
                     have H' := Aside0.mk H
                     clear H
                     have p160 : 0 ≤ (x12_4 : Int) := of_decide_eq_true (by first | (with_reducible assumption) | assumption)
                     have q160 : x12_4 < (x6_17.length : Int) := of_decide_eq_true (by first | (with_reducible assumption) | assumption)
                     obtain ⟨ad160, e160, hx160_0⟩ := Kd.at_string (Kd.V_reads' HO_6.out).2.2 x12_4 p160 q160
                     cases e160
                     replace p160 := eq_true p160
                     replace q160 := eq_true q160
                     have p161 : 0 ≤ (x13_4 : Int) := of_decide_eq_true (by first | (with_reducible assumption) | assumption)
                     have q161 : x13_4 < (x7_17.length : Int) := of_decide_eq_true (by first | (with_reducible assumption) | assumption)
                     obtain ⟨ad161, e161, hx161_0⟩ := Kd.at_string (Kd.V_reads' HO_7.out).2.2 x13_4 p161 q161
                     cases e161
                     replace p161 := eq_true p161
                     replace q161 := eq_true q161
                     go_wp2
                     repeat (go_quiet (fail); try go_wp2)
                     (try (refine bodyPost_end (results_none rfl _ _ _) rfl ?_; (try dsimp only); (try go_wp2); repeat (go_quiet (fail); try go_wp2)))
                     go_meet
                     case rel => exact ⟨_, (((rdOf ByteArray.empty x6_17 x12_4).toList == (rdOf ByteArray.empty x7_17 x13_4).toList)), (by first | rfl | (simp; done) | (simp [*]; done)), H', ⟨by have := HJ2.out; have := HJ17.out; have := HJ43.out; have := HK4.out; have := HJ65.out; first | omega | exact Nat.le_refl _⟩, ⟨by (with_reducible repeat (first | apply Kd.V_alloc | apply Kd.V_drewN | apply Kd.V_drew)); exact HO_6.out⟩, ⟨by (with_reducible repeat (first | apply Kd.V_alloc | apply Kd.V_drewN | apply Kd.V_drew)); exact HO_7.out⟩, ⟨by (with_reducible repeat (first | apply Kd.S_alloc | apply Kd.S_drewN | apply Kd.S_drew)); exact HO_8.out⟩, ⟨by (with_reducible repeat (first | apply Kd.R_alloc | apply Kd.R_drewN | apply Kd.R_drew)); exact HO_156000.out⟩, ⟨by (with_reducible repeat (first | refine blk_drewN ?_ _ | refine blk_drew ?_ | refine blk_alloc ?_ _)); exact BK124.out⟩, ⟨by (with_reducible repeat (first | refine blk_drewN ?_ _ | refine blk_drew ?_ | refine blk_alloc ?_ _)); exact BK155.out⟩, ⟨by (with_reducible repeat (first | refine blk_drewN ?_ _ | refine blk_drew ?_ | refine blk_alloc ?_ _)); exact BK156.out⟩, ⟨by repeat (first | (with_reducible first | exact HB.out | apply below_alloc | apply pw_below_drewN | apply below_drew1 | refine below_set ?_ GE124.out | refine below_set ?_ GE155.out | refine below_set ?_ GE156.out) | exact HB.out)⟩⟩
                    ·rw [if_neg c73] at H
                     exact absurd H (by simp)
                   ·rw [if_neg c72] at H
                    exact absurd H (by simp)
                  ·rw [if_neg c71] at H
                   have c71b0 : decide (x13_4 < (x7_17.length : Int)) = false := decide_eq_false c71
                   clear c71
                   have H' := Aside0.mk H
                   clear H
                   go_wp2
                   repeat (go_quiet (fail); try go_wp2)
                   (try (refine bodyPost_end (results_none rfl _ _ _) rfl ?_; (try dsimp only); (try go_wp2); repeat (go_quiet (fail); try go_wp2)))
                   go_meet
                   case rel => exact ⟨_, (false), (by first | rfl | (simp; done) | (simp [*]; done)), H', ⟨by have := HJ2.out; have := HJ17.out; have := HJ43.out; have := HK4.out; have := HJ65.out; first | omega | exact Nat.le_refl _⟩, ⟨by (with_reducible repeat (first | apply Kd.V_alloc | apply Kd.V_drewN | apply Kd.V_drew)); exact HO_6.out⟩, ⟨by (with_reducible repeat (first | apply Kd.V_alloc | apply Kd.V_drewN | apply Kd.V_drew)); exact HO_7.out⟩, ⟨by (with_reducible repeat (first | apply Kd.S_alloc | apply Kd.S_drewN | apply Kd.S_drew)); exact HO_8.out⟩, ⟨by (with_reducible repeat (first | apply Kd.R_alloc | apply Kd.R_drewN | apply Kd.R_drew)); exact HO_156000.out⟩, ⟨by (with_reducible repeat (first | refine blk_drewN ?_ _ | refine blk_drew ?_ | refine blk_alloc ?_ _)); exact BK124.out⟩, ⟨by (with_reducible repeat (first | refine blk_drewN ?_ _ | refine blk_drew ?_ | refine blk_alloc ?_ _)); exact BK155.out⟩, ⟨by (with_reducible repeat (first | refine blk_drewN ?_ _ | refine blk_drew ?_ | refine blk_alloc ?_ _)); exact BK156.out⟩, ⟨by repeat (first | (with_reducible first | exact HB.out | apply below_alloc | apply pw_below_drewN | apply below_drew1 | refine below_set ?_ GE124.out | refine below_set ?_ GE155.out | refine below_set ?_ GE156.out) | exact HB.out)⟩⟩
                 ·rw [if_neg c70] at H
                  have c70b0 : decide (x12_4 < (x6_17.length : Int)) = false := decide_eq_false c70
                  clear c70
                  (first | rw [c70b0] | (simp only [i64_w, i32_w]; rw [c70b0]) | skip)
                  have H' := Aside0.mk H
                  clear H
                  go_wp2
                  repeat (go_quiet (fail); try go_wp2)
                  (try (refine bodyPost_end (results_none rfl _ _ _) rfl ?_; (try dsimp only); (try go_wp2); repeat (go_quiet (fail); try go_wp2)))
                  go_meet
                  case rel => exact ⟨_, (false), (by first | rfl | (simp; done) | (simp [*]; done)), H', ⟨by have := HJ2.out; have := HJ17.out; have := HJ43.out; have := HK4.out; have := HJ65.out; first | omega | exact Nat.le_refl _⟩, ⟨by (with_reducible repeat (first | apply Kd.V_alloc | apply Kd.V_drewN | apply Kd.V_drew)); exact HO_6.out⟩, ⟨by (with_reducible repeat (first | apply Kd.V_alloc | apply Kd.V_drewN | apply Kd.V_drew)); exact HO_7.out⟩, ⟨by (with_reducible repeat (first | apply Kd.S_alloc | apply Kd.S_drewN | apply Kd.S_drew)); exact HO_8.out⟩, ⟨by (with_reducible repeat (first | apply Kd.R_alloc | apply Kd.R_drewN | apply Kd.R_drew)); exact HO_156000.out⟩, ⟨by (with_reducible repeat (first | refine blk_drewN ?_ _ | refine blk_drew ?_ | refine blk_alloc ?_ _)); exact BK124.out⟩, ⟨by (with_reducible repeat (first | refine blk_drewN ?_ _ | refine blk_drew ?_ | refine blk_alloc ?_ _)); exact BK155.out⟩, ⟨by (with_reducible repeat (first | refine blk_drewN ?_ _ | refine blk_drew ?_ | refine blk_alloc ?_ _)); exact BK156.out⟩, ⟨by repeat (first | (with_reducible first | exact HB.out | apply below_alloc | apply pw_below_drewN | apply below_drew1 | refine below_set ?_ GE124.out | refine below_set ?_ GE155.out | refine below_set ?_ GE156.out) | exact HB.out)⟩⟩
                case rest =>
                 clear HC69
                 (try clear c1); (try clear p1); (try clear q1); (try clear hx1); (try clear c2); (try clear p2); (try clear q2); (try clear c3); (try clear q3); (try clear c4); (try clear c6); (try clear c6b0); (try clear p6); (try clear c7); (try clear c7b0); (try clear c8); (try clear c8b0); (try clear c9); (try clear c9b0); (try clear c9b1); (try clear p12); (try clear q12); (try clear hx12); (try clear p13); (try clear q13); (try clear hx13); (try clear c14); (try clear c14b0); (try clear c14b1); (try clear c15); (try clear c15b0); (try clear c15b1); (try clear c16); (try clear c16b0); (try clear p16); (try clear q16); (try clear hx16); (try clear c17); (try clear c17b0); (try clear c17b1); (try clear c20); (try clear q20); (try clear c21); (try clear q21); (try clear c22); (try clear c22b0); (try clear c22b1); (try clear c23); (try clear c23b0); (try clear c23b1); (try clear c25); (try clear c25b0); (try clear c26); (try clear c26b0); (try clear c28); (try clear c28b0); (try clear c29); (try clear c29b0); (try clear c30); (try clear c30b0); (try clear c30b1); (try clear c31); (try clear c31b0); (try clear c32); (try clear c32b0); (try clear c32b1); (try clear c33); (try clear c33b0); (try clear c34); (try clear c34b0); (try clear c34b1); (try clear q37); (try clear q38); (try clear c45); (try clear c45b0); (try clear c45b1); (try clear c49); (try clear c61); (try clear c62); (try clear c64); (try clear p64); (try clear c67); (try clear c67b0); (try clear c68); (try clear c70); (try clear c70b0); (try clear c71); (try clear c71b0); (try clear c72); (try clear c72b0); (try clear c73); (try clear c73b0); (try clear hcz10_0); (try clear hcz11_0); (try clear hcz12_0); (try clear hcz13_0); (try clear hcz19_0); (try clear hcz50_0); (try clear hcz5_0); (try clear hcz63_0); (try clear hcz63_1); (try clear hcz63_2); (try clear hcz63_3); (try clear hcz65_0); (try clear hfz10_0); (try clear hfz11_0); (try clear hfz12_0); (try clear hfz13_0); (try clear hfz19_0); (try clear hfz50_0); (try clear hfz5_0); (try clear hfz63_0); (try clear hfz63_1); (try clear hfz63_2); (try clear hfz63_3); (try clear hfz65_0); (try clear hx125_0); (try clear hx126_0); (try clear hx137_0); (try clear hx138_0); (try clear hx160_0); (try clear hx161_0); (try clear p1); (try clear p12); (try clear p125); (try clear p126); (try clear p13); (try clear p137); (try clear p138); (try clear p160); (try clear p161); (try clear p2); (try clear p6); (try clear p64); (try clear q020); (try clear q021); (try clear q1); (try clear q12); (try clear q125); (try clear q126); (try clear q13); (try clear q137); (try clear q138); (try clear q160); (try clear q161); (try clear q2); (try clear q20); (try clear q21); (try clear q3); (try clear q37); (try clear q38)
                 obtain ⟨kq, x115_68, rfl, HA, HJ68, HO_6, HO_7, HO_8, HO_156000, BK124, BK155, BK156, HB⟩ := hcut
                 cases kq with
                 | zero => exact absurd HA.out (by simp [hunks_Changes.j7])
                 | succ kj68 =>
                  have H := HA.out
                  clear HA
                  simp only [hunks_Changes.j7] at H
                  by_cases c74 : x115_68 = true
                  ·subst c74
                   have H1 : (if (wrap64 (x157001_4 + x157003_4)) > 0 then (if x156000_4.length < 4398046511104 then (hunks_Changes.l2 kj68 x6_17 x7_17 t152 (wrap64 (x12_4 + 1)) (wrap64 (x13_4 + 1)) x125000_2 (x156000_4 ++ [(⟨x157000_4, x157001_4, x157002_4, x157003_4⟩ : S39)]) (wrap64 (x125000_2 + (wrap64 (x12_4 + 1)))) 0 (wrap64 (x125000_2 + (wrap64 (x13_4 + 1)))) 0) else (none)) else (hunks_Changes.l2 kj68 x6_17 x7_17 t152 (wrap64 (x12_4 + 1)) (wrap64 (x13_4 + 1)) x125000_2 x156000_4 (wrap64 (x125000_2 + (wrap64 (x12_4 + 1)))) 0 (wrap64 (x125000_2 + (wrap64 (x13_4 + 1)))) 0)) = some r := by rw [if_pos rfl] at H; exact H
                   clear H
                   have H := H1
                   clear H1
                   by_cases c75 : (wrap64 (x157001_4 + x157003_4)) > 0
                   ·rw [if_pos c75] at H
                    have c75b0 : decide (0 < (wrap64 (x157001_4 + x157003_4))) = true := decide_eq_true c75
                    clear c75
                    by_cases c76 : x156000_4.length < 4398046511104
                    ·rw [if_pos c76] at H
                     have LMc76 := Aside0.mk c76
                     clear c76
                     obtain ⟨y162, hy162⟩ : ∃ y_ : List (S39), y_ = (x156000_4 ++ [(⟨x157000_4, x157001_4, x157002_4, x157003_4⟩ : S39)]) := ⟨_, rfl⟩
                     replace H : (hunks_Changes.l2 kj68 x6_17 x7_17 t152 (wrap64 (x12_4 + 1)) (wrap64 (x13_4 + 1)) x125000_2 y162 (wrap64 (x125000_2 + (wrap64 (x12_4 + 1)))) 0 (wrap64 (x125000_2 + (wrap64 (x13_4 + 1)))) 0) = some r := by first | (rw [hy162]; with_reducible exact H) | (have H2_ := (Option.bind_some _ _).symm.trans H; rw [hy162]; with_reducible exact H2_) | (have H2_ := (Option.bind_some _ _).symm.trans H; with_reducible exact H2_) | with_reducible exact H | (rw [hy162]; exact H) | exact H
                     have Ny162 := Aside0.mk hy162
                     clear hy162
                     have H' := Aside0.mk H
                     clear H
                     have hnb77 := NB156_124.out
                     have hnc77 := NB124_156.out
                     have hnb78 := NB156_155.out
                     have hnc78 := NB155_156.out
                     have hcz79_0 : wc.cell? ⟨gb156, 0, none⟩ = some (.int .i64 x157000_4) := (blk_cell BK156.out 0).trans rfl
                     have hcz79_1 : wc.cell? ⟨gb156, 1, none⟩ = some (.int .i64 x157001_4) := (blk_cell BK156.out 1).trans rfl
                     have hcz79_2 : wc.cell? ⟨gb156, 2, none⟩ = some (.int .i64 x157002_4) := (blk_cell BK156.out 2).trans rfl
                     have hcz79_3 : wc.cell? ⟨gb156, 3, none⟩ = some (.int .i64 x157003_4) := (blk_cell BK156.out 3).trans rfl
                     have hfz79_0 := blk_frozen BK156.out 0
                     have hfz79_1 := blk_frozen BK156.out 1
                     have hfz79_2 := blk_frozen BK156.out 2
                     have hfz79_3 := blk_frozen BK156.out 3
                     have hnb80 := NB155_124.out
                     have hnc80 := NB124_155.out
                     have hcz81_0 : wc.cell? ⟨gb155, 0, none⟩ = some (u156000) := (blk_cell BK155.out 0).trans rfl
                     have hfz81_0 := blk_frozen BK155.out 0
                     go_wp2_with (first | ((with_reducible refine gate_builtin (b := .append) (xs := #[.tmp 13, .tmp 15]) rfl ?_); (try (refine gate_guard (by rfl) ?_; dsimp only)); at_builtin; refine Kd.R_append k39 (w0 := w) w.heap.size rfl (.tmp 13) (.tmp 15) 34 39 (.agg #[(.int .i64 0), (.int .i64 0), (.int .i64 0), (.int .i64 0)]) 32 rfl Try.underlying34 info39 rfl (by decide) (by omega) u156000 x156000_4 (⟨x157000_4, x157001_4, x157002_4, x157003_4⟩ : S39) [.int .i64 x157000_4, .int .i64 x157001_4, .int .i64 x157002_4, .int .i64 x157003_4] (fun k_ => (w.heap.size ≤ k_) ∧ k_ ≠ gb156) (fun _ => False) rfl rfl ?aP (fun _ hk => hk.elim) ?aF ?aO ?aB ?aS ?aL ?_; (case aP => exact k39_mkM _ _ _ (⟨x157000_4, x157001_4, x157002_4, x157003_4⟩ : S39)); (case aB => exact (by repeat (first | (with_reducible first | exact HB.out | apply below_alloc | apply pw_below_drewN | apply below_drew1 | refine below_set ?_ GE124.out | refine below_set ?_ GE155.out | refine below_set ?_ GE156.out) | exact HB.out))); (case aF => exact (fun k_ hk => ⟨(Nat.le_trans (below_size (by repeat (first | (with_reducible first | exact HB.out | apply below_alloc | apply pw_below_drewN | apply below_drew1 | refine below_set ?_ GE124.out | refine below_set ?_ GE155.out | refine below_set ?_ GE156.out) | exact HB.out))) hk), Kd.freshB (g := gb156) (o := .cells #[.int .i64 x157000_4, .int .i64 x157001_4, .int .i64 x157002_4, .int .i64 x157003_4] 39 (0, 0)) (by (with_reducible repeat (first | refine blk_drewN ?_ _ | refine blk_drew ?_ | refine blk_alloc ?_ _)); exact BK156.out) k_ hk⟩)); (case aO => exact (by (with_reducible repeat (first | apply Kd.R_alloc | apply Kd.R_drewN | apply Kd.R_drew)); exact HO_156000.out)); (case aS => exact (below_size (by repeat (first | (with_reducible first | exact HB.out | apply below_alloc | apply pw_below_drewN | apply below_drew1 | refine below_set ?_ GE124.out | refine below_set ?_ GE155.out | refine below_set ?_ GE156.out) | exact HB.out)))); (case aL => have := LMc76.out; omega); intro v163 w82 ho hb hg hat; rw [← Ny162.out] at ho; have n0_ := Aside0.mk (Kd.V_afterv (ok := (fun k_ => ((P0_ k_ ∨ P1_ k_) ∨ w.heap.size ≤ k_) ∧ some k_ ≠ (v153 : Value).ownBlock ∧ k_ ≠ gb124 ∧ k_ ≠ gb155 ∧ k_ ≠ gb156)) (by (with_reducible repeat (first | apply Kd.V_alloc | apply Kd.V_drewN | apply Kd.V_drew)); exact Kd.V_mono HO_6.out (fun _ hk => ⟨⟨hk.1, ⟨hk.2.1, ⟨hk.2.2.2.1, ⟨hk.2.2.2.2.1, hk.2.2.2.2.2⟩⟩⟩⟩, hk.2.2.1⟩)) hg hat); have n1_ := Aside0.mk (Kd.V_afterv (ok := (fun k_ => ((P0_ k_ ∨ P1_ k_) ∨ w.heap.size ≤ k_) ∧ some k_ ≠ (v153 : Value).ownBlock ∧ k_ ≠ gb124 ∧ k_ ≠ gb155 ∧ k_ ≠ gb156)) (by (with_reducible repeat (first | apply Kd.V_alloc | apply Kd.V_drewN | apply Kd.V_drew)); exact Kd.V_mono HO_7.out (fun _ hk => ⟨⟨hk.1, ⟨hk.2.1, ⟨hk.2.2.2.1, ⟨hk.2.2.2.2.1, hk.2.2.2.2.2⟩⟩⟩⟩, hk.2.2.1⟩)) hg hat); have n2_ := Aside0.mk (Kd.S_over' (by (with_reducible repeat (first | apply Kd.S_alloc | apply Kd.S_drewN | apply Kd.S_drew)); exact HO_8.out) (Kd.R_typed (by (with_reducible repeat (first | apply Kd.R_alloc | apply Kd.R_drewN | apply Kd.R_drew)); exact HO_156000.out)) (by decide) hg); have n3_ := Aside0.mk (blk_grown (g := gb124) (o := .cells #[.int .i64 x125000_2] 3 (0, 0)) (by (with_reducible repeat (first | refine blk_drewN ?_ _ | refine blk_drew ?_ | refine blk_alloc ?_ _)); exact BK124.out) hg (Kd.R_ne HO_156000.out BK124.out (by decide))); have n4_ := Aside0.mk (blk_grown (g := gb155) (o := .cells #[u156000] 34 (0, 0)) (by (with_reducible repeat (first | refine blk_drewN ?_ _ | refine blk_drew ?_ | refine blk_alloc ?_ _)); exact BK155.out) hg (Kd.R_ne HO_156000.out BK155.out (by decide))); have n5_ := Aside0.mk (blk_grown (g := gb156) (o := .cells #[.int .i64 x157000_4, .int .i64 x157001_4, .int .i64 x157002_4, .int .i64 x157003_4] 39 (0, 0)) (by (with_reducible repeat (first | refine blk_drewN ?_ _ | refine blk_drew ?_ | refine blk_alloc ?_ _)); exact BK156.out) hg (Kd.R_away HO_156000.out (fun _ hk => hk.2))); have n6_ := Aside0.mk (hb); have n7_ := Aside0.mk (ho); clear HO_6; clear HO_7; clear HO_8; clear BK124; clear BK155; clear BK156; clear HB; clear HO_156000; have HO_6 := n0_; have HO_7 := n1_; have HO_8 := n2_; have BK124 := n3_; have BK155 := n4_; have BK156 := n5_; have HB := n6_; have HO164 := n7_; clear n0_ n1_ n2_ n3_ n4_ n5_ n6_ n7_; clear ho hb hg hat; obtain ⟨Ao83, co83, eo83⟩ := Kd.R_slice HO164.out; subst eo83; have hcz84_0 : w82.cell? ⟨gb155, 0, none⟩ = some (u156000) := (blk_cell BK155.out 0).trans rfl; have hfz84_0 := blk_frozen BK155.out 0; have hcz85_0 : w82.cell? ⟨gb124, 0, none⟩ = some (.int .i64 x125000_2) := (blk_cell BK124.out 0).trans rfl; have hfz85_0 := blk_frozen BK124.out 0; have hcz86_0 : w82.cell? ⟨gb156, 0, none⟩ = some (.int .i64 x157000_4) := (blk_cell BK156.out 0).trans rfl; have hcz86_1 : w82.cell? ⟨gb156, 1, none⟩ = some (.int .i64 x157001_4) := (blk_cell BK156.out 1).trans rfl; have hcz86_2 : w82.cell? ⟨gb156, 2, none⟩ = some (.int .i64 x157002_4) := (blk_cell BK156.out 2).trans rfl; have hcz86_3 : w82.cell? ⟨gb156, 3, none⟩ = some (.int .i64 x157003_4) := (blk_cell BK156.out 3).trans rfl; have hfz86_0 := blk_frozen BK156.out 0; have hfz86_1 := blk_frozen BK156.out 1; have hfz86_2 := blk_frozen BK156.out 2; have hfz86_3 := blk_frozen BK156.out 3) | go_in)
                     repeat (go_quiet (first | ((with_reducible refine gate_builtin (b := .append) (xs := #[.tmp 13, .tmp 15]) rfl ?_); (try (refine gate_guard (by rfl) ?_; dsimp only)); at_builtin; refine Kd.R_append k39 (w0 := w) w.heap.size rfl (.tmp 13) (.tmp 15) 34 39 (.agg #[(.int .i64 0), (.int .i64 0), (.int .i64 0), (.int .i64 0)]) 32 rfl Try.underlying34 info39 rfl (by decide) (by omega) u156000 x156000_4 (⟨x157000_4, x157001_4, x157002_4, x157003_4⟩ : S39) [.int .i64 x157000_4, .int .i64 x157001_4, .int .i64 x157002_4, .int .i64 x157003_4] (fun k_ => (w.heap.size ≤ k_) ∧ k_ ≠ gb156) (fun _ => False) rfl rfl ?aP (fun _ hk => hk.elim) ?aF ?aO ?aB ?aS ?aL ?_; (case aP => exact k39_mkM _ _ _ (⟨x157000_4, x157001_4, x157002_4, x157003_4⟩ : S39)); (case aB => exact (by repeat (first | (with_reducible first | exact HB.out | apply below_alloc | apply pw_below_drewN | apply below_drew1 | refine below_set ?_ GE124.out | refine below_set ?_ GE155.out | refine below_set ?_ GE156.out) | exact HB.out))); (case aF => exact (fun k_ hk => ⟨(Nat.le_trans (below_size (by repeat (first | (with_reducible first | exact HB.out | apply below_alloc | apply pw_below_drewN | apply below_drew1 | refine below_set ?_ GE124.out | refine below_set ?_ GE155.out | refine below_set ?_ GE156.out) | exact HB.out))) hk), Kd.freshB (g := gb156) (o := .cells #[.int .i64 x157000_4, .int .i64 x157001_4, .int .i64 x157002_4, .int .i64 x157003_4] 39 (0, 0)) (by (with_reducible repeat (first | refine blk_drewN ?_ _ | refine blk_drew ?_ | refine blk_alloc ?_ _)); exact BK156.out) k_ hk⟩)); (case aO => exact (by (with_reducible repeat (first | apply Kd.R_alloc | apply Kd.R_drewN | apply Kd.R_drew)); exact HO_156000.out)); (case aS => exact (below_size (by repeat (first | (with_reducible first | exact HB.out | apply below_alloc | apply pw_below_drewN | apply below_drew1 | refine below_set ?_ GE124.out | refine below_set ?_ GE155.out | refine below_set ?_ GE156.out) | exact HB.out)))); (case aL => have := LMc76.out; omega); intro v163 w82 ho hb hg hat; rw [← Ny162.out] at ho; have n0_ := Aside0.mk (Kd.V_afterv (ok := (fun k_ => ((P0_ k_ ∨ P1_ k_) ∨ w.heap.size ≤ k_) ∧ some k_ ≠ (v153 : Value).ownBlock ∧ k_ ≠ gb124 ∧ k_ ≠ gb155 ∧ k_ ≠ gb156)) (by (with_reducible repeat (first | apply Kd.V_alloc | apply Kd.V_drewN | apply Kd.V_drew)); exact Kd.V_mono HO_6.out (fun _ hk => ⟨⟨hk.1, ⟨hk.2.1, ⟨hk.2.2.2.1, ⟨hk.2.2.2.2.1, hk.2.2.2.2.2⟩⟩⟩⟩, hk.2.2.1⟩)) hg hat); have n1_ := Aside0.mk (Kd.V_afterv (ok := (fun k_ => ((P0_ k_ ∨ P1_ k_) ∨ w.heap.size ≤ k_) ∧ some k_ ≠ (v153 : Value).ownBlock ∧ k_ ≠ gb124 ∧ k_ ≠ gb155 ∧ k_ ≠ gb156)) (by (with_reducible repeat (first | apply Kd.V_alloc | apply Kd.V_drewN | apply Kd.V_drew)); exact Kd.V_mono HO_7.out (fun _ hk => ⟨⟨hk.1, ⟨hk.2.1, ⟨hk.2.2.2.1, ⟨hk.2.2.2.2.1, hk.2.2.2.2.2⟩⟩⟩⟩, hk.2.2.1⟩)) hg hat); have n2_ := Aside0.mk (Kd.S_over' (by (with_reducible repeat (first | apply Kd.S_alloc | apply Kd.S_drewN | apply Kd.S_drew)); exact HO_8.out) (Kd.R_typed (by (with_reducible repeat (first | apply Kd.R_alloc | apply Kd.R_drewN | apply Kd.R_drew)); exact HO_156000.out)) (by decide) hg); have n3_ := Aside0.mk (blk_grown (g := gb124) (o := .cells #[.int .i64 x125000_2] 3 (0, 0)) (by (with_reducible repeat (first | refine blk_drewN ?_ _ | refine blk_drew ?_ | refine blk_alloc ?_ _)); exact BK124.out) hg (Kd.R_ne HO_156000.out BK124.out (by decide))); have n4_ := Aside0.mk (blk_grown (g := gb155) (o := .cells #[u156000] 34 (0, 0)) (by (with_reducible repeat (first | refine blk_drewN ?_ _ | refine blk_drew ?_ | refine blk_alloc ?_ _)); exact BK155.out) hg (Kd.R_ne HO_156000.out BK155.out (by decide))); have n5_ := Aside0.mk (blk_grown (g := gb156) (o := .cells #[.int .i64 x157000_4, .int .i64 x157001_4, .int .i64 x157002_4, .int .i64 x157003_4] 39 (0, 0)) (by (with_reducible repeat (first | refine blk_drewN ?_ _ | refine blk_drew ?_ | refine blk_alloc ?_ _)); exact BK156.out) hg (Kd.R_away HO_156000.out (fun _ hk => hk.2))); have n6_ := Aside0.mk (hb); have n7_ := Aside0.mk (ho); clear HO_6; clear HO_7; clear HO_8; clear BK124; clear BK155; clear BK156; clear HB; clear HO_156000; have HO_6 := n0_; have HO_7 := n1_; have HO_8 := n2_; have BK124 := n3_; have BK155 := n4_; have BK156 := n5_; have HB := n6_; have HO164 := n7_; clear n0_ n1_ n2_ n3_ n4_ n5_ n6_ n7_; clear ho hb hg hat; obtain ⟨Ao83, co83, eo83⟩ := Kd.R_slice HO164.out; subst eo83; have hcz84_0 : w82.cell? ⟨gb155, 0, none⟩ = some (u156000) := (blk_cell BK155.out 0).trans rfl; have hfz84_0 := blk_frozen BK155.out 0; have hcz85_0 : w82.cell? ⟨gb124, 0, none⟩ = some (.int .i64 x125000_2) := (blk_cell BK124.out 0).trans rfl; have hfz85_0 := blk_frozen BK124.out 0; have hcz86_0 : w82.cell? ⟨gb156, 0, none⟩ = some (.int .i64 x157000_4) := (blk_cell BK156.out 0).trans rfl; have hcz86_1 : w82.cell? ⟨gb156, 1, none⟩ = some (.int .i64 x157001_4) := (blk_cell BK156.out 1).trans rfl; have hcz86_2 : w82.cell? ⟨gb156, 2, none⟩ = some (.int .i64 x157002_4) := (blk_cell BK156.out 2).trans rfl; have hcz86_3 : w82.cell? ⟨gb156, 3, none⟩ = some (.int .i64 x157003_4) := (blk_cell BK156.out 3).trans rfl; have hfz86_0 := blk_frozen BK156.out 0; have hfz86_1 := blk_frozen BK156.out 1; have hfz86_2 := blk_frozen BK156.out 2; have hfz86_3 := blk_frozen BK156.out 3) | go_in); try go_wp2_with (first | ((with_reducible refine gate_builtin (b := .append) (xs := #[.tmp 13, .tmp 15]) rfl ?_); (try (refine gate_guard (by rfl) ?_; dsimp only)); at_builtin; refine Kd.R_append k39 (w0 := w) w.heap.size rfl (.tmp 13) (.tmp 15) 34 39 (.agg #[(.int .i64 0), (.int .i64 0), (.int .i64 0), (.int .i64 0)]) 32 rfl Try.underlying34 info39 rfl (by decide) (by omega) u156000 x156000_4 (⟨x157000_4, x157001_4, x157002_4, x157003_4⟩ : S39) [.int .i64 x157000_4, .int .i64 x157001_4, .int .i64 x157002_4, .int .i64 x157003_4] (fun k_ => (w.heap.size ≤ k_) ∧ k_ ≠ gb156) (fun _ => False) rfl rfl ?aP (fun _ hk => hk.elim) ?aF ?aO ?aB ?aS ?aL ?_; (case aP => exact k39_mkM _ _ _ (⟨x157000_4, x157001_4, x157002_4, x157003_4⟩ : S39)); (case aB => exact (by repeat (first | (with_reducible first | exact HB.out | apply below_alloc | apply pw_below_drewN | apply below_drew1 | refine below_set ?_ GE124.out | refine below_set ?_ GE155.out | refine below_set ?_ GE156.out) | exact HB.out))); (case aF => exact (fun k_ hk => ⟨(Nat.le_trans (below_size (by repeat (first | (with_reducible first | exact HB.out | apply below_alloc | apply pw_below_drewN | apply below_drew1 | refine below_set ?_ GE124.out | refine below_set ?_ GE155.out | refine below_set ?_ GE156.out) | exact HB.out))) hk), Kd.freshB (g := gb156) (o := .cells #[.int .i64 x157000_4, .int .i64 x157001_4, .int .i64 x157002_4, .int .i64 x157003_4] 39 (0, 0)) (by (with_reducible repeat (first | refine blk_drewN ?_ _ | refine blk_drew ?_ | refine blk_alloc ?_ _)); exact BK156.out) k_ hk⟩)); (case aO => exact (by (with_reducible repeat (first | apply Kd.R_alloc | apply Kd.R_drewN | apply Kd.R_drew)); exact HO_156000.out)); (case aS => exact (below_size (by repeat (first | (with_reducible first | exact HB.out | apply below_alloc | apply pw_below_drewN | apply below_drew1 | refine below_set ?_ GE124.out | refine below_set ?_ GE155.out | refine below_set ?_ GE156.out) | exact HB.out)))); (case aL => have := LMc76.out; omega); intro v163 w82 ho hb hg hat; rw [← Ny162.out] at ho; have n0_ := Aside0.mk (Kd.V_afterv (ok := (fun k_ => ((P0_ k_ ∨ P1_ k_) ∨ w.heap.size ≤ k_) ∧ some k_ ≠ (v153 : Value).ownBlock ∧ k_ ≠ gb124 ∧ k_ ≠ gb155 ∧ k_ ≠ gb156)) (by (with_reducible repeat (first | apply Kd.V_alloc | apply Kd.V_drewN | apply Kd.V_drew)); exact Kd.V_mono HO_6.out (fun _ hk => ⟨⟨hk.1, ⟨hk.2.1, ⟨hk.2.2.2.1, ⟨hk.2.2.2.2.1, hk.2.2.2.2.2⟩⟩⟩⟩, hk.2.2.1⟩)) hg hat); have n1_ := Aside0.mk (Kd.V_afterv (ok := (fun k_ => ((P0_ k_ ∨ P1_ k_) ∨ w.heap.size ≤ k_) ∧ some k_ ≠ (v153 : Value).ownBlock ∧ k_ ≠ gb124 ∧ k_ ≠ gb155 ∧ k_ ≠ gb156)) (by (with_reducible repeat (first | apply Kd.V_alloc | apply Kd.V_drewN | apply Kd.V_drew)); exact Kd.V_mono HO_7.out (fun _ hk => ⟨⟨hk.1, ⟨hk.2.1, ⟨hk.2.2.2.1, ⟨hk.2.2.2.2.1, hk.2.2.2.2.2⟩⟩⟩⟩, hk.2.2.1⟩)) hg hat); have n2_ := Aside0.mk (Kd.S_over' (by (with_reducible repeat (first | apply Kd.S_alloc | apply Kd.S_drewN | apply Kd.S_drew)); exact HO_8.out) (Kd.R_typed (by (with_reducible repeat (first | apply Kd.R_alloc | apply Kd.R_drewN | apply Kd.R_drew)); exact HO_156000.out)) (by decide) hg); have n3_ := Aside0.mk (blk_grown (g := gb124) (o := .cells #[.int .i64 x125000_2] 3 (0, 0)) (by (with_reducible repeat (first | refine blk_drewN ?_ _ | refine blk_drew ?_ | refine blk_alloc ?_ _)); exact BK124.out) hg (Kd.R_ne HO_156000.out BK124.out (by decide))); have n4_ := Aside0.mk (blk_grown (g := gb155) (o := .cells #[u156000] 34 (0, 0)) (by (with_reducible repeat (first | refine blk_drewN ?_ _ | refine blk_drew ?_ | refine blk_alloc ?_ _)); exact BK155.out) hg (Kd.R_ne HO_156000.out BK155.out (by decide))); have n5_ := Aside0.mk (blk_grown (g := gb156) (o := .cells #[.int .i64 x157000_4, .int .i64 x157001_4, .int .i64 x157002_4, .int .i64 x157003_4] 39 (0, 0)) (by (with_reducible repeat (first | refine blk_drewN ?_ _ | refine blk_drew ?_ | refine blk_alloc ?_ _)); exact BK156.out) hg (Kd.R_away HO_156000.out (fun _ hk => hk.2))); have n6_ := Aside0.mk (hb); have n7_ := Aside0.mk (ho); clear HO_6; clear HO_7; clear HO_8; clear BK124; clear BK155; clear BK156; clear HB; clear HO_156000; have HO_6 := n0_; have HO_7 := n1_; have HO_8 := n2_; have BK124 := n3_; have BK155 := n4_; have BK156 := n5_; have HB := n6_; have HO164 := n7_; clear n0_ n1_ n2_ n3_ n4_ n5_ n6_ n7_; clear ho hb hg hat; obtain ⟨Ao83, co83, eo83⟩ := Kd.R_slice HO164.out; subst eo83; have hcz84_0 : w82.cell? ⟨gb155, 0, none⟩ = some (u156000) := (blk_cell BK155.out 0).trans rfl; have hfz84_0 := blk_frozen BK155.out 0; have hcz85_0 : w82.cell? ⟨gb124, 0, none⟩ = some (.int .i64 x125000_2) := (blk_cell BK124.out 0).trans rfl; have hfz85_0 := blk_frozen BK124.out 0; have hcz86_0 : w82.cell? ⟨gb156, 0, none⟩ = some (.int .i64 x157000_4) := (blk_cell BK156.out 0).trans rfl; have hcz86_1 : w82.cell? ⟨gb156, 1, none⟩ = some (.int .i64 x157001_4) := (blk_cell BK156.out 1).trans rfl; have hcz86_2 : w82.cell? ⟨gb156, 2, none⟩ = some (.int .i64 x157002_4) := (blk_cell BK156.out 2).trans rfl; have hcz86_3 : w82.cell? ⟨gb156, 3, none⟩ = some (.int .i64 x157003_4) := (blk_cell BK156.out 3).trans rfl; have hfz86_0 := blk_frozen BK156.out 0; have hfz86_1 := blk_frozen BK156.out 1; have hfz86_2 := blk_frozen BK156.out 2; have hfz86_3 := blk_frozen BK156.out 3) | go_in))
                     (try (refine bodyPost_end (results_none rfl _ _ _) rfl ?_; (try dsimp only); (try go_wp2); repeat (go_quiet (fail); try go_wp2)))
                     go_roundg kj68
                     case measure => have := HJ2.out; have := HJ17.out; have := HJ43.out; have := HK4.out; have := HJ65.out; have := HJ68.out; omega
                     case rel => exact ⟨(wrap64 (x12_4 + 1)), (wrap64 (x13_4 + 1)), (y162), (wrap64 (x125000_2 + (wrap64 (x12_4 + 1)))), (0), (wrap64 (x125000_2 + (wrap64 (x13_4 + 1)))), (0), (.slice Ao83 y162.length co83), (by first | rfl | (simp; done) | (simp [*]; done)), (by first | rfl | (simp; done) | (simp [*]; done)), H', ⟨by have := HJ2.out; have := HJ17.out; have := HJ43.out; have := HK4.out; have := HJ65.out; have := HJ68.out; omega⟩, ⟨by (with_reducible repeat (first | apply Kd.V_alloc | apply Kd.V_drewN | apply Kd.V_drew)); exact Kd.V_mono (Kd.V_far (p := ⟨gb156, 3, none⟩) (Kd.V_far (p := ⟨gb156, 2, none⟩) (Kd.V_far (p := ⟨gb156, 1, none⟩) (Kd.V_far (p := ⟨gb156, 0, none⟩) (Kd.V_far (p := ⟨gb155, 0, none⟩) (Kd.V_mono (Kd.V_mono HO_6.out (fun k_ hk => (⟨hk, hk.1.2.2.2.1⟩ : _ ∧ k_ ≠ gb155))) (fun k_ hk => (⟨hk, hk.1.1.2.2.2.2⟩ : _ ∧ k_ ≠ gb156))) (fun _ hk => hk.1.2) (.slice Ao83 y162.length co83)) (fun _ hk => hk.2) (.int .i64 (wrap64 (x125000_2 + (wrap64 (x12_4 + 1)))))) (fun _ hk => hk.2) (.int .i64 0)) (fun _ hk => hk.2) (.int .i64 (wrap64 (x125000_2 + (wrap64 (x13_4 + 1)))))) (fun _ hk => hk.2) (.int .i64 0)) (fun _ hk => ⟨hk.1.1.1.1, ⟨hk.1.1.1.2.1, ⟨hk.1.1.2, ⟨hk.1.1.1.2.2.1, ⟨hk.1.1.1.2.2.2.1, hk.1.1.1.2.2.2.2⟩⟩⟩⟩⟩)⟩, ⟨by (with_reducible repeat (first | apply Kd.V_alloc | apply Kd.V_drewN | apply Kd.V_drew)); exact Kd.V_mono (Kd.V_far (p := ⟨gb156, 3, none⟩) (Kd.V_far (p := ⟨gb156, 2, none⟩) (Kd.V_far (p := ⟨gb156, 1, none⟩) (Kd.V_far (p := ⟨gb156, 0, none⟩) (Kd.V_far (p := ⟨gb155, 0, none⟩) (Kd.V_mono (Kd.V_mono HO_7.out (fun k_ hk => (⟨hk, hk.1.2.2.2.1⟩ : _ ∧ k_ ≠ gb155))) (fun k_ hk => (⟨hk, hk.1.1.2.2.2.2⟩ : _ ∧ k_ ≠ gb156))) (fun _ hk => hk.1.2) (.slice Ao83 y162.length co83)) (fun _ hk => hk.2) (.int .i64 (wrap64 (x125000_2 + (wrap64 (x12_4 + 1)))))) (fun _ hk => hk.2) (.int .i64 0)) (fun _ hk => hk.2) (.int .i64 (wrap64 (x125000_2 + (wrap64 (x13_4 + 1)))))) (fun _ hk => hk.2) (.int .i64 0)) (fun _ hk => ⟨hk.1.1.1.1, ⟨hk.1.1.1.2.1, ⟨hk.1.1.2, ⟨hk.1.1.1.2.2.1, ⟨hk.1.1.1.2.2.2.1, hk.1.1.1.2.2.2.2⟩⟩⟩⟩⟩)⟩, ⟨by (with_reducible repeat (first | apply Kd.S_alloc | apply Kd.S_drewN | apply Kd.S_drew)); exact Kd.S_mono (Kd.S_far (p := ⟨gb156, 3, none⟩) (Kd.S_far (p := ⟨gb156, 2, none⟩) (Kd.S_far (p := ⟨gb156, 1, none⟩) (Kd.S_far (p := ⟨gb156, 0, none⟩) (Kd.S_far (p := ⟨gb155, 0, none⟩) (Kd.S_types (Kd.S_types HO_8.out BK155.out (by decide)) BK156.out (by decide)) (fun _ hk => hk.1.2) (.slice Ao83 y162.length co83)) (fun _ hk => hk.2) (.int .i64 (wrap64 (x125000_2 + (wrap64 (x12_4 + 1)))))) (fun _ hk => hk.2) (.int .i64 0)) (fun _ hk => hk.2) (.int .i64 (wrap64 (x125000_2 + (wrap64 (x13_4 + 1)))))) (fun _ hk => hk.2) (.int .i64 0)) (fun _ hk => ⟨hk.1.1.1, hk.1.1.2⟩)⟩, ⟨by (with_reducible repeat (first | apply Kd.R_alloc | apply Kd.R_drewN | apply Kd.R_drew)); exact Kd.R_mono (Kd.R_far (p := ⟨gb156, 3, none⟩) (Kd.R_far (p := ⟨gb156, 2, none⟩) (Kd.R_far (p := ⟨gb156, 1, none⟩) (Kd.R_far (p := ⟨gb156, 0, none⟩) (Kd.R_far (p := ⟨gb155, 0, none⟩) (Kd.R_mono (Kd.R_types HO164.out BK155.out (by decide)) (fun k_ hk => (⟨hk, hk.1.2⟩ : _ ∧ k_ ≠ gb156))) (fun _ hk => hk.1.2) (.slice Ao83 y162.length co83)) (fun _ hk => hk.2) (.int .i64 (wrap64 (x125000_2 + (wrap64 (x12_4 + 1)))))) (fun _ hk => hk.2) (.int .i64 0)) (fun _ hk => hk.2) (.int .i64 (wrap64 (x125000_2 + (wrap64 (x13_4 + 1)))))) (fun _ hk => hk.2) (.int .i64 0)) (fun _ hk => ⟨hk.1.1.1, hk.1.1.2⟩)⟩, ⟨by (with_reducible repeat (first | refine blk_drewN ?_ _ | refine blk_drew ?_ | refine blk_alloc ?_ _)); refine blk_far ?_ NB124_156.out _; (with_reducible repeat (first | refine blk_drewN ?_ _ | refine blk_drew ?_ | refine blk_alloc ?_ _)); refine blk_far ?_ NB124_156.out _; (with_reducible repeat (first | refine blk_drewN ?_ _ | refine blk_drew ?_ | refine blk_alloc ?_ _)); refine blk_far ?_ NB124_156.out _; (with_reducible repeat (first | refine blk_drewN ?_ _ | refine blk_drew ?_ | refine blk_alloc ?_ _)); refine blk_far ?_ NB124_156.out _; (with_reducible repeat (first | refine blk_drewN ?_ _ | refine blk_drew ?_ | refine blk_alloc ?_ _)); refine blk_far ?_ NB124_155.out _; (with_reducible repeat (first | refine blk_drewN ?_ _ | refine blk_drew ?_ | refine blk_alloc ?_ _)); exact BK124.out⟩, ⟨by (with_reducible repeat (first | refine blk_drewN ?_ _ | refine blk_drew ?_ | refine blk_alloc ?_ _)); refine blk_far ?_ NB155_156.out _; (with_reducible repeat (first | refine blk_drewN ?_ _ | refine blk_drew ?_ | refine blk_alloc ?_ _)); refine blk_far ?_ NB155_156.out _; (with_reducible repeat (first | refine blk_drewN ?_ _ | refine blk_drew ?_ | refine blk_alloc ?_ _)); refine blk_far ?_ NB155_156.out _; (with_reducible repeat (first | refine blk_drewN ?_ _ | refine blk_drew ?_ | refine blk_alloc ?_ _)); refine blk_far ?_ NB155_156.out _; (with_reducible repeat (first | refine blk_drewN ?_ _ | refine blk_drew ?_ | refine blk_alloc ?_ _)); refine blk_put (cs := #[u156000]) ?_ 0 _ rfl; (with_reducible repeat (first | refine blk_drewN ?_ _ | refine blk_drew ?_ | refine blk_alloc ?_ _)); exact BK155.out⟩, ⟨by (with_reducible repeat (first | refine blk_drewN ?_ _ | refine blk_drew ?_ | refine blk_alloc ?_ _)); refine blk_put (cs := #[.int .i64 (wrap64 (x125000_2 + (wrap64 (x12_4 + 1)))), .int .i64 0, .int .i64 (wrap64 (x125000_2 + (wrap64 (x13_4 + 1)))), .int .i64 x157003_4]) ?_ 3 _ rfl; (with_reducible repeat (first | refine blk_drewN ?_ _ | refine blk_drew ?_ | refine blk_alloc ?_ _)); refine blk_put (cs := #[.int .i64 (wrap64 (x125000_2 + (wrap64 (x12_4 + 1)))), .int .i64 0, .int .i64 x157002_4, .int .i64 x157003_4]) ?_ 2 _ rfl; (with_reducible repeat (first | refine blk_drewN ?_ _ | refine blk_drew ?_ | refine blk_alloc ?_ _)); refine blk_put (cs := #[.int .i64 (wrap64 (x125000_2 + (wrap64 (x12_4 + 1)))), .int .i64 x157001_4, .int .i64 x157002_4, .int .i64 x157003_4]) ?_ 1 _ rfl; (with_reducible repeat (first | refine blk_drewN ?_ _ | refine blk_drew ?_ | refine blk_alloc ?_ _)); refine blk_put (cs := #[.int .i64 x157000_4, .int .i64 x157001_4, .int .i64 x157002_4, .int .i64 x157003_4]) ?_ 0 _ rfl; (with_reducible repeat (first | refine blk_drewN ?_ _ | refine blk_drew ?_ | refine blk_alloc ?_ _)); refine blk_far ?_ NB156_155.out _; (with_reducible repeat (first | refine blk_drewN ?_ _ | refine blk_drew ?_ | refine blk_alloc ?_ _)); exact BK156.out⟩, ⟨by repeat (first | (with_reducible first | exact HB.out | apply below_alloc | apply pw_below_drewN | apply below_drew1 | refine below_set ?_ GE124.out | refine below_set ?_ GE155.out | refine below_set ?_ GE156.out) | exact HB.out)⟩⟩
                    ·rw [if_neg c76] at H
                     exact absurd H (by simp)
                   ·rw [if_neg c75] at H
                    have c75b0 : decide (0 < (wrap64 (x157001_4 + x157003_4))) = false := decide_eq_false c75
                    clear c75
                    have H' := Aside0.mk H
                    clear H
                    have hnb87 := NB156_124.out
                    have hnc87 := NB124_156.out
                    have hnb88 := NB156_155.out
                    have hnc88 := NB155_156.out
                    have hcz89_0 : wc.cell? ⟨gb156, 0, none⟩ = some (.int .i64 x157000_4) := (blk_cell BK156.out 0).trans rfl
                    have hcz89_1 : wc.cell? ⟨gb156, 1, none⟩ = some (.int .i64 x157001_4) := (blk_cell BK156.out 1).trans rfl
                    have hcz89_2 : wc.cell? ⟨gb156, 2, none⟩ = some (.int .i64 x157002_4) := (blk_cell BK156.out 2).trans rfl
                    have hcz89_3 : wc.cell? ⟨gb156, 3, none⟩ = some (.int .i64 x157003_4) := (blk_cell BK156.out 3).trans rfl
                    have hfz89_0 := blk_frozen BK156.out 0
                    have hfz89_1 := blk_frozen BK156.out 1
                    have hfz89_2 := blk_frozen BK156.out 2
                    have hfz89_3 := blk_frozen BK156.out 3
                    have hnb90 := NB124_155.out
                    have hnc90 := NB155_124.out
                    have hcz91_0 : wc.cell? ⟨gb124, 0, none⟩ = some (.int .i64 x125000_2) := (blk_cell BK124.out 0).trans rfl
                    have hfz91_0 := blk_frozen BK124.out 0
                    go_wp2
                    repeat (go_quiet (fail); try go_wp2)
                    (try (refine bodyPost_end (results_none rfl _ _ _) rfl ?_; (try dsimp only); (try go_wp2); repeat (go_quiet (fail); try go_wp2)))
                    go_roundg kj68
                    case measure => have := HJ2.out; have := HJ17.out; have := HJ43.out; have := HK4.out; have := HJ65.out; have := HJ68.out; omega
                    case rel => exact ⟨(wrap64 (x12_4 + 1)), (wrap64 (x13_4 + 1)), (x156000_4), (wrap64 (x125000_2 + (wrap64 (x12_4 + 1)))), (0), (wrap64 (x125000_2 + (wrap64 (x13_4 + 1)))), (0), (u156000), (by first | rfl | (simp; done) | (simp [*]; done)), (by first | rfl | (simp; done) | (simp [*]; done)), H', ⟨by have := HJ2.out; have := HJ17.out; have := HJ43.out; have := HK4.out; have := HJ65.out; have := HJ68.out; omega⟩, ⟨by (with_reducible repeat (first | apply Kd.V_alloc | apply Kd.V_drewN | apply Kd.V_drew)); exact Kd.V_mono (Kd.V_far (p := ⟨gb156, 3, none⟩) (Kd.V_far (p := ⟨gb156, 2, none⟩) (Kd.V_far (p := ⟨gb156, 1, none⟩) (Kd.V_far (p := ⟨gb156, 0, none⟩) (Kd.V_mono HO_6.out (fun k_ hk => (⟨hk, hk.2.2.2.2.2⟩ : _ ∧ k_ ≠ gb156))) (fun _ hk => hk.2) (.int .i64 (wrap64 (x125000_2 + (wrap64 (x12_4 + 1)))))) (fun _ hk => hk.2) (.int .i64 0)) (fun _ hk => hk.2) (.int .i64 (wrap64 (x125000_2 + (wrap64 (x13_4 + 1)))))) (fun _ hk => hk.2) (.int .i64 0)) (fun _ hk => ⟨hk.1.1, ⟨hk.1.2.1, ⟨hk.1.2.2.1, ⟨hk.1.2.2.2.1, ⟨hk.1.2.2.2.2.1, hk.1.2.2.2.2.2⟩⟩⟩⟩⟩)⟩, ⟨by (with_reducible repeat (first | apply Kd.V_alloc | apply Kd.V_drewN | apply Kd.V_drew)); exact Kd.V_mono (Kd.V_far (p := ⟨gb156, 3, none⟩) (Kd.V_far (p := ⟨gb156, 2, none⟩) (Kd.V_far (p := ⟨gb156, 1, none⟩) (Kd.V_far (p := ⟨gb156, 0, none⟩) (Kd.V_mono HO_7.out (fun k_ hk => (⟨hk, hk.2.2.2.2.2⟩ : _ ∧ k_ ≠ gb156))) (fun _ hk => hk.2) (.int .i64 (wrap64 (x125000_2 + (wrap64 (x12_4 + 1)))))) (fun _ hk => hk.2) (.int .i64 0)) (fun _ hk => hk.2) (.int .i64 (wrap64 (x125000_2 + (wrap64 (x13_4 + 1)))))) (fun _ hk => hk.2) (.int .i64 0)) (fun _ hk => ⟨hk.1.1, ⟨hk.1.2.1, ⟨hk.1.2.2.1, ⟨hk.1.2.2.2.1, ⟨hk.1.2.2.2.2.1, hk.1.2.2.2.2.2⟩⟩⟩⟩⟩)⟩, ⟨by (with_reducible repeat (first | apply Kd.S_alloc | apply Kd.S_drewN | apply Kd.S_drew)); exact Kd.S_mono (Kd.S_far (p := ⟨gb156, 3, none⟩) (Kd.S_far (p := ⟨gb156, 2, none⟩) (Kd.S_far (p := ⟨gb156, 1, none⟩) (Kd.S_far (p := ⟨gb156, 0, none⟩) (Kd.S_types HO_8.out BK156.out (by decide)) (fun _ hk => hk.2) (.int .i64 (wrap64 (x125000_2 + (wrap64 (x12_4 + 1)))))) (fun _ hk => hk.2) (.int .i64 0)) (fun _ hk => hk.2) (.int .i64 (wrap64 (x125000_2 + (wrap64 (x13_4 + 1)))))) (fun _ hk => hk.2) (.int .i64 0)) (fun _ hk => ⟨hk.1.1, hk.1.2⟩)⟩, ⟨by (with_reducible repeat (first | apply Kd.R_alloc | apply Kd.R_drewN | apply Kd.R_drew)); exact Kd.R_mono (Kd.R_far (p := ⟨gb156, 3, none⟩) (Kd.R_far (p := ⟨gb156, 2, none⟩) (Kd.R_far (p := ⟨gb156, 1, none⟩) (Kd.R_far (p := ⟨gb156, 0, none⟩) (Kd.R_mono HO_156000.out (fun k_ hk => (⟨hk, hk.2⟩ : _ ∧ k_ ≠ gb156))) (fun _ hk => hk.2) (.int .i64 (wrap64 (x125000_2 + (wrap64 (x12_4 + 1)))))) (fun _ hk => hk.2) (.int .i64 0)) (fun _ hk => hk.2) (.int .i64 (wrap64 (x125000_2 + (wrap64 (x13_4 + 1)))))) (fun _ hk => hk.2) (.int .i64 0)) (fun _ hk => ⟨hk.1.1, hk.1.2⟩)⟩, ⟨by (with_reducible repeat (first | refine blk_drewN ?_ _ | refine blk_drew ?_ | refine blk_alloc ?_ _)); refine blk_far ?_ NB124_156.out _; (with_reducible repeat (first | refine blk_drewN ?_ _ | refine blk_drew ?_ | refine blk_alloc ?_ _)); refine blk_far ?_ NB124_156.out _; (with_reducible repeat (first | refine blk_drewN ?_ _ | refine blk_drew ?_ | refine blk_alloc ?_ _)); refine blk_far ?_ NB124_156.out _; (with_reducible repeat (first | refine blk_drewN ?_ _ | refine blk_drew ?_ | refine blk_alloc ?_ _)); refine blk_far ?_ NB124_156.out _; (with_reducible repeat (first | refine blk_drewN ?_ _ | refine blk_drew ?_ | refine blk_alloc ?_ _)); exact BK124.out⟩, ⟨by (with_reducible repeat (first | refine blk_drewN ?_ _ | refine blk_drew ?_ | refine blk_alloc ?_ _)); refine blk_far ?_ NB155_156.out _; (with_reducible repeat (first | refine blk_drewN ?_ _ | refine blk_drew ?_ | refine blk_alloc ?_ _)); refine blk_far ?_ NB155_156.out _; (with_reducible repeat (first | refine blk_drewN ?_ _ | refine blk_drew ?_ | refine blk_alloc ?_ _)); refine blk_far ?_ NB155_156.out _; (with_reducible repeat (first | refine blk_drewN ?_ _ | refine blk_drew ?_ | refine blk_alloc ?_ _)); refine blk_far ?_ NB155_156.out _; (with_reducible repeat (first | refine blk_drewN ?_ _ | refine blk_drew ?_ | refine blk_alloc ?_ _)); exact BK155.out⟩, ⟨by (with_reducible repeat (first | refine blk_drewN ?_ _ | refine blk_drew ?_ | refine blk_alloc ?_ _)); refine blk_put (cs := #[.int .i64 (wrap64 (x125000_2 + (wrap64 (x12_4 + 1)))), .int .i64 0, .int .i64 (wrap64 (x125000_2 + (wrap64 (x13_4 + 1)))), .int .i64 x157003_4]) ?_ 3 _ rfl; (with_reducible repeat (first | refine blk_drewN ?_ _ | refine blk_drew ?_ | refine blk_alloc ?_ _)); refine blk_put (cs := #[.int .i64 (wrap64 (x125000_2 + (wrap64 (x12_4 + 1)))), .int .i64 0, .int .i64 x157002_4, .int .i64 x157003_4]) ?_ 2 _ rfl; (with_reducible repeat (first | refine blk_drewN ?_ _ | refine blk_drew ?_ | refine blk_alloc ?_ _)); refine blk_put (cs := #[.int .i64 (wrap64 (x125000_2 + (wrap64 (x12_4 + 1)))), .int .i64 x157001_4, .int .i64 x157002_4, .int .i64 x157003_4]) ?_ 1 _ rfl; (with_reducible repeat (first | refine blk_drewN ?_ _ | refine blk_drew ?_ | refine blk_alloc ?_ _)); refine blk_put (cs := #[.int .i64 x157000_4, .int .i64 x157001_4, .int .i64 x157002_4, .int .i64 x157003_4]) ?_ 0 _ rfl; (with_reducible repeat (first | refine blk_drewN ?_ _ | refine blk_drew ?_ | refine blk_alloc ?_ _)); exact BK156.out⟩, ⟨by repeat (first | (with_reducible first | exact HB.out | apply below_alloc | apply pw_below_drewN | apply below_drew1 | refine below_set ?_ GE124.out | refine below_set ?_ GE155.out | refine below_set ?_ GE156.out) | exact HB.out)⟩⟩
                  ·replace c74 := Bool.eq_false_iff.mpr c74
                   subst c74
                   have H1 : (if x12_4 < (x6_17.length : Int) then (if x13_4 = (x7_17.length : Int) then (hunks_Changes.l2 kj68 x6_17 x7_17 t152 (wrap64 (x12_4 + 1)) x13_4 x125000_2 x156000_4 x157000_4 (wrap64 (x157001_4 + 1)) x157002_4 x157003_4) else (if 0 ≤ (wrap64 (x12_4 + 1)) then (if (wrap64 (x12_4 + 1)) < (t152.length : Int) then (if 0 ≤ x13_4 then (if x13_4 < ((rd_L1 t152 (wrap64 (x12_4 + 1))).length : Int) then (if 0 ≤ x12_4 then (if x12_4 < (t152.length : Int) then (if 0 ≤ (wrap64 (x13_4 + 1)) then (if (wrap64 (x13_4 + 1)) < ((rd_L1 t152 x12_4).length : Int) then (if (rd (rd_L1 t152 (wrap64 (x12_4 + 1))) x13_4) ≥ (rd (rd_L1 t152 x12_4) (wrap64 (x13_4 + 1))) then (hunks_Changes.l2 kj68 x6_17 x7_17 t152 (wrap64 (x12_4 + 1)) x13_4 x125000_2 x156000_4 x157000_4 (wrap64 (x157001_4 + 1)) x157002_4 x157003_4) else (hunks_Changes.l2 kj68 x6_17 x7_17 t152 x12_4 (wrap64 (x13_4 + 1)) x125000_2 x156000_4 x157000_4 x157001_4 x157002_4 (wrap64 (x157003_4 + 1)))) else (none)) else (none)) else (none)) else (none)) else (none)) else (none)) else (none)) else (none))) else (hunks_Changes.l2 kj68 x6_17 x7_17 t152 x12_4 (wrap64 (x13_4 + 1)) x125000_2 x156000_4 x157000_4 x157001_4 x157002_4 (wrap64 (x157003_4 + 1)))) = some r := by rw [if_neg (show ¬ (false = true) by decide)] at H; exact H
                   clear H
                   have H := H1
                   clear H1
                   by_cases c92 : x12_4 < (x6_17.length : Int)
                   ·rw [if_pos c92] at H
                    have c92b0 : decide (x12_4 < (x6_17.length : Int)) = true := decide_eq_true c92
                    clear c92
                    by_cases c93 : x13_4 = (x7_17.length : Int)
                    ·rw [if_pos c93] at H
                     have c93b0 : (x13_4 == (x7_17.length : Int)) = true := beq_iff_eq.mpr c93
                     have c93b1 : (x13_4 != (x7_17.length : Int)) = false := bne_eq_false_iff_eq.mpr c93
                     clear c93
                     have H' := Aside0.mk H
                     clear H
                     have hnb94 := NB156_124.out
                     have hnc94 := NB124_156.out
                     have hnb95 := NB156_155.out
                     have hnc95 := NB155_156.out
                     have hcz96_0 : wc.cell? ⟨gb156, 0, none⟩ = some (.int .i64 x157000_4) := (blk_cell BK156.out 0).trans rfl
                     have hcz96_1 : wc.cell? ⟨gb156, 1, none⟩ = some (.int .i64 x157001_4) := (blk_cell BK156.out 1).trans rfl
                     have hcz96_2 : wc.cell? ⟨gb156, 2, none⟩ = some (.int .i64 x157002_4) := (blk_cell BK156.out 2).trans rfl
                     have hcz96_3 : wc.cell? ⟨gb156, 3, none⟩ = some (.int .i64 x157003_4) := (blk_cell BK156.out 3).trans rfl
                     have hfz96_0 := blk_frozen BK156.out 0
                     have hfz96_1 := blk_frozen BK156.out 1
                     have hfz96_2 := blk_frozen BK156.out 2
                     have hfz96_3 := blk_frozen BK156.out 3
                     go_wp2
                     repeat (go_quiet (fail); try go_wp2)
                     (try (refine bodyPost_end (results_none rfl _ _ _) rfl ?_; (try dsimp only); (try go_wp2); repeat (go_quiet (fail); try go_wp2)))
                     go_roundg kj68
                     case measure => have := HJ2.out; have := HJ17.out; have := HJ43.out; have := HK4.out; have := HJ65.out; have := HJ68.out; omega
                     case rel => exact ⟨(wrap64 (x12_4 + 1)), (x13_4), (x156000_4), (x157000_4), (wrap64 (x157001_4 + 1)), (x157002_4), (x157003_4), (u156000), (by first | rfl | (simp; done) | (simp [*]; done)), (by first | rfl | (simp; done) | (simp [*]; done)), H', ⟨by have := HJ2.out; have := HJ17.out; have := HJ43.out; have := HK4.out; have := HJ65.out; have := HJ68.out; omega⟩, ⟨by (with_reducible repeat (first | apply Kd.V_alloc | apply Kd.V_drewN | apply Kd.V_drew)); exact Kd.V_mono (Kd.V_far (p := ⟨gb156, 1, none⟩) (Kd.V_mono HO_6.out (fun k_ hk => (⟨hk, hk.2.2.2.2.2⟩ : _ ∧ k_ ≠ gb156))) (fun _ hk => hk.2) (.int .i64 (wrap64 (x157001_4 + 1)))) (fun _ hk => ⟨hk.1.1, ⟨hk.1.2.1, ⟨hk.1.2.2.1, ⟨hk.1.2.2.2.1, ⟨hk.1.2.2.2.2.1, hk.1.2.2.2.2.2⟩⟩⟩⟩⟩)⟩, ⟨by (with_reducible repeat (first | apply Kd.V_alloc | apply Kd.V_drewN | apply Kd.V_drew)); exact Kd.V_mono (Kd.V_far (p := ⟨gb156, 1, none⟩) (Kd.V_mono HO_7.out (fun k_ hk => (⟨hk, hk.2.2.2.2.2⟩ : _ ∧ k_ ≠ gb156))) (fun _ hk => hk.2) (.int .i64 (wrap64 (x157001_4 + 1)))) (fun _ hk => ⟨hk.1.1, ⟨hk.1.2.1, ⟨hk.1.2.2.1, ⟨hk.1.2.2.2.1, ⟨hk.1.2.2.2.2.1, hk.1.2.2.2.2.2⟩⟩⟩⟩⟩)⟩, ⟨by (with_reducible repeat (first | apply Kd.S_alloc | apply Kd.S_drewN | apply Kd.S_drew)); exact Kd.S_mono (Kd.S_far (p := ⟨gb156, 1, none⟩) (Kd.S_types HO_8.out BK156.out (by decide)) (fun _ hk => hk.2) (.int .i64 (wrap64 (x157001_4 + 1)))) (fun _ hk => ⟨hk.1.1, hk.1.2⟩)⟩, ⟨by (with_reducible repeat (first | apply Kd.R_alloc | apply Kd.R_drewN | apply Kd.R_drew)); exact Kd.R_mono (Kd.R_far (p := ⟨gb156, 1, none⟩) (Kd.R_mono HO_156000.out (fun k_ hk => (⟨hk, hk.2⟩ : _ ∧ k_ ≠ gb156))) (fun _ hk => hk.2) (.int .i64 (wrap64 (x157001_4 + 1)))) (fun _ hk => ⟨hk.1.1, hk.1.2⟩)⟩, ⟨by (with_reducible repeat (first | refine blk_drewN ?_ _ | refine blk_drew ?_ | refine blk_alloc ?_ _)); refine blk_far ?_ NB124_156.out _; (with_reducible repeat (first | refine blk_drewN ?_ _ | refine blk_drew ?_ | refine blk_alloc ?_ _)); exact BK124.out⟩, ⟨by (with_reducible repeat (first | refine blk_drewN ?_ _ | refine blk_drew ?_ | refine blk_alloc ?_ _)); refine blk_far ?_ NB155_156.out _; (with_reducible repeat (first | refine blk_drewN ?_ _ | refine blk_drew ?_ | refine blk_alloc ?_ _)); exact BK155.out⟩, ⟨by (with_reducible repeat (first | refine blk_drewN ?_ _ | refine blk_drew ?_ | refine blk_alloc ?_ _)); refine blk_put (cs := #[.int .i64 x157000_4, .int .i64 x157001_4, .int .i64 x157002_4, .int .i64 x157003_4]) ?_ 1 _ rfl; (with_reducible repeat (first | refine blk_drewN ?_ _ | refine blk_drew ?_ | refine blk_alloc ?_ _)); exact BK156.out⟩, ⟨by repeat (first | (with_reducible first | exact HB.out | apply below_alloc | apply pw_below_drewN | apply below_drew1 | refine below_set ?_ GE124.out | refine below_set ?_ GE155.out | refine below_set ?_ GE156.out) | exact HB.out)⟩⟩
                    ·rw [if_neg c93] at H
                     have c93b0 : (x13_4 == (x7_17.length : Int)) = false := beq_eq_false_iff_ne.mpr c93
                     have c93b1 : (x13_4 != (x7_17.length : Int)) = true := bne_iff_ne.mpr c93
                     obtain ⟨ji97, hji97⟩ : ∃ j_ : Int, (wrap64 (x12_4 + 1)) = j_ := ⟨_, rfl⟩
                     replace H : (if 0 ≤ (ji97) then (if (ji97) < (t152.length : Int) then (if 0 ≤ x13_4 then (if x13_4 < ((rd_L1 t152 (ji97)).length : Int) then (if 0 ≤ x12_4 then (if x12_4 < (t152.length : Int) then (if 0 ≤ (wrap64 (x13_4 + 1)) then (if (wrap64 (x13_4 + 1)) < ((rd_L1 t152 x12_4).length : Int) then (if (rd (rd_L1 t152 (ji97)) x13_4) ≥ (rd (rd_L1 t152 x12_4) (wrap64 (x13_4 + 1))) then (hunks_Changes.l2 kj68 x6_17 x7_17 t152 ji97 x13_4 x125000_2 x156000_4 x157000_4 (wrap64 (x157001_4 + 1)) x157002_4 x157003_4) else (hunks_Changes.l2 kj68 x6_17 x7_17 t152 x12_4 (wrap64 (x13_4 + 1)) x125000_2 x156000_4 x157000_4 x157001_4 x157002_4 (wrap64 (x157003_4 + 1)))) else (none)) else (none)) else (none)) else (none)) else (none)) else (none)) else (none)) else (none)) = some r := by first | (rw [hji97] at H; exact H) | (simp only [hji97] at H ⊢; exact H)
                     have hji97w : (IntKind.i64.wrap (x12_4 + 1)) = ji97 := (i64_w _).trans hji97
                     by_cases c98 : 0 ≤ (ji97)
                     ·rw [if_pos c98] at H
                      have c98b0 : decide (0 ≤ (ji97)) = true := decide_eq_true c98
                      clear c98
                      by_cases c99 : (ji97) < (t152.length : Int)
                      ·rw [if_pos c99] at H
                       have c99b0 : decide ((ji97) < (t152.length : Int)) = true := decide_eq_true c99
                       clear c99
                       by_cases c100 : 0 ≤ x13_4
                       ·rw [if_pos c100] at H
                        have c100b0 : decide (0 ≤ x13_4) = true := decide_eq_true c100
                        clear c100
                        by_cases c101 : x13_4 < ((rd_L1 t152 (ji97)).length : Int)
                        ·rw [if_pos c101] at H
                         have c101b0 : decide (x13_4 < ((rd_L1 t152 (ji97)).length : Int)) = true := decide_eq_true c101
                         clear c101
                         by_cases c102 : 0 ≤ x12_4
                         ·rw [if_pos c102] at H
                          have c102b0 : decide (0 ≤ x12_4) = true := decide_eq_true c102
                          clear c102
                          by_cases c103 : x12_4 < (t152.length : Int)
                          ·rw [if_pos c103] at H
                           have c103b0 : decide (x12_4 < (t152.length : Int)) = true := decide_eq_true c103
                           clear c103
                           obtain ⟨ji104, hji104⟩ : ∃ j_ : Int, (wrap64 (x13_4 + 1)) = j_ := ⟨_, rfl⟩
                           replace H : (if 0 ≤ (ji104) then (if (ji104) < ((rd_L1 t152 x12_4).length : Int) then (if (rd (rd_L1 t152 (ji97)) x13_4) ≥ (rd (rd_L1 t152 x12_4) (ji104)) then (hunks_Changes.l2 kj68 x6_17 x7_17 t152 ji97 x13_4 x125000_2 x156000_4 x157000_4 (wrap64 (x157001_4 + 1)) x157002_4 x157003_4) else (hunks_Changes.l2 kj68 x6_17 x7_17 t152 x12_4 ji104 x125000_2 x156000_4 x157000_4 x157001_4 x157002_4 (wrap64 (x157003_4 + 1)))) else (none)) else (none)) = some r := by first | (rw [hji104] at H; exact H) | (simp only [hji104] at H ⊢; exact H)
                           have hji104w : (IntKind.i64.wrap (x13_4 + 1)) = ji104 := (i64_w _).trans hji104
                           by_cases c105 : 0 ≤ (ji104)
                           ·rw [if_pos c105] at H
                            have c105b0 : decide (0 ≤ (ji104)) = true := decide_eq_true c105
                            clear c105
                            by_cases c106 : (ji104) < ((rd_L1 t152 x12_4).length : Int)
                            ·rw [if_pos c106] at H
                             have c106b0 : decide ((ji104) < ((rd_L1 t152 x12_4).length : Int)) = true := decide_eq_true c106
                             clear c106
                             by_cases c107 : (rd (rd_L1 t152 (ji97)) x13_4) ≥ (rd (rd_L1 t152 x12_4) (ji104))
                             ·rw [if_pos c107] at H
                              have c107b0 : decide ((rd (rd_L1 t152 x12_4) (ji104)) ≤ (rd (rd_L1 t152 (ji97)) x13_4)) = true := decide_eq_true c107
                              clear c107
                              have H' := Aside0.mk H
                              clear H
                              obtain ⟨Ao108, co108, eo108⟩ := Kd.S_slice HO_8.out
                              subst eo108
                              have p165 : 0 ≤ ((ji97) : Int) := of_decide_eq_true (by first | (with_reducible assumption) | assumption)
                              have q165 : (ji97) < (t152.length : Int) := of_decide_eq_true (by first | (with_reducible assumption) | assumption)
                              obtain ⟨ad165, A165_0, c165_0, e165, hx165_0, hl165_0, hi165_0⟩ := at_L1 (Kd.S_reads' HO_8.out).2.2 (ji97) p165 q165
                              cases e165
                              obtain ⟨ce165, hce165, hMe165, hcc165⟩ := Kd.S_get HO_8.out [] (ji97) p165 (by first | exact q165 | exact of_decide_eq_true (by first | (with_reducible assumption) | assumption) | (have e_ := (Kd.S_reads' HO_8.out).1; omega))
                              obtain ⟨ve165_0, rfl, ge165_0⟩ := hMe165
                              have hv165_0 := hcc165 0 _ rfl
                              rw [Nat.add_zero, show ((Kd.slice 3 (Kd.int .i64))).sz = 1 from rfl, Nat.mul_one] at hv165_0
                              replace hv165_0 := Option.some.inj (hv165_0.symm.trans hx165_0)
                              rw [hv165_0] at ge165_0
                              have HL165_0 := Aside0.mk (show Kd.R (Kd.int .i64) 3 _ _ _ _ (rd_L1 t152 (ji97)) from ge165_0)
                              clear hv165_0 ge165_0
                              clear hcc165 hce165
                              have HR165_0 := Aside0.mk hi165_0
                              have HC165_0 := Aside0.mk hl165_0
                              clear hi165_0 hl165_0
                              replace p165 := eq_true p165
                              replace q165 := eq_true q165
                              have p166 : 0 ≤ (x13_4 : Int) := of_decide_eq_true (by first | (with_reducible assumption) | assumption)
                              have q166 : x13_4 < ((rd_L1 t152 (ji97)).length : Int) := of_decide_eq_true (by first | (with_reducible assumption) | assumption)
                              obtain ⟨ad166, e166, hx166_0⟩ := Kd.at_int (by repeat (first | (with_reducible exact HR165_0.out) | (with_reducible refine Kd.C_alloc ?_ _) | (with_reducible refine Kd.C_drewN ?_ _) | (with_reducible refine Kd.C_drew ?_) | exact HR165_0.out)) x13_4 p166 q166
                              cases e166
                              replace p166 := eq_true p166
                              replace q166 := eq_true q166
                              have p167 : 0 ≤ (x12_4 : Int) := of_decide_eq_true (by first | (with_reducible assumption) | assumption)
                              have q167 : x12_4 < (t152.length : Int) := of_decide_eq_true (by first | (with_reducible assumption) | assumption)
                              obtain ⟨ad167, A167_0, c167_0, e167, hx167_0, hl167_0, hi167_0⟩ := at_L1 (Kd.S_reads' HO_8.out).2.2 x12_4 p167 q167
                              obtain rfl : ad165 = ad167 := (by injection e167)
                              obtain ⟨ce167, hce167, hMe167, hcc167⟩ := Kd.S_get HO_8.out [] x12_4 p167 (by first | exact q167 | exact of_decide_eq_true (by first | (with_reducible assumption) | assumption) | (have e_ := (Kd.S_reads' HO_8.out).1; omega))
                              obtain ⟨ve167_0, rfl, ge167_0⟩ := hMe167
                              have hv167_0 := hcc167 0 _ rfl
                              rw [Nat.add_zero, show ((Kd.slice 3 (Kd.int .i64))).sz = 1 from rfl, Nat.mul_one] at hv167_0
                              replace hv167_0 := Option.some.inj (hv167_0.symm.trans hx167_0)
                              rw [hv167_0] at ge167_0
                              have HL167_0 := Aside0.mk (show Kd.R (Kd.int .i64) 3 _ _ _ _ (rd_L1 t152 x12_4) from ge167_0)
                              clear hv167_0 ge167_0
                              clear hcc167 hce167
                              have HR167_0 := Aside0.mk hi167_0
                              have HC167_0 := Aside0.mk hl167_0
                              clear hi167_0 hl167_0
                              replace p167 := eq_true p167
                              replace q167 := eq_true q167
                              have p168 : 0 ≤ ((ji104) : Int) := of_decide_eq_true (by first | (with_reducible assumption) | assumption)
                              have q168 : (ji104) < ((rd_L1 t152 x12_4).length : Int) := of_decide_eq_true (by first | (with_reducible assumption) | assumption)
                              obtain ⟨ad168, e168, hx168_0⟩ := Kd.at_int (by repeat (first | (with_reducible exact HR167_0.out) | (with_reducible refine Kd.C_alloc ?_ _) | (with_reducible refine Kd.C_drewN ?_ _) | (with_reducible refine Kd.C_drew ?_) | exact HR167_0.out)) (ji104) p168 q168
                              cases e168
                              replace p168 := eq_true p168
                              replace q168 := eq_true q168
                              have hnb109 := NB156_124.out
                              have hnc109 := NB124_156.out
                              have hnb110 := NB156_155.out
                              have hnc110 := NB155_156.out
                              have hcz111_0 : wc.cell? ⟨gb156, 0, none⟩ = some (.int .i64 x157000_4) := (blk_cell BK156.out 0).trans rfl
                              have hcz111_1 : wc.cell? ⟨gb156, 1, none⟩ = some (.int .i64 x157001_4) := (blk_cell BK156.out 1).trans rfl
                              have hcz111_2 : wc.cell? ⟨gb156, 2, none⟩ = some (.int .i64 x157002_4) := (blk_cell BK156.out 2).trans rfl
                              have hcz111_3 : wc.cell? ⟨gb156, 3, none⟩ = some (.int .i64 x157003_4) := (blk_cell BK156.out 3).trans rfl
                              have hfz111_0 := blk_frozen BK156.out 0
                              have hfz111_1 := blk_frozen BK156.out 1
                              have hfz111_2 := blk_frozen BK156.out 2
                              have hfz111_3 := blk_frozen BK156.out 3
                              go_wp2
                              repeat (go_quiet (fail); try go_wp2)
                              (try (refine bodyPost_end (results_none rfl _ _ _) rfl ?_; (try dsimp only); (try go_wp2); repeat (go_quiet (fail); try go_wp2)))
                              go_roundg kj68
                              case measure => have := HJ2.out; have := HJ17.out; have := HJ43.out; have := HK4.out; have := HJ65.out; have := HJ68.out; omega
                              case rel => exact ⟨(ji97), (x13_4), (x156000_4), (x157000_4), (wrap64 (x157001_4 + 1)), (x157002_4), (x157003_4), (u156000), (by first | rfl | (simp; done) | (simp only [← hji97] <;> (first | rfl | simp)) | (simp [*]; done)), (by first | rfl | (simp; done) | (simp [*]; done)), (by first | exact H' | (rw [hji97]; exact H') | (simp only [hji97]; exact H')), ⟨by have := HJ2.out; have := HJ17.out; have := HJ43.out; have := HK4.out; have := HJ65.out; have := HJ68.out; omega⟩, ⟨by (with_reducible repeat (first | apply Kd.V_alloc | apply Kd.V_drewN | apply Kd.V_drew)); exact Kd.V_mono (Kd.V_far (p := ⟨gb156, 1, none⟩) (Kd.V_mono HO_6.out (fun k_ hk => (⟨hk, hk.2.2.2.2.2⟩ : _ ∧ k_ ≠ gb156))) (fun _ hk => hk.2) (.int .i64 (wrap64 (x157001_4 + 1)))) (fun _ hk => ⟨hk.1.1, ⟨hk.1.2.1, ⟨hk.1.2.2.1, ⟨hk.1.2.2.2.1, ⟨hk.1.2.2.2.2.1, hk.1.2.2.2.2.2⟩⟩⟩⟩⟩)⟩, ⟨by (with_reducible repeat (first | apply Kd.V_alloc | apply Kd.V_drewN | apply Kd.V_drew)); exact Kd.V_mono (Kd.V_far (p := ⟨gb156, 1, none⟩) (Kd.V_mono HO_7.out (fun k_ hk => (⟨hk, hk.2.2.2.2.2⟩ : _ ∧ k_ ≠ gb156))) (fun _ hk => hk.2) (.int .i64 (wrap64 (x157001_4 + 1)))) (fun _ hk => ⟨hk.1.1, ⟨hk.1.2.1, ⟨hk.1.2.2.1, ⟨hk.1.2.2.2.1, ⟨hk.1.2.2.2.2.1, hk.1.2.2.2.2.2⟩⟩⟩⟩⟩)⟩, ⟨by (with_reducible repeat (first | apply Kd.S_alloc | apply Kd.S_drewN | apply Kd.S_drew)); exact Kd.S_mono (Kd.S_far (p := ⟨gb156, 1, none⟩) (Kd.S_types HO_8.out BK156.out (by decide)) (fun _ hk => hk.2) (.int .i64 (wrap64 (x157001_4 + 1)))) (fun _ hk => ⟨hk.1.1, hk.1.2⟩)⟩, ⟨by (with_reducible repeat (first | apply Kd.R_alloc | apply Kd.R_drewN | apply Kd.R_drew)); exact Kd.R_mono (Kd.R_far (p := ⟨gb156, 1, none⟩) (Kd.R_mono HO_156000.out (fun k_ hk => (⟨hk, hk.2⟩ : _ ∧ k_ ≠ gb156))) (fun _ hk => hk.2) (.int .i64 (wrap64 (x157001_4 + 1)))) (fun _ hk => ⟨hk.1.1, hk.1.2⟩)⟩, ⟨by (with_reducible repeat (first | refine blk_drewN ?_ _ | refine blk_drew ?_ | refine blk_alloc ?_ _)); refine blk_far ?_ NB124_156.out _; (with_reducible repeat (first | refine blk_drewN ?_ _ | refine blk_drew ?_ | refine blk_alloc ?_ _)); exact BK124.out⟩, ⟨by (with_reducible repeat (first | refine blk_drewN ?_ _ | refine blk_drew ?_ | refine blk_alloc ?_ _)); refine blk_far ?_ NB155_156.out _; (with_reducible repeat (first | refine blk_drewN ?_ _ | refine blk_drew ?_ | refine blk_alloc ?_ _)); exact BK155.out⟩, ⟨by (with_reducible repeat (first | refine blk_drewN ?_ _ | refine blk_drew ?_ | refine blk_alloc ?_ _)); refine blk_put (cs := #[.int .i64 x157000_4, .int .i64 x157001_4, .int .i64 x157002_4, .int .i64 x157003_4]) ?_ 1 _ rfl; (with_reducible repeat (first | refine blk_drewN ?_ _ | refine blk_drew ?_ | refine blk_alloc ?_ _)); exact BK156.out⟩, ⟨by repeat (first | (with_reducible first | exact HB.out | apply below_alloc | apply pw_below_drewN | apply below_drew1 | refine below_set ?_ GE124.out | refine below_set ?_ GE155.out | refine below_set ?_ GE156.out) | exact HB.out)⟩⟩
                             ·rw [if_neg c107] at H
                              have c107b0 : decide ((rd (rd_L1 t152 x12_4) (ji104)) ≤ (rd (rd_L1 t152 (ji97)) x13_4)) = false := decide_eq_false c107
                              clear c107
                              have H' := Aside0.mk H
                              clear H
                              obtain ⟨Ao112, co112, eo112⟩ := Kd.S_slice HO_8.out
                              subst eo112
                              have p165 : 0 ≤ ((ji97) : Int) := of_decide_eq_true (by first | (with_reducible assumption) | assumption)
                              have q165 : (ji97) < (t152.length : Int) := of_decide_eq_true (by first | (with_reducible assumption) | assumption)
                              obtain ⟨ad165, A165_0, c165_0, e165, hx165_0, hl165_0, hi165_0⟩ := at_L1 (Kd.S_reads' HO_8.out).2.2 (ji97) p165 q165
                              cases e165
                              obtain ⟨ce165, hce165, hMe165, hcc165⟩ := Kd.S_get HO_8.out [] (ji97) p165 (by first | exact q165 | exact of_decide_eq_true (by first | (with_reducible assumption) | assumption) | (have e_ := (Kd.S_reads' HO_8.out).1; omega))
                              obtain ⟨ve165_0, rfl, ge165_0⟩ := hMe165
                              have hv165_0 := hcc165 0 _ rfl
                              rw [Nat.add_zero, show ((Kd.slice 3 (Kd.int .i64))).sz = 1 from rfl, Nat.mul_one] at hv165_0
                              replace hv165_0 := Option.some.inj (hv165_0.symm.trans hx165_0)
                              rw [hv165_0] at ge165_0
                              have HL165_0 := Aside0.mk (show Kd.R (Kd.int .i64) 3 _ _ _ _ (rd_L1 t152 (ji97)) from ge165_0)
                              clear hv165_0 ge165_0
                              clear hcc165 hce165
                              have HR165_0 := Aside0.mk hi165_0
                              have HC165_0 := Aside0.mk hl165_0
                              clear hi165_0 hl165_0
                              replace p165 := eq_true p165
                              replace q165 := eq_true q165
                              have p166 : 0 ≤ (x13_4 : Int) := of_decide_eq_true (by first | (with_reducible assumption) | assumption)
                              have q166 : x13_4 < ((rd_L1 t152 (ji97)).length : Int) := of_decide_eq_true (by first | (with_reducible assumption) | assumption)
                              obtain ⟨ad166, e166, hx166_0⟩ := Kd.at_int (by repeat (first | (with_reducible exact HR165_0.out) | (with_reducible refine Kd.C_alloc ?_ _) | (with_reducible refine Kd.C_drewN ?_ _) | (with_reducible refine Kd.C_drew ?_) | exact HR165_0.out)) x13_4 p166 q166
                              cases e166
                              replace p166 := eq_true p166
                              replace q166 := eq_true q166
                              have p167 : 0 ≤ (x12_4 : Int) := of_decide_eq_true (by first | (with_reducible assumption) | assumption)
                              have q167 : x12_4 < (t152.length : Int) := of_decide_eq_true (by first | (with_reducible assumption) | assumption)
                              obtain ⟨ad167, A167_0, c167_0, e167, hx167_0, hl167_0, hi167_0⟩ := at_L1 (Kd.S_reads' HO_8.out).2.2 x12_4 p167 q167
                              obtain rfl : ad165 = ad167 := (by injection e167)
                              obtain ⟨ce167, hce167, hMe167, hcc167⟩ := Kd.S_get HO_8.out [] x12_4 p167 (by first | exact q167 | exact of_decide_eq_true (by first | (with_reducible assumption) | assumption) | (have e_ := (Kd.S_reads' HO_8.out).1; omega))
                              obtain ⟨ve167_0, rfl, ge167_0⟩ := hMe167
                              have hv167_0 := hcc167 0 _ rfl
                              rw [Nat.add_zero, show ((Kd.slice 3 (Kd.int .i64))).sz = 1 from rfl, Nat.mul_one] at hv167_0
                              replace hv167_0 := Option.some.inj (hv167_0.symm.trans hx167_0)
                              rw [hv167_0] at ge167_0
                              have HL167_0 := Aside0.mk (show Kd.R (Kd.int .i64) 3 _ _ _ _ (rd_L1 t152 x12_4) from ge167_0)
                              clear hv167_0 ge167_0
                              clear hcc167 hce167
                              have HR167_0 := Aside0.mk hi167_0
                              have HC167_0 := Aside0.mk hl167_0
                              clear hi167_0 hl167_0
                              replace p167 := eq_true p167
                              replace q167 := eq_true q167
                              have p168 : 0 ≤ ((ji104) : Int) := of_decide_eq_true (by first | (with_reducible assumption) | assumption)
                              have q168 : (ji104) < ((rd_L1 t152 x12_4).length : Int) := of_decide_eq_true (by first | (with_reducible assumption) | assumption)
                              obtain ⟨ad168, e168, hx168_0⟩ := Kd.at_int (by repeat (first | (with_reducible exact HR167_0.out) | (with_reducible refine Kd.C_alloc ?_ _) | (with_reducible refine Kd.C_drewN ?_ _) | (with_reducible refine Kd.C_drew ?_) | exact HR167_0.out)) (ji104) p168 q168
                              cases e168
                              replace p168 := eq_true p168
                              replace q168 := eq_true q168
                              have hnb113 := NB156_124.out
                              have hnc113 := NB124_156.out
                              have hnb114 := NB156_155.out
                              have hnc114 := NB155_156.out
                              have hcz115_0 : wc.cell? ⟨gb156, 0, none⟩ = some (.int .i64 x157000_4) := (blk_cell BK156.out 0).trans rfl
                              have hcz115_1 : wc.cell? ⟨gb156, 1, none⟩ = some (.int .i64 x157001_4) := (blk_cell BK156.out 1).trans rfl
                              have hcz115_2 : wc.cell? ⟨gb156, 2, none⟩ = some (.int .i64 x157002_4) := (blk_cell BK156.out 2).trans rfl
                              have hcz115_3 : wc.cell? ⟨gb156, 3, none⟩ = some (.int .i64 x157003_4) := (blk_cell BK156.out 3).trans rfl
                              have hfz115_0 := blk_frozen BK156.out 0
                              have hfz115_1 := blk_frozen BK156.out 1
                              have hfz115_2 := blk_frozen BK156.out 2
                              have hfz115_3 := blk_frozen BK156.out 3
                              go_wp2
                              repeat (go_quiet (fail); try go_wp2)
                              (try (refine bodyPost_end (results_none rfl _ _ _) rfl ?_; (try dsimp only); (try go_wp2); repeat (go_quiet (fail); try go_wp2)))
                              go_roundg kj68
                              case measure => have := HJ2.out; have := HJ17.out; have := HJ43.out; have := HK4.out; have := HJ65.out; have := HJ68.out; omega
                              case rel => exact ⟨(x12_4), (ji104), (x156000_4), (x157000_4), (x157001_4), (x157002_4), (wrap64 (x157003_4 + 1)), (u156000), (by first | rfl | (simp; done) | (simp [*]; done)), (by first | rfl | (simp; done) | (simp only [← hji104] <;> (first | rfl | simp)) | (simp [*]; done)), (by first | exact H' | (rw [hji104]; exact H') | (simp only [hji104]; exact H')), ⟨by have := HJ2.out; have := HJ17.out; have := HJ43.out; have := HK4.out; have := HJ65.out; have := HJ68.out; omega⟩, ⟨by (with_reducible repeat (first | apply Kd.V_alloc | apply Kd.V_drewN | apply Kd.V_drew)); exact Kd.V_mono (Kd.V_far (p := ⟨gb156, 3, none⟩) (Kd.V_mono HO_6.out (fun k_ hk => (⟨hk, hk.2.2.2.2.2⟩ : _ ∧ k_ ≠ gb156))) (fun _ hk => hk.2) (.int .i64 (wrap64 (x157003_4 + 1)))) (fun _ hk => ⟨hk.1.1, ⟨hk.1.2.1, ⟨hk.1.2.2.1, ⟨hk.1.2.2.2.1, ⟨hk.1.2.2.2.2.1, hk.1.2.2.2.2.2⟩⟩⟩⟩⟩)⟩, ⟨by (with_reducible repeat (first | apply Kd.V_alloc | apply Kd.V_drewN | apply Kd.V_drew)); exact Kd.V_mono (Kd.V_far (p := ⟨gb156, 3, none⟩) (Kd.V_mono HO_7.out (fun k_ hk => (⟨hk, hk.2.2.2.2.2⟩ : _ ∧ k_ ≠ gb156))) (fun _ hk => hk.2) (.int .i64 (wrap64 (x157003_4 + 1)))) (fun _ hk => ⟨hk.1.1, ⟨hk.1.2.1, ⟨hk.1.2.2.1, ⟨hk.1.2.2.2.1, ⟨hk.1.2.2.2.2.1, hk.1.2.2.2.2.2⟩⟩⟩⟩⟩)⟩, ⟨by (with_reducible repeat (first | apply Kd.S_alloc | apply Kd.S_drewN | apply Kd.S_drew)); exact Kd.S_mono (Kd.S_far (p := ⟨gb156, 3, none⟩) (Kd.S_types HO_8.out BK156.out (by decide)) (fun _ hk => hk.2) (.int .i64 (wrap64 (x157003_4 + 1)))) (fun _ hk => ⟨hk.1.1, hk.1.2⟩)⟩, ⟨by (with_reducible repeat (first | apply Kd.R_alloc | apply Kd.R_drewN | apply Kd.R_drew)); exact Kd.R_mono (Kd.R_far (p := ⟨gb156, 3, none⟩) (Kd.R_mono HO_156000.out (fun k_ hk => (⟨hk, hk.2⟩ : _ ∧ k_ ≠ gb156))) (fun _ hk => hk.2) (.int .i64 (wrap64 (x157003_4 + 1)))) (fun _ hk => ⟨hk.1.1, hk.1.2⟩)⟩, ⟨by (with_reducible repeat (first | refine blk_drewN ?_ _ | refine blk_drew ?_ | refine blk_alloc ?_ _)); refine blk_far ?_ NB124_156.out _; (with_reducible repeat (first | refine blk_drewN ?_ _ | refine blk_drew ?_ | refine blk_alloc ?_ _)); exact BK124.out⟩, ⟨by (with_reducible repeat (first | refine blk_drewN ?_ _ | refine blk_drew ?_ | refine blk_alloc ?_ _)); refine blk_far ?_ NB155_156.out _; (with_reducible repeat (first | refine blk_drewN ?_ _ | refine blk_drew ?_ | refine blk_alloc ?_ _)); exact BK155.out⟩, ⟨by (with_reducible repeat (first | refine blk_drewN ?_ _ | refine blk_drew ?_ | refine blk_alloc ?_ _)); refine blk_put (cs := #[.int .i64 x157000_4, .int .i64 x157001_4, .int .i64 x157002_4, .int .i64 x157003_4]) ?_ 3 _ rfl; (with_reducible repeat (first | refine blk_drewN ?_ _ | refine blk_drew ?_ | refine blk_alloc ?_ _)); exact BK156.out⟩, ⟨by repeat (first | (with_reducible first | exact HB.out | apply below_alloc | apply pw_below_drewN | apply below_drew1 | refine below_set ?_ GE124.out | refine below_set ?_ GE155.out | refine below_set ?_ GE156.out) | exact HB.out)⟩⟩
                            ·rw [if_neg c106] at H
                             exact absurd H (by simp)
                           ·rw [if_neg c105] at H
                            exact absurd H (by simp)
                          ·rw [if_neg c103] at H
                           exact absurd H (by simp)
                         ·rw [if_neg c102] at H
                          exact absurd H (by simp)
                        ·rw [if_neg c101] at H
                         exact absurd H (by simp)
                       ·rw [if_neg c100] at H
                        exact absurd H (by simp)
                      ·rw [if_neg c99] at H
                       exact absurd H (by simp)
                     ·rw [if_neg c98] at H
                      exact absurd H (by simp)
                   ·rw [if_neg c92] at H
                    have c92b0 : decide (x12_4 < (x6_17.length : Int)) = false := decide_eq_false c92
                    clear c92
                    have H' := Aside0.mk H
                    clear H
                    have hnb116 := NB156_124.out
                    have hnc116 := NB124_156.out
                    have hnb117 := NB156_155.out
                    have hnc117 := NB155_156.out
                    have hcz118_0 : wc.cell? ⟨gb156, 0, none⟩ = some (.int .i64 x157000_4) := (blk_cell BK156.out 0).trans rfl
                    have hcz118_1 : wc.cell? ⟨gb156, 1, none⟩ = some (.int .i64 x157001_4) := (blk_cell BK156.out 1).trans rfl
                    have hcz118_2 : wc.cell? ⟨gb156, 2, none⟩ = some (.int .i64 x157002_4) := (blk_cell BK156.out 2).trans rfl
                    have hcz118_3 : wc.cell? ⟨gb156, 3, none⟩ = some (.int .i64 x157003_4) := (blk_cell BK156.out 3).trans rfl
                    have hfz118_0 := blk_frozen BK156.out 0
                    have hfz118_1 := blk_frozen BK156.out 1
                    have hfz118_2 := blk_frozen BK156.out 2
                    have hfz118_3 := blk_frozen BK156.out 3
                    go_wp2
                    repeat (go_quiet (fail); try go_wp2)
                    (try (refine bodyPost_end (results_none rfl _ _ _) rfl ?_; (try dsimp only); (try go_wp2); repeat (go_quiet (fail); try go_wp2)))
                    go_roundg kj68
                    case measure => have := HJ2.out; have := HJ17.out; have := HJ43.out; have := HK4.out; have := HJ65.out; have := HJ68.out; omega
                    case rel => exact ⟨(x12_4), (wrap64 (x13_4 + 1)), (x156000_4), (x157000_4), (x157001_4), (x157002_4), (wrap64 (x157003_4 + 1)), (u156000), (by first | rfl | (simp; done) | (simp [*]; done)), (by first | rfl | (simp; done) | (simp [*]; done)), H', ⟨by have := HJ2.out; have := HJ17.out; have := HJ43.out; have := HK4.out; have := HJ65.out; have := HJ68.out; omega⟩, ⟨by (with_reducible repeat (first | apply Kd.V_alloc | apply Kd.V_drewN | apply Kd.V_drew)); exact Kd.V_mono (Kd.V_far (p := ⟨gb156, 3, none⟩) (Kd.V_mono HO_6.out (fun k_ hk => (⟨hk, hk.2.2.2.2.2⟩ : _ ∧ k_ ≠ gb156))) (fun _ hk => hk.2) (.int .i64 (wrap64 (x157003_4 + 1)))) (fun _ hk => ⟨hk.1.1, ⟨hk.1.2.1, ⟨hk.1.2.2.1, ⟨hk.1.2.2.2.1, ⟨hk.1.2.2.2.2.1, hk.1.2.2.2.2.2⟩⟩⟩⟩⟩)⟩, ⟨by (with_reducible repeat (first | apply Kd.V_alloc | apply Kd.V_drewN | apply Kd.V_drew)); exact Kd.V_mono (Kd.V_far (p := ⟨gb156, 3, none⟩) (Kd.V_mono HO_7.out (fun k_ hk => (⟨hk, hk.2.2.2.2.2⟩ : _ ∧ k_ ≠ gb156))) (fun _ hk => hk.2) (.int .i64 (wrap64 (x157003_4 + 1)))) (fun _ hk => ⟨hk.1.1, ⟨hk.1.2.1, ⟨hk.1.2.2.1, ⟨hk.1.2.2.2.1, ⟨hk.1.2.2.2.2.1, hk.1.2.2.2.2.2⟩⟩⟩⟩⟩)⟩, ⟨by (with_reducible repeat (first | apply Kd.S_alloc | apply Kd.S_drewN | apply Kd.S_drew)); exact Kd.S_mono (Kd.S_far (p := ⟨gb156, 3, none⟩) (Kd.S_types HO_8.out BK156.out (by decide)) (fun _ hk => hk.2) (.int .i64 (wrap64 (x157003_4 + 1)))) (fun _ hk => ⟨hk.1.1, hk.1.2⟩)⟩, ⟨by (with_reducible repeat (first | apply Kd.R_alloc | apply Kd.R_drewN | apply Kd.R_drew)); exact Kd.R_mono (Kd.R_far (p := ⟨gb156, 3, none⟩) (Kd.R_mono HO_156000.out (fun k_ hk => (⟨hk, hk.2⟩ : _ ∧ k_ ≠ gb156))) (fun _ hk => hk.2) (.int .i64 (wrap64 (x157003_4 + 1)))) (fun _ hk => ⟨hk.1.1, hk.1.2⟩)⟩, ⟨by (with_reducible repeat (first | refine blk_drewN ?_ _ | refine blk_drew ?_ | refine blk_alloc ?_ _)); refine blk_far ?_ NB124_156.out _; (with_reducible repeat (first | refine blk_drewN ?_ _ | refine blk_drew ?_ | refine blk_alloc ?_ _)); exact BK124.out⟩, ⟨by (with_reducible repeat (first | refine blk_drewN ?_ _ | refine blk_drew ?_ | refine blk_alloc ?_ _)); refine blk_far ?_ NB155_156.out _; (with_reducible repeat (first | refine blk_drewN ?_ _ | refine blk_drew ?_ | refine blk_alloc ?_ _)); exact BK155.out⟩, ⟨by (with_reducible repeat (first | refine blk_drewN ?_ _ | refine blk_drew ?_ | refine blk_alloc ?_ _)); refine blk_put (cs := #[.int .i64 x157000_4, .int .i64 x157001_4, .int .i64 x157002_4, .int .i64 x157003_4]) ?_ 3 _ rfl; (with_reducible repeat (first | refine blk_drewN ?_ _ | refine blk_drew ?_ | refine blk_alloc ?_ _)); exact BK156.out⟩, ⟨by repeat (first | (with_reducible first | exact HB.out | apply below_alloc | apply pw_below_drewN | apply below_drew1 | refine below_set ?_ GE124.out | refine below_set ?_ GE155.out | refine below_set ?_ GE156.out) | exact HB.out)⟩⟩
               ·replace c68 := Bool.eq_false_iff.mpr c68
                subst c68
                have H1 : (if (wrap64 (x157001_4 + x157003_4)) > 0 then (if x156000_4.length < 4398046511104 then (some (x156000_4 ++ [(⟨x157000_4, x157001_4, x157002_4, x157003_4⟩ : S39)])) else (none)) else (some x156000_4)) = some r := by rw [if_neg (show ¬ (false = true) by decide)] at H; exact H
                clear H
                have H := H1
                clear H1
                by_cases c119 : (wrap64 (x157001_4 + x157003_4)) > 0
                ·rw [if_pos c119] at H
                 have c119b0 : decide (0 < (wrap64 (x157001_4 + x157003_4))) = true := decide_eq_true c119
                 clear c119
                 by_cases c120 : x156000_4.length < 4398046511104
                 ·rw [if_pos c120] at H
                  have LMc120 := Aside0.mk c120
                  clear c120
                  obtain ⟨y157, hy157⟩ : ∃ y_ : List (S39), y_ = (x156000_4 ++ [(⟨x157000_4, x157001_4, x157002_4, x157003_4⟩ : S39)]) := ⟨_, rfl⟩
                  replace H : (some y157) = some r := by first | (rw [hy157]; with_reducible exact H) | (have H2_ := (Option.bind_some _ _).symm.trans H; rw [hy157]; with_reducible exact H2_) | (have H2_ := (Option.bind_some _ _).symm.trans H; with_reducible exact H2_) | with_reducible exact H | (rw [hy157]; exact H) | exact H
                  have Ny157 := Aside0.mk hy157
                  clear hy157
                  obtain rfl := Option.some.inj H
                  have hnb121 := NB156_124.out
                  have hnc121 := NB124_156.out
                  have hnb122 := NB156_155.out
                  have hnc122 := NB155_156.out
                  have hcz123_0 : wc.cell? ⟨gb156, 0, none⟩ = some (.int .i64 x157000_4) := (blk_cell BK156.out 0).trans rfl
                  have hcz123_1 : wc.cell? ⟨gb156, 1, none⟩ = some (.int .i64 x157001_4) := (blk_cell BK156.out 1).trans rfl
                  have hcz123_2 : wc.cell? ⟨gb156, 2, none⟩ = some (.int .i64 x157002_4) := (blk_cell BK156.out 2).trans rfl
                  have hcz123_3 : wc.cell? ⟨gb156, 3, none⟩ = some (.int .i64 x157003_4) := (blk_cell BK156.out 3).trans rfl
                  have hfz123_0 := blk_frozen BK156.out 0
                  have hfz123_1 := blk_frozen BK156.out 1
                  have hfz123_2 := blk_frozen BK156.out 2
                  have hfz123_3 := blk_frozen BK156.out 3
                  have hnb124 := NB155_124.out
                  have hnc124 := NB124_155.out
                  have hcz125_0 : wc.cell? ⟨gb155, 0, none⟩ = some (u156000) := (blk_cell BK155.out 0).trans rfl
                  have hfz125_0 := blk_frozen BK155.out 0
                  go_wp2_with (first | ((with_reducible refine gate_builtin (b := .append) (xs := #[.tmp 13, .tmp 15]) rfl ?_); (try (refine gate_guard (by rfl) ?_; dsimp only)); at_builtin; refine Kd.R_append k39 (w0 := w) w.heap.size rfl (.tmp 13) (.tmp 15) 34 39 (.agg #[(.int .i64 0), (.int .i64 0), (.int .i64 0), (.int .i64 0)]) 32 rfl Try.underlying34 info39 rfl (by decide) (by omega) u156000 x156000_4 (⟨x157000_4, x157001_4, x157002_4, x157003_4⟩ : S39) [.int .i64 x157000_4, .int .i64 x157001_4, .int .i64 x157002_4, .int .i64 x157003_4] (fun k_ => (w.heap.size ≤ k_) ∧ k_ ≠ gb156) (fun _ => False) rfl rfl ?aP (fun _ hk => hk.elim) ?aF ?aO ?aB ?aS ?aL ?_; (case aP => exact k39_mkM _ _ _ (⟨x157000_4, x157001_4, x157002_4, x157003_4⟩ : S39)); (case aB => exact (by repeat (first | (with_reducible first | exact HB.out | apply below_alloc | apply pw_below_drewN | apply below_drew1 | refine below_set ?_ GE124.out | refine below_set ?_ GE155.out | refine below_set ?_ GE156.out) | exact HB.out))); (case aF => exact (fun k_ hk => ⟨(Nat.le_trans (below_size (by repeat (first | (with_reducible first | exact HB.out | apply below_alloc | apply pw_below_drewN | apply below_drew1 | refine below_set ?_ GE124.out | refine below_set ?_ GE155.out | refine below_set ?_ GE156.out) | exact HB.out))) hk), Kd.freshB (g := gb156) (o := .cells #[.int .i64 x157000_4, .int .i64 x157001_4, .int .i64 x157002_4, .int .i64 x157003_4] 39 (0, 0)) (by (with_reducible repeat (first | refine blk_drewN ?_ _ | refine blk_drew ?_ | refine blk_alloc ?_ _)); exact BK156.out) k_ hk⟩)); (case aO => exact (by (with_reducible repeat (first | apply Kd.R_alloc | apply Kd.R_drewN | apply Kd.R_drew)); exact HO_156000.out)); (case aS => exact (below_size (by repeat (first | (with_reducible first | exact HB.out | apply below_alloc | apply pw_below_drewN | apply below_drew1 | refine below_set ?_ GE124.out | refine below_set ?_ GE155.out | refine below_set ?_ GE156.out) | exact HB.out)))); (case aL => have := LMc120.out; omega); intro v158 w126 ho hb hg hat; rw [← Ny157.out] at ho; have n0_ := Aside0.mk (Kd.V_afterv (ok := (fun k_ => ((P0_ k_ ∨ P1_ k_) ∨ w.heap.size ≤ k_) ∧ some k_ ≠ (v153 : Value).ownBlock ∧ k_ ≠ gb124 ∧ k_ ≠ gb155 ∧ k_ ≠ gb156)) (by (with_reducible repeat (first | apply Kd.V_alloc | apply Kd.V_drewN | apply Kd.V_drew)); exact Kd.V_mono HO_6.out (fun _ hk => ⟨⟨hk.1, ⟨hk.2.1, ⟨hk.2.2.2.1, ⟨hk.2.2.2.2.1, hk.2.2.2.2.2⟩⟩⟩⟩, hk.2.2.1⟩)) hg hat); have n1_ := Aside0.mk (Kd.V_afterv (ok := (fun k_ => ((P0_ k_ ∨ P1_ k_) ∨ w.heap.size ≤ k_) ∧ some k_ ≠ (v153 : Value).ownBlock ∧ k_ ≠ gb124 ∧ k_ ≠ gb155 ∧ k_ ≠ gb156)) (by (with_reducible repeat (first | apply Kd.V_alloc | apply Kd.V_drewN | apply Kd.V_drew)); exact Kd.V_mono HO_7.out (fun _ hk => ⟨⟨hk.1, ⟨hk.2.1, ⟨hk.2.2.2.1, ⟨hk.2.2.2.2.1, hk.2.2.2.2.2⟩⟩⟩⟩, hk.2.2.1⟩)) hg hat); have n2_ := Aside0.mk (Kd.S_over' (by (with_reducible repeat (first | apply Kd.S_alloc | apply Kd.S_drewN | apply Kd.S_drew)); exact HO_8.out) (Kd.R_typed (by (with_reducible repeat (first | apply Kd.R_alloc | apply Kd.R_drewN | apply Kd.R_drew)); exact HO_156000.out)) (by decide) hg); have n3_ := Aside0.mk (blk_grown (g := gb124) (o := .cells #[.int .i64 x125000_2] 3 (0, 0)) (by (with_reducible repeat (first | refine blk_drewN ?_ _ | refine blk_drew ?_ | refine blk_alloc ?_ _)); exact BK124.out) hg (Kd.R_ne HO_156000.out BK124.out (by decide))); have n4_ := Aside0.mk (blk_grown (g := gb155) (o := .cells #[u156000] 34 (0, 0)) (by (with_reducible repeat (first | refine blk_drewN ?_ _ | refine blk_drew ?_ | refine blk_alloc ?_ _)); exact BK155.out) hg (Kd.R_ne HO_156000.out BK155.out (by decide))); have n5_ := Aside0.mk (blk_grown (g := gb156) (o := .cells #[.int .i64 x157000_4, .int .i64 x157001_4, .int .i64 x157002_4, .int .i64 x157003_4] 39 (0, 0)) (by (with_reducible repeat (first | refine blk_drewN ?_ _ | refine blk_drew ?_ | refine blk_alloc ?_ _)); exact BK156.out) hg (Kd.R_away HO_156000.out (fun _ hk => hk.2))); have n6_ := Aside0.mk (hb); have n7_ := Aside0.mk (ho); clear HO_6; clear HO_7; clear HO_8; clear BK124; clear BK155; clear BK156; clear HB; clear HO_156000; have HO_6 := n0_; have HO_7 := n1_; have HO_8 := n2_; have BK124 := n3_; have BK155 := n4_; have BK156 := n5_; have HB := n6_; have HO159 := n7_; clear n0_ n1_ n2_ n3_ n4_ n5_ n6_ n7_; clear ho hb hg hat; obtain ⟨Ao127, co127, eo127⟩ := Kd.R_slice HO159.out; subst eo127; have hcz128_0 : w126.cell? ⟨gb155, 0, none⟩ = some (u156000) := (blk_cell BK155.out 0).trans rfl; have hfz128_0 := blk_frozen BK155.out 0; have hcz129_0 : w126.cell? ⟨gb124, 0, none⟩ = some (.int .i64 x125000_2) := (blk_cell BK124.out 0).trans rfl; have hfz129_0 := blk_frozen BK124.out 0; have hcz130_0 : w126.cell? ⟨gb156, 0, none⟩ = some (.int .i64 x157000_4) := (blk_cell BK156.out 0).trans rfl; have hcz130_1 : w126.cell? ⟨gb156, 1, none⟩ = some (.int .i64 x157001_4) := (blk_cell BK156.out 1).trans rfl; have hcz130_2 : w126.cell? ⟨gb156, 2, none⟩ = some (.int .i64 x157002_4) := (blk_cell BK156.out 2).trans rfl; have hcz130_3 : w126.cell? ⟨gb156, 3, none⟩ = some (.int .i64 x157003_4) := (blk_cell BK156.out 3).trans rfl; have hfz130_0 := blk_frozen BK156.out 0; have hfz130_1 := blk_frozen BK156.out 1; have hfz130_2 := blk_frozen BK156.out 2; have hfz130_3 := blk_frozen BK156.out 3) | go_in)
                  repeat (go_quiet (first | ((with_reducible refine gate_builtin (b := .append) (xs := #[.tmp 13, .tmp 15]) rfl ?_); (try (refine gate_guard (by rfl) ?_; dsimp only)); at_builtin; refine Kd.R_append k39 (w0 := w) w.heap.size rfl (.tmp 13) (.tmp 15) 34 39 (.agg #[(.int .i64 0), (.int .i64 0), (.int .i64 0), (.int .i64 0)]) 32 rfl Try.underlying34 info39 rfl (by decide) (by omega) u156000 x156000_4 (⟨x157000_4, x157001_4, x157002_4, x157003_4⟩ : S39) [.int .i64 x157000_4, .int .i64 x157001_4, .int .i64 x157002_4, .int .i64 x157003_4] (fun k_ => (w.heap.size ≤ k_) ∧ k_ ≠ gb156) (fun _ => False) rfl rfl ?aP (fun _ hk => hk.elim) ?aF ?aO ?aB ?aS ?aL ?_; (case aP => exact k39_mkM _ _ _ (⟨x157000_4, x157001_4, x157002_4, x157003_4⟩ : S39)); (case aB => exact (by repeat (first | (with_reducible first | exact HB.out | apply below_alloc | apply pw_below_drewN | apply below_drew1 | refine below_set ?_ GE124.out | refine below_set ?_ GE155.out | refine below_set ?_ GE156.out) | exact HB.out))); (case aF => exact (fun k_ hk => ⟨(Nat.le_trans (below_size (by repeat (first | (with_reducible first | exact HB.out | apply below_alloc | apply pw_below_drewN | apply below_drew1 | refine below_set ?_ GE124.out | refine below_set ?_ GE155.out | refine below_set ?_ GE156.out) | exact HB.out))) hk), Kd.freshB (g := gb156) (o := .cells #[.int .i64 x157000_4, .int .i64 x157001_4, .int .i64 x157002_4, .int .i64 x157003_4] 39 (0, 0)) (by (with_reducible repeat (first | refine blk_drewN ?_ _ | refine blk_drew ?_ | refine blk_alloc ?_ _)); exact BK156.out) k_ hk⟩)); (case aO => exact (by (with_reducible repeat (first | apply Kd.R_alloc | apply Kd.R_drewN | apply Kd.R_drew)); exact HO_156000.out)); (case aS => exact (below_size (by repeat (first | (with_reducible first | exact HB.out | apply below_alloc | apply pw_below_drewN | apply below_drew1 | refine below_set ?_ GE124.out | refine below_set ?_ GE155.out | refine below_set ?_ GE156.out) | exact HB.out)))); (case aL => have := LMc120.out; omega); intro v158 w126 ho hb hg hat; rw [← Ny157.out] at ho; have n0_ := Aside0.mk (Kd.V_afterv (ok := (fun k_ => ((P0_ k_ ∨ P1_ k_) ∨ w.heap.size ≤ k_) ∧ some k_ ≠ (v153 : Value).ownBlock ∧ k_ ≠ gb124 ∧ k_ ≠ gb155 ∧ k_ ≠ gb156)) (by (with_reducible repeat (first | apply Kd.V_alloc | apply Kd.V_drewN | apply Kd.V_drew)); exact Kd.V_mono HO_6.out (fun _ hk => ⟨⟨hk.1, ⟨hk.2.1, ⟨hk.2.2.2.1, ⟨hk.2.2.2.2.1, hk.2.2.2.2.2⟩⟩⟩⟩, hk.2.2.1⟩)) hg hat); have n1_ := Aside0.mk (Kd.V_afterv (ok := (fun k_ => ((P0_ k_ ∨ P1_ k_) ∨ w.heap.size ≤ k_) ∧ some k_ ≠ (v153 : Value).ownBlock ∧ k_ ≠ gb124 ∧ k_ ≠ gb155 ∧ k_ ≠ gb156)) (by (with_reducible repeat (first | apply Kd.V_alloc | apply Kd.V_drewN | apply Kd.V_drew)); exact Kd.V_mono HO_7.out (fun _ hk => ⟨⟨hk.1, ⟨hk.2.1, ⟨hk.2.2.2.1, ⟨hk.2.2.2.2.1, hk.2.2.2.2.2⟩⟩⟩⟩, hk.2.2.1⟩)) hg hat); have n2_ := Aside0.mk (Kd.S_over' (by (with_reducible repeat (first | apply Kd.S_alloc | apply Kd.S_drewN | apply Kd.S_drew)); exact HO_8.out) (Kd.R_typed (by (with_reducible repeat (first | apply Kd.R_alloc | apply Kd.R_drewN | apply Kd.R_drew)); exact HO_156000.out)) (by decide) hg); have n3_ := Aside0.mk (blk_grown (g := gb124) (o := .cells #[.int .i64 x125000_2] 3 (0, 0)) (by (with_reducible repeat (first | refine blk_drewN ?_ _ | refine blk_drew ?_ | refine blk_alloc ?_ _)); exact BK124.out) hg (Kd.R_ne HO_156000.out BK124.out (by decide))); have n4_ := Aside0.mk (blk_grown (g := gb155) (o := .cells #[u156000] 34 (0, 0)) (by (with_reducible repeat (first | refine blk_drewN ?_ _ | refine blk_drew ?_ | refine blk_alloc ?_ _)); exact BK155.out) hg (Kd.R_ne HO_156000.out BK155.out (by decide))); have n5_ := Aside0.mk (blk_grown (g := gb156) (o := .cells #[.int .i64 x157000_4, .int .i64 x157001_4, .int .i64 x157002_4, .int .i64 x157003_4] 39 (0, 0)) (by (with_reducible repeat (first | refine blk_drewN ?_ _ | refine blk_drew ?_ | refine blk_alloc ?_ _)); exact BK156.out) hg (Kd.R_away HO_156000.out (fun _ hk => hk.2))); have n6_ := Aside0.mk (hb); have n7_ := Aside0.mk (ho); clear HO_6; clear HO_7; clear HO_8; clear BK124; clear BK155; clear BK156; clear HB; clear HO_156000; have HO_6 := n0_; have HO_7 := n1_; have HO_8 := n2_; have BK124 := n3_; have BK155 := n4_; have BK156 := n5_; have HB := n6_; have HO159 := n7_; clear n0_ n1_ n2_ n3_ n4_ n5_ n6_ n7_; clear ho hb hg hat; obtain ⟨Ao127, co127, eo127⟩ := Kd.R_slice HO159.out; subst eo127; have hcz128_0 : w126.cell? ⟨gb155, 0, none⟩ = some (u156000) := (blk_cell BK155.out 0).trans rfl; have hfz128_0 := blk_frozen BK155.out 0; have hcz129_0 : w126.cell? ⟨gb124, 0, none⟩ = some (.int .i64 x125000_2) := (blk_cell BK124.out 0).trans rfl; have hfz129_0 := blk_frozen BK124.out 0; have hcz130_0 : w126.cell? ⟨gb156, 0, none⟩ = some (.int .i64 x157000_4) := (blk_cell BK156.out 0).trans rfl; have hcz130_1 : w126.cell? ⟨gb156, 1, none⟩ = some (.int .i64 x157001_4) := (blk_cell BK156.out 1).trans rfl; have hcz130_2 : w126.cell? ⟨gb156, 2, none⟩ = some (.int .i64 x157002_4) := (blk_cell BK156.out 2).trans rfl; have hcz130_3 : w126.cell? ⟨gb156, 3, none⟩ = some (.int .i64 x157003_4) := (blk_cell BK156.out 3).trans rfl; have hfz130_0 := blk_frozen BK156.out 0; have hfz130_1 := blk_frozen BK156.out 1; have hfz130_2 := blk_frozen BK156.out 2; have hfz130_3 := blk_frozen BK156.out 3) | go_in); try go_wp2_with (first | ((with_reducible refine gate_builtin (b := .append) (xs := #[.tmp 13, .tmp 15]) rfl ?_); (try (refine gate_guard (by rfl) ?_; dsimp only)); at_builtin; refine Kd.R_append k39 (w0 := w) w.heap.size rfl (.tmp 13) (.tmp 15) 34 39 (.agg #[(.int .i64 0), (.int .i64 0), (.int .i64 0), (.int .i64 0)]) 32 rfl Try.underlying34 info39 rfl (by decide) (by omega) u156000 x156000_4 (⟨x157000_4, x157001_4, x157002_4, x157003_4⟩ : S39) [.int .i64 x157000_4, .int .i64 x157001_4, .int .i64 x157002_4, .int .i64 x157003_4] (fun k_ => (w.heap.size ≤ k_) ∧ k_ ≠ gb156) (fun _ => False) rfl rfl ?aP (fun _ hk => hk.elim) ?aF ?aO ?aB ?aS ?aL ?_; (case aP => exact k39_mkM _ _ _ (⟨x157000_4, x157001_4, x157002_4, x157003_4⟩ : S39)); (case aB => exact (by repeat (first | (with_reducible first | exact HB.out | apply below_alloc | apply pw_below_drewN | apply below_drew1 | refine below_set ?_ GE124.out | refine below_set ?_ GE155.out | refine below_set ?_ GE156.out) | exact HB.out))); (case aF => exact (fun k_ hk => ⟨(Nat.le_trans (below_size (by repeat (first | (with_reducible first | exact HB.out | apply below_alloc | apply pw_below_drewN | apply below_drew1 | refine below_set ?_ GE124.out | refine below_set ?_ GE155.out | refine below_set ?_ GE156.out) | exact HB.out))) hk), Kd.freshB (g := gb156) (o := .cells #[.int .i64 x157000_4, .int .i64 x157001_4, .int .i64 x157002_4, .int .i64 x157003_4] 39 (0, 0)) (by (with_reducible repeat (first | refine blk_drewN ?_ _ | refine blk_drew ?_ | refine blk_alloc ?_ _)); exact BK156.out) k_ hk⟩)); (case aO => exact (by (with_reducible repeat (first | apply Kd.R_alloc | apply Kd.R_drewN | apply Kd.R_drew)); exact HO_156000.out)); (case aS => exact (below_size (by repeat (first | (with_reducible first | exact HB.out | apply below_alloc | apply pw_below_drewN | apply below_drew1 | refine below_set ?_ GE124.out | refine below_set ?_ GE155.out | refine below_set ?_ GE156.out) | exact HB.out)))); (case aL => have := LMc120.out; omega); intro v158 w126 ho hb hg hat; rw [← Ny157.out] at ho; have n0_ := Aside0.mk (Kd.V_afterv (ok := (fun k_ => ((P0_ k_ ∨ P1_ k_) ∨ w.heap.size ≤ k_) ∧ some k_ ≠ (v153 : Value).ownBlock ∧ k_ ≠ gb124 ∧ k_ ≠ gb155 ∧ k_ ≠ gb156)) (by (with_reducible repeat (first | apply Kd.V_alloc | apply Kd.V_drewN | apply Kd.V_drew)); exact Kd.V_mono HO_6.out (fun _ hk => ⟨⟨hk.1, ⟨hk.2.1, ⟨hk.2.2.2.1, ⟨hk.2.2.2.2.1, hk.2.2.2.2.2⟩⟩⟩⟩, hk.2.2.1⟩)) hg hat); have n1_ := Aside0.mk (Kd.V_afterv (ok := (fun k_ => ((P0_ k_ ∨ P1_ k_) ∨ w.heap.size ≤ k_) ∧ some k_ ≠ (v153 : Value).ownBlock ∧ k_ ≠ gb124 ∧ k_ ≠ gb155 ∧ k_ ≠ gb156)) (by (with_reducible repeat (first | apply Kd.V_alloc | apply Kd.V_drewN | apply Kd.V_drew)); exact Kd.V_mono HO_7.out (fun _ hk => ⟨⟨hk.1, ⟨hk.2.1, ⟨hk.2.2.2.1, ⟨hk.2.2.2.2.1, hk.2.2.2.2.2⟩⟩⟩⟩, hk.2.2.1⟩)) hg hat); have n2_ := Aside0.mk (Kd.S_over' (by (with_reducible repeat (first | apply Kd.S_alloc | apply Kd.S_drewN | apply Kd.S_drew)); exact HO_8.out) (Kd.R_typed (by (with_reducible repeat (first | apply Kd.R_alloc | apply Kd.R_drewN | apply Kd.R_drew)); exact HO_156000.out)) (by decide) hg); have n3_ := Aside0.mk (blk_grown (g := gb124) (o := .cells #[.int .i64 x125000_2] 3 (0, 0)) (by (with_reducible repeat (first | refine blk_drewN ?_ _ | refine blk_drew ?_ | refine blk_alloc ?_ _)); exact BK124.out) hg (Kd.R_ne HO_156000.out BK124.out (by decide))); have n4_ := Aside0.mk (blk_grown (g := gb155) (o := .cells #[u156000] 34 (0, 0)) (by (with_reducible repeat (first | refine blk_drewN ?_ _ | refine blk_drew ?_ | refine blk_alloc ?_ _)); exact BK155.out) hg (Kd.R_ne HO_156000.out BK155.out (by decide))); have n5_ := Aside0.mk (blk_grown (g := gb156) (o := .cells #[.int .i64 x157000_4, .int .i64 x157001_4, .int .i64 x157002_4, .int .i64 x157003_4] 39 (0, 0)) (by (with_reducible repeat (first | refine blk_drewN ?_ _ | refine blk_drew ?_ | refine blk_alloc ?_ _)); exact BK156.out) hg (Kd.R_away HO_156000.out (fun _ hk => hk.2))); have n6_ := Aside0.mk (hb); have n7_ := Aside0.mk (ho); clear HO_6; clear HO_7; clear HO_8; clear BK124; clear BK155; clear BK156; clear HB; clear HO_156000; have HO_6 := n0_; have HO_7 := n1_; have HO_8 := n2_; have BK124 := n3_; have BK155 := n4_; have BK156 := n5_; have HB := n6_; have HO159 := n7_; clear n0_ n1_ n2_ n3_ n4_ n5_ n6_ n7_; clear ho hb hg hat; obtain ⟨Ao127, co127, eo127⟩ := Kd.R_slice HO159.out; subst eo127; have hcz128_0 : w126.cell? ⟨gb155, 0, none⟩ = some (u156000) := (blk_cell BK155.out 0).trans rfl; have hfz128_0 := blk_frozen BK155.out 0; have hcz129_0 : w126.cell? ⟨gb124, 0, none⟩ = some (.int .i64 x125000_2) := (blk_cell BK124.out 0).trans rfl; have hfz129_0 := blk_frozen BK124.out 0; have hcz130_0 : w126.cell? ⟨gb156, 0, none⟩ = some (.int .i64 x157000_4) := (blk_cell BK156.out 0).trans rfl; have hcz130_1 : w126.cell? ⟨gb156, 1, none⟩ = some (.int .i64 x157001_4) := (blk_cell BK156.out 1).trans rfl; have hcz130_2 : w126.cell? ⟨gb156, 2, none⟩ = some (.int .i64 x157002_4) := (blk_cell BK156.out 2).trans rfl; have hcz130_3 : w126.cell? ⟨gb156, 3, none⟩ = some (.int .i64 x157003_4) := (blk_cell BK156.out 3).trans rfl; have hfz130_0 := blk_frozen BK156.out 0; have hfz130_1 := blk_frozen BK156.out 1; have hfz130_2 := blk_frozen BK156.out 2; have hfz130_3 := blk_frozen BK156.out 3) | go_in))
                  (try (refine bodyPost_end (results_none rfl _ _ _) rfl ?_; (try dsimp only); (try go_wp2); repeat (go_quiet (fail); try go_wp2)))
                  go_ret
                  exact ⟨_, by first | rfl | (simp [errW_none, errW_some] <;> rfl) | (simp [*, errW_none, errW_some] <;> rfl), by (with_reducible repeat (first | apply Kd.R_alloc | apply Kd.R_drewN | apply Kd.R_drew)); exact Kd.R_mono (Kd.R_far (p := ⟨gb156, 3, none⟩) (Kd.R_far (p := ⟨gb156, 2, none⟩) (Kd.R_far (p := ⟨gb156, 1, none⟩) (Kd.R_far (p := ⟨gb156, 0, none⟩) (Kd.R_far (p := ⟨gb155, 0, none⟩) (Kd.R_mono (Kd.R_types HO159.out BK155.out (by decide)) (fun k_ hk => (⟨hk, hk.1.2⟩ : _ ∧ k_ ≠ gb156))) (fun _ hk => hk.1.2) (.slice Ao127 y157.length co127)) (fun _ hk => hk.2) (.int .i64 (wrap64 (x125000_2 + x12_4)))) (fun _ hk => hk.2) (.int .i64 0)) (fun _ hk => hk.2) (.int .i64 (wrap64 (x125000_2 + x13_4)))) (fun _ hk => hk.2) (.int .i64 0)) (fun _ hk => hk.1.1.1), by repeat (first | (with_reducible first | exact HB.out | apply below_alloc | apply pw_below_drewN | apply below_drew1 | refine below_set ?_ GE124.out | refine below_set ?_ GE155.out | refine below_set ?_ GE156.out) | exact HB.out)⟩
                 ·rw [if_neg c120] at H
                  exact absurd H (by simp)
                ·rw [if_neg c119] at H
                 have c119b0 : decide (0 < (wrap64 (x157001_4 + x157003_4))) = false := decide_eq_false c119
                 clear c119
                 obtain rfl := Option.some.inj H
                 have hnb131 := NB156_124.out
                 have hnc131 := NB124_156.out
                 have hnb132 := NB156_155.out
                 have hnc132 := NB155_156.out
                 have hcz133_0 : wc.cell? ⟨gb156, 0, none⟩ = some (.int .i64 x157000_4) := (blk_cell BK156.out 0).trans rfl
                 have hcz133_1 : wc.cell? ⟨gb156, 1, none⟩ = some (.int .i64 x157001_4) := (blk_cell BK156.out 1).trans rfl
                 have hcz133_2 : wc.cell? ⟨gb156, 2, none⟩ = some (.int .i64 x157002_4) := (blk_cell BK156.out 2).trans rfl
                 have hcz133_3 : wc.cell? ⟨gb156, 3, none⟩ = some (.int .i64 x157003_4) := (blk_cell BK156.out 3).trans rfl
                 have hfz133_0 := blk_frozen BK156.out 0
                 have hfz133_1 := blk_frozen BK156.out 1
                 have hfz133_2 := blk_frozen BK156.out 2
                 have hfz133_3 := blk_frozen BK156.out 3
                 have hnb134 := NB124_155.out
                 have hnc134 := NB155_124.out
                 have hcz135_0 : wc.cell? ⟨gb124, 0, none⟩ = some (.int .i64 x125000_2) := (blk_cell BK124.out 0).trans rfl
                 have hfz135_0 := blk_frozen BK124.out 0
                 have hcz136_0 : wc.cell? ⟨gb155, 0, none⟩ = some (u156000) := (blk_cell BK155.out 0).trans rfl
                 have hfz136_0 := blk_frozen BK155.out 0
                 go_wp2
                 repeat (go_quiet (fail); try go_wp2)
                 (try (refine bodyPost_end (results_none rfl _ _ _) rfl ?_; (try dsimp only); (try go_wp2); repeat (go_quiet (fail); try go_wp2)))
                 go_ret
                 exact ⟨_, by first | rfl | (simp [errW_none, errW_some] <;> rfl) | (simp [*, errW_none, errW_some] <;> rfl), by (with_reducible repeat (first | apply Kd.R_alloc | apply Kd.R_drewN | apply Kd.R_drew)); exact Kd.R_mono (Kd.R_far (p := ⟨gb156, 3, none⟩) (Kd.R_far (p := ⟨gb156, 2, none⟩) (Kd.R_far (p := ⟨gb156, 1, none⟩) (Kd.R_far (p := ⟨gb156, 0, none⟩) (Kd.R_mono HO_156000.out (fun k_ hk => (⟨hk, hk.2⟩ : _ ∧ k_ ≠ gb156))) (fun _ hk => hk.2) (.int .i64 (wrap64 (x125000_2 + x12_4)))) (fun _ hk => hk.2) (.int .i64 0)) (fun _ hk => hk.2) (.int .i64 (wrap64 (x125000_2 + x13_4)))) (fun _ hk => hk.2) (.int .i64 0)) (fun _ hk => hk.1.1), by repeat (first | (with_reducible first | exact HB.out | apply below_alloc | apply pw_below_drewN | apply below_drew1 | refine below_set ?_ GE124.out | refine below_set ?_ GE155.out | refine below_set ?_ GE156.out) | exact HB.out)⟩
     ·rw [if_neg c17] at H
      exact absurd H (by simp)
    ·rw [if_neg c15] at H
     exact absurd H (by simp)
   ·rw [if_neg c14] at H
    exact absurd H (by simp)

end Go.Proofs.Ytokgkhndhlcfpaa.PHunksOne
