-- x
import Derived.Test.YtokgkhndhlcfpaaPHunksChangesx0
import Derived.Test.YtokgkhndhlcfpaaXSq
import Derived.Test.YtokgkhndhlcfpaaPHunksChangesx9
namespace Go.Proofs.Ytokgkhndhlcfpaa.PHunksChanges
open Go.RowKit Go.Proofs.Ytokgkhndhlcfpaa.X Go.Proofs.YtokgkhndhlcfpaaW.PrintWords Go.Proofs.YtokgkhndhlcfpaaW.PrintLast Go.Proofs.YtokgkhndhlcfpaaW.PrintMore
attribute [local go_sem] max2_int min2_int max_two min_two max_three min_three max_four min_four   -- for this text's walks alone
set_option linter.unusedVariables false
set_option linter.unusedSimpArgs false

/-! ### redpenref18_Changes: function 21 -/
mutual
def redpenref18_Changes.j1 : Nat → List ByteArray → List ByteArray → Int → Option ((List (S40)))
 | 0, _, _, _ => none
 | k + 1, x0, x1, x5 => redpenref18_Changes.l1 k x0 x1 x5 0
def redpenref18_Changes.j3 : Nat → List ByteArray → List ByteArray → Int → Int → Option ((List (S40)))
 | 0, _, _, _, _ => none
 | k + 1, x0, x1, x5, x6 => if 0 ≤ x5 then (if x5 ≤ (wrap64 ((x0.length : Int) - x6)) then (if (wrap64 ((x0.length : Int) - x6)) ≤ (x0.length : Int) then ((some ((x0.take ((wrap64 ((x0.length : Int) - x6)) : Int).toNat).drop (x5 : Int).toNat : List ByteArray)).bind fun y357 => (if x5 ≤ (wrap64 ((x1.length : Int) - x6)) then (if (wrap64 ((x1.length : Int) - x6)) ≤ (x1.length : Int) then ((some ((x1.take ((wrap64 ((x1.length : Int) - x6)) : Int).toNat).drop (x5 : Int).toNat : List ByteArray)).bind fun y361 => (if (y357.length : Int) > 1000 then (redpenref18_Changes.j4 k x5 y357 y361 true) else (redpenref18_Changes.j4 k x5 y357 y361 (decide ((y361.length : Int) > 1000))))) else (none)) else (none))) else (none)) else (none)) else (none)
def redpenref18_Changes.j4 : Nat → Int → List ByteArray → List ByteArray → Bool → Option ((List (S40)))
 | 0, _, _, _, _ => none
 | k + 1, x5, x7, x8, x92 => if x92 = true then (some (([(⟨x5, (x7.length : Int), x5, (x8.length : Int)⟩ : S40)] : List (S40)))) else (redpenref18_Changes.l2 k x5 x7 x8 ([] : List (S40)) 0 0)
def redpenref18_Changes.l2 : Nat → Int → List ByteArray → List ByteArray → List (S40) → Int → Int → Option ((List (S40)))
 | 0, _, _, _, _, _, _ => none
 | k + 1, x5, x7, x8, x9, x10, x11 => if x10 < (x7.length : Int) then (redpenref18_Changes.j6 k x5 x7 x8 x9 x10 x11 true) else (redpenref18_Changes.j6 k x5 x7 x8 x9 x10 x11 (decide (x11 < (x8.length : Int))))
def redpenref18_Changes.j6 : Nat → Int → List ByteArray → List ByteArray → List (S40) → Int → Int → Bool → Option ((List (S40)))
 | 0, _, _, _, _, _, _, _ => none
 | k + 1, x5, x7, x8, x9, x10, x11, x110 => if x110 = true then (if x10 < (x7.length : Int) then (if x11 < (x8.length : Int) then (if 0 ≤ x10 then (if 0 ≤ x11 then (redpenref18_Changes.j7 k x5 x7 x8 x9 x10 x11 ((rdOf ByteArray.empty x7 x10).toList == (rdOf ByteArray.empty x8 x11).toList)) else (none)) else (none)) else (redpenref18_Changes.j7 k x5 x7 x8 x9 x10 x11 false)) else (redpenref18_Changes.j7 k x5 x7 x8 x9 x10 x11 false)) else (some x9)
def redpenref18_Changes.j7 : Nat → Int → List ByteArray → List ByteArray → List (S40) → Int → Int → Bool → Option ((List (S40)))
 | 0, _, _, _, _, _, _, _ => none
 | k + 1, x5, x7, x8, x9, x10, x11, x131 => if x131 = true then (redpenref18_Changes.l2 k x5 x7 x8 x9 (wrap64 (x10 + 1)) (wrap64 (x11 + 1))) else (redpenref18_Changes.l3 k x5 x7 x8 x9 x10 x11 (wrap64 (x5 + x10)) 0 (wrap64 (x5 + x11)) 0)
def redpenref18_Changes.l3 : Nat → Int → List ByteArray → List ByteArray → List (S40) → Int → Int → Int → Int → Int → Int → Option ((List (S40)))
 | 0, _, _, _, _, _, _, _, _, _, _ => none
 | k + 1, x5, x7, x8, x9, x10, x11, x371000, x371001, x371002, x371003 => if x10 < (x7.length : Int) then (redpenref18_Changes.j9 k x5 x7 x8 x9 x10 x11 true x371000 x371001 x371002 x371003) else (redpenref18_Changes.j9 k x5 x7 x8 x9 x10 x11 (decide (x11 < (x8.length : Int))) x371000 x371001 x371002 x371003)
def redpenref18_Changes.j9 : Nat → Int → List ByteArray → List ByteArray → List (S40) → Int → Int → Bool → Int → Int → Int → Int → Option ((List (S40)))
 | 0, _, _, _, _, _, _, _, _, _, _, _ => none
 | k + 1, x5, x7, x8, x9, x10, x11, x152, x371000, x371001, x371002, x371003 => if x152 = true then (if x10 < (x7.length : Int) then (if x11 < (x8.length : Int) then (if 0 ≤ x10 then (if 0 ≤ x11 then (redpenref18_Changes.j10 k x5 x7 x8 x9 x10 x11 ((rdOf ByteArray.empty x7 x10).toList == (rdOf ByteArray.empty x8 x11).toList) x371000 x371001 x371002 x371003) else (none)) else (none)) else (redpenref18_Changes.j10 k x5 x7 x8 x9 x10 x11 false x371000 x371001 x371002 x371003)) else (redpenref18_Changes.j10 k x5 x7 x8 x9 x10 x11 false x371000 x371001 x371002 x371003)) else (if x9.length < 4398046511104 then (redpenref18_Changes.l2 k x5 x7 x8 (x9 ++ [(⟨x371000, x371001, x371002, x371003⟩ : S40)]) x10 x11) else (none))
def redpenref18_Changes.j10 : Nat → Int → List ByteArray → List ByteArray → List (S40) → Int → Int → Bool → Int → Int → Int → Int → Option ((List (S40)))
 | 0, _, _, _, _, _, _, _, _, _, _, _ => none
 | k + 1, x5, x7, x8, x9, x10, x11, x173, x371000, x371001, x371002, x371003 => if x173 = true then (if x9.length < 4398046511104 then (redpenref18_Changes.l2 k x5 x7 x8 (x9 ++ [(⟨x371000, x371001, x371002, x371003⟩ : S40)]) x10 x11) else (none)) else (if x10 < (x7.length : Int) then (if x11 = (x8.length : Int) then (redpenref18_Changes.l3 k x5 x7 x8 x9 (wrap64 (x10 + 1)) x11 x371000 (wrap64 (x371001 + 1)) x371002 x371003) else (if 0 ≤ (wrap64 (x10 + 1)) then (if (wrap64 (x10 + 1)) ≤ (x7.length : Int) then (if 0 ≤ x11 then (if x11 ≤ (x8.length : Int) then ((redpenref18_Common.f k (x7.drop ((wrap64 (x10 + 1)) : Int).toNat) (x8.drop (x11 : Int).toNat)).bind fun t381 => (if 0 ≤ x10 then (if x10 ≤ (x7.length : Int) then (if 0 ≤ (wrap64 (x11 + 1)) then (if (wrap64 (x11 + 1)) ≤ (x8.length : Int) then ((redpenref18_Common.f k (x7.drop (x10 : Int).toNat) (x8.drop ((wrap64 (x11 + 1)) : Int).toNat)).bind fun t384 => (if t381 ≥ t384 then (redpenref18_Changes.l3 k x5 x7 x8 x9 (wrap64 (x10 + 1)) x11 x371000 (wrap64 (x371001 + 1)) x371002 x371003) else (redpenref18_Changes.l3 k x5 x7 x8 x9 x10 (wrap64 (x11 + 1)) x371000 x371001 x371002 (wrap64 (x371003 + 1))))) else (none)) else (none)) else (none)) else (none))) else (none)) else (none)) else (none)) else (none))) else (redpenref18_Changes.l3 k x5 x7 x8 x9 x10 (wrap64 (x11 + 1)) x371000 x371001 x371002 (wrap64 (x371003 + 1))))
def redpenref18_Changes.l1 : Nat → List ByteArray → List ByteArray → Int → Int → Option ((List (S40)))
 | 0, _, _, _, _ => none
 | k + 1, x0, x1, x5, x6 => if x6 < (wrap64 ((x0.length : Int) - x5)) then (if x6 < (wrap64 ((x1.length : Int) - x5)) then (if 0 ≤ (wrap64 ((wrap64 ((x0.length : Int) - 1)) - x6)) then (if (wrap64 ((wrap64 ((x0.length : Int) - 1)) - x6)) < (x0.length : Int) then (if 0 ≤ (wrap64 ((wrap64 ((x1.length : Int) - 1)) - x6)) then (if (wrap64 ((wrap64 ((x1.length : Int) - 1)) - x6)) < (x1.length : Int) then (if (rdOf ByteArray.empty x0 (wrap64 ((wrap64 ((x0.length : Int) - 1)) - x6))).toList = (rdOf ByteArray.empty x1 (wrap64 ((wrap64 ((x1.length : Int) - 1)) - x6))).toList then (redpenref18_Changes.l1 k x0 x1 x5 (wrap64 (x6 + 1))) else (redpenref18_Changes.j3 k x0 x1 x5 x6)) else (none)) else (none)) else (none)) else (none)) else (redpenref18_Changes.j3 k x0 x1 x5 x6)) else (redpenref18_Changes.j3 k x0 x1 x5 x6)
def redpenref18_Changes.l0 : Nat → List ByteArray → List ByteArray → Int → Option ((List (S40)))
 | 0, _, _, _ => none
 | k + 1, x0, x1, x5 => if x5 < (x0.length : Int) then (if x5 < (x1.length : Int) then (if 0 ≤ x5 then (if (rdOf ByteArray.empty x0 x5).toList = (rdOf ByteArray.empty x1 x5).toList then (redpenref18_Changes.l0 k x0 x1 (wrap64 (x5 + 1))) else (redpenref18_Changes.j1 k x0 x1 x5)) else (none)) else (redpenref18_Changes.j1 k x0 x1 x5)) else (redpenref18_Changes.j1 k x0 x1 x5)
end
def redpenref18_Changes.f (k : Nat) (l0 : List ByteArray) (l1 : List ByteArray) : Option ((List (S40))) := redpenref18_Changes.l0 k l0 l1 0
theorem redpenref18_Changes.mono_l : ∀ k, (∀ y0 y1 y2, LeO (redpenref18_Changes.j1 k y0 y1 y2) (redpenref18_Changes.j1 (k + 1) y0 y1 y2)) ∧ (∀ y0 y1 y2 y3, LeO (redpenref18_Changes.j3 k y0 y1 y2 y3) (redpenref18_Changes.j3 (k + 1) y0 y1 y2 y3)) ∧ (∀ y0 y1 y2 y3, LeO (redpenref18_Changes.j4 k y0 y1 y2 y3) (redpenref18_Changes.j4 (k + 1) y0 y1 y2 y3)) ∧ (∀ y0 y1 y2 y3 y4 y5, LeO (redpenref18_Changes.l2 k y0 y1 y2 y3 y4 y5) (redpenref18_Changes.l2 (k + 1) y0 y1 y2 y3 y4 y5)) ∧ (∀ y0 y1 y2 y3 y4 y5 y6, LeO (redpenref18_Changes.j6 k y0 y1 y2 y3 y4 y5 y6) (redpenref18_Changes.j6 (k + 1) y0 y1 y2 y3 y4 y5 y6)) ∧ (∀ y0 y1 y2 y3 y4 y5 y6, LeO (redpenref18_Changes.j7 k y0 y1 y2 y3 y4 y5 y6) (redpenref18_Changes.j7 (k + 1) y0 y1 y2 y3 y4 y5 y6)) ∧ (∀ y0 y1 y2 y3 y4 y5 y6 y7 y8 y9, LeO (redpenref18_Changes.l3 k y0 y1 y2 y3 y4 y5 y6 y7 y8 y9) (redpenref18_Changes.l3 (k + 1) y0 y1 y2 y3 y4 y5 y6 y7 y8 y9)) ∧ (∀ y0 y1 y2 y3 y4 y5 y6 y7 y8 y9 y10, LeO (redpenref18_Changes.j9 k y0 y1 y2 y3 y4 y5 y6 y7 y8 y9 y10) (redpenref18_Changes.j9 (k + 1) y0 y1 y2 y3 y4 y5 y6 y7 y8 y9 y10)) ∧ (∀ y0 y1 y2 y3 y4 y5 y6 y7 y8 y9 y10, LeO (redpenref18_Changes.j10 k y0 y1 y2 y3 y4 y5 y6 y7 y8 y9 y10) (redpenref18_Changes.j10 (k + 1) y0 y1 y2 y3 y4 y5 y6 y7 y8 y9 y10)) ∧ (∀ y0 y1 y2 y3, LeO (redpenref18_Changes.l1 k y0 y1 y2 y3) (redpenref18_Changes.l1 (k + 1) y0 y1 y2 y3)) ∧ (∀ y0 y1 y2, LeO (redpenref18_Changes.l0 k y0 y1 y2) (redpenref18_Changes.l0 (k + 1) y0 y1 y2))
 | 0 => ⟨fun _ _ _ r h => by simp [redpenref18_Changes.j1] at h, fun _ _ _ _ r h => by simp [redpenref18_Changes.j3] at h, fun _ _ _ _ r h => by simp [redpenref18_Changes.j4] at h, fun _ _ _ _ _ _ r h => by simp [redpenref18_Changes.l2] at h, fun _ _ _ _ _ _ _ r h => by simp [redpenref18_Changes.j6] at h, fun _ _ _ _ _ _ _ r h => by simp [redpenref18_Changes.j7] at h, fun _ _ _ _ _ _ _ _ _ _ r h => by simp [redpenref18_Changes.l3] at h, fun _ _ _ _ _ _ _ _ _ _ _ r h => by simp [redpenref18_Changes.j9] at h, fun _ _ _ _ _ _ _ _ _ _ _ r h => by simp [redpenref18_Changes.j10] at h, fun _ _ _ _ r h => by simp [redpenref18_Changes.l1] at h, fun _ _ _ r h => by simp [redpenref18_Changes.l0] at h⟩
 | k + 1 => by
  obtain ⟨ih0, ih1, ih2, ih3, ih4, ih5, ih6, ih7, ih8, ih9, ih10⟩ := redpenref18_Changes.mono_l k
  refine ⟨?_, ?_, ?_, ?_, ?_, ?_, ?_, ?_, ?_, ?_, ?_⟩
  ·intro y0 y1 y2
   unfold redpenref18_Changes.j1
   repeat' first
   | (with_reducible exact ih0 _ _ _)
   | (with_reducible exact ih1 _ _ _ _)
   | (with_reducible exact ih2 _ _ _ _)
   | (with_reducible exact ih3 _ _ _ _ _ _)
   | (with_reducible exact ih4 _ _ _ _ _ _ _)
   | (with_reducible exact ih5 _ _ _ _ _ _ _)
   | (with_reducible exact ih6 _ _ _ _ _ _ _ _ _ _)
   | (with_reducible exact ih7 _ _ _ _ _ _ _ _ _ _ _)
   | (with_reducible exact ih8 _ _ _ _ _ _ _ _ _ _ _)
   | (with_reducible exact ih9 _ _ _ _)
   | (with_reducible exact ih10 _ _ _)
   | (with_reducible exact redpenref18_Common.mono _ _ _)
   | (with_reducible exact LeO.refl _)
   | (with_reducible exact LeO.none _)
   | (with_reducible refine LeO.ite ?_ ?_)
   | (with_reducible refine LeO.bind ?_ (fun _ => ?_))
   | exact ih0 _ _ _
   | exact ih1 _ _ _ _
   | exact ih2 _ _ _ _
   | exact ih3 _ _ _ _ _ _
   | exact ih4 _ _ _ _ _ _ _
   | exact ih5 _ _ _ _ _ _ _
   | exact ih6 _ _ _ _ _ _ _ _ _ _
   | exact ih7 _ _ _ _ _ _ _ _ _ _ _
   | exact ih8 _ _ _ _ _ _ _ _ _ _ _
   | exact ih9 _ _ _ _
   | exact ih10 _ _ _
   | exact redpenref18_Common.mono _ _ _
   | exact LeO.none _
   | refine LeO.ite ?_ ?_
   | refine LeO.bind ?_ (fun _ => ?_)
  ·intro y0 y1 y2 y3
   unfold redpenref18_Changes.j3
   repeat' first
   | (with_reducible exact ih0 _ _ _)
   | (with_reducible exact ih1 _ _ _ _)
   | (with_reducible exact ih2 _ _ _ _)
   | (with_reducible exact ih3 _ _ _ _ _ _)
   | (with_reducible exact ih4 _ _ _ _ _ _ _)
   | (with_reducible exact ih5 _ _ _ _ _ _ _)
   | (with_reducible exact ih6 _ _ _ _ _ _ _ _ _ _)
   | (with_reducible exact ih7 _ _ _ _ _ _ _ _ _ _ _)
   | (with_reducible exact ih8 _ _ _ _ _ _ _ _ _ _ _)
   | (with_reducible exact ih9 _ _ _ _)
   | (with_reducible exact ih10 _ _ _)
   | (with_reducible exact redpenref18_Common.mono _ _ _)
   | (with_reducible exact LeO.refl _)
   | (with_reducible exact LeO.none _)
   | (with_reducible refine LeO.ite ?_ ?_)
   | (with_reducible refine LeO.bind ?_ (fun _ => ?_))
   | exact ih0 _ _ _
   | exact ih1 _ _ _ _
   | exact ih2 _ _ _ _
   | exact ih3 _ _ _ _ _ _
   | exact ih4 _ _ _ _ _ _ _
   | exact ih5 _ _ _ _ _ _ _
   | exact ih6 _ _ _ _ _ _ _ _ _ _
   | exact ih7 _ _ _ _ _ _ _ _ _ _ _
   | exact ih8 _ _ _ _ _ _ _ _ _ _ _
   | exact ih9 _ _ _ _
   | exact ih10 _ _ _
   | exact redpenref18_Common.mono _ _ _
   | exact LeO.none _
   | refine LeO.ite ?_ ?_
   | refine LeO.bind ?_ (fun _ => ?_)
  ·intro y0 y1 y2 y3
   unfold redpenref18_Changes.j4
   repeat' first
   | (with_reducible exact ih0 _ _ _)
   | (with_reducible exact ih1 _ _ _ _)
   | (with_reducible exact ih2 _ _ _ _)
   | (with_reducible exact ih3 _ _ _ _ _ _)
   | (with_reducible exact ih4 _ _ _ _ _ _ _)
   | (with_reducible exact ih5 _ _ _ _ _ _ _)
   | (with_reducible exact ih6 _ _ _ _ _ _ _ _ _ _)
   | (with_reducible exact ih7 _ _ _ _ _ _ _ _ _ _ _)
   | (with_reducible exact ih8 _ _ _ _ _ _ _ _ _ _ _)
   | (with_reducible exact ih9 _ _ _ _)
   | (with_reducible exact ih10 _ _ _)
   | (with_reducible exact redpenref18_Common.mono _ _ _)
   | (with_reducible exact LeO.refl _)
   | (with_reducible exact LeO.none _)
   | (with_reducible refine LeO.ite ?_ ?_)
   | (with_reducible refine LeO.bind ?_ (fun _ => ?_))
   | exact ih0 _ _ _
   | exact ih1 _ _ _ _
   | exact ih2 _ _ _ _
   | exact ih3 _ _ _ _ _ _
   | exact ih4 _ _ _ _ _ _ _
   | exact ih5 _ _ _ _ _ _ _
   | exact ih6 _ _ _ _ _ _ _ _ _ _
   | exact ih7 _ _ _ _ _ _ _ _ _ _ _
   | exact ih8 _ _ _ _ _ _ _ _ _ _ _
   | exact ih9 _ _ _ _
   | exact ih10 _ _ _
   | exact redpenref18_Common.mono _ _ _
   | exact LeO.none _
   | refine LeO.ite ?_ ?_
   | refine LeO.bind ?_ (fun _ => ?_)
  ·intro y0 y1 y2 y3 y4 y5
   unfold redpenref18_Changes.l2
   repeat' first
   | (with_reducible exact ih0 _ _ _)
   | (with_reducible exact ih1 _ _ _ _)
   | (with_reducible exact ih2 _ _ _ _)
   | (with_reducible exact ih3 _ _ _ _ _ _)
   | (with_reducible exact ih4 _ _ _ _ _ _ _)
   | (with_reducible exact ih5 _ _ _ _ _ _ _)
   | (with_reducible exact ih6 _ _ _ _ _ _ _ _ _ _)
   | (with_reducible exact ih7 _ _ _ _ _ _ _ _ _ _ _)
   | (with_reducible exact ih8 _ _ _ _ _ _ _ _ _ _ _)
   | (with_reducible exact ih9 _ _ _ _)
   | (with_reducible exact ih10 _ _ _)
   | (with_reducible exact redpenref18_Common.mono _ _ _)
   | (with_reducible exact LeO.refl _)
   | (with_reducible exact LeO.none _)
   | (with_reducible refine LeO.ite ?_ ?_)
   | (with_reducible refine LeO.bind ?_ (fun _ => ?_))
   | exact ih0 _ _ _
   | exact ih1 _ _ _ _
   | exact ih2 _ _ _ _
   | exact ih3 _ _ _ _ _ _
   | exact ih4 _ _ _ _ _ _ _
   | exact ih5 _ _ _ _ _ _ _
   | exact ih6 _ _ _ _ _ _ _ _ _ _
   | exact ih7 _ _ _ _ _ _ _ _ _ _ _
   | exact ih8 _ _ _ _ _ _ _ _ _ _ _
   | exact ih9 _ _ _ _
   | exact ih10 _ _ _
   | exact redpenref18_Common.mono _ _ _
   | exact LeO.none _
   | refine LeO.ite ?_ ?_
   | refine LeO.bind ?_ (fun _ => ?_)
  ·intro y0 y1 y2 y3 y4 y5 y6
   unfold redpenref18_Changes.j6
   repeat' first
   | (with_reducible exact ih0 _ _ _)
   | (with_reducible exact ih1 _ _ _ _)
   | (with_reducible exact ih2 _ _ _ _)
   | (with_reducible exact ih3 _ _ _ _ _ _)
   | (with_reducible exact ih4 _ _ _ _ _ _ _)
   | (with_reducible exact ih5 _ _ _ _ _ _ _)
   | (with_reducible exact ih6 _ _ _ _ _ _ _ _ _ _)
   | (with_reducible exact ih7 _ _ _ _ _ _ _ _ _ _ _)
   | (with_reducible exact ih8 _ _ _ _ _ _ _ _ _ _ _)
   | (with_reducible exact ih9 _ _ _ _)
   | (with_reducible exact ih10 _ _ _)
   | (with_reducible exact redpenref18_Common.mono _ _ _)
   | (with_reducible exact LeO.refl _)
   | (with_reducible exact LeO.none _)
   | (with_reducible refine LeO.ite ?_ ?_)
   | (with_reducible refine LeO.bind ?_ (fun _ => ?_))
   | exact ih0 _ _ _
   | exact ih1 _ _ _ _
   | exact ih2 _ _ _ _
   | exact ih3 _ _ _ _ _ _
   | exact ih4 _ _ _ _ _ _ _
   | exact ih5 _ _ _ _ _ _ _
   | exact ih6 _ _ _ _ _ _ _ _ _ _
   | exact ih7 _ _ _ _ _ _ _ _ _ _ _
   | exact ih8 _ _ _ _ _ _ _ _ _ _ _
   | exact ih9 _ _ _ _
   | exact ih10 _ _ _
   | exact redpenref18_Common.mono _ _ _
   | exact LeO.none _
   | refine LeO.ite ?_ ?_
   | refine LeO.bind ?_ (fun _ => ?_)
  ·intro y0 y1 y2 y3 y4 y5 y6
   unfold redpenref18_Changes.j7
   repeat' first
   | (with_reducible exact ih0 _ _ _)
   | (with_reducible exact ih1 _ _ _ _)
   | (with_reducible exact ih2 _ _ _ _)
   | (with_reducible exact ih3 _ _ _ _ _ _)
   | (with_reducible exact ih4 _ _ _ _ _ _ _)
   | (with_reducible exact ih5 _ _ _ _ _ _ _)
   | (with_reducible exact ih6 _ _ _ _ _ _ _ _ _ _)
   | (with_reducible exact ih7 _ _ _ _ _ _ _ _ _ _ _)
   | (with_reducible exact ih8 _ _ _ _ _ _ _ _ _ _ _)
   | (with_reducible exact ih9 _ _ _ _)
   | (with_reducible exact ih10 _ _ _)
   | (with_reducible exact redpenref18_Common.mono _ _ _)
   | (with_reducible exact LeO.refl _)
   | (with_reducible exact LeO.none _)
   | (with_reducible refine LeO.ite ?_ ?_)
   | (with_reducible refine LeO.bind ?_ (fun _ => ?_))
   | exact ih0 _ _ _
   | exact ih1 _ _ _ _
   | exact ih2 _ _ _ _
   | exact ih3 _ _ _ _ _ _
   | exact ih4 _ _ _ _ _ _ _
   | exact ih5 _ _ _ _ _ _ _
   | exact ih6 _ _ _ _ _ _ _ _ _ _
   | exact ih7 _ _ _ _ _ _ _ _ _ _ _
   | exact ih8 _ _ _ _ _ _ _ _ _ _ _
   | exact ih9 _ _ _ _
   | exact ih10 _ _ _
   | exact redpenref18_Common.mono _ _ _
   | exact LeO.none _
   | refine LeO.ite ?_ ?_
   | refine LeO.bind ?_ (fun _ => ?_)
  ·intro y0 y1 y2 y3 y4 y5 y6 y7 y8 y9
   unfold redpenref18_Changes.l3
   repeat' first
   | (with_reducible exact ih0 _ _ _)
   | (with_reducible exact ih1 _ _ _ _)
   | (with_reducible exact ih2 _ _ _ _)
   | (with_reducible exact ih3 _ _ _ _ _ _)
   | (with_reducible exact ih4 _ _ _ _ _ _ _)
   | (with_reducible exact ih5 _ _ _ _ _ _ _)
   | (with_reducible exact ih6 _ _ _ _ _ _ _ _ _ _)
   | (with_reducible exact ih7 _ _ _ _ _ _ _ _ _ _ _)
   | (with_reducible exact ih8 _ _ _ _ _ _ _ _ _ _ _)
   | (with_reducible exact ih9 _ _ _ _)
   | (with_reducible exact ih10 _ _ _)
   | (with_reducible exact redpenref18_Common.mono _ _ _)
   | (with_reducible exact LeO.refl _)
   | (with_reducible exact LeO.none _)
   | (with_reducible refine LeO.ite ?_ ?_)
   | (with_reducible refine LeO.bind ?_ (fun _ => ?_))
   | exact ih0 _ _ _
   | exact ih1 _ _ _ _
   | exact ih2 _ _ _ _
   | exact ih3 _ _ _ _ _ _
   | exact ih4 _ _ _ _ _ _ _
   | exact ih5 _ _ _ _ _ _ _
   | exact ih6 _ _ _ _ _ _ _ _ _ _
   | exact ih7 _ _ _ _ _ _ _ _ _ _ _
   | exact ih8 _ _ _ _ _ _ _ _ _ _ _
   | exact ih9 _ _ _ _
   | exact ih10 _ _ _
   | exact redpenref18_Common.mono _ _ _
   | exact LeO.none _
   | refine LeO.ite ?_ ?_
   | refine LeO.bind ?_ (fun _ => ?_)
  ·intro y0 y1 y2 y3 y4 y5 y6 y7 y8 y9 y10
   unfold redpenref18_Changes.j9
   repeat' first
   | (with_reducible exact ih0 _ _ _)
   | (with_reducible exact ih1 _ _ _ _)
   | (with_reducible exact ih2 _ _ _ _)
   | (with_reducible exact ih3 _ _ _ _ _ _)
   | (with_reducible exact ih4 _ _ _ _ _ _ _)
   | (with_reducible exact ih5 _ _ _ _ _ _ _)
   | (with_reducible exact ih6 _ _ _ _ _ _ _ _ _ _)
   | (with_reducible exact ih7 _ _ _ _ _ _ _ _ _ _ _)
   | (with_reducible exact ih8 _ _ _ _ _ _ _ _ _ _ _)
   | (with_reducible exact ih9 _ _ _ _)
   | (with_reducible exact ih10 _ _ _)
   | (with_reducible exact redpenref18_Common.mono _ _ _)
   | (with_reducible exact LeO.refl _)
   | (with_reducible exact LeO.none _)
   | (with_reducible refine LeO.ite ?_ ?_)
   | (with_reducible refine LeO.bind ?_ (fun _ => ?_))
   | exact ih0 _ _ _
   | exact ih1 _ _ _ _
   | exact ih2 _ _ _ _
   | exact ih3 _ _ _ _ _ _
   | exact ih4 _ _ _ _ _ _ _
   | exact ih5 _ _ _ _ _ _ _
   | exact ih6 _ _ _ _ _ _ _ _ _ _
   | exact ih7 _ _ _ _ _ _ _ _ _ _ _
   | exact ih8 _ _ _ _ _ _ _ _ _ _ _
   | exact ih9 _ _ _ _
   | exact ih10 _ _ _
   | exact redpenref18_Common.mono _ _ _
   | exact LeO.none _
   | refine LeO.ite ?_ ?_
   | refine LeO.bind ?_ (fun _ => ?_)
  ·intro y0 y1 y2 y3 y4 y5 y6 y7 y8 y9 y10
   unfold redpenref18_Changes.j10
   repeat' first
   | (with_reducible exact ih0 _ _ _)
   | (with_reducible exact ih1 _ _ _ _)
   | (with_reducible exact ih2 _ _ _ _)
   | (with_reducible exact ih3 _ _ _ _ _ _)
   | (with_reducible exact ih4 _ _ _ _ _ _ _)
   | (with_reducible exact ih5 _ _ _ _ _ _ _)
   | (with_reducible exact ih6 _ _ _ _ _ _ _ _ _ _)
   | (with_reducible exact ih7 _ _ _ _ _ _ _ _ _ _ _)
   | (with_reducible exact ih8 _ _ _ _ _ _ _ _ _ _ _)
   | (with_reducible exact ih9 _ _ _ _)
   | (with_reducible exact ih10 _ _ _)
   | (with_reducible exact redpenref18_Common.mono _ _ _)
   | (with_reducible exact LeO.refl _)
   | (with_reducible exact LeO.none _)
   | (with_reducible refine LeO.ite ?_ ?_)
   | (with_reducible refine LeO.bind ?_ (fun _ => ?_))
   | exact ih0 _ _ _
   | exact ih1 _ _ _ _
   | exact ih2 _ _ _ _
   | exact ih3 _ _ _ _ _ _
   | exact ih4 _ _ _ _ _ _ _
   | exact ih5 _ _ _ _ _ _ _
   | exact ih6 _ _ _ _ _ _ _ _ _ _
   | exact ih7 _ _ _ _ _ _ _ _ _ _ _
   | exact ih8 _ _ _ _ _ _ _ _ _ _ _
   | exact ih9 _ _ _ _
   | exact ih10 _ _ _
   | exact redpenref18_Common.mono _ _ _
   | exact LeO.none _
   | refine LeO.ite ?_ ?_
   | refine LeO.bind ?_ (fun _ => ?_)
  ·intro y0 y1 y2 y3
   unfold redpenref18_Changes.l1
   repeat' first
   | (with_reducible exact ih0 _ _ _)
   | (with_reducible exact ih1 _ _ _ _)
   | (with_reducible exact ih2 _ _ _ _)
   | (with_reducible exact ih3 _ _ _ _ _ _)
   | (with_reducible exact ih4 _ _ _ _ _ _ _)
   | (with_reducible exact ih5 _ _ _ _ _ _ _)
   | (with_reducible exact ih6 _ _ _ _ _ _ _ _ _ _)
   | (with_reducible exact ih7 _ _ _ _ _ _ _ _ _ _ _)
   | (with_reducible exact ih8 _ _ _ _ _ _ _ _ _ _ _)
   | (with_reducible exact ih9 _ _ _ _)
   | (with_reducible exact ih10 _ _ _)
   | (with_reducible exact redpenref18_Common.mono _ _ _)
   | (with_reducible exact LeO.refl _)
   | (with_reducible exact LeO.none _)
   | (with_reducible refine LeO.ite ?_ ?_)
   | (with_reducible refine LeO.bind ?_ (fun _ => ?_))
   | exact ih0 _ _ _
   | exact ih1 _ _ _ _
   | exact ih2 _ _ _ _
   | exact ih3 _ _ _ _ _ _
   | exact ih4 _ _ _ _ _ _ _
   | exact ih5 _ _ _ _ _ _ _
   | exact ih6 _ _ _ _ _ _ _ _ _ _
   | exact ih7 _ _ _ _ _ _ _ _ _ _ _
   | exact ih8 _ _ _ _ _ _ _ _ _ _ _
   | exact ih9 _ _ _ _
   | exact ih10 _ _ _
   | exact redpenref18_Common.mono _ _ _
   | exact LeO.none _
   | refine LeO.ite ?_ ?_
   | refine LeO.bind ?_ (fun _ => ?_)
  ·intro y0 y1 y2
   unfold redpenref18_Changes.l0
   repeat' first
   | (with_reducible exact ih0 _ _ _)
   | (with_reducible exact ih1 _ _ _ _)
   | (with_reducible exact ih2 _ _ _ _)
   | (with_reducible exact ih3 _ _ _ _ _ _)
   | (with_reducible exact ih4 _ _ _ _ _ _ _)
   | (with_reducible exact ih5 _ _ _ _ _ _ _)
   | (with_reducible exact ih6 _ _ _ _ _ _ _ _ _ _)
   | (with_reducible exact ih7 _ _ _ _ _ _ _ _ _ _ _)
   | (with_reducible exact ih8 _ _ _ _ _ _ _ _ _ _ _)
   | (with_reducible exact ih9 _ _ _ _)
   | (with_reducible exact ih10 _ _ _)
   | (with_reducible exact redpenref18_Common.mono _ _ _)
   | (with_reducible exact LeO.refl _)
   | (with_reducible exact LeO.none _)
   | (with_reducible refine LeO.ite ?_ ?_)
   | (with_reducible refine LeO.bind ?_ (fun _ => ?_))
   | exact ih0 _ _ _
   | exact ih1 _ _ _ _
   | exact ih2 _ _ _ _
   | exact ih3 _ _ _ _ _ _
   | exact ih4 _ _ _ _ _ _ _
   | exact ih5 _ _ _ _ _ _ _
   | exact ih6 _ _ _ _ _ _ _ _ _ _
   | exact ih7 _ _ _ _ _ _ _ _ _ _ _
   | exact ih8 _ _ _ _ _ _ _ _ _ _ _
   | exact ih9 _ _ _ _
   | exact ih10 _ _ _
   | exact redpenref18_Common.mono _ _ _
   | exact LeO.none _
   | refine LeO.ite ?_ ?_
   | refine LeO.bind ?_ (fun _ => ?_)
theorem redpenref18_Changes.mono : ∀ a0 a1 k, LeO (redpenref18_Changes.f k a0 a1) (redpenref18_Changes.f (k + 1) a0 a1) := by
 intro a0 a1 k
 obtain ⟨ih0, ih1, ih2, ih3, ih4, ih5, ih6, ih7, ih8, ih9, ih10⟩ := redpenref18_Changes.mono_l k
 unfold redpenref18_Changes.f
 repeat' first
   | (with_reducible exact ih0 _ _ _)
   | (with_reducible exact ih1 _ _ _ _)
   | (with_reducible exact ih2 _ _ _ _)
   | (with_reducible exact ih3 _ _ _ _ _ _)
   | (with_reducible exact ih4 _ _ _ _ _ _ _)
   | (with_reducible exact ih5 _ _ _ _ _ _ _)
   | (with_reducible exact ih6 _ _ _ _ _ _ _ _ _ _)
   | (with_reducible exact ih7 _ _ _ _ _ _ _ _ _ _ _)
   | (with_reducible exact ih8 _ _ _ _ _ _ _ _ _ _ _)
   | (with_reducible exact ih9 _ _ _ _)
   | (with_reducible exact ih10 _ _ _)
   | (with_reducible exact redpenref18_Common.mono _ _ _)
   | (with_reducible exact LeO.refl _)
   | (with_reducible exact LeO.none _)
   | (with_reducible refine LeO.ite ?_ ?_)
   | (with_reducible refine LeO.bind ?_ (fun _ => ?_))
   | exact ih0 _ _ _
   | exact ih1 _ _ _ _
   | exact ih2 _ _ _ _
   | exact ih3 _ _ _ _ _ _
   | exact ih4 _ _ _ _ _ _ _
   | exact ih5 _ _ _ _ _ _ _
   | exact ih6 _ _ _ _ _ _ _ _ _ _
   | exact ih7 _ _ _ _ _ _ _ _ _ _ _
   | exact ih8 _ _ _ _ _ _ _ _ _ _ _
   | exact ih9 _ _ _ _
   | exact ih10 _ _ _
   | exact redpenref18_Common.mono _ _ _
   | exact LeO.none _
   | refine LeO.ite ?_ ?_
   | refine LeO.bind ?_ (fun _ => ?_)
def redpenref18_Changes.T2 : Bool × List (List Nat × List Nat) := (true, [([], []), ([], []), ([1], [1]), ([0, 2], [0, 2]), ([3], [3]), ([4], [4]), ([4], [4]), ([6, 4], [4, 6]), ([5, 7, 4], [4, 5, 7]), ([4, 8], [4, 8]), ([9, 4], [9]), ([10], [10]), ([10], [10]), ([11, 12, 10], [10, 11, 12]), ([13, 10], [10, 13]), ([10], [10]), ([10], [10]), ([15, 16, 10], [10, 15, 16]), ([17, 10], [10, 17]), ([14, 18, 10], [10, 14, 18]), ([10, 19], [10, 19])])
def redpenref18_Changes.B2 : List Nat := [0, 0, 2, 7, 15, 31, 31, 95, 255, 511, 1023, 2047, 2047, 8191, 16383, 2047, 2047, 100351, 231423, 524287, 1048575]
theorem redpenref18_Changes.tab2 : rtab .any (opsOf Try.f21 2) = redpenref18_Changes.T2 := by kernel_rfl
theorem redpenref18_Changes.bits2 : waitsOk redpenref18_Changes.T2.2 redpenref18_Changes.B2 = true := by kernel_rfl
def redpenref18_Changes.T5 : Bool × List (List Nat × List Nat) := (true, [([], []), ([], []), ([1], [1]), ([], []), ([2, 3], [2, 3]), ([0, 4], [0, 4]), ([5], [5]), ([6], [6]), ([6], [6]), ([8, 6], [6, 8]), ([6], [6]), ([9, 10, 6], [6, 9, 10]), ([7, 11, 6], [6, 7, 11]), ([6, 12], [6, 12]), ([13, 6], [13]), ([14], [14]), ([14], [14]), ([16, 14], [14, 16]), ([17, 14], [14, 17]), ([14], [14]), ([18, 19, 14], [14, 18, 19]), ([15, 20, 14], [14, 15, 20]), ([21, 14], [14, 21]), ([14], [14]), ([14], [14]), ([24, 14], [14, 24]), ([25, 14], [14, 25]), ([14], [14]), ([26, 27, 14], [14, 26, 27]), ([23, 28, 14], [14, 23, 28]), ([29, 14], [14, 29]), ([22, 30, 14], [14, 22, 30]), ([14, 31], [14, 31])])
def redpenref18_Changes.B5 : List Nat := [0, 0, 2, 0, 14, 31, 63, 127, 127, 383, 127, 1919, 4095, 8191, 16383, 32767, 32767, 98303, 229375, 32767, 1015807, 2097151, 4194303, 32767, 32767, 16809983, 50364415, 32767, 251691007, 528515071, 1065385983, 2147483647, 4294967295]
theorem redpenref18_Changes.tab5 : rtab .any (opsOf Try.f21 5) = redpenref18_Changes.T5 := by kernel_rfl
theorem redpenref18_Changes.bits5 : waitsOk redpenref18_Changes.T5.2 redpenref18_Changes.B5 = true := by kernel_rfl
def redpenref18_Changes.T7 : Bool × List (List Nat × List Nat) := (true, [([], []), ([], []), ([], []), ([2], [2]), ([], []), ([3, 4], [3, 4]), ([0, 1, 5], [0, 1, 5]), ([], []), ([], []), ([], []), ([9], [9]), ([], []), ([10, 11], [10, 11]), ([7, 8, 12], [7, 8, 12]), ([6, 0, 1, 2, 3, 4, 5, 6], [6]), ([13, 14, 0, 1, 2, 3, 4, 5, 6, 7, 8, 9, 10, 11, 12, 13, 14], [13])])
def redpenref18_Changes.B7 : List Nat := [0, 0, 0, 4, 0, 28, 63, 0, 0, 0, 512, 0, 3584, 8064, 127, 32767]
theorem redpenref18_Changes.tab7 : rtab .any (opsOf Try.f21 7) = redpenref18_Changes.T7 := by kernel_rfl
theorem redpenref18_Changes.bits7 : waitsOk redpenref18_Changes.T7.2 redpenref18_Changes.B7 = true := by kernel_rfl
def redpenref18_Changes.T13 : Bool × List (List Nat × List Nat) := (true, [([], []), ([], []), ([1], [1]), ([0, 2], [0, 2]), ([3], [3]), ([4], [4]), ([4], [4]), ([6, 4], [4, 6]), ([5, 7, 4], [4, 5, 7]), ([4, 8], [4, 8]), ([9, 4], [9]), ([10], [10]), ([10], [10]), ([11, 12, 10], [10, 11, 12]), ([13, 10], [10, 13]), ([10], [10]), ([10], [10]), ([15, 16, 10], [10, 15, 16]), ([17, 10], [10, 17]), ([14, 18, 10], [10, 14, 18]), ([10, 19], [10, 19])])
def redpenref18_Changes.B13 : List Nat := [0, 0, 2, 7, 15, 31, 31, 95, 255, 511, 1023, 2047, 2047, 8191, 16383, 2047, 2047, 100351, 231423, 524287, 1048575]
theorem redpenref18_Changes.tab13 : rtab .any (opsOf Try.f21 13) = redpenref18_Changes.T13 := by kernel_rfl
theorem redpenref18_Changes.bits13 : waitsOk redpenref18_Changes.T13.2 redpenref18_Changes.B13 = true := by kernel_rfl
def redpenref18_Changes.T18 : Bool × List (List Nat × List Nat) := (true, [([], []), ([], []), ([1], [1]), ([0, 2], [0, 2]), ([3], [3]), ([4], [4]), ([4], [4]), ([6, 4], [4, 6]), ([5, 7, 4], [4, 5, 7]), ([4, 8], [4, 8]), ([9, 4], [9]), ([10], [10]), ([10], [10]), ([11, 12, 10], [10, 11, 12]), ([13, 10], [10, 13]), ([10], [10]), ([10], [10]), ([15, 16, 10], [10, 15, 16]), ([17, 10], [10, 17]), ([14, 18, 10], [10, 14, 18]), ([10, 19], [10, 19])])
def redpenref18_Changes.B18 : List Nat := [0, 0, 2, 7, 15, 31, 31, 95, 255, 511, 1023, 2047, 2047, 8191, 16383, 2047, 2047, 100351, 231423, 524287, 1048575]
theorem redpenref18_Changes.tab18 : rtab .any (opsOf Try.f21 18) = redpenref18_Changes.T18 := by kernel_rfl
theorem redpenref18_Changes.bits18 : waitsOk redpenref18_Changes.T18.2 redpenref18_Changes.B18 = true := by kernel_rfl
def redpenref18_Changes.T19 : Bool × List (List Nat × List Nat) := (true, [([], []), ([], []), ([1], [1]), ([0, 2], [0, 2]), ([3], [3]), ([4], [4]), ([4], [4]), ([6, 4], [4, 6]), ([5, 7, 4], [4, 5, 7]), ([8, 4, 4], [4, 8]), ([9], [9]), ([9], [9]), ([11, 9], [9, 11]), ([10, 12, 9], [9, 10, 12]), ([9], [9]), ([9], [9]), ([14, 15, 9], [9, 14, 15]), ([13, 16, 9, 9], [9, 13, 16]), ([9], [9]), ([9], [9]), ([18, 19, 9], [9, 18, 19]), ([9], [9]), ([9], [9]), ([22, 9], [9, 22]), ([21, 23, 9], [9, 21, 23]), ([20, 24, 17, 9], [9, 20, 24]), ([17, 25, 9], [9, 17, 25]), ([9, 26, 4], [4, 9, 26]), ([4, 27], [4, 27])])
def redpenref18_Changes.B19 : List Nat := [0, 0, 2, 7, 15, 31, 31, 95, 255, 511, 1023, 1023, 3071, 8191, 1023, 1023, 50175, 131071, 1023, 1023, 787455, 1023, 1023, 4195327, 14681087, 33554431, 67108863, 134217727, 268435455]
theorem redpenref18_Changes.tab19 : rtab .any (opsOf Try.f21 19) = redpenref18_Changes.T19 := by kernel_rfl
theorem redpenref18_Changes.bits19 : waitsOk redpenref18_Changes.T19.2 redpenref18_Changes.B19 = true := by kernel_rfl
set_option maxHeartbeats 8000000 in
set_option maxRecDepth 100000 in
theorem redpenref18_Changes.calls (k : Nat) (A0 : Option Addr) (c0 : Nat) (l0 : List ByteArray) (A1 : Option Addr) (c1 : Nat) (l1 : List ByteArray) (r : List (S40)) (w : World) (hr0 : Kd.C Kd.string w A0 l0.length l0) (hc0 : l0.length ≤ c0) (hr1 : Kd.C Kd.string w A1 l1.length l1) (hc1 : l1.length ≤ c1) (h : redpenref18_Changes.f k l0 l1 = some r) :
  Calls Try.prog 21 #[.slice A0 l0.length c0, .slice A1 l1.length c1] w fun e w' => ∃ v0_ : Value, e = .returned (v0_) ∧ Kd.R k40 40 w' w.heap.size (fun _ => True) v0_ r ∧ Below w.heap.size w w' := by
 have hu40 := Try.underlying40
 have HR0 := Aside0.mk hr0
 have HC0 := Aside0.mk hc0
 clear hr0 hc0
 have HR1 := Aside0.mk hr1
 have HC1 := Aside0.mk hc1
 clear hr1 hc1
 have HB := Aside0.mk (Below.refl w.heap.size w)
 have H : (redpenref18_Changes.l0 k l0 l1 0) = some r := h
 clear h
 have HC3 := Aside0.mk H
 clear H
 go_enter Try.func21, Try.ntmps21
 go_upto_block 0 with (fail)
 go_cut [5] (fun v5 wc => ∃ (kq : Nat) (x5_2 : Int), v5 = .int .i64 x5_2 ∧ Aside0 (redpenref18_Changes.j1 kq l0 l1 x5_2 = some r) ∧ Aside0 (kq ≤ k) ∧ Aside0 (Below w.heap.size w wc))
 case first =>
  as_aux_lemma =>
   have H := HC3.out
   clear HC3
   have H' := Aside0.mk H
   clear H
   go_wp2
   go_loopg [5] k (fun kq v5 w' => ∃ (x5_1 : Int), v5 = .int .i64 x5_1 ∧ Aside0 (redpenref18_Changes.l0 kq l0 l1 x5_1 = some r) ∧ Aside0 (kq ≤ k) ∧ Aside0 (Below w.heap.size w w'))
   case atStart => exact ⟨(0), (by first | rfl | (simp; done) | (simp [*]; done)), H', ⟨Nat.le_refl _⟩, ⟨by repeat (first | (with_reducible first | exact HB.out | apply below_alloc | apply pw_below_drewN | apply below_drew1) | exact HB.out)⟩⟩
   case round =>
    clear H'
    (try clear c1); (try clear c2); (try clear p2)
    obtain ⟨x5_1, rfl, HA, HK1, HB⟩ := hrel
    cases gk with
    | zero => exact absurd HA.out (by simp [redpenref18_Changes.l0])
    | succ k1 =>
     have H := HA.out
     clear HA
     simp only [redpenref18_Changes.l0] at H
     by_cases c4 : x5_1 < (l0.length : Int)
     ·rw [if_pos c4] at H
      have c4b0 : decide (x5_1 < (l0.length : Int)) = true := decide_eq_true c4
      clear c4
      (first | rw [c4b0] | (simp only [i64_w, i32_w]; rw [c4b0]) | skip)
      by_cases c5 : x5_1 < (l1.length : Int)
      ·rw [if_pos c5] at H
       have c5b0 : decide (x5_1 < (l1.length : Int)) = true := decide_eq_true c5
       clear c5
       by_cases c6 : 0 ≤ x5_1
       ·rw [if_pos c6] at H
        have c6b0 : decide (0 ≤ x5_1) = true := decide_eq_true c6
        clear c6
        by_cases c7 : (rdOf ByteArray.empty l0 x5_1).toList = (rdOf ByteArray.empty l1 x5_1).toList
        ·rw [if_pos c7] at H
         have c7b0 : ((rdOf ByteArray.empty l0 x5_1).toList == (rdOf ByteArray.empty l1 x5_1).toList) = true := beq_iff_eq.mpr c7
         have c7b1 : ((rdOf ByteArray.empty l0 x5_1).toList != (rdOf ByteArray.empty l1 x5_1).toList) = false := bne_eq_false_iff_eq.mpr c7
         clear c7
         have H' := Aside0.mk H
         clear H
         try go_wp2
         have n0_ := Aside0.mk (below_drew1 HB.out)
         clear HB
         have HB := n0_
         clear n0_
         have p353 : 0 ≤ (x5_1 : Int) := of_decide_eq_true (by first | (with_reducible assumption) | assumption)
         have q353 : x5_1 < (l0.length : Int) := of_decide_eq_true (by first | (with_reducible assumption) | assumption)
         obtain ⟨ad353, e353, hx353_0⟩ := Kd.at_string HR0.out x5_1 p353 q353
         have hw353_0 := hx353_0
         cases e353
         replace hx353_0 := (HB.out.cell (World.block_lt_of_cell? w _ hx353_0)).trans hx353_0
         replace p353 := eq_true p353
         replace q353 := eq_true q353
         have p354 : 0 ≤ (x5_1 : Int) := of_decide_eq_true (by first | (with_reducible assumption) | assumption)
         have q354 : x5_1 < (l1.length : Int) := of_decide_eq_true (by first | (with_reducible assumption) | assumption)
         obtain ⟨ad354, e354, hx354_0⟩ := Kd.at_string HR1.out x5_1 p354 q354
         have hw354_0 := hx354_0
         cases e354
         replace hx354_0 := (HB.out.cell (World.block_lt_of_cell? w _ hx354_0)).trans hx354_0
         replace p354 := eq_true p354
         replace q354 := eq_true q354
         refine start_ (n := 21) (S := fun w' => w'.cell? (ad353.add (x5_1).toNat) = some (.string (rdOf ByteArray.empty l0 x5_1)) ∧ w'.cell? (ad354.add (x5_1).toNat) = some (.string (rdOf ByteArray.empty l1 x5_1))) (ds := []) (bs 21 0) (by kernel_rfl) rfl rfl ⟨((HB.out.cell (World.block_lt_of_cell? w _ hw353_0)).trans hw353_0), ((HB.out.cell (World.block_lt_of_cell? w _ hw354_0)).trans hw354_0)⟩ (fun hHeld => ?_); refine with_tabW redpenref18_Changes.tab2 redpenref18_Changes.bits2 (fun HT_ HW_ => ?_)
         generalize wr.drew = w8 at HB hx353_0 hx354_0 hHeld ⊢
         refine pu_ 0 (some 13) ?_ (bs 21 1) HT_.out (by kernel_rfl) rfl rfl (fun _ _ _ h => h) (Or.inl ⟨by rfl, ?_⟩) ?_ ?_ ?_; rotate_left; (· intro w'; go_simp; with_reducible rfl); rotate_left; (· simp only [Act.put, sit, scz, scs, i64_w, i32_w]; rfl)
         refine pu_ 1 (some 14) ?_ (bs 21 3) HT_.out (by kernel_rfl) rfl rfl (fun _ _ _ h => h) (Or.inl ⟨by rfl, ?_⟩) ?_ ?_ ?_; rotate_left; (· intro w'; go_simp; with_reducible rfl); rotate_left; (· simp only [Act.put, sit, scz, scs, i64_w, i32_w]; rfl)
         refine pu_ 2 (some 15) ?_ (bs 21 7) HT_.out (by kernel_rfl) rfl rfl (fun _ _ _ h => h) (Or.inl ⟨by rfl, ?_⟩) ?_ ?_ ?_; rotate_left; (· intro w'; go_simp; with_reducible rfl); rotate_left; (· simp only [Act.put, sit, scz, scs, i64_w, i32_w]; rfl)
         refine pu_ 3 (some 16) ?_ (bs 21 15) HT_.out (by kernel_rfl) rfl rfl (fun _ _ _ h => h) (Or.inl ⟨by rfl, ?_⟩) ?_ ?_ ?_; rotate_left; (· intro w'; go_simp; with_reducible rfl); rotate_left; (· simp only [Act.put, sit, scz, scs, i64_w, i32_w]; rfl)
         refine pu_ 4 (some 17) ?_ (bs 21 31) HT_.out (by kernel_rfl) rfl rfl (fun _ _ _ h => h) (Or.inl ⟨by rfl, ?_⟩) ?_ ?_ ?_; rotate_left; (· intro w'; go_simp; with_reducible rfl); rotate_left; (· simp only [Act.put, sit, scz, scs, i64_w, i32_w]; rfl)
         refine pu_ 5 (some 18) ?_ (bs 21 63) HT_.out (by kernel_rfl) rfl rfl (fun _ _ _ h => h) (Or.inl ⟨by rfl, ?_⟩) ?_ ?_ ?_; rotate_left; (· intro w'; go_simp; with_reducible rfl); rotate_left; (· simp only [Act.put, sit, scz, scs, i64_w, i32_w]; rfl)
         refine pu_ 6 (some 19) ?_ (bs 21 127) HT_.out (by kernel_rfl) rfl rfl (fun _ _ _ h => h) (Or.inl ⟨by rfl, ?_⟩) ?_ ?_ ?_; rotate_left; (· intro w'; go_simp; with_reducible rfl); rotate_left; (· simp only [Act.put, sit, scz, scs, i64_w, i32_w]; rfl)
         refine pu_ 7 (some 20) ?_ (bs 21 255) HT_.out (by kernel_rfl) rfl rfl (fun _ _ _ h => h) (Or.inl ⟨by rfl, ?_⟩) ?_ ?_ ?_; rotate_left; (· intro w'; go_simp; with_reducible rfl); rotate_left; (· simp only [Act.put, sit, scz, scs, i64_w, i32_w]; rfl)
         refine pu_ 8 (some 21) ?_ (bs 21 511) HT_.out (by kernel_rfl) rfl rfl (fun _ _ _ h => h) (Or.inl ⟨by rfl, ?_⟩) ?_ ?_ ?_; rotate_left; (· intro w'; go_simp; with_reducible rfl); rotate_left; (· simp only [Act.put, sit, scz, scs, i64_w, i32_w]; rfl)
         refine pu_ 9 (some 22) ?_ (bs 21 1023) HT_.out (by kernel_rfl) rfl rfl (fun _ _ _ h => h) (Or.inl ⟨by rfl, ?_⟩) ?_ ?_ ?_; rotate_left; (· intro w'; go_simp; with_reducible rfl); rotate_left; (· simp only [Act.put, sit, scz, scs, i64_w, i32_w]; rfl)
         refine pu_ 10 (some 23) ?_ (bs 21 2047) HT_.out (by kernel_rfl) rfl rfl (fun _ _ _ h => h) (Or.inl ⟨by rfl, ?_⟩) ?_ ?_ ?_; rotate_left; (· intro w'; go_simp; with_reducible rfl); rotate_left; (· simp only [Act.put, sit, scz, scs, i64_w, i32_w]; rfl)
         refine pu_ 11 (some 24) ?_ (bs 21 4095) HT_.out (by kernel_rfl) rfl rfl (fun _ _ _ h => h) (Or.inl ⟨by rfl, ?_⟩) ?_ ?_ ?_; rotate_left; (· intro w'; go_simp; with_reducible rfl); rotate_left; (· simp only [Act.put, sit, scz, scs, i64_w, i32_w]; rfl)
         refine pu_ 12 (some 25) ?_ (bs 21 8191) HT_.out (by kernel_rfl) rfl rfl (fun _ _ _ h => h) (Or.inl ⟨by rfl, ?_⟩) ?_ ?_ ?_; rotate_left; (· intro w'; go_simp; with_reducible rfl); rotate_left; (· simp only [Act.put, sit, scz, scs, i64_w, i32_w]; rfl)
         refine pu_ 13 (some 26) ?_ (bs 21 16383) HT_.out (by kernel_rfl) rfl rfl (fun _ _ _ h => h) (Or.inl ⟨by rfl, ?_⟩) ?_ ?_ ?_; rotate_left; (· intro w'; go_simp; with_reducible rfl); rotate_left; (· simp only [Act.put, sit, scz, scs, i64_w, i32_w]; rfl)
         refine pu_ 15 (some 28) ?_ (bs 21 49151) HT_.out (by kernel_rfl) rfl rfl (fun _ _ _ h => h) (Or.inl ⟨by rfl, ?_⟩) ?_ ?_ ?_; rotate_left; (· intro w'; go_simp; with_reducible rfl); rotate_left; (· simp only [Act.put, sit, scz, scs, i64_w, i32_w]; rfl)
         refine pu_ 16 (some 29) ?_ (bs 21 114687) HT_.out (by kernel_rfl) rfl rfl (fun _ _ _ h => h) (Or.inl ⟨by rfl, ?_⟩) ?_ ?_ ?_; rotate_left; (· intro w'; go_simp; with_reducible rfl); rotate_left; (· simp only [Act.put, sit, scz, scs, i64_w, i32_w]; rfl)
         refine pu_ 17 (some 30) ?_ (bs 21 245759) HT_.out (by kernel_rfl) rfl rfl (fun _ _ _ h => h) (Or.inl ⟨by rfl, ?_⟩) ?_ ?_ ?_; rotate_left; (· intro w'; go_simp; with_reducible rfl); rotate_left; (· simp only [Act.put, sit, scz, scs, i64_w, i32_w]; rfl)
         refine take_ (i := 14) (N := some 27) (v := ?_) (a' := ?_) (bs 21 262143) rfl rfl (take_ofW HT_.out HW_.out (by kernel_rfl)) (fun _ _ _ h => h) (Or.inl ⟨by rfl, ?_⟩) hHeld ?_ ?_; rotate_left; (· rintro w' ⟨s0, s1⟩; go_simp; with_reducible rfl); rotate_left; (· simp only [Act.put, sit, scz, scs, i64_w, i32_w]; rfl)
         refine take_ (i := 18) (N := some 31) (v := ?_) (a' := ?_) (bs 21 524287) rfl rfl (take_ofW HT_.out HW_.out (by kernel_rfl)) (fun _ _ _ h => h) (Or.inl ⟨by rfl, ?_⟩) hHeld ?_ ?_; rotate_left; (· rintro w' ⟨s0, s1⟩; go_simp; with_reducible rfl); rotate_left; (· simp only [Act.put, sit, scz, scs, i64_w, i32_w]; rfl)
         refine pu_ 19 (some 32) ?_ (bs 21 1048575) HT_.out (by kernel_rfl) rfl rfl (fun _ _ _ h => h) (Or.inl ⟨by rfl, ?_⟩) ?_ ?_ ?_; rotate_left; (· intro w'; go_simp; with_reducible rfl); rotate_left; (· simp only [Act.put, sit, scz, scs, i64_w, i32_w]; rfl)
         refine pu_ 20 (some 33) ?_ (bs 21 2097151) HT_.out (by kernel_rfl) rfl rfl (fun _ _ _ h => h) (Or.inl ⟨by rfl, ?_⟩) ?_ ?_ ?_; rotate_left; (· intro w'; go_simp; with_reducible rfl); rotate_left; (· simp only [Act.put, sit, scz, scs, i64_w, i32_w]; rfl)
         refine done_ (done_of HT_.out (by kernel_rfl)) ?_
         try go_wp2
         go_roundg k1
         case measure => have := HK1.out; omega
         case rel => exact ⟨(wrap64 (x5_1 + 1)), (by first | rfl | (simp; done) | (simp [*]; done)), H', ⟨by have := HK1.out; omega⟩, ⟨by repeat (first | (with_reducible first | exact HB.out | apply below_alloc | apply pw_below_drewN | apply below_drew1) | exact HB.out)⟩⟩
        ·rw [if_neg c7] at H
         have c7b0 : ((rdOf ByteArray.empty l0 x5_1).toList == (rdOf ByteArray.empty l1 x5_1).toList) = false := beq_eq_false_iff_ne.mpr c7
         have c7b1 : ((rdOf ByteArray.empty l0 x5_1).toList != (rdOf ByteArray.empty l1 x5_1).toList) = true := bne_iff_ne.mpr c7
         have H' := Aside0.mk H
         clear H
         try go_wp2
         have n0_ := Aside0.mk (below_drew1 HB.out)
         clear HB
         have HB := n0_
         clear n0_
         have p353 : 0 ≤ (x5_1 : Int) := of_decide_eq_true (by first | (with_reducible assumption) | assumption)
         have q353 : x5_1 < (l0.length : Int) := of_decide_eq_true (by first | (with_reducible assumption) | assumption)
         obtain ⟨ad353, e353, hx353_0⟩ := Kd.at_string HR0.out x5_1 p353 q353
         have hw353_0 := hx353_0
         cases e353
         replace hx353_0 := (HB.out.cell (World.block_lt_of_cell? w _ hx353_0)).trans hx353_0
         replace p353 := eq_true p353
         replace q353 := eq_true q353
         have p354 : 0 ≤ (x5_1 : Int) := of_decide_eq_true (by first | (with_reducible assumption) | assumption)
         have q354 : x5_1 < (l1.length : Int) := of_decide_eq_true (by first | (with_reducible assumption) | assumption)
         obtain ⟨ad354, e354, hx354_0⟩ := Kd.at_string HR1.out x5_1 p354 q354
         have hw354_0 := hx354_0
         cases e354
         replace hx354_0 := (HB.out.cell (World.block_lt_of_cell? w _ hx354_0)).trans hx354_0
         replace p354 := eq_true p354
         replace q354 := eq_true q354
         refine start_ (n := 21) (S := fun w' => w'.cell? (ad353.add (x5_1).toNat) = some (.string (rdOf ByteArray.empty l0 x5_1)) ∧ w'.cell? (ad354.add (x5_1).toNat) = some (.string (rdOf ByteArray.empty l1 x5_1))) (ds := []) (bs 21 0) (by kernel_rfl) rfl rfl ⟨((HB.out.cell (World.block_lt_of_cell? w _ hw353_0)).trans hw353_0), ((HB.out.cell (World.block_lt_of_cell? w _ hw354_0)).trans hw354_0)⟩ (fun hHeld => ?_); refine with_tabW redpenref18_Changes.tab2 redpenref18_Changes.bits2 (fun HT_ HW_ => ?_)
         generalize wr.drew = w9 at HB hx353_0 hx354_0 hHeld ⊢
         refine pu_ 0 (some 13) ?_ (bs 21 1) HT_.out (by kernel_rfl) rfl rfl (fun _ _ _ h => h) (Or.inl ⟨by rfl, ?_⟩) ?_ ?_ ?_; rotate_left; (· intro w'; go_simp; with_reducible rfl); rotate_left; (· simp only [Act.put, sit, scz, scs, i64_w, i32_w]; rfl)
         refine pu_ 1 (some 14) ?_ (bs 21 3) HT_.out (by kernel_rfl) rfl rfl (fun _ _ _ h => h) (Or.inl ⟨by rfl, ?_⟩) ?_ ?_ ?_; rotate_left; (· intro w'; go_simp; with_reducible rfl); rotate_left; (· simp only [Act.put, sit, scz, scs, i64_w, i32_w]; rfl)
         refine pu_ 2 (some 15) ?_ (bs 21 7) HT_.out (by kernel_rfl) rfl rfl (fun _ _ _ h => h) (Or.inl ⟨by rfl, ?_⟩) ?_ ?_ ?_; rotate_left; (· intro w'; go_simp; with_reducible rfl); rotate_left; (· simp only [Act.put, sit, scz, scs, i64_w, i32_w]; rfl)
         refine pu_ 3 (some 16) ?_ (bs 21 15) HT_.out (by kernel_rfl) rfl rfl (fun _ _ _ h => h) (Or.inl ⟨by rfl, ?_⟩) ?_ ?_ ?_; rotate_left; (· intro w'; go_simp; with_reducible rfl); rotate_left; (· simp only [Act.put, sit, scz, scs, i64_w, i32_w]; rfl)
         refine pu_ 4 (some 17) ?_ (bs 21 31) HT_.out (by kernel_rfl) rfl rfl (fun _ _ _ h => h) (Or.inl ⟨by rfl, ?_⟩) ?_ ?_ ?_; rotate_left; (· intro w'; go_simp; with_reducible rfl); rotate_left; (· simp only [Act.put, sit, scz, scs, i64_w, i32_w]; rfl)
         refine pu_ 5 (some 18) ?_ (bs 21 63) HT_.out (by kernel_rfl) rfl rfl (fun _ _ _ h => h) (Or.inl ⟨by rfl, ?_⟩) ?_ ?_ ?_; rotate_left; (· intro w'; go_simp; with_reducible rfl); rotate_left; (· simp only [Act.put, sit, scz, scs, i64_w, i32_w]; rfl)
         refine pu_ 6 (some 19) ?_ (bs 21 127) HT_.out (by kernel_rfl) rfl rfl (fun _ _ _ h => h) (Or.inl ⟨by rfl, ?_⟩) ?_ ?_ ?_; rotate_left; (· intro w'; go_simp; with_reducible rfl); rotate_left; (· simp only [Act.put, sit, scz, scs, i64_w, i32_w]; rfl)
         refine pu_ 7 (some 20) ?_ (bs 21 255) HT_.out (by kernel_rfl) rfl rfl (fun _ _ _ h => h) (Or.inl ⟨by rfl, ?_⟩) ?_ ?_ ?_; rotate_left; (· intro w'; go_simp; with_reducible rfl); rotate_left; (· simp only [Act.put, sit, scz, scs, i64_w, i32_w]; rfl)
         refine pu_ 8 (some 21) ?_ (bs 21 511) HT_.out (by kernel_rfl) rfl rfl (fun _ _ _ h => h) (Or.inl ⟨by rfl, ?_⟩) ?_ ?_ ?_; rotate_left; (· intro w'; go_simp; with_reducible rfl); rotate_left; (· simp only [Act.put, sit, scz, scs, i64_w, i32_w]; rfl)
         refine pu_ 9 (some 22) ?_ (bs 21 1023) HT_.out (by kernel_rfl) rfl rfl (fun _ _ _ h => h) (Or.inl ⟨by rfl, ?_⟩) ?_ ?_ ?_; rotate_left; (· intro w'; go_simp; with_reducible rfl); rotate_left; (· simp only [Act.put, sit, scz, scs, i64_w, i32_w]; rfl)
         refine pu_ 10 (some 23) ?_ (bs 21 2047) HT_.out (by kernel_rfl) rfl rfl (fun _ _ _ h => h) (Or.inl ⟨by rfl, ?_⟩) ?_ ?_ ?_; rotate_left; (· intro w'; go_simp; with_reducible rfl); rotate_left; (· simp only [Act.put, sit, scz, scs, i64_w, i32_w]; rfl)
         refine pu_ 11 (some 24) ?_ (bs 21 4095) HT_.out (by kernel_rfl) rfl rfl (fun _ _ _ h => h) (Or.inl ⟨by rfl, ?_⟩) ?_ ?_ ?_; rotate_left; (· intro w'; go_simp; with_reducible rfl); rotate_left; (· simp only [Act.put, sit, scz, scs, i64_w, i32_w]; rfl)
         refine pu_ 12 (some 25) ?_ (bs 21 8191) HT_.out (by kernel_rfl) rfl rfl (fun _ _ _ h => h) (Or.inl ⟨by rfl, ?_⟩) ?_ ?_ ?_; rotate_left; (· intro w'; go_simp; with_reducible rfl); rotate_left; (· simp only [Act.put, sit, scz, scs, i64_w, i32_w]; rfl)
         refine pu_ 13 (some 26) ?_ (bs 21 16383) HT_.out (by kernel_rfl) rfl rfl (fun _ _ _ h => h) (Or.inl ⟨by rfl, ?_⟩) ?_ ?_ ?_; rotate_left; (· intro w'; go_simp; with_reducible rfl); rotate_left; (· simp only [Act.put, sit, scz, scs, i64_w, i32_w]; rfl)
         refine pu_ 15 (some 28) ?_ (bs 21 49151) HT_.out (by kernel_rfl) rfl rfl (fun _ _ _ h => h) (Or.inl ⟨by rfl, ?_⟩) ?_ ?_ ?_; rotate_left; (· intro w'; go_simp; with_reducible rfl); rotate_left; (· simp only [Act.put, sit, scz, scs, i64_w, i32_w]; rfl)
         refine pu_ 16 (some 29) ?_ (bs 21 114687) HT_.out (by kernel_rfl) rfl rfl (fun _ _ _ h => h) (Or.inl ⟨by rfl, ?_⟩) ?_ ?_ ?_; rotate_left; (· intro w'; go_simp; with_reducible rfl); rotate_left; (· simp only [Act.put, sit, scz, scs, i64_w, i32_w]; rfl)
         refine pu_ 17 (some 30) ?_ (bs 21 245759) HT_.out (by kernel_rfl) rfl rfl (fun _ _ _ h => h) (Or.inl ⟨by rfl, ?_⟩) ?_ ?_ ?_; rotate_left; (· intro w'; go_simp; with_reducible rfl); rotate_left; (· simp only [Act.put, sit, scz, scs, i64_w, i32_w]; rfl)
         refine take_ (i := 14) (N := some 27) (v := ?_) (a' := ?_) (bs 21 262143) rfl rfl (take_ofW HT_.out HW_.out (by kernel_rfl)) (fun _ _ _ h => h) (Or.inl ⟨by rfl, ?_⟩) hHeld ?_ ?_; rotate_left; (· rintro w' ⟨s0, s1⟩; go_simp; with_reducible rfl); rotate_left; (· simp only [Act.put, sit, scz, scs, i64_w, i32_w]; rfl)
         refine take_ (i := 18) (N := some 31) (v := ?_) (a' := ?_) (bs 21 524287) rfl rfl (take_ofW HT_.out HW_.out (by kernel_rfl)) (fun _ _ _ h => h) (Or.inl ⟨by rfl, ?_⟩) hHeld ?_ ?_; rotate_left; (· rintro w' ⟨s0, s1⟩; go_simp; with_reducible rfl); rotate_left; (· simp only [Act.put, sit, scz, scs, i64_w, i32_w]; rfl)
         refine pu_ 19 (some 32) ?_ (bs 21 1048575) HT_.out (by kernel_rfl) rfl rfl (fun _ _ _ h => h) (Or.inl ⟨by rfl, ?_⟩) ?_ ?_ ?_; rotate_left; (· intro w'; go_simp; with_reducible rfl); rotate_left; (· simp only [Act.put, sit, scz, scs, i64_w, i32_w]; rfl)
         refine pu_ 20 (some 33) ?_ (bs 21 2097151) HT_.out (by kernel_rfl) rfl rfl (fun _ _ _ h => h) (Or.inl ⟨by rfl, ?_⟩) ?_ ?_ ?_; rotate_left; (· intro w'; go_simp; with_reducible rfl); rotate_left; (· simp only [Act.put, sit, scz, scs, i64_w, i32_w]; rfl)
         refine done_ (done_of HT_.out (by kernel_rfl)) ?_
         try go_wp2
         go_meet
         case rel => exact ⟨_, (x5_1), (by first | rfl | (simp; done) | (simp [*]; done)), H', ⟨by have := HK1.out; first | omega | exact Nat.le_refl _⟩, ⟨by repeat (first | (with_reducible first | exact HB.out | apply below_alloc | apply pw_below_drewN | apply below_drew1) | exact HB.out)⟩⟩
       ·rw [if_neg c6] at H
        exact absurd H (by simp)
      ·rw [if_neg c5] at H
       have c5b0 : decide (x5_1 < (l1.length : Int)) = false := decide_eq_false c5
       clear c5
       have H' := Aside0.mk H
       clear H
       try go_wp2
       have n0_ := Aside0.mk (below_drew1 HB.out)
       clear HB
       have HB := n0_
       clear n0_
       refine start_ (n := 21) (S := fun w' => True) (ds := []) (bs 21 0) (by kernel_rfl) rfl rfl trivial (fun hHeld => ?_); refine with_tabW redpenref18_Changes.tab2 redpenref18_Changes.bits2 (fun HT_ HW_ => ?_)
       generalize wr.drew = w10 at HB hHeld ⊢
       refine pu_ 0 (some 13) ?_ (bs 21 1) HT_.out (by kernel_rfl) rfl rfl (fun _ _ _ h => h) (Or.inl ⟨by rfl, ?_⟩) ?_ ?_ ?_; rotate_left; (· intro w'; go_simp; with_reducible rfl); rotate_left; (· simp only [Act.put, sit, scz, scs, i64_w, i32_w]; rfl)
       refine pu_ 1 (some 14) ?_ (bs 21 3) HT_.out (by kernel_rfl) rfl rfl (fun _ _ _ h => h) (Or.inl ⟨by rfl, ?_⟩) ?_ ?_ ?_; rotate_left; (· intro w'; go_simp; with_reducible rfl); rotate_left; (· simp only [Act.put, sit, scz, scs, i64_w, i32_w]; rfl)
       refine pu_ 2 (some 15) ?_ (bs 21 7) HT_.out (by kernel_rfl) rfl rfl (fun _ _ _ h => h) (Or.inl ⟨by rfl, ?_⟩) ?_ ?_ ?_; rotate_left; (· intro w'; go_simp; with_reducible rfl); rotate_left; (· simp only [Act.put, sit, scz, scs, i64_w, i32_w]; rfl)
       refine pu_ 3 (some 16) ?_ (bs 21 15) HT_.out (by kernel_rfl) rfl rfl (fun _ _ _ h => h) (Or.inl ⟨by rfl, ?_⟩) ?_ ?_ ?_; rotate_left; (· intro w'; go_simp; with_reducible rfl); rotate_left; (· simp only [Act.put, sit, scz, scs, i64_w, i32_w]; rfl)
       refine pu_ 4 (some 17) ?_ (bs 21 31) HT_.out (by kernel_rfl) rfl rfl (fun _ _ _ h => h) (Or.inl ⟨by rfl, ?_⟩) ?_ ?_ ?_; rotate_left; (· intro w'; go_simp; with_reducible rfl); rotate_left; (· simp only [Act.put, sit, scz, scs, i64_w, i32_w]; rfl)
       refine pu_ 5 (some 18) ?_ (bs 21 63) HT_.out (by kernel_rfl) rfl rfl (fun _ _ _ h => h) (Or.inl ⟨by rfl, ?_⟩) ?_ ?_ ?_; rotate_left; (· intro w'; go_simp; with_reducible rfl); rotate_left; (· simp only [Act.put, sit, scz, scs, i64_w, i32_w]; rfl)
       refine pu_ 6 (some 19) ?_ (bs 21 127) HT_.out (by kernel_rfl) rfl rfl (fun _ _ _ h => h) (Or.inl ⟨by rfl, ?_⟩) ?_ ?_ ?_; rotate_left; (· intro w'; go_simp; with_reducible rfl); rotate_left; (· simp only [Act.put, sit, scz, scs, i64_w, i32_w]; rfl)
       refine pu_ 7 (some 20) ?_ (bs 21 255) HT_.out (by kernel_rfl) rfl rfl (fun _ _ _ h => h) (Or.inl ⟨by rfl, ?_⟩) ?_ ?_ ?_; rotate_left; (· intro w'; go_simp; with_reducible rfl); rotate_left; (· simp only [Act.put, sit, scz, scs, i64_w, i32_w]; rfl)
       refine pu_ 8 (some 21) ?_ (bs 21 511) HT_.out (by kernel_rfl) rfl rfl (fun _ _ _ h => h) (Or.inl ⟨by rfl, ?_⟩) ?_ ?_ ?_; rotate_left; (· intro w'; go_simp; with_reducible rfl); rotate_left; (· simp only [Act.put, sit, scz, scs, i64_w, i32_w]; rfl)
       refine pu_ 9 (some 22) ?_ (bs 21 1023) HT_.out (by kernel_rfl) rfl rfl (fun _ _ _ h => h) (Or.inl ⟨by rfl, ?_⟩) ?_ ?_ ?_; rotate_left; (· intro w'; go_simp; with_reducible rfl); rotate_left; (· simp only [Act.put, sit, scz, scs, i64_w, i32_w]; rfl)
       refine pu_ 10 (some 23) ?_ (bs 21 2047) HT_.out (by kernel_rfl) rfl rfl (fun _ _ _ h => h) (Or.inl ⟨by rfl, ?_⟩) ?_ ?_ ?_; rotate_left; (· intro w'; go_simp; with_reducible rfl); rotate_left; (· simp only [Act.put, sit, scz, scs, i64_w, i32_w]; rfl)
       refine pu_ 11 (some 24) undef (bs 21 4095) HT_.out (by kernel_rfl) rfl rfl (fun _ _ _ h => h) (Or.inr ⟨by rfl, rfl⟩) ?_ ?_ ?_; rotate_left; (· simp only [Act.put, sit, scz, scs, i64_w, i32_w]; rfl)
       refine pu_ 12 (some 25) undef (bs 21 8191) HT_.out (by kernel_rfl) rfl rfl (fun _ _ _ h => h) (Or.inr ⟨by rfl, rfl⟩) ?_ ?_ ?_; rotate_left; (· simp only [Act.put, sit, scz, scs, i64_w, i32_w]; rfl)
       refine pu_ 13 (some 26) undef (bs 21 16383) HT_.out (by kernel_rfl) rfl rfl (fun _ _ _ h => h) (Or.inr ⟨by rfl, rfl⟩) ?_ ?_ ?_; rotate_left; (· simp only [Act.put, sit, scz, scs, i64_w, i32_w]; rfl)
       refine pu_ 14 (some 27) undef (bs 21 32767) HT_.out (by kernel_rfl) rfl rfl (fun _ _ _ h => h) (Or.inr ⟨by rfl, rfl⟩) ?_ ?_ ?_; rotate_left; (· simp only [Act.put, sit, scz, scs, i64_w, i32_w]; rfl)
       refine pu_ 15 (some 28) undef (bs 21 65535) HT_.out (by kernel_rfl) rfl rfl (fun _ _ _ h => h) (Or.inr ⟨by rfl, rfl⟩) ?_ ?_ ?_; rotate_left; (· simp only [Act.put, sit, scz, scs, i64_w, i32_w]; rfl)
       refine pu_ 16 (some 29) undef (bs 21 131071) HT_.out (by kernel_rfl) rfl rfl (fun _ _ _ h => h) (Or.inr ⟨by rfl, rfl⟩) ?_ ?_ ?_; rotate_left; (· simp only [Act.put, sit, scz, scs, i64_w, i32_w]; rfl)
       refine pu_ 17 (some 30) undef (bs 21 262143) HT_.out (by kernel_rfl) rfl rfl (fun _ _ _ h => h) (Or.inr ⟨by rfl, rfl⟩) ?_ ?_ ?_; rotate_left; (· simp only [Act.put, sit, scz, scs, i64_w, i32_w]; rfl)
       refine pu_ 18 (some 31) undef (bs 21 524287) HT_.out (by kernel_rfl) rfl rfl (fun _ _ _ h => h) (Or.inr ⟨by rfl, rfl⟩) ?_ ?_ ?_; rotate_left; (· simp only [Act.put, sit, scz, scs, i64_w, i32_w]; rfl)
       refine pu_ 19 (some 32) undef (bs 21 1048575) HT_.out (by kernel_rfl) rfl rfl (fun _ _ _ h => h) (Or.inr ⟨by rfl, rfl⟩) ?_ ?_ ?_; rotate_left; (· simp only [Act.put, sit, scz, scs, i64_w, i32_w]; rfl)
       refine pu_ 20 (some 33) ?_ (bs 21 2097151) HT_.out (by kernel_rfl) rfl rfl (fun _ _ _ h => h) (Or.inl ⟨by rfl, ?_⟩) ?_ ?_ ?_; rotate_left; (· intro w'; go_simp; with_reducible rfl); rotate_left; (· simp only [Act.put, sit, scz, scs, i64_w, i32_w]; rfl)
       refine done_ (done_of HT_.out (by kernel_rfl)) ?_
       try go_wp2
       go_meet
       case rel => exact ⟨_, (x5_1), (by first | rfl | (simp; done) | (simp [*]; done)), H', ⟨by have := HK1.out; first | omega | exact Nat.le_refl _⟩, ⟨by repeat (first | (with_reducible first | exact HB.out | apply below_alloc | apply pw_below_drewN | apply below_drew1) | exact HB.out)⟩⟩
     ·rw [if_neg c4] at H
      have c4b0 : decide (x5_1 < (l0.length : Int)) = false := decide_eq_false c4
      clear c4
      (first | rw [c4b0] | (simp only [i64_w, i32_w]; rw [c4b0]) | skip)
      have H' := Aside0.mk H
      clear H
      try go_wp2
      have n0_ := Aside0.mk (below_drew1 HB.out)
      clear HB
      have HB := n0_
      clear n0_
      refine start_ (n := 21) (S := fun w' => True) (ds := []) (bs 21 0) (by kernel_rfl) rfl rfl trivial (fun hHeld => ?_); refine with_tabW redpenref18_Changes.tab2 redpenref18_Changes.bits2 (fun HT_ HW_ => ?_)
      generalize wr.drew = w11 at HB hHeld ⊢
      refine pu_ 0 (some 13) ?_ (bs 21 1) HT_.out (by kernel_rfl) rfl rfl (fun _ _ _ h => h) (Or.inl ⟨by rfl, ?_⟩) ?_ ?_ ?_; rotate_left; (· intro w'; go_simp; with_reducible rfl); rotate_left; (· simp only [Act.put, sit, scz, scs, i64_w, i32_w]; rfl)
      refine pu_ 1 (some 14) ?_ (bs 21 3) HT_.out (by kernel_rfl) rfl rfl (fun _ _ _ h => h) (Or.inl ⟨by rfl, ?_⟩) ?_ ?_ ?_; rotate_left; (· intro w'; go_simp; with_reducible rfl); rotate_left; (· simp only [Act.put, sit, scz, scs, i64_w, i32_w]; rfl)
      refine pu_ 2 (some 15) ?_ (bs 21 7) HT_.out (by kernel_rfl) rfl rfl (fun _ _ _ h => h) (Or.inl ⟨by rfl, ?_⟩) ?_ ?_ ?_; rotate_left; (· intro w'; go_simp; with_reducible rfl); rotate_left; (· simp only [Act.put, sit, scz, scs, i64_w, i32_w]; rfl)
      refine pu_ 3 (some 16) ?_ (bs 21 15) HT_.out (by kernel_rfl) rfl rfl (fun _ _ _ h => h) (Or.inl ⟨by rfl, ?_⟩) ?_ ?_ ?_; rotate_left; (· intro w'; go_simp; with_reducible rfl); rotate_left; (· simp only [Act.put, sit, scz, scs, i64_w, i32_w]; rfl)
      refine pu_ 4 (some 17) ?_ (bs 21 31) HT_.out (by kernel_rfl) rfl rfl (fun _ _ _ h => h) (Or.inl ⟨by rfl, ?_⟩) ?_ ?_ ?_; rotate_left; (· intro w'; go_simp; with_reducible rfl); rotate_left; (· simp only [Act.put, sit, scz, scs, i64_w, i32_w]; rfl)
      refine pu_ 5 (some 18) undef (bs 21 63) HT_.out (by kernel_rfl) rfl rfl (fun _ _ _ h => h) (Or.inr ⟨by rfl, rfl⟩) ?_ ?_ ?_; rotate_left; (· simp only [Act.put, sit, scz, scs, i64_w, i32_w]; rfl)
      refine pu_ 6 (some 19) undef (bs 21 127) HT_.out (by kernel_rfl) rfl rfl (fun _ _ _ h => h) (Or.inr ⟨by rfl, rfl⟩) ?_ ?_ ?_; rotate_left; (· simp only [Act.put, sit, scz, scs, i64_w, i32_w]; rfl)
      refine pu_ 7 (some 20) undef (bs 21 255) HT_.out (by kernel_rfl) rfl rfl (fun _ _ _ h => h) (Or.inr ⟨by rfl, rfl⟩) ?_ ?_ ?_; rotate_left; (· simp only [Act.put, sit, scz, scs, i64_w, i32_w]; rfl)
      refine pu_ 8 (some 21) undef (bs 21 511) HT_.out (by kernel_rfl) rfl rfl (fun _ _ _ h => h) (Or.inr ⟨by rfl, rfl⟩) ?_ ?_ ?_; rotate_left; (· simp only [Act.put, sit, scz, scs, i64_w, i32_w]; rfl)
      refine pu_ 9 (some 22) ?_ (bs 21 1023) HT_.out (by kernel_rfl) rfl rfl (fun _ _ _ h => h) (Or.inl ⟨by rfl, ?_⟩) ?_ ?_ ?_; rotate_left; (· intro w'; go_simp; with_reducible rfl); rotate_left; (· simp only [Act.put, sit, scz, scs, i64_w, i32_w]; rfl)
      refine pu_ 10 (some 23) ?_ (bs 21 2047) HT_.out (by kernel_rfl) rfl rfl (fun _ _ _ h => h) (Or.inl ⟨by rfl, ?_⟩) ?_ ?_ ?_; rotate_left; (· intro w'; go_simp; with_reducible rfl); rotate_left; (· simp only [Act.put, sit, scz, scs, i64_w, i32_w]; rfl)
      refine pu_ 11 (some 24) undef (bs 21 4095) HT_.out (by kernel_rfl) rfl rfl (fun _ _ _ h => h) (Or.inr ⟨by rfl, rfl⟩) ?_ ?_ ?_; rotate_left; (· simp only [Act.put, sit, scz, scs, i64_w, i32_w]; rfl)
      refine pu_ 12 (some 25) undef (bs 21 8191) HT_.out (by kernel_rfl) rfl rfl (fun _ _ _ h => h) (Or.inr ⟨by rfl, rfl⟩) ?_ ?_ ?_; rotate_left; (· simp only [Act.put, sit, scz, scs, i64_w, i32_w]; rfl)
      refine pu_ 13 (some 26) undef (bs 21 16383) HT_.out (by kernel_rfl) rfl rfl (fun _ _ _ h => h) (Or.inr ⟨by rfl, rfl⟩) ?_ ?_ ?_; rotate_left; (· simp only [Act.put, sit, scz, scs, i64_w, i32_w]; rfl)
      refine pu_ 14 (some 27) undef (bs 21 32767) HT_.out (by kernel_rfl) rfl rfl (fun _ _ _ h => h) (Or.inr ⟨by rfl, rfl⟩) ?_ ?_ ?_; rotate_left; (· simp only [Act.put, sit, scz, scs, i64_w, i32_w]; rfl)
      refine pu_ 15 (some 28) undef (bs 21 65535) HT_.out (by kernel_rfl) rfl rfl (fun _ _ _ h => h) (Or.inr ⟨by rfl, rfl⟩) ?_ ?_ ?_; rotate_left; (· simp only [Act.put, sit, scz, scs, i64_w, i32_w]; rfl)
      refine pu_ 16 (some 29) undef (bs 21 131071) HT_.out (by kernel_rfl) rfl rfl (fun _ _ _ h => h) (Or.inr ⟨by rfl, rfl⟩) ?_ ?_ ?_; rotate_left; (· simp only [Act.put, sit, scz, scs, i64_w, i32_w]; rfl)
      refine pu_ 17 (some 30) undef (bs 21 262143) HT_.out (by kernel_rfl) rfl rfl (fun _ _ _ h => h) (Or.inr ⟨by rfl, rfl⟩) ?_ ?_ ?_; rotate_left; (· simp only [Act.put, sit, scz, scs, i64_w, i32_w]; rfl)
      refine pu_ 18 (some 31) undef (bs 21 524287) HT_.out (by kernel_rfl) rfl rfl (fun _ _ _ h => h) (Or.inr ⟨by rfl, rfl⟩) ?_ ?_ ?_; rotate_left; (· simp only [Act.put, sit, scz, scs, i64_w, i32_w]; rfl)
      refine pu_ 19 (some 32) undef (bs 21 1048575) HT_.out (by kernel_rfl) rfl rfl (fun _ _ _ h => h) (Or.inr ⟨by rfl, rfl⟩) ?_ ?_ ?_; rotate_left; (· simp only [Act.put, sit, scz, scs, i64_w, i32_w]; rfl)
      refine pu_ 20 (some 33) ?_ (bs 21 2097151) HT_.out (by kernel_rfl) rfl rfl (fun _ _ _ h => h) (Or.inl ⟨by rfl, ?_⟩) ?_ ?_ ?_; rotate_left; (· intro w'; go_simp; with_reducible rfl); rotate_left; (· simp only [Act.put, sit, scz, scs, i64_w, i32_w]; rfl)
      refine done_ (done_of HT_.out (by kernel_rfl)) ?_
      try go_wp2
      go_meet
      case rel => exact ⟨_, (x5_1), (by first | rfl | (simp; done) | (simp [*]; done)), H', ⟨by have := HK1.out; first | omega | exact Nat.le_refl _⟩, ⟨by repeat (first | (with_reducible first | exact HB.out | apply below_alloc | apply pw_below_drewN | apply below_drew1) | exact HB.out)⟩⟩
 case rest =>
  clear HC3
  (try clear p2); (try clear p3); (try clear q3); (try clear hx3); (try clear c4); (try clear c4b0); (try clear c5); (try clear c5b0); (try clear c6); (try clear p6); (try clear c7); (try clear c7b0); (try clear c7b1); (try clear hx353_0); (try clear hx354_0); (try clear p353); (try clear p354); (try clear q353); (try clear q354)
  obtain ⟨kq, x5_2, rfl, HA, HJ2, HB⟩ := hcut
  cases kq with
  | zero => exact absurd HA.out (by simp [redpenref18_Changes.j1])
  | succ kj2 =>
   have H := HA.out
   clear HA
   simp only [redpenref18_Changes.j1] at H
   have HC12 := Aside0.mk H
   clear H
   go_upto_block 2 with (fail)
   go_cut [6] (fun v6 wc => ∃ (kq : Nat) (x6_11 : Int), v6 = .int .i64 x6_11 ∧ Aside0 (redpenref18_Changes.j3 kq l0 l1 x5_2 x6_11 = some r) ∧ Aside0 (kq ≤ kj2) ∧ Aside0 (Below w.heap.size w wc))
   case first =>
    as_aux_lemma =>
     have H := HC12.out
     clear HC12
     have H' := Aside0.mk H
     clear H
     go_wp2
     go_loopg [6] kj2 (fun kq v6 w' => ∃ (x6_2 : Int), v6 = .int .i64 x6_2 ∧ Aside0 (redpenref18_Changes.l1 kq l0 l1 x5_2 x6_2 = some r) ∧ Aside0 (kq ≤ kj2) ∧ Aside0 (Below w.heap.size w w'))
     case atStart => exact ⟨(0), (by first | rfl | (simp; done) | (simp [*]; done)), H', ⟨Nat.le_refl _⟩, ⟨by repeat (first | (with_reducible first | exact HB.out | apply below_alloc | apply pw_below_drewN | apply below_drew1) | exact HB.out)⟩⟩
     case round =>
      clear H'
      (try clear p2); (try clear p3); (try clear q3); (try clear hx3); (try clear c4); (try clear c4b0); (try clear c5); (try clear c5b0); (try clear c6); (try clear p6); (try clear c7); (try clear c7b0); (try clear c7b1); (try clear hx353_0); (try clear hx354_0); (try clear p2); (try clear p3); (try clear p353); (try clear p354); (try clear p6); (try clear q3); (try clear q353); (try clear q354)
      obtain ⟨x6_2, rfl, HA, HK2, HB⟩ := hrel
      cases gk with
      | zero => exact absurd HA.out (by simp [redpenref18_Changes.l1])
      | succ k2 =>
       have H := HA.out
       clear HA
       simp only [redpenref18_Changes.l1] at H
       by_cases c13 : x6_2 < (wrap64 ((l0.length : Int) - x5_2))
       ·rw [if_pos c13] at H
        have c13b0 : decide (x6_2 < (wrap64 ((l0.length : Int) - x5_2))) = true := decide_eq_true c13
        clear c13
        (first | rw [c13b0] | (simp only [i64_w, i32_w]; rw [c13b0]) | skip)
        by_cases c14 : x6_2 < (wrap64 ((l1.length : Int) - x5_2))
        ·rw [if_pos c14] at H
         have c14b0 : decide (x6_2 < (wrap64 ((l1.length : Int) - x5_2))) = true := decide_eq_true c14
         clear c14
         obtain ⟨ji15, hji15⟩ : ∃ j_ : Int, (wrap64 ((wrap64 ((l0.length : Int) - 1)) - x6_2)) = j_ := ⟨_, rfl⟩
         replace H : (if 0 ≤ (ji15) then (if (ji15) < (l0.length : Int) then (if 0 ≤ (wrap64 ((wrap64 ((l1.length : Int) - 1)) - x6_2)) then (if (wrap64 ((wrap64 ((l1.length : Int) - 1)) - x6_2)) < (l1.length : Int) then (if (rdOf ByteArray.empty l0 (ji15)).toList = (rdOf ByteArray.empty l1 (wrap64 ((wrap64 ((l1.length : Int) - 1)) - x6_2))).toList then (redpenref18_Changes.l1 k2 l0 l1 x5_2 (wrap64 (x6_2 + 1))) else (redpenref18_Changes.j3 k2 l0 l1 x5_2 x6_2)) else (none)) else (none)) else (none)) else (none)) = some r := by first | (rw [hji15] at H; exact H) | (simp only [hji15] at H ⊢; exact H)
         have hji15w : (IntKind.i64.wrap ((wrap64 ((l0.length : Int) - 1)) - x6_2)) = ji15 := (i64_w _).trans hji15
         by_cases c16 : 0 ≤ (ji15)
         ·rw [if_pos c16] at H
          have c16b0 : decide (0 ≤ (ji15)) = true := decide_eq_true c16
          clear c16
          by_cases c17 : (ji15) < (l0.length : Int)
          ·rw [if_pos c17] at H
           have c17b0 : decide ((ji15) < (l0.length : Int)) = true := decide_eq_true c17
           clear c17
           obtain ⟨ji18, hji18⟩ : ∃ j_ : Int, (wrap64 ((wrap64 ((l1.length : Int) - 1)) - x6_2)) = j_ := ⟨_, rfl⟩
           replace H : (if 0 ≤ (ji18) then (if (ji18) < (l1.length : Int) then (if (rdOf ByteArray.empty l0 (ji15)).toList = (rdOf ByteArray.empty l1 (ji18)).toList then (redpenref18_Changes.l1 k2 l0 l1 x5_2 (wrap64 (x6_2 + 1))) else (redpenref18_Changes.j3 k2 l0 l1 x5_2 x6_2)) else (none)) else (none)) = some r := by first | (rw [hji18] at H; exact H) | (simp only [hji18] at H ⊢; exact H)
           have hji18w : (IntKind.i64.wrap ((wrap64 ((l1.length : Int) - 1)) - x6_2)) = ji18 := (i64_w _).trans hji18
           by_cases c19 : 0 ≤ (ji18)
           ·rw [if_pos c19] at H
            have c19b0 : decide (0 ≤ (ji18)) = true := decide_eq_true c19
            clear c19
            by_cases c20 : (ji18) < (l1.length : Int)
            ·rw [if_pos c20] at H
             have c20b0 : decide ((ji18) < (l1.length : Int)) = true := decide_eq_true c20
             clear c20
             by_cases c21 : (rdOf ByteArray.empty l0 (ji15)).toList = (rdOf ByteArray.empty l1 (ji18)).toList
             ·rw [if_pos c21] at H
              have c21b0 : ((rdOf ByteArray.empty l0 (ji15)).toList == (rdOf ByteArray.empty l1 (ji18)).toList) = true := beq_iff_eq.mpr c21
              have c21b1 : ((rdOf ByteArray.empty l0 (ji15)).toList != (rdOf ByteArray.empty l1 (ji18)).toList) = false := bne_eq_false_iff_eq.mpr c21
              clear c21
              have H' := Aside0.mk H
              clear H
              try go_wp2
              have n0_ := Aside0.mk (below_drew1 HB.out)
              clear HB
              have HB := n0_
              clear n0_
              have p355 : 0 ≤ ((ji15) : Int) := of_decide_eq_true (by first | (with_reducible assumption) | assumption)
              have q355 : (ji15) < (l0.length : Int) := of_decide_eq_true (by first | (with_reducible assumption) | assumption)
              obtain ⟨ad355, e355, hx355_0⟩ := Kd.at_string HR0.out (ji15) p355 q355
              have hw355_0 := hx355_0
              cases e355
              replace hx355_0 := (HB.out.cell (World.block_lt_of_cell? w _ hx355_0)).trans hx355_0
              replace p355 := eq_true p355
              replace q355 := eq_true q355
              have p356 : 0 ≤ ((ji18) : Int) := of_decide_eq_true (by first | (with_reducible assumption) | assumption)
              have q356 : (ji18) < (l1.length : Int) := of_decide_eq_true (by first | (with_reducible assumption) | assumption)
              obtain ⟨ad356, e356, hx356_0⟩ := Kd.at_string HR1.out (ji18) p356 q356
              have hw356_0 := hx356_0
              cases e356
              replace hx356_0 := (HB.out.cell (World.block_lt_of_cell? w _ hx356_0)).trans hx356_0
              replace p356 := eq_true p356
              replace q356 := eq_true q356
              refine start_ (n := 33) (S := fun w' => w'.cell? (ad355.add ((ji15)).toNat) = some (.string (rdOf ByteArray.empty l0 (ji15))) ∧ w'.cell? (ad356.add ((ji18)).toNat) = some (.string (rdOf ByteArray.empty l1 (ji18)))) (ds := []) (bs 33 0) (by kernel_rfl) rfl rfl ⟨((HB.out.cell (World.block_lt_of_cell? w _ hw355_0)).trans hw355_0), ((HB.out.cell (World.block_lt_of_cell? w _ hw356_0)).trans hw356_0)⟩ (fun hHeld => ?_); refine with_tabW redpenref18_Changes.tab5 redpenref18_Changes.bits5 (fun HT_ HW_ => ?_)
              generalize wr.drew = w22 at HB hx355_0 hx356_0 hHeld ⊢
              refine pu_ 0 (some 36) ?_ (bs 33 1) HT_.out (by kernel_rfl) rfl rfl (fun _ _ _ h => h) (Or.inl ⟨by rfl, ?_⟩) ?_ ?_ ?_; rotate_left; (· intro w'; go_simp; with_reducible rfl); rotate_left; (· simp only [Act.put, sit, scz, scs, i64_w, i32_w]; rfl)
              refine pu_ 1 (some 37) ?_ (bs 33 3) HT_.out (by kernel_rfl) rfl rfl (fun _ _ _ h => h) (Or.inl ⟨by rfl, ?_⟩) ?_ ?_ ?_; rotate_left; (· intro w'; go_simp; with_reducible rfl); rotate_left; (· simp only [Act.put, sit, scz, scs, i64_w, i32_w]; rfl)
              refine pu_ 2 (some 38) ?_ (bs 33 7) HT_.out (by kernel_rfl) rfl rfl (fun _ _ _ h => h) (Or.inl ⟨by rfl, ?_⟩) ?_ ?_ ?_; rotate_left; (· intro w'; go_simp; with_reducible rfl); rotate_left; (· simp only [Act.put, sit, scz, scs, i64_w, i32_w]; rfl)
              refine pu_ 3 (some 39) ?_ (bs 33 15) HT_.out (by kernel_rfl) rfl rfl (fun _ _ _ h => h) (Or.inl ⟨by rfl, ?_⟩) ?_ ?_ ?_; rotate_left; (· intro w'; go_simp; with_reducible rfl); rotate_left; (· simp only [Act.put, sit, scz, scs, i64_w, i32_w]; rfl)
              refine pu_ 4 (some 40) ?_ (bs 33 31) HT_.out (by kernel_rfl) rfl rfl (fun _ _ _ h => h) (Or.inl ⟨by rfl, ?_⟩) ?_ ?_ ?_; rotate_left; (· intro w'; go_simp; with_reducible rfl); rotate_left; (· simp only [Act.put, sit, scz, scs, i64_w, i32_w]; rfl)
              refine pu_ 5 (some 41) ?_ (bs 33 63) HT_.out (by kernel_rfl) rfl rfl (fun _ _ _ h => h) (Or.inl ⟨by rfl, ?_⟩) ?_ ?_ ?_; rotate_left; (· intro w'; go_simp; with_reducible rfl); rotate_left; (· simp only [Act.put, sit, scz, scs, i64_w, i32_w]; rfl)
              refine pu_ 6 (some 42) ?_ (bs 33 127) HT_.out (by kernel_rfl) rfl rfl (fun _ _ _ h => h) (Or.inl ⟨by rfl, ?_⟩) ?_ ?_ ?_; rotate_left; (· intro w'; go_simp; with_reducible rfl); rotate_left; (· simp only [Act.put, sit, scz, scs, i64_w, i32_w]; rfl)
              refine pu_ 7 (some 43) ?_ (bs 33 255) HT_.out (by kernel_rfl) rfl rfl (fun _ _ _ h => h) (Or.inl ⟨by rfl, ?_⟩) ?_ ?_ ?_; rotate_left; (· intro w'; go_simp; with_reducible rfl); rotate_left; (· simp only [Act.put, sit, scz, scs, i64_w, i32_w]; rfl)
              refine pu_ 8 (some 44) ?_ (bs 33 511) HT_.out (by kernel_rfl) rfl rfl (fun _ _ _ h => h) (Or.inl ⟨by rfl, ?_⟩) ?_ ?_ ?_; rotate_left; (· intro w'; go_simp; with_reducible rfl); rotate_left; (· simp only [Act.put, sit, scz, scs, i64_w, i32_w]; rfl)
              refine pu_ 9 (some 45) ?_ (bs 33 1023) HT_.out (by kernel_rfl) rfl rfl (fun _ _ _ h => h) (Or.inl ⟨by rfl, ?_⟩) ?_ ?_ ?_; rotate_left; (· intro w'; go_simp; with_reducible rfl); rotate_left; (· simp only [Act.put, sit, scz, scs, i64_w, i32_w]; rfl)
              refine pu_ 10 (some 46) ?_ (bs 33 2047) HT_.out (by kernel_rfl) rfl rfl (fun _ _ _ h => h) (Or.inl ⟨by rfl, ?_⟩) ?_ ?_ ?_; rotate_left; (· intro w'; go_simp; with_reducible rfl); rotate_left; (· simp only [Act.put, sit, scz, scs, i64_w, i32_w]; rfl)
              refine pu_ 11 (some 47) ?_ (bs 33 4095) HT_.out (by kernel_rfl) rfl rfl (fun _ _ _ h => h) (Or.inl ⟨by rfl, ?_⟩) ?_ ?_ ?_; rotate_left; (· intro w'; go_simp; with_reducible rfl); rotate_left; (· simp only [Act.put, sit, scz, scs, i64_w, i32_w]; rfl)
              refine pu_ 12 (some 48) ?_ (bs 33 8191) HT_.out (by kernel_rfl) rfl rfl (fun _ _ _ h => h) (Or.inl ⟨by rfl, ?_⟩) ?_ ?_ ?_; rotate_left; (· intro w'; go_simp; with_reducible rfl); rotate_left; (· simp only [Act.put, sit, scz, scs, i64_w, i32_w]; rfl)
              refine pu_ 13 (some 49) ?_ (bs 33 16383) HT_.out (by kernel_rfl) rfl rfl (fun _ _ _ h => h) (Or.inl ⟨by rfl, ?_⟩) ?_ ?_ ?_; rotate_left; (· intro w'; go_simp; with_reducible rfl); rotate_left; (· simp only [Act.put, sit, scz, scs, i64_w, i32_w]; rfl)
              refine pu_ 14 (some 50) ?_ (bs 33 32767) HT_.out (by kernel_rfl) rfl rfl (fun _ _ _ h => h) (Or.inl ⟨by rfl, ?_⟩) ?_ ?_ ?_; rotate_left; (· intro w'; go_simp; with_reducible rfl); rotate_left; (· simp only [Act.put, sit, scz, scs, i64_w, i32_w]; rfl)
              refine pu_ 15 (some 51) ?_ (bs 33 65535) HT_.out (by kernel_rfl) rfl rfl (fun _ _ _ h => h) (Or.inl ⟨by rfl, ?_⟩) ?_ ?_ ?_; rotate_left; (· intro w'; go_simp; with_reducible rfl); rotate_left; (· simp only [Act.put, sit, scz, scs, i64_w, i32_w]; rfl)
              refine pu_ 16 (some 52) ?_ (bs 33 131071) HT_.out (by kernel_rfl) rfl rfl (fun _ _ _ h => h) (Or.inl ⟨by rfl, ?_⟩) ?_ ?_ ?_; rotate_left; (· intro w'; go_simp; with_reducible rfl); rotate_left; (· simp only [Act.put, sit, scz, scs, i64_w, i32_w]; rfl)
              refine pu_ 17 (some 53) ?_ (bs 33 262143) HT_.out (by kernel_rfl) rfl rfl (fun _ _ _ h => h) (Or.inl ⟨by rfl, ?_⟩) ?_ ?_ ?_; rotate_left; (· intro w'; go_simp; with_reducible rfl); rotate_left; (· simp only [Act.put, sit, scz, scs, i64_w, i32_w]; rfl)
              refine pu_ 18 (some 54) ?_ (bs 33 524287) HT_.out (by kernel_rfl) rfl rfl (fun _ _ _ h => h) (Or.inl ⟨by rfl, ?_⟩) ?_ ?_ ?_; rotate_left; (· intro w'; go_simp; with_reducible rfl); rotate_left; (· simp only [Act.put, sit, scz, scs, i64_w, i32_w]; rfl)
              refine pu_ 19 (some 55) ?_ (bs 33 1048575) HT_.out (by kernel_rfl) rfl rfl (fun _ _ _ h => h) (Or.inl ⟨by rfl, ?_⟩) ?_ ?_ ?_; rotate_left; (· intro w'; go_simp; with_reducible rfl); rotate_left; (· simp only [Act.put, sit, scz, scs, i64_w, i32_w]; rfl)
              refine pu_ 20 (some 56) ?_ (bs 33 2097151) HT_.out (by kernel_rfl) rfl rfl (fun _ _ _ h => h) (Or.inl ⟨by rfl, ?_⟩) ?_ ?_ ?_; rotate_left; (· intro w'; go_simp; with_reducible rfl); rotate_left; (· simp only [Act.put, sit, scz, scs, i64_w, i32_w]; rfl)
              refine pu_ 21 (some 57) ?_ (bs 33 4194303) HT_.out (by kernel_rfl) rfl rfl (fun _ _ _ h => h) (Or.inl ⟨by rfl, ?_⟩) ?_ ?_ ?_; rotate_left; (· intro w'; go_simp; with_reducible rfl); rotate_left; (· simp only [Act.put, sit, scz, scs, i64_w, i32_w]; rfl)
              refine pu_ 23 (some 59) ?_ (bs 33 12582911) HT_.out (by kernel_rfl) rfl rfl (fun _ _ _ h => h) (Or.inl ⟨by rfl, ?_⟩) ?_ ?_ ?_; rotate_left; (· intro w'; go_simp; with_reducible rfl); rotate_left; (· simp only [Act.put, sit, scz, scs, i64_w, i32_w]; rfl)
              refine pu_ 24 (some 60) ?_ (bs 33 29360127) HT_.out (by kernel_rfl) rfl rfl (fun _ _ _ h => h) (Or.inl ⟨by rfl, ?_⟩) ?_ ?_ ?_; rotate_left; (· intro w'; go_simp; with_reducible rfl); rotate_left; (· simp only [Act.put, sit, scz, scs, i64_w, i32_w]; rfl)
              refine pu_ 25 (some 61) ?_ (bs 33 62914559) HT_.out (by kernel_rfl) rfl rfl (fun _ _ _ h => h) (Or.inl ⟨by rfl, ?_⟩) ?_ ?_ ?_; rotate_left; (· intro w'; go_simp; with_reducible rfl); rotate_left; (· simp only [Act.put, sit, scz, scs, i64_w, i32_w]; rfl)
              refine pu_ 26 (some 62) ?_ (bs 33 130023423) HT_.out (by kernel_rfl) rfl rfl (fun _ _ _ h => h) (Or.inl ⟨by rfl, ?_⟩) ?_ ?_ ?_; rotate_left; (· intro w'; go_simp; with_reducible rfl); rotate_left; (· simp only [Act.put, sit, scz, scs, i64_w, i32_w]; rfl)
              refine pu_ 27 (some 63) ?_ (bs 33 264241151) HT_.out (by kernel_rfl) rfl rfl (fun _ _ _ h => h) (Or.inl ⟨by rfl, ?_⟩) ?_ ?_ ?_; rotate_left; (· intro w'; go_simp; with_reducible rfl); rotate_left; (· simp only [Act.put, sit, scz, scs, i64_w, i32_w]; rfl)
              refine pu_ 28 (some 64) ?_ (bs 33 532676607) HT_.out (by kernel_rfl) rfl rfl (fun _ _ _ h => h) (Or.inl ⟨by rfl, ?_⟩) ?_ ?_ ?_; rotate_left; (· intro w'; go_simp; with_reducible rfl); rotate_left; (· simp only [Act.put, sit, scz, scs, i64_w, i32_w]; rfl)
              refine pu_ 29 (some 65) ?_ (bs 33 1069547519) HT_.out (by kernel_rfl) rfl rfl (fun _ _ _ h => h) (Or.inl ⟨by rfl, ?_⟩) ?_ ?_ ?_; rotate_left; (· intro w'; go_simp; with_reducible rfl); rotate_left; (· simp only [Act.put, sit, scz, scs, i64_w, i32_w]; rfl)
              refine take_ (i := 22) (N := some 58) (v := ?_) (a' := ?_) (bs 33 1073741823) rfl rfl (take_ofW HT_.out HW_.out (by kernel_rfl)) (fun _ _ _ h => h) (Or.inl ⟨by rfl, ?_⟩) hHeld ?_ ?_; rotate_left; (· rintro w' ⟨s0, s1⟩; go_simp; with_reducible rfl); rotate_left; (· simp only [Act.put, sit, scz, scs, i64_w, i32_w]; rfl)
              refine take_ (i := 30) (N := some 66) (v := ?_) (a' := ?_) (bs 33 2147483647) rfl rfl (take_ofW HT_.out HW_.out (by kernel_rfl)) (fun _ _ _ h => h) (Or.inl ⟨by rfl, ?_⟩) hHeld ?_ ?_; rotate_left; (· rintro w' ⟨s0, s1⟩; go_simp; with_reducible rfl); rotate_left; (· simp only [Act.put, sit, scz, scs, i64_w, i32_w]; rfl)
              refine pu_ 31 (some 67) ?_ (bs 33 4294967295) HT_.out (by kernel_rfl) rfl rfl (fun _ _ _ h => h) (Or.inl ⟨by rfl, ?_⟩) ?_ ?_ ?_; rotate_left; (· intro w'; go_simp; with_reducible rfl); rotate_left; (· simp only [Act.put, sit, scz, scs, i64_w, i32_w]; rfl)
              refine pu_ 32 (some 68) ?_ (bs 33 8589934591) HT_.out (by kernel_rfl) rfl rfl (fun _ _ _ h => h) (Or.inl ⟨by rfl, ?_⟩) ?_ ?_ ?_; rotate_left; (· intro w'; go_simp; with_reducible rfl); rotate_left; (· simp only [Act.put, sit, scz, scs, i64_w, i32_w]; rfl)
              refine done_ (done_of HT_.out (by kernel_rfl)) ?_
              try go_wp2
              go_roundg k2
              case measure => have := HJ2.out; have := HK2.out; omega
              case rel => exact ⟨(wrap64 (x6_2 + 1)), (by first | rfl | (simp; done) | (simp [*]; done)), H', ⟨by have := HJ2.out; have := HK2.out; omega⟩, ⟨by repeat (first | (with_reducible first | exact HB.out | apply below_alloc | apply pw_below_drewN | apply below_drew1) | exact HB.out)⟩⟩
             ·rw [if_neg c21] at H
              have c21b0 : ((rdOf ByteArray.empty l0 (ji15)).toList == (rdOf ByteArray.empty l1 (ji18)).toList) = false := beq_eq_false_iff_ne.mpr c21
              have c21b1 : ((rdOf ByteArray.empty l0 (ji15)).toList != (rdOf ByteArray.empty l1 (ji18)).toList) = true := bne_iff_ne.mpr c21
              have H' := Aside0.mk H
              clear H
              try go_wp2
              have n0_ := Aside0.mk (below_drew1 HB.out)
              clear HB
              have HB := n0_
              clear n0_
              have p355 : 0 ≤ ((ji15) : Int) := of_decide_eq_true (by first | (with_reducible assumption) | assumption)
              have q355 : (ji15) < (l0.length : Int) := of_decide_eq_true (by first | (with_reducible assumption) | assumption)
              obtain ⟨ad355, e355, hx355_0⟩ := Kd.at_string HR0.out (ji15) p355 q355
              have hw355_0 := hx355_0
              cases e355
              replace hx355_0 := (HB.out.cell (World.block_lt_of_cell? w _ hx355_0)).trans hx355_0
              replace p355 := eq_true p355
              replace q355 := eq_true q355
              have p356 : 0 ≤ ((ji18) : Int) := of_decide_eq_true (by first | (with_reducible assumption) | assumption)
              have q356 : (ji18) < (l1.length : Int) := of_decide_eq_true (by first | (with_reducible assumption) | assumption)
              obtain ⟨ad356, e356, hx356_0⟩ := Kd.at_string HR1.out (ji18) p356 q356
              have hw356_0 := hx356_0
              cases e356
              replace hx356_0 := (HB.out.cell (World.block_lt_of_cell? w _ hx356_0)).trans hx356_0
              replace p356 := eq_true p356
              replace q356 := eq_true q356
              refine start_ (n := 33) (S := fun w' => w'.cell? (ad355.add ((ji15)).toNat) = some (.string (rdOf ByteArray.empty l0 (ji15))) ∧ w'.cell? (ad356.add ((ji18)).toNat) = some (.string (rdOf ByteArray.empty l1 (ji18)))) (ds := []) (bs 33 0) (by kernel_rfl) rfl rfl ⟨((HB.out.cell (World.block_lt_of_cell? w _ hw355_0)).trans hw355_0), ((HB.out.cell (World.block_lt_of_cell? w _ hw356_0)).trans hw356_0)⟩ (fun hHeld => ?_); refine with_tabW redpenref18_Changes.tab5 redpenref18_Changes.bits5 (fun HT_ HW_ => ?_)
              generalize wr.drew = w23 at HB hx355_0 hx356_0 hHeld ⊢
              refine pu_ 0 (some 36) ?_ (bs 33 1) HT_.out (by kernel_rfl) rfl rfl (fun _ _ _ h => h) (Or.inl ⟨by rfl, ?_⟩) ?_ ?_ ?_; rotate_left; (· intro w'; go_simp; with_reducible rfl); rotate_left; (· simp only [Act.put, sit, scz, scs, i64_w, i32_w]; rfl)
              refine pu_ 1 (some 37) ?_ (bs 33 3) HT_.out (by kernel_rfl) rfl rfl (fun _ _ _ h => h) (Or.inl ⟨by rfl, ?_⟩) ?_ ?_ ?_; rotate_left; (· intro w'; go_simp; with_reducible rfl); rotate_left; (· simp only [Act.put, sit, scz, scs, i64_w, i32_w]; rfl)
              refine pu_ 2 (some 38) ?_ (bs 33 7) HT_.out (by kernel_rfl) rfl rfl (fun _ _ _ h => h) (Or.inl ⟨by rfl, ?_⟩) ?_ ?_ ?_; rotate_left; (· intro w'; go_simp; with_reducible rfl); rotate_left; (· simp only [Act.put, sit, scz, scs, i64_w, i32_w]; rfl)
              refine pu_ 3 (some 39) ?_ (bs 33 15) HT_.out (by kernel_rfl) rfl rfl (fun _ _ _ h => h) (Or.inl ⟨by rfl, ?_⟩) ?_ ?_ ?_; rotate_left; (· intro w'; go_simp; with_reducible rfl); rotate_left; (· simp only [Act.put, sit, scz, scs, i64_w, i32_w]; rfl)
              refine pu_ 4 (some 40) ?_ (bs 33 31) HT_.out (by kernel_rfl) rfl rfl (fun _ _ _ h => h) (Or.inl ⟨by rfl, ?_⟩) ?_ ?_ ?_; rotate_left; (· intro w'; go_simp; with_reducible rfl); rotate_left; (· simp only [Act.put, sit, scz, scs, i64_w, i32_w]; rfl)
              refine pu_ 5 (some 41) ?_ (bs 33 63) HT_.out (by kernel_rfl) rfl rfl (fun _ _ _ h => h) (Or.inl ⟨by rfl, ?_⟩) ?_ ?_ ?_; rotate_left; (· intro w'; go_simp; with_reducible rfl); rotate_left; (· simp only [Act.put, sit, scz, scs, i64_w, i32_w]; rfl)
              refine pu_ 6 (some 42) ?_ (bs 33 127) HT_.out (by kernel_rfl) rfl rfl (fun _ _ _ h => h) (Or.inl ⟨by rfl, ?_⟩) ?_ ?_ ?_; rotate_left; (· intro w'; go_simp; with_reducible rfl); rotate_left; (· simp only [Act.put, sit, scz, scs, i64_w, i32_w]; rfl)
              refine pu_ 7 (some 43) ?_ (bs 33 255) HT_.out (by kernel_rfl) rfl rfl (fun _ _ _ h => h) (Or.inl ⟨by rfl, ?_⟩) ?_ ?_ ?_; rotate_left; (· intro w'; go_simp; with_reducible rfl); rotate_left; (· simp only [Act.put, sit, scz, scs, i64_w, i32_w]; rfl)
              refine pu_ 8 (some 44) ?_ (bs 33 511) HT_.out (by kernel_rfl) rfl rfl (fun _ _ _ h => h) (Or.inl ⟨by rfl, ?_⟩) ?_ ?_ ?_; rotate_left; (· intro w'; go_simp; with_reducible rfl); rotate_left; (· simp only [Act.put, sit, scz, scs, i64_w, i32_w]; rfl)
              refine pu_ 9 (some 45) ?_ (bs 33 1023) HT_.out (by kernel_rfl) rfl rfl (fun _ _ _ h => h) (Or.inl ⟨by rfl, ?_⟩) ?_ ?_ ?_; rotate_left; (· intro w'; go_simp; with_reducible rfl); rotate_left; (· simp only [Act.put, sit, scz, scs, i64_w, i32_w]; rfl)
              refine pu_ 10 (some 46) ?_ (bs 33 2047) HT_.out (by kernel_rfl) rfl rfl (fun _ _ _ h => h) (Or.inl ⟨by rfl, ?_⟩) ?_ ?_ ?_; rotate_left; (· intro w'; go_simp; with_reducible rfl); rotate_left; (· simp only [Act.put, sit, scz, scs, i64_w, i32_w]; rfl)
              refine pu_ 11 (some 47) ?_ (bs 33 4095) HT_.out (by kernel_rfl) rfl rfl (fun _ _ _ h => h) (Or.inl ⟨by rfl, ?_⟩) ?_ ?_ ?_; rotate_left; (· intro w'; go_simp; with_reducible rfl); rotate_left; (· simp only [Act.put, sit, scz, scs, i64_w, i32_w]; rfl)
              refine pu_ 12 (some 48) ?_ (bs 33 8191) HT_.out (by kernel_rfl) rfl rfl (fun _ _ _ h => h) (Or.inl ⟨by rfl, ?_⟩) ?_ ?_ ?_; rotate_left; (· intro w'; go_simp; with_reducible rfl); rotate_left; (· simp only [Act.put, sit, scz, scs, i64_w, i32_w]; rfl)
              refine pu_ 13 (some 49) ?_ (bs 33 16383) HT_.out (by kernel_rfl) rfl rfl (fun _ _ _ h => h) (Or.inl ⟨by rfl, ?_⟩) ?_ ?_ ?_; rotate_left; (· intro w'; go_simp; with_reducible rfl); rotate_left; (· simp only [Act.put, sit, scz, scs, i64_w, i32_w]; rfl)
              refine pu_ 14 (some 50) ?_ (bs 33 32767) HT_.out (by kernel_rfl) rfl rfl (fun _ _ _ h => h) (Or.inl ⟨by rfl, ?_⟩) ?_ ?_ ?_; rotate_left; (· intro w'; go_simp; with_reducible rfl); rotate_left; (· simp only [Act.put, sit, scz, scs, i64_w, i32_w]; rfl)
              refine pu_ 15 (some 51) ?_ (bs 33 65535) HT_.out (by kernel_rfl) rfl rfl (fun _ _ _ h => h) (Or.inl ⟨by rfl, ?_⟩) ?_ ?_ ?_; rotate_left; (· intro w'; go_simp; with_reducible rfl); rotate_left; (· simp only [Act.put, sit, scz, scs, i64_w, i32_w]; rfl)
              refine pu_ 16 (some 52) ?_ (bs 33 131071) HT_.out (by kernel_rfl) rfl rfl (fun _ _ _ h => h) (Or.inl ⟨by rfl, ?_⟩) ?_ ?_ ?_; rotate_left; (· intro w'; go_simp; with_reducible rfl); rotate_left; (· simp only [Act.put, sit, scz, scs, i64_w, i32_w]; rfl)
              refine pu_ 17 (some 53) ?_ (bs 33 262143) HT_.out (by kernel_rfl) rfl rfl (fun _ _ _ h => h) (Or.inl ⟨by rfl, ?_⟩) ?_ ?_ ?_; rotate_left; (· intro w'; go_simp; with_reducible rfl); rotate_left; (· simp only [Act.put, sit, scz, scs, i64_w, i32_w]; rfl)
              refine pu_ 18 (some 54) ?_ (bs 33 524287) HT_.out (by kernel_rfl) rfl rfl (fun _ _ _ h => h) (Or.inl ⟨by rfl, ?_⟩) ?_ ?_ ?_; rotate_left; (· intro w'; go_simp; with_reducible rfl); rotate_left; (· simp only [Act.put, sit, scz, scs, i64_w, i32_w]; rfl)
              refine pu_ 19 (some 55) ?_ (bs 33 1048575) HT_.out (by kernel_rfl) rfl rfl (fun _ _ _ h => h) (Or.inl ⟨by rfl, ?_⟩) ?_ ?_ ?_; rotate_left; (· intro w'; go_simp; with_reducible rfl); rotate_left; (· simp only [Act.put, sit, scz, scs, i64_w, i32_w]; rfl)
              refine pu_ 20 (some 56) ?_ (bs 33 2097151) HT_.out (by kernel_rfl) rfl rfl (fun _ _ _ h => h) (Or.inl ⟨by rfl, ?_⟩) ?_ ?_ ?_; rotate_left; (· intro w'; go_simp; with_reducible rfl); rotate_left; (· simp only [Act.put, sit, scz, scs, i64_w, i32_w]; rfl)
              refine pu_ 21 (some 57) ?_ (bs 33 4194303) HT_.out (by kernel_rfl) rfl rfl (fun _ _ _ h => h) (Or.inl ⟨by rfl, ?_⟩) ?_ ?_ ?_; rotate_left; (· intro w'; go_simp; with_reducible rfl); rotate_left; (· simp only [Act.put, sit, scz, scs, i64_w, i32_w]; rfl)
              refine pu_ 23 (some 59) ?_ (bs 33 12582911) HT_.out (by kernel_rfl) rfl rfl (fun _ _ _ h => h) (Or.inl ⟨by rfl, ?_⟩) ?_ ?_ ?_; rotate_left; (· intro w'; go_simp; with_reducible rfl); rotate_left; (· simp only [Act.put, sit, scz, scs, i64_w, i32_w]; rfl)
              refine pu_ 24 (some 60) ?_ (bs 33 29360127) HT_.out (by kernel_rfl) rfl rfl (fun _ _ _ h => h) (Or.inl ⟨by rfl, ?_⟩) ?_ ?_ ?_; rotate_left; (· intro w'; go_simp; with_reducible rfl); rotate_left; (· simp only [Act.put, sit, scz, scs, i64_w, i32_w]; rfl)
              refine pu_ 25 (some 61) ?_ (bs 33 62914559) HT_.out (by kernel_rfl) rfl rfl (fun _ _ _ h => h) (Or.inl ⟨by rfl, ?_⟩) ?_ ?_ ?_; rotate_left; (· intro w'; go_simp; with_reducible rfl); rotate_left; (· simp only [Act.put, sit, scz, scs, i64_w, i32_w]; rfl)
              refine pu_ 26 (some 62) ?_ (bs 33 130023423) HT_.out (by kernel_rfl) rfl rfl (fun _ _ _ h => h) (Or.inl ⟨by rfl, ?_⟩) ?_ ?_ ?_; rotate_left; (· intro w'; go_simp; with_reducible rfl); rotate_left; (· simp only [Act.put, sit, scz, scs, i64_w, i32_w]; rfl)
              refine pu_ 27 (some 63) ?_ (bs 33 264241151) HT_.out (by kernel_rfl) rfl rfl (fun _ _ _ h => h) (Or.inl ⟨by rfl, ?_⟩) ?_ ?_ ?_; rotate_left; (· intro w'; go_simp; with_reducible rfl); rotate_left; (· simp only [Act.put, sit, scz, scs, i64_w, i32_w]; rfl)
              refine pu_ 28 (some 64) ?_ (bs 33 532676607) HT_.out (by kernel_rfl) rfl rfl (fun _ _ _ h => h) (Or.inl ⟨by rfl, ?_⟩) ?_ ?_ ?_; rotate_left; (· intro w'; go_simp; with_reducible rfl); rotate_left; (· simp only [Act.put, sit, scz, scs, i64_w, i32_w]; rfl)
              refine pu_ 29 (some 65) ?_ (bs 33 1069547519) HT_.out (by kernel_rfl) rfl rfl (fun _ _ _ h => h) (Or.inl ⟨by rfl, ?_⟩) ?_ ?_ ?_; rotate_left; (· intro w'; go_simp; with_reducible rfl); rotate_left; (· simp only [Act.put, sit, scz, scs, i64_w, i32_w]; rfl)
              refine take_ (i := 22) (N := some 58) (v := ?_) (a' := ?_) (bs 33 1073741823) rfl rfl (take_ofW HT_.out HW_.out (by kernel_rfl)) (fun _ _ _ h => h) (Or.inl ⟨by rfl, ?_⟩) hHeld ?_ ?_; rotate_left; (· rintro w' ⟨s0, s1⟩; go_simp; with_reducible rfl); rotate_left; (· simp only [Act.put, sit, scz, scs, i64_w, i32_w]; rfl)
              refine take_ (i := 30) (N := some 66) (v := ?_) (a' := ?_) (bs 33 2147483647) rfl rfl (take_ofW HT_.out HW_.out (by kernel_rfl)) (fun _ _ _ h => h) (Or.inl ⟨by rfl, ?_⟩) hHeld ?_ ?_; rotate_left; (· rintro w' ⟨s0, s1⟩; go_simp; with_reducible rfl); rotate_left; (· simp only [Act.put, sit, scz, scs, i64_w, i32_w]; rfl)
              refine pu_ 31 (some 67) ?_ (bs 33 4294967295) HT_.out (by kernel_rfl) rfl rfl (fun _ _ _ h => h) (Or.inl ⟨by rfl, ?_⟩) ?_ ?_ ?_; rotate_left; (· intro w'; go_simp; with_reducible rfl); rotate_left; (· simp only [Act.put, sit, scz, scs, i64_w, i32_w]; rfl)
              refine pu_ 32 (some 68) ?_ (bs 33 8589934591) HT_.out (by kernel_rfl) rfl rfl (fun _ _ _ h => h) (Or.inl ⟨by rfl, ?_⟩) ?_ ?_ ?_; rotate_left; (· intro w'; go_simp; with_reducible rfl); rotate_left; (· simp only [Act.put, sit, scz, scs, i64_w, i32_w]; rfl)
              refine done_ (done_of HT_.out (by kernel_rfl)) ?_
              try go_wp2
              go_meet
              case rel => exact ⟨_, (x6_2), (by first | rfl | (simp; done) | (simp [*]; done)), H', ⟨by have := HJ2.out; have := HK2.out; first | omega | exact Nat.le_refl _⟩, ⟨by repeat (first | (with_reducible first | exact HB.out | apply below_alloc | apply pw_below_drewN | apply below_drew1) | exact HB.out)⟩⟩
            ·rw [if_neg c20] at H
             exact absurd H (by simp)
           ·rw [if_neg c19] at H
            exact absurd H (by simp)
          ·rw [if_neg c17] at H
           exact absurd H (by simp)
         ·rw [if_neg c16] at H
          exact absurd H (by simp)
        ·rw [if_neg c14] at H
         have c14b0 : decide (x6_2 < (wrap64 ((l1.length : Int) - x5_2))) = false := decide_eq_false c14
         clear c14
         have H' := Aside0.mk H
         clear H
         try go_wp2
         have n0_ := Aside0.mk (below_drew1 HB.out)
         clear HB
         have HB := n0_
         clear n0_
         refine start_ (n := 33) (S := fun w' => True) (ds := []) (bs 33 0) (by kernel_rfl) rfl rfl trivial (fun hHeld => ?_); refine with_tabW redpenref18_Changes.tab5 redpenref18_Changes.bits5 (fun HT_ HW_ => ?_)
         generalize wr.drew = w24 at HB hHeld ⊢
         refine pu_ 0 (some 36) ?_ (bs 33 1) HT_.out (by kernel_rfl) rfl rfl (fun _ _ _ h => h) (Or.inl ⟨by rfl, ?_⟩) ?_ ?_ ?_; rotate_left; (· intro w'; go_simp; with_reducible rfl); rotate_left; (· simp only [Act.put, sit, scz, scs, i64_w, i32_w]; rfl)
         refine pu_ 1 (some 37) ?_ (bs 33 3) HT_.out (by kernel_rfl) rfl rfl (fun _ _ _ h => h) (Or.inl ⟨by rfl, ?_⟩) ?_ ?_ ?_; rotate_left; (· intro w'; go_simp; with_reducible rfl); rotate_left; (· simp only [Act.put, sit, scz, scs, i64_w, i32_w]; rfl)
         refine pu_ 2 (some 38) ?_ (bs 33 7) HT_.out (by kernel_rfl) rfl rfl (fun _ _ _ h => h) (Or.inl ⟨by rfl, ?_⟩) ?_ ?_ ?_; rotate_left; (· intro w'; go_simp; with_reducible rfl); rotate_left; (· simp only [Act.put, sit, scz, scs, i64_w, i32_w]; rfl)
         refine pu_ 3 (some 39) ?_ (bs 33 15) HT_.out (by kernel_rfl) rfl rfl (fun _ _ _ h => h) (Or.inl ⟨by rfl, ?_⟩) ?_ ?_ ?_; rotate_left; (· intro w'; go_simp; with_reducible rfl); rotate_left; (· simp only [Act.put, sit, scz, scs, i64_w, i32_w]; rfl)
         refine pu_ 4 (some 40) ?_ (bs 33 31) HT_.out (by kernel_rfl) rfl rfl (fun _ _ _ h => h) (Or.inl ⟨by rfl, ?_⟩) ?_ ?_ ?_; rotate_left; (· intro w'; go_simp; with_reducible rfl); rotate_left; (· simp only [Act.put, sit, scz, scs, i64_w, i32_w]; rfl)
         refine pu_ 5 (some 41) ?_ (bs 33 63) HT_.out (by kernel_rfl) rfl rfl (fun _ _ _ h => h) (Or.inl ⟨by rfl, ?_⟩) ?_ ?_ ?_; rotate_left; (· intro w'; go_simp; with_reducible rfl); rotate_left; (· simp only [Act.put, sit, scz, scs, i64_w, i32_w]; rfl)
         refine pu_ 6 (some 42) ?_ (bs 33 127) HT_.out (by kernel_rfl) rfl rfl (fun _ _ _ h => h) (Or.inl ⟨by rfl, ?_⟩) ?_ ?_ ?_; rotate_left; (· intro w'; go_simp; with_reducible rfl); rotate_left; (· simp only [Act.put, sit, scz, scs, i64_w, i32_w]; rfl)
         refine pu_ 7 (some 43) ?_ (bs 33 255) HT_.out (by kernel_rfl) rfl rfl (fun _ _ _ h => h) (Or.inl ⟨by rfl, ?_⟩) ?_ ?_ ?_; rotate_left; (· intro w'; go_simp; with_reducible rfl); rotate_left; (· simp only [Act.put, sit, scz, scs, i64_w, i32_w]; rfl)
         refine pu_ 8 (some 44) ?_ (bs 33 511) HT_.out (by kernel_rfl) rfl rfl (fun _ _ _ h => h) (Or.inl ⟨by rfl, ?_⟩) ?_ ?_ ?_; rotate_left; (· intro w'; go_simp; with_reducible rfl); rotate_left; (· simp only [Act.put, sit, scz, scs, i64_w, i32_w]; rfl)
         refine pu_ 9 (some 45) ?_ (bs 33 1023) HT_.out (by kernel_rfl) rfl rfl (fun _ _ _ h => h) (Or.inl ⟨by rfl, ?_⟩) ?_ ?_ ?_; rotate_left; (· intro w'; go_simp; with_reducible rfl); rotate_left; (· simp only [Act.put, sit, scz, scs, i64_w, i32_w]; rfl)
         refine pu_ 10 (some 46) ?_ (bs 33 2047) HT_.out (by kernel_rfl) rfl rfl (fun _ _ _ h => h) (Or.inl ⟨by rfl, ?_⟩) ?_ ?_ ?_; rotate_left; (· intro w'; go_simp; with_reducible rfl); rotate_left; (· simp only [Act.put, sit, scz, scs, i64_w, i32_w]; rfl)
         refine pu_ 11 (some 47) ?_ (bs 33 4095) HT_.out (by kernel_rfl) rfl rfl (fun _ _ _ h => h) (Or.inl ⟨by rfl, ?_⟩) ?_ ?_ ?_; rotate_left; (· intro w'; go_simp; with_reducible rfl); rotate_left; (· simp only [Act.put, sit, scz, scs, i64_w, i32_w]; rfl)
         refine pu_ 12 (some 48) ?_ (bs 33 8191) HT_.out (by kernel_rfl) rfl rfl (fun _ _ _ h => h) (Or.inl ⟨by rfl, ?_⟩) ?_ ?_ ?_; rotate_left; (· intro w'; go_simp; with_reducible rfl); rotate_left; (· simp only [Act.put, sit, scz, scs, i64_w, i32_w]; rfl)
         refine pu_ 13 (some 49) ?_ (bs 33 16383) HT_.out (by kernel_rfl) rfl rfl (fun _ _ _ h => h) (Or.inl ⟨by rfl, ?_⟩) ?_ ?_ ?_; rotate_left; (· intro w'; go_simp; with_reducible rfl); rotate_left; (· simp only [Act.put, sit, scz, scs, i64_w, i32_w]; rfl)
         refine pu_ 14 (some 50) ?_ (bs 33 32767) HT_.out (by kernel_rfl) rfl rfl (fun _ _ _ h => h) (Or.inl ⟨by rfl, ?_⟩) ?_ ?_ ?_; rotate_left; (· intro w'; go_simp; with_reducible rfl); rotate_left; (· simp only [Act.put, sit, scz, scs, i64_w, i32_w]; rfl)
         refine pu_ 15 (some 51) undef (bs 33 65535) HT_.out (by kernel_rfl) rfl rfl (fun _ _ _ h => h) (Or.inr ⟨by rfl, rfl⟩) ?_ ?_ ?_; rotate_left; (· simp only [Act.put, sit, scz, scs, i64_w, i32_w]; rfl)
         refine pu_ 16 (some 52) undef (bs 33 131071) HT_.out (by kernel_rfl) rfl rfl (fun _ _ _ h => h) (Or.inr ⟨by rfl, rfl⟩) ?_ ?_ ?_; rotate_left; (· simp only [Act.put, sit, scz, scs, i64_w, i32_w]; rfl)
         refine pu_ 17 (some 53) undef (bs 33 262143) HT_.out (by kernel_rfl) rfl rfl (fun _ _ _ h => h) (Or.inr ⟨by rfl, rfl⟩) ?_ ?_ ?_; rotate_left; (· simp only [Act.put, sit, scz, scs, i64_w, i32_w]; rfl)
         refine pu_ 18 (some 54) undef (bs 33 524287) HT_.out (by kernel_rfl) rfl rfl (fun _ _ _ h => h) (Or.inr ⟨by rfl, rfl⟩) ?_ ?_ ?_; rotate_left; (· simp only [Act.put, sit, scz, scs, i64_w, i32_w]; rfl)
         refine pu_ 19 (some 55) undef (bs 33 1048575) HT_.out (by kernel_rfl) rfl rfl (fun _ _ _ h => h) (Or.inr ⟨by rfl, rfl⟩) ?_ ?_ ?_; rotate_left; (· simp only [Act.put, sit, scz, scs, i64_w, i32_w]; rfl)
         refine pu_ 20 (some 56) undef (bs 33 2097151) HT_.out (by kernel_rfl) rfl rfl (fun _ _ _ h => h) (Or.inr ⟨by rfl, rfl⟩) ?_ ?_ ?_; rotate_left; (· simp only [Act.put, sit, scz, scs, i64_w, i32_w]; rfl)
         refine pu_ 21 (some 57) undef (bs 33 4194303) HT_.out (by kernel_rfl) rfl rfl (fun _ _ _ h => h) (Or.inr ⟨by rfl, rfl⟩) ?_ ?_ ?_; rotate_left; (· simp only [Act.put, sit, scz, scs, i64_w, i32_w]; rfl)
         refine pu_ 22 (some 58) undef (bs 33 8388607) HT_.out (by kernel_rfl) rfl rfl (fun _ _ _ h => h) (Or.inr ⟨by rfl, rfl⟩) ?_ ?_ ?_; rotate_left; (· simp only [Act.put, sit, scz, scs, i64_w, i32_w]; rfl)
         refine pu_ 23 (some 59) undef (bs 33 16777215) HT_.out (by kernel_rfl) rfl rfl (fun _ _ _ h => h) (Or.inr ⟨by rfl, rfl⟩) ?_ ?_ ?_; rotate_left; (· simp only [Act.put, sit, scz, scs, i64_w, i32_w]; rfl)
         refine pu_ 24 (some 60) undef (bs 33 33554431) HT_.out (by kernel_rfl) rfl rfl (fun _ _ _ h => h) (Or.inr ⟨by rfl, rfl⟩) ?_ ?_ ?_; rotate_left; (· simp only [Act.put, sit, scz, scs, i64_w, i32_w]; rfl)
         refine pu_ 25 (some 61) undef (bs 33 67108863) HT_.out (by kernel_rfl) rfl rfl (fun _ _ _ h => h) (Or.inr ⟨by rfl, rfl⟩) ?_ ?_ ?_; rotate_left; (· simp only [Act.put, sit, scz, scs, i64_w, i32_w]; rfl)
         refine pu_ 26 (some 62) undef (bs 33 134217727) HT_.out (by kernel_rfl) rfl rfl (fun _ _ _ h => h) (Or.inr ⟨by rfl, rfl⟩) ?_ ?_ ?_; rotate_left; (· simp only [Act.put, sit, scz, scs, i64_w, i32_w]; rfl)
         refine pu_ 27 (some 63) undef (bs 33 268435455) HT_.out (by kernel_rfl) rfl rfl (fun _ _ _ h => h) (Or.inr ⟨by rfl, rfl⟩) ?_ ?_ ?_; rotate_left; (· simp only [Act.put, sit, scz, scs, i64_w, i32_w]; rfl)
         refine pu_ 28 (some 64) undef (bs 33 536870911) HT_.out (by kernel_rfl) rfl rfl (fun _ _ _ h => h) (Or.inr ⟨by rfl, rfl⟩) ?_ ?_ ?_; rotate_left; (· simp only [Act.put, sit, scz, scs, i64_w, i32_w]; rfl)
         refine pu_ 29 (some 65) undef (bs 33 1073741823) HT_.out (by kernel_rfl) rfl rfl (fun _ _ _ h => h) (Or.inr ⟨by rfl, rfl⟩) ?_ ?_ ?_; rotate_left; (· simp only [Act.put, sit, scz, scs, i64_w, i32_w]; rfl)
         refine pu_ 30 (some 66) undef (bs 33 2147483647) HT_.out (by kernel_rfl) rfl rfl (fun _ _ _ h => h) (Or.inr ⟨by rfl, rfl⟩) ?_ ?_ ?_; rotate_left; (· simp only [Act.put, sit, scz, scs, i64_w, i32_w]; rfl)
         refine pu_ 31 (some 67) undef (bs 33 4294967295) HT_.out (by kernel_rfl) rfl rfl (fun _ _ _ h => h) (Or.inr ⟨by rfl, rfl⟩) ?_ ?_ ?_; rotate_left; (· simp only [Act.put, sit, scz, scs, i64_w, i32_w]; rfl)
         refine pu_ 32 (some 68) ?_ (bs 33 8589934591) HT_.out (by kernel_rfl) rfl rfl (fun _ _ _ h => h) (Or.inl ⟨by rfl, ?_⟩) ?_ ?_ ?_; rotate_left; (· intro w'; go_simp; with_reducible rfl); rotate_left; (· simp only [Act.put, sit, scz, scs, i64_w, i32_w]; rfl)
         refine done_ (done_of HT_.out (by kernel_rfl)) ?_
         try go_wp2
         go_meet
         case rel => exact ⟨_, (x6_2), (by first | rfl | (simp; done) | (simp [*]; done)), H', ⟨by have := HJ2.out; have := HK2.out; first | omega | exact Nat.le_refl _⟩, ⟨by repeat (first | (with_reducible first | exact HB.out | apply below_alloc | apply pw_below_drewN | apply below_drew1) | exact HB.out)⟩⟩
       ·rw [if_neg c13] at H
        have c13b0 : decide (x6_2 < (wrap64 ((l0.length : Int) - x5_2))) = false := decide_eq_false c13
        clear c13
        (first | rw [c13b0] | (simp only [i64_w, i32_w]; rw [c13b0]) | skip)
        have H' := Aside0.mk H
        clear H
        try go_wp2
        have n0_ := Aside0.mk (below_drew1 HB.out)
        clear HB
        have HB := n0_
        clear n0_
        refine start_ (n := 33) (S := fun w' => True) (ds := []) (bs 33 0) (by kernel_rfl) rfl rfl trivial (fun hHeld => ?_); refine with_tabW redpenref18_Changes.tab5 redpenref18_Changes.bits5 (fun HT_ HW_ => ?_)
        generalize wr.drew = w25 at HB hHeld ⊢
        refine pu_ 0 (some 36) ?_ (bs 33 1) HT_.out (by kernel_rfl) rfl rfl (fun _ _ _ h => h) (Or.inl ⟨by rfl, ?_⟩) ?_ ?_ ?_; rotate_left; (· intro w'; go_simp; with_reducible rfl); rotate_left; (· simp only [Act.put, sit, scz, scs, i64_w, i32_w]; rfl)
        refine pu_ 1 (some 37) ?_ (bs 33 3) HT_.out (by kernel_rfl) rfl rfl (fun _ _ _ h => h) (Or.inl ⟨by rfl, ?_⟩) ?_ ?_ ?_; rotate_left; (· intro w'; go_simp; with_reducible rfl); rotate_left; (· simp only [Act.put, sit, scz, scs, i64_w, i32_w]; rfl)
        refine pu_ 2 (some 38) ?_ (bs 33 7) HT_.out (by kernel_rfl) rfl rfl (fun _ _ _ h => h) (Or.inl ⟨by rfl, ?_⟩) ?_ ?_ ?_; rotate_left; (· intro w'; go_simp; with_reducible rfl); rotate_left; (· simp only [Act.put, sit, scz, scs, i64_w, i32_w]; rfl)
        refine pu_ 3 (some 39) ?_ (bs 33 15) HT_.out (by kernel_rfl) rfl rfl (fun _ _ _ h => h) (Or.inl ⟨by rfl, ?_⟩) ?_ ?_ ?_; rotate_left; (· intro w'; go_simp; with_reducible rfl); rotate_left; (· simp only [Act.put, sit, scz, scs, i64_w, i32_w]; rfl)
        refine pu_ 4 (some 40) ?_ (bs 33 31) HT_.out (by kernel_rfl) rfl rfl (fun _ _ _ h => h) (Or.inl ⟨by rfl, ?_⟩) ?_ ?_ ?_; rotate_left; (· intro w'; go_simp; with_reducible rfl); rotate_left; (· simp only [Act.put, sit, scz, scs, i64_w, i32_w]; rfl)
        refine pu_ 5 (some 41) ?_ (bs 33 63) HT_.out (by kernel_rfl) rfl rfl (fun _ _ _ h => h) (Or.inl ⟨by rfl, ?_⟩) ?_ ?_ ?_; rotate_left; (· intro w'; go_simp; with_reducible rfl); rotate_left; (· simp only [Act.put, sit, scz, scs, i64_w, i32_w]; rfl)
        refine pu_ 6 (some 42) ?_ (bs 33 127) HT_.out (by kernel_rfl) rfl rfl (fun _ _ _ h => h) (Or.inl ⟨by rfl, ?_⟩) ?_ ?_ ?_; rotate_left; (· intro w'; go_simp; with_reducible rfl); rotate_left; (· simp only [Act.put, sit, scz, scs, i64_w, i32_w]; rfl)
        refine pu_ 7 (some 43) undef (bs 33 255) HT_.out (by kernel_rfl) rfl rfl (fun _ _ _ h => h) (Or.inr ⟨by rfl, rfl⟩) ?_ ?_ ?_; rotate_left; (· simp only [Act.put, sit, scz, scs, i64_w, i32_w]; rfl)
        refine pu_ 8 (some 44) undef (bs 33 511) HT_.out (by kernel_rfl) rfl rfl (fun _ _ _ h => h) (Or.inr ⟨by rfl, rfl⟩) ?_ ?_ ?_; rotate_left; (· simp only [Act.put, sit, scz, scs, i64_w, i32_w]; rfl)
        refine pu_ 9 (some 45) undef (bs 33 1023) HT_.out (by kernel_rfl) rfl rfl (fun _ _ _ h => h) (Or.inr ⟨by rfl, rfl⟩) ?_ ?_ ?_; rotate_left; (· simp only [Act.put, sit, scz, scs, i64_w, i32_w]; rfl)
        refine pu_ 10 (some 46) undef (bs 33 2047) HT_.out (by kernel_rfl) rfl rfl (fun _ _ _ h => h) (Or.inr ⟨by rfl, rfl⟩) ?_ ?_ ?_; rotate_left; (· simp only [Act.put, sit, scz, scs, i64_w, i32_w]; rfl)
        refine pu_ 11 (some 47) undef (bs 33 4095) HT_.out (by kernel_rfl) rfl rfl (fun _ _ _ h => h) (Or.inr ⟨by rfl, rfl⟩) ?_ ?_ ?_; rotate_left; (· simp only [Act.put, sit, scz, scs, i64_w, i32_w]; rfl)
        refine pu_ 12 (some 48) undef (bs 33 8191) HT_.out (by kernel_rfl) rfl rfl (fun _ _ _ h => h) (Or.inr ⟨by rfl, rfl⟩) ?_ ?_ ?_; rotate_left; (· simp only [Act.put, sit, scz, scs, i64_w, i32_w]; rfl)
        refine pu_ 13 (some 49) ?_ (bs 33 16383) HT_.out (by kernel_rfl) rfl rfl (fun _ _ _ h => h) (Or.inl ⟨by rfl, ?_⟩) ?_ ?_ ?_; rotate_left; (· intro w'; go_simp; with_reducible rfl); rotate_left; (· simp only [Act.put, sit, scz, scs, i64_w, i32_w]; rfl)
        refine pu_ 14 (some 50) ?_ (bs 33 32767) HT_.out (by kernel_rfl) rfl rfl (fun _ _ _ h => h) (Or.inl ⟨by rfl, ?_⟩) ?_ ?_ ?_; rotate_left; (· intro w'; go_simp; with_reducible rfl); rotate_left; (· simp only [Act.put, sit, scz, scs, i64_w, i32_w]; rfl)
        refine pu_ 15 (some 51) undef (bs 33 65535) HT_.out (by kernel_rfl) rfl rfl (fun _ _ _ h => h) (Or.inr ⟨by rfl, rfl⟩) ?_ ?_ ?_; rotate_left; (· simp only [Act.put, sit, scz, scs, i64_w, i32_w]; rfl)
        refine pu_ 16 (some 52) undef (bs 33 131071) HT_.out (by kernel_rfl) rfl rfl (fun _ _ _ h => h) (Or.inr ⟨by rfl, rfl⟩) ?_ ?_ ?_; rotate_left; (· simp only [Act.put, sit, scz, scs, i64_w, i32_w]; rfl)
        refine pu_ 17 (some 53) undef (bs 33 262143) HT_.out (by kernel_rfl) rfl rfl (fun _ _ _ h => h) (Or.inr ⟨by rfl, rfl⟩) ?_ ?_ ?_; rotate_left; (· simp only [Act.put, sit, scz, scs, i64_w, i32_w]; rfl)
        refine pu_ 18 (some 54) undef (bs 33 524287) HT_.out (by kernel_rfl) rfl rfl (fun _ _ _ h => h) (Or.inr ⟨by rfl, rfl⟩) ?_ ?_ ?_; rotate_left; (· simp only [Act.put, sit, scz, scs, i64_w, i32_w]; rfl)
        refine pu_ 19 (some 55) undef (bs 33 1048575) HT_.out (by kernel_rfl) rfl rfl (fun _ _ _ h => h) (Or.inr ⟨by rfl, rfl⟩) ?_ ?_ ?_; rotate_left; (· simp only [Act.put, sit, scz, scs, i64_w, i32_w]; rfl)
        refine pu_ 20 (some 56) undef (bs 33 2097151) HT_.out (by kernel_rfl) rfl rfl (fun _ _ _ h => h) (Or.inr ⟨by rfl, rfl⟩) ?_ ?_ ?_; rotate_left; (· simp only [Act.put, sit, scz, scs, i64_w, i32_w]; rfl)
        refine pu_ 21 (some 57) undef (bs 33 4194303) HT_.out (by kernel_rfl) rfl rfl (fun _ _ _ h => h) (Or.inr ⟨by rfl, rfl⟩) ?_ ?_ ?_; rotate_left; (· simp only [Act.put, sit, scz, scs, i64_w, i32_w]; rfl)
        refine pu_ 22 (some 58) undef (bs 33 8388607) HT_.out (by kernel_rfl) rfl rfl (fun _ _ _ h => h) (Or.inr ⟨by rfl, rfl⟩) ?_ ?_ ?_; rotate_left; (· simp only [Act.put, sit, scz, scs, i64_w, i32_w]; rfl)
        refine pu_ 23 (some 59) undef (bs 33 16777215) HT_.out (by kernel_rfl) rfl rfl (fun _ _ _ h => h) (Or.inr ⟨by rfl, rfl⟩) ?_ ?_ ?_; rotate_left; (· simp only [Act.put, sit, scz, scs, i64_w, i32_w]; rfl)
        refine pu_ 24 (some 60) undef (bs 33 33554431) HT_.out (by kernel_rfl) rfl rfl (fun _ _ _ h => h) (Or.inr ⟨by rfl, rfl⟩) ?_ ?_ ?_; rotate_left; (· simp only [Act.put, sit, scz, scs, i64_w, i32_w]; rfl)
        refine pu_ 25 (some 61) undef (bs 33 67108863) HT_.out (by kernel_rfl) rfl rfl (fun _ _ _ h => h) (Or.inr ⟨by rfl, rfl⟩) ?_ ?_ ?_; rotate_left; (· simp only [Act.put, sit, scz, scs, i64_w, i32_w]; rfl)
        refine pu_ 26 (some 62) undef (bs 33 134217727) HT_.out (by kernel_rfl) rfl rfl (fun _ _ _ h => h) (Or.inr ⟨by rfl, rfl⟩) ?_ ?_ ?_; rotate_left; (· simp only [Act.put, sit, scz, scs, i64_w, i32_w]; rfl)
        refine pu_ 27 (some 63) undef (bs 33 268435455) HT_.out (by kernel_rfl) rfl rfl (fun _ _ _ h => h) (Or.inr ⟨by rfl, rfl⟩) ?_ ?_ ?_; rotate_left; (· simp only [Act.put, sit, scz, scs, i64_w, i32_w]; rfl)
        refine pu_ 28 (some 64) undef (bs 33 536870911) HT_.out (by kernel_rfl) rfl rfl (fun _ _ _ h => h) (Or.inr ⟨by rfl, rfl⟩) ?_ ?_ ?_; rotate_left; (· simp only [Act.put, sit, scz, scs, i64_w, i32_w]; rfl)
        refine pu_ 29 (some 65) undef (bs 33 1073741823) HT_.out (by kernel_rfl) rfl rfl (fun _ _ _ h => h) (Or.inr ⟨by rfl, rfl⟩) ?_ ?_ ?_; rotate_left; (· simp only [Act.put, sit, scz, scs, i64_w, i32_w]; rfl)
        refine pu_ 30 (some 66) undef (bs 33 2147483647) HT_.out (by kernel_rfl) rfl rfl (fun _ _ _ h => h) (Or.inr ⟨by rfl, rfl⟩) ?_ ?_ ?_; rotate_left; (· simp only [Act.put, sit, scz, scs, i64_w, i32_w]; rfl)
        refine pu_ 31 (some 67) undef (bs 33 4294967295) HT_.out (by kernel_rfl) rfl rfl (fun _ _ _ h => h) (Or.inr ⟨by rfl, rfl⟩) ?_ ?_ ?_; rotate_left; (· simp only [Act.put, sit, scz, scs, i64_w, i32_w]; rfl)
        refine pu_ 32 (some 68) ?_ (bs 33 8589934591) HT_.out (by kernel_rfl) rfl rfl (fun _ _ _ h => h) (Or.inl ⟨by rfl, ?_⟩) ?_ ?_ ?_; rotate_left; (· intro w'; go_simp; with_reducible rfl); rotate_left; (· simp only [Act.put, sit, scz, scs, i64_w, i32_w]; rfl)
        refine done_ (done_of HT_.out (by kernel_rfl)) ?_
        try go_wp2
        go_meet
        case rel => exact ⟨_, (x6_2), (by first | rfl | (simp; done) | (simp [*]; done)), H', ⟨by have := HJ2.out; have := HK2.out; first | omega | exact Nat.le_refl _⟩, ⟨by repeat (first | (with_reducible first | exact HB.out | apply below_alloc | apply pw_below_drewN | apply below_drew1) | exact HB.out)⟩⟩
   case rest =>
    clear HC12
    (try clear c1); (try clear c2); (try clear p2); (try clear p6); (try clear c13); (try clear c13b0); (try clear c14); (try clear c14b0); (try clear c16); (try clear c17); (try clear c19); (try clear c20)
    obtain ⟨kq, x6_11, rfl, HA, HJ11, HB⟩ := hcut
    cases kq with
    | zero => exact absurd HA.out (by simp [redpenref18_Changes.j3])
    | succ kj11 =>
     have H := HA.out
     clear HA
     simp only [redpenref18_Changes.j3] at H
     by_cases c26 : 0 ≤ x5_2
     ·rw [if_pos c26] at H
      have c26b0 := eq_true c26
      have c26b1 : decide (0 ≤ x5_2) = true := decide_eq_true c26
      clear c26
      by_cases c27 : x5_2 ≤ (wrap64 ((l0.length : Int) - x6_11))
      ·rw [if_pos c27] at H
       have c27b0 := eq_true c27
       have c27b1 : decide (x5_2 ≤ (wrap64 ((l0.length : Int) - x6_11))) = true := decide_eq_true c27
       clear c27
       by_cases c28 : (wrap64 ((l0.length : Int) - x6_11)) ≤ (l0.length : Int)
       ·rw [if_pos c28] at H
        have c28b0 := eq_true c28
        have c28b1 : decide ((wrap64 ((l0.length : Int) - x6_11)) ≤ (l0.length : Int)) = true := decide_eq_true c28
        clear c28
        obtain ⟨y357, hy357⟩ : ∃ y_ : List ByteArray, y_ = ((l0.take ((wrap64 ((l0.length : Int) - x6_11)) : Int).toNat).drop (x5_2 : Int).toNat) := ⟨_, rfl⟩
        replace H : (if x5_2 ≤ (wrap64 ((l1.length : Int) - x6_11)) then (if (wrap64 ((l1.length : Int) - x6_11)) ≤ (l1.length : Int) then ((some ((l1.take ((wrap64 ((l1.length : Int) - x6_11)) : Int).toNat).drop (x5_2 : Int).toNat : List ByteArray)).bind fun y361 => (if (y357.length : Int) > 1000 then (redpenref18_Changes.j4 kj11 x5_2 y357 y361 true) else (redpenref18_Changes.j4 kj11 x5_2 y357 y361 (decide ((y361.length : Int) > 1000))))) else (none)) else (none)) = some r := by first | (rw [hy357]; with_reducible exact H) | (have H2_ := (Option.bind_some _ _).symm.trans H; rw [hy357]; with_reducible exact H2_) | (have H2_ := (Option.bind_some _ _).symm.trans H; with_reducible exact H2_) | with_reducible exact H | (rw [hy357]; exact H) | exact H
        have Ny357 := Aside0.mk hy357
        clear hy357
        have c29b0 := eq_true (of_decide_eq_true (by first | (with_reducible assumption) | assumption) : 0 ≤ x5_2)
        by_cases c30 : x5_2 ≤ (wrap64 ((l1.length : Int) - x6_11))
        ·rw [if_pos c30] at H
         have c30b0 := eq_true c30
         have c30b1 : decide (x5_2 ≤ (wrap64 ((l1.length : Int) - x6_11))) = true := decide_eq_true c30
         clear c30
         by_cases c31 : (wrap64 ((l1.length : Int) - x6_11)) ≤ (l1.length : Int)
         ·rw [if_pos c31] at H
          have c31b0 := eq_true c31
          have c31b1 : decide ((wrap64 ((l1.length : Int) - x6_11)) ≤ (l1.length : Int)) = true := decide_eq_true c31
          clear c31
          obtain ⟨y361, hy361⟩ : ∃ y_ : List ByteArray, y_ = ((l1.take ((wrap64 ((l1.length : Int) - x6_11)) : Int).toNat).drop (x5_2 : Int).toNat) := ⟨_, rfl⟩
          replace H : (if (y357.length : Int) > 1000 then (redpenref18_Changes.j4 kj11 x5_2 y357 y361 true) else (redpenref18_Changes.j4 kj11 x5_2 y357 y361 (decide ((y361.length : Int) > 1000)))) = some r := by first | (rw [hy361]; with_reducible exact H) | (have H2_ := (Option.bind_some _ _).symm.trans H; rw [hy361]; with_reducible exact H2_) | (have H2_ := (Option.bind_some _ _).symm.trans H; with_reducible exact H2_) | with_reducible exact H | (rw [hy361]; exact H) | exact H
          have Ny361 := Aside0.mk hy361
          clear hy361
          have HC32 := Aside0.mk H
          clear H
          try go_wp2
          have n0_ := Aside0.mk (below_drew1 HB.out)
          clear HB
          have HB := n0_
          clear n0_
          have q34 : ((wrap64 ((l0.length : Int) - x6_11)) : Int) ≤ ((l0.length : Int) : Int) := of_decide_eq_true (by first | (with_reducible assumption) | assumption)
          obtain ⟨i034, hi034, _, hsz34, _⟩ := info_parts info9
          have hroom34 : l0.length ≤ c0 := HC0.out
          have hC34 : Kd.C Kd.string _ A0 l0.length l0 := HR0.out
          have ql34 : (x5_2 : Int) ≤ ((wrap64 ((l0.length : Int) - x6_11)) : Int) := of_decide_eq_true (by first | (with_reducible assumption) | assumption)
          have q034 : (0 : Int) ≤ (x5_2 : Int) := of_decide_eq_true (by first | (with_reducible assumption) | assumption)
          have hcut34 := cut_mid (P := Try.prog) 29 9 .i64 .i64 Try.underlying29 hi034 1 hsz34 A0 l0.length c0 x5_2 (wrap64 ((l0.length : Int) - x6_11)) q034 ql34 q34 hroom34
          have hr34 := Kd.C_mid (lo := (x5_2 : Int).toNat) (hi := ((wrap64 ((l0.length : Int) - x6_11)) : Int).toNat) (c := c0) hC34 (by omega) (by omega) hroom34
          obtain ⟨A34, hA34⟩ : ∃ A1z_, A1z_ = (if c0 = (x5_2 : Int).toNat then A0 else (A0 : Option Addr).map (·.add ((x5_2 : Int).toNat * 1))) := ⟨_, rfl⟩
          obtain ⟨c34, hc34⟩ : ∃ c1z_, c1z_ = c0 - (x5_2 : Int).toNat := ⟨_, rfl⟩
          have hy34 : y357.length = ((wrap64 ((l0.length : Int) - x6_11)) : Int).toNat - (x5_2 : Int).toNat := (by rw [Ny357.out, List.length_drop, List.length_take] <;> omega)
          rw [show ((l0).take ((wrap64 ((l0.length : Int) - x6_11)) : Int).toNat).drop (x5_2 : Int).toNat = y357 from Ny357.out.symm] at hr34
          replace hr34 : Kd.C Kd.string _ A34 y357.length y357 := (by rw [hA34]; exact hr34)
          rw [← hy34, ← hA34, ← hc34] at hcut34
          have HR360 := Aside0.mk hr34
          have HC360 := Aside0.mk (show y357.length ≤ c34 from by rw [hy34, hc34]; exact Nat.sub_le_sub_right (Nat.le_trans (by omega) hroom34) _)
          clear hr34 hC34 hroom34 hi034 hsz34 hc34
          have KY34 := Aside0.mk hy34
          have KA34 := Aside0.mk hA34
          clear hy34 hA34
          replace q34 := eq_true q34
          have q35 : ((wrap64 ((l1.length : Int) - x6_11)) : Int) ≤ ((l1.length : Int) : Int) := of_decide_eq_true (by first | (with_reducible assumption) | assumption)
          obtain ⟨i035, hi035, _, hsz35, _⟩ := info_parts info9
          have hroom35 : l1.length ≤ c1 := HC1.out
          have hC35 : Kd.C Kd.string _ A1 l1.length l1 := HR1.out
          have ql35 : (x5_2 : Int) ≤ ((wrap64 ((l1.length : Int) - x6_11)) : Int) := of_decide_eq_true (by first | (with_reducible assumption) | assumption)
          have q035 : (0 : Int) ≤ (x5_2 : Int) := of_decide_eq_true (by first | (with_reducible assumption) | assumption)
          have hcut35 := cut_mid (P := Try.prog) 29 9 .i64 .i64 Try.underlying29 hi035 1 hsz35 A1 l1.length c1 x5_2 (wrap64 ((l1.length : Int) - x6_11)) q035 ql35 q35 hroom35
          have hr35 := Kd.C_mid (lo := (x5_2 : Int).toNat) (hi := ((wrap64 ((l1.length : Int) - x6_11)) : Int).toNat) (c := c1) hC35 (by omega) (by omega) hroom35
          obtain ⟨A35, hA35⟩ : ∃ A1z_, A1z_ = (if c1 = (x5_2 : Int).toNat then A1 else (A1 : Option Addr).map (·.add ((x5_2 : Int).toNat * 1))) := ⟨_, rfl⟩
          obtain ⟨c35, hc35⟩ : ∃ c1z_, c1z_ = c1 - (x5_2 : Int).toNat := ⟨_, rfl⟩
          have hy35 : y361.length = ((wrap64 ((l1.length : Int) - x6_11)) : Int).toNat - (x5_2 : Int).toNat := (by rw [Ny361.out, List.length_drop, List.length_take] <;> omega)
          rw [show ((l1).take ((wrap64 ((l1.length : Int) - x6_11)) : Int).toNat).drop (x5_2 : Int).toNat = y361 from Ny361.out.symm] at hr35
          replace hr35 : Kd.C Kd.string _ A35 y361.length y361 := (by rw [hA35]; exact hr35)
          rw [← hy35, ← hA35, ← hc35] at hcut35
          have HR364 := Aside0.mk hr35
          have HC364 := Aside0.mk (show y361.length ≤ c35 from by rw [hy35, hc35]; exact Nat.sub_le_sub_right (Nat.le_trans (by omega) hroom35) _)
          clear hr35 hC35 hroom35 hi035 hsz35 hc35
          have KY35 := Aside0.mk hy35
          have KA35 := Aside0.mk hA35
          clear hy35 hA35
          replace q35 := eq_true q35
          refine start_ (n := 16) (S := fun w' => True) (ds := []) (bs 16 0) (by kernel_rfl) rfl rfl trivial (fun hHeld => ?_); refine with_tabW redpenref18_Changes.tab7 redpenref18_Changes.bits7 (fun HT_ HW_ => ?_)
          generalize wc.drew = w33 at HB HR360 HR364 hHeld ⊢
          refine pu_ 0 (some 71) ?_ (bs 16 1) HT_.out (by kernel_rfl) rfl rfl (fun _ _ _ h => h) (Or.inl ⟨by rfl, ?_⟩) ?_ ?_ ?_; rotate_left; (· intro w'; go_simp; with_reducible rfl); rotate_left; (· simp only [Act.put, sit, scz, scs, i64_w, i32_w]; rfl)
          refine pu_ 1 (some 72) ?_ (bs 16 3) HT_.out (by kernel_rfl) rfl rfl (fun _ _ _ h => h) (Or.inl ⟨by rfl, ?_⟩) ?_ ?_ ?_; rotate_left; (· intro w'; go_simp; with_reducible rfl); rotate_left; (· simp only [Act.put, sit, scz, scs, i64_w, i32_w]; rfl)
          refine pu_ 2 (some 73) ?_ (bs 16 7) HT_.out (by kernel_rfl) rfl rfl (fun _ _ _ h => h) (Or.inl ⟨by rfl, ?_⟩) ?_ ?_ ?_; rotate_left; (· intro w'; go_simp; with_reducible rfl); rotate_left; (· simp only [Act.put, sit, scz, scs, i64_w, i32_w]; rfl)
          refine pu_ 3 (some 74) ?_ (bs 16 15) HT_.out (by kernel_rfl) rfl rfl (fun _ _ _ h => h) (Or.inl ⟨by rfl, ?_⟩) ?_ ?_ ?_; rotate_left; (· intro w'; go_simp; with_reducible rfl); rotate_left; (· simp only [Act.put, sit, scz, scs, i64_w, i32_w]; rfl)
          refine pu_ 4 (some 75) ?_ (bs 16 31) HT_.out (by kernel_rfl) rfl rfl (fun _ _ _ h => h) (Or.inl ⟨by rfl, ?_⟩) ?_ ?_ ?_; rotate_left; (· intro w'; go_simp; with_reducible rfl); rotate_left; (· simp only [Act.put, sit, scz, scs, i64_w, i32_w]; rfl)
          refine pu_ 5 (some 76) ?_ (bs 16 63) HT_.out (by kernel_rfl) rfl rfl (fun _ _ _ h => h) (Or.inl ⟨by rfl, ?_⟩) ?_ ?_ ?_; rotate_left; (· intro w'; go_simp; with_reducible rfl); rotate_left; (· simp only [Act.put, sit, scz, scs, i64_w, i32_w]; rfl)
          refine pu_ 6 (some 77) ?_ (bs 16 127) HT_.out (by kernel_rfl) rfl rfl (fun _ _ _ h => h) (Or.inl ⟨by rfl, ?_⟩) ?_ ?_ ?_; rotate_left; (· intro w'; go_simp; with_reducible rfl); rotate_left; (· simp only [Act.put, sit, scz, scs, i64_w, i32_w]; rfl)
          refine pu_ 7 (some 78) ?_ (bs 16 255) HT_.out (by kernel_rfl) rfl rfl (fun _ _ _ h => h) (Or.inl ⟨by rfl, ?_⟩) ?_ ?_ ?_; rotate_left; (· intro w'; go_simp; with_reducible rfl); rotate_left; (· simp only [Act.put, sit, scz, scs, i64_w, i32_w]; rfl)
          refine pu_ 8 (some 79) ?_ (bs 16 511) HT_.out (by kernel_rfl) rfl rfl (fun _ _ _ h => h) (Or.inl ⟨by rfl, ?_⟩) ?_ ?_ ?_; rotate_left; (· intro w'; go_simp; with_reducible rfl); rotate_left; (· simp only [Act.put, sit, scz, scs, i64_w, i32_w]; rfl)
          refine pu_ 9 (some 80) ?_ (bs 16 1023) HT_.out (by kernel_rfl) rfl rfl (fun _ _ _ h => h) (Or.inl ⟨by rfl, ?_⟩) ?_ ?_ ?_; rotate_left; (· intro w'; go_simp; with_reducible rfl); rotate_left; (· simp only [Act.put, sit, scz, scs, i64_w, i32_w]; rfl)
          refine pu_ 10 (some 81) ?_ (bs 16 2047) HT_.out (by kernel_rfl) rfl rfl (fun _ _ _ h => h) (Or.inl ⟨by rfl, ?_⟩) ?_ ?_ ?_; rotate_left; (· intro w'; go_simp; with_reducible rfl); rotate_left; (· simp only [Act.put, sit, scz, scs, i64_w, i32_w]; rfl)
          refine pu_ 11 (some 82) ?_ (bs 16 4095) HT_.out (by kernel_rfl) rfl rfl (fun _ _ _ h => h) (Or.inl ⟨by rfl, ?_⟩) ?_ ?_ ?_; rotate_left; (· intro w'; go_simp; with_reducible rfl); rotate_left; (· simp only [Act.put, sit, scz, scs, i64_w, i32_w]; rfl)
          refine pu_ 12 (some 83) ?_ (bs 16 8191) HT_.out (by kernel_rfl) rfl rfl (fun _ _ _ h => h) (Or.inl ⟨by rfl, ?_⟩) ?_ ?_ ?_; rotate_left; (· intro w'; go_simp; with_reducible rfl); rotate_left; (· simp only [Act.put, sit, scz, scs, i64_w, i32_w]; rfl)
          refine pu_ 13 (some 84) ?_ (bs 16 16383) HT_.out (by kernel_rfl) rfl rfl (fun _ _ _ h => h) (Or.inl ⟨by rfl, ?_⟩) ?_ ?_ ?_; rotate_left; (· intro w'; go_simp; with_reducible rfl); rotate_left; (· simp only [Act.put, sit, scz, scs, i64_w, i32_w]; rfl)
          refine pu_ 14 (some 7) ?_ (bs 16 32767) HT_.out (by kernel_rfl) rfl rfl (fun _ _ _ h => h) (Or.inl ⟨by rfl, ?_⟩) ?_ ?_ ?_; rotate_left; (· intro w'; go_simp; with_reducible rfl); rotate_left; (· simp only [Act.put, sit, scz, scs, i64_w, i32_w]; rfl)
          refine pu_ 15 (some 8) ?_ (bs 16 65535) HT_.out (by kernel_rfl) rfl rfl (fun _ _ _ h => h) (Or.inl ⟨by rfl, ?_⟩) ?_ ?_ ?_; rotate_left; (· intro w'; go_simp; with_reducible rfl); rotate_left; (· simp only [Act.put, sit, scz, scs, i64_w, i32_w]; rfl)
          refine done_ (done_of HT_.out (by kernel_rfl)) ?_
          go_upto_region 8 with (fail)
          go_cut [92] (fun v92 wc => ∃ (kq : Nat) (x92_31 : Bool), v92 = .bool x92_31 ∧ Aside0 (redpenref18_Changes.j4 kq x5_2 y357 y361 x92_31 = some r) ∧ Aside0 (kq ≤ kj11) ∧ Aside0 (Below w.heap.size w wc))
          case first =>
           as_aux_lemma =>
            have H := HC32.out
            clear HC32
            by_cases c36 : (y357.length : Int) > 1000
            ·rw [if_pos c36] at H
             have c36b0 : decide (1000 < (y357.length : Int)) = true := decide_eq_true c36
             have c36b1 : decide (1000 < y357.length) = true := decide_eq_true (by omega)
             clear c36
             (first | rw [c36b0] | (simp only [i64_w, i32_w]; rw [c36b0]) | skip)
             have H' := Aside0.mk H
             clear H
             go_wp2
             go_meet
             case rel => exact ⟨_, (true), (by first | rfl | (simp; done) | (simp [*]; done)), H', ⟨by have := HJ2.out; have := HJ11.out; first | omega | exact Nat.le_refl _⟩, ⟨by repeat (first | (with_reducible first | exact HB.out | apply below_alloc | apply pw_below_drewN | apply below_drew1) | exact HB.out)⟩⟩
            ·rw [if_neg c36] at H
             have c36b0 : decide (1000 < (y357.length : Int)) = false := decide_eq_false c36
             have c36b1 : decide (1000 < y357.length) = false := decide_eq_false (by omega)
             clear c36
             (first | rw [c36b0] | (simp only [i64_w, i32_w]; rw [c36b0]) | skip)
             have H' := Aside0.mk H
             clear H
             go_wp2
             go_meet
             case rel => exact ⟨_, (decide ((y361.length : Int) > 1000)), (by first | rfl | (simp; done) | (simp [*]; done)), H', ⟨by have := HJ2.out; have := HJ11.out; first | omega | exact Nat.le_refl _⟩, ⟨by repeat (first | (with_reducible first | exact HB.out | apply below_alloc | apply pw_below_drewN | apply below_drew1) | exact HB.out)⟩⟩
          case rest =>
           clear HC32
           (try clear c1); (try clear c2); (try clear p2); (try clear c3); (try clear q3); (try clear p6); (try clear c13); (try clear c13b0); (try clear c14); (try clear c14b0); (try clear c16); (try clear c17); (try clear c19); (try clear c20); (try clear c26); (try clear c26b0); (try clear c26b1); (try clear c27); (try clear c27b0); (try clear c27b1); (try clear c28); (try clear c28b0); (try clear c28b1); (try clear c29); (try clear c29b0); (try clear c30); (try clear c30b0); (try clear c30b1); (try clear c31); (try clear c31b0); (try clear c31b1); (try clear c34); (try clear q34); (try clear c35); (try clear q35); (try clear c36); (try clear c36b0); (try clear c36b1); (try clear p2); (try clear p6); (try clear q034); (try clear q035); (try clear q34); (try clear q35)
           obtain ⟨kq, x92_31, rfl, HA, HJ31, HB⟩ := hcut
           cases kq with
           | zero => exact absurd HA.out (by simp [redpenref18_Changes.j4])
           | succ kj31 =>
            have H := HA.out
            clear HA
            simp only [redpenref18_Changes.j4] at H
            by_cases c37 : x92_31 = true
            ·subst c37
             have H1 : (some (([(⟨x5_2, (y357.length : Int), x5_2, (y361.length : Int)⟩ : S40)] : List (S40)))) = some r := by rw [if_pos rfl] at H; exact H
             clear H
             have H := H1
             clear H1
             obtain ⟨y365, hy365⟩ : ∃ y_ : List (S40), y_ = (([(⟨x5_2, (y357.length : Int), x5_2, (y361.length : Int)⟩ : S40)] : List (S40))) := ⟨_, rfl⟩
             replace H : (some y365) = some r := by first | (rw [hy365]; with_reducible exact H) | (have H2_ := (Option.bind_some _ _).symm.trans H; rw [hy365]; with_reducible exact H2_) | (have H2_ := (Option.bind_some _ _).symm.trans H; with_reducible exact H2_) | with_reducible exact H | (rw [hy365]; exact H) | exact H
             have Ny365 := Aside0.mk hy365
             clear hy365
             obtain rfl := Option.some.inj H
             go_wp2_with (first | ((with_reducible refine gate_dst (N := 100) rfl ?_); (try (refine gate_guard (by rfl) ?_; dsimp only)); refine Kd.R_lit k40 _ 40 ?hg (N := 100) ?hd (xs := ([(⟨x5_2, (y357.length : Int), x5_2, (y361.length : Int)⟩ : S40)] : List (S40))) (inner := [.int .i64 x5_2, .int .i64 (y357.length : Int), .int .i64 x5_2, .int .i64 (y361.length : Int)]) (ok := fun _ => True) (okp := fun _ => True) ?hr ?hp (fun _ hk => hk) trivial (Below.refl _ _) (Nat.le_refl _) (by simp) ?_; (case hd => rfl); (case hg => rfl); (case hr => first | (go_simp; done) | (go_simp; rfl)); (case hp => exact (Reps.c4 (show Kd.M k40 _ _ _ (⟨x5_2, (y357.length : Int), x5_2, (y361.length : Int)⟩ : S40) [.int .i64 x5_2, .int .i64 (y357.length : Int), .int .i64 x5_2, .int .i64 (y361.length : Int)] from (k40_mkM _ _ _ (⟨x5_2, (y357.length : Int), x5_2, (y361.length : Int)⟩ : S40) )) (Reps.none _ _))); intro v366 w38 ho39 hb hg_ hnew_; clear hg_ hnew_; (first | rw [← Ny365.out] at ho39 | (simp only [Int.reduceToNat] at ho39; rw [← Ny365.out] at ho39)); have n0_ := Aside0.mk (Kd.R_lower ho39 (below_size (by repeat (first | (with_reducible first | exact HB.out | apply below_alloc | apply pw_below_drewN | apply below_drew1) | exact HB.out)))); have n1_ := Aside0.mk (below_step (by repeat (first | (with_reducible first | exact HB.out | apply below_alloc | apply pw_below_drewN | apply below_drew1) | exact HB.out)) hb); clear HB; have HO367 := n0_; have HB := n1_; clear n0_ n1_; clear hb ho39))
             go_ret
             exact ⟨_, by first | rfl | (simp [errW_none, errW_some] <;> rfl) | (simp [*, errW_none, errW_some] <;> rfl), by (with_reducible repeat (first | apply Kd.R_alloc | apply Kd.R_drewN | apply Kd.R_drew)); exact HO367.out, by repeat (first | (with_reducible first | exact HB.out | apply below_alloc | apply pw_below_drewN | apply below_drew1) | exact HB.out)⟩
            ·replace c37 := Bool.eq_false_iff.mpr c37
             subst c37
             have H1 : (redpenref18_Changes.l2 kj31 x5_2 y357 y361 ([] : List (S40)) 0 0) = some r := by rw [if_neg (show ¬ (false = true) by decide)] at H; exact H
             clear H
             have H := H1
             clear H1
             have H' := Aside0.mk H
             clear H
             go_wp2
             go_loopg [9, 10, 11] kj31 (fun kq v9 v10 v11 w' => ∃ (x9_4 : List (S40)) (x10_4 : Int) (x11_4 : Int), v10 = .int .i64 x10_4 ∧ v11 = .int .i64 x11_4 ∧ Aside0 (redpenref18_Changes.l2 kq x5_2 y357 y361 x9_4 x10_4 x11_4 = some r) ∧ Aside0 (kq ≤ kj31) ∧ Aside0 (Kd.R k40 40 w' w.heap.size (fun _ => True) v9 x9_4) ∧ Aside0 (Below w.heap.size w w'))
             case atStart => exact ⟨(([] : List (S40))), (0), (0), (by first | rfl | (simp; done) | (simp [*]; done)), (by first | rfl | (simp; done) | (simp [*]; done)), H', ⟨Nat.le_refl _⟩, ⟨by first | exact Kd.R_nil _ _ _ _ _ | exact Kd.N_nil _ _ _ _ _ | exact Kd.V_nil _ _ _ _ _ | exact Kd.Q_nil _ _ _ _ _ | exact Kd.S_nil _ _ _ _ _⟩, ⟨by repeat (first | (with_reducible first | exact HB.out | apply below_alloc | apply pw_below_drewN | apply below_drew1) | exact HB.out)⟩⟩
             case round =>
              clear H'
              (try clear c1); (try clear c2); (try clear p2); (try clear c3); (try clear q3); (try clear c4); (try clear p6); (try clear c13); (try clear c13b0); (try clear c14); (try clear c14b0); (try clear c16); (try clear c17); (try clear c19); (try clear c20); (try clear c26); (try clear c26b0); (try clear c26b1); (try clear c27); (try clear c27b0); (try clear c27b1); (try clear c28); (try clear c28b0); (try clear c28b1); (try clear c29); (try clear c29b0); (try clear c30); (try clear c30b0); (try clear c30b1); (try clear c31); (try clear c31b0); (try clear c31b1); (try clear c34); (try clear q34); (try clear c35); (try clear q35); (try clear c36); (try clear c36b0); (try clear c36b1); (try clear c37); (try clear p2); (try clear p6); (try clear q034); (try clear q035); (try clear q3); (try clear q34); (try clear q35)
              obtain ⟨x9_4, x10_4, x11_4, rfl, rfl, HA, HK4, HO_9, HB⟩ := hrel
              cases gk with
              | zero => exact absurd HA.out (by simp [redpenref18_Changes.l2])
              | succ k4 =>
               have H := HA.out
               clear HA
               simp only [redpenref18_Changes.l2] at H
               have HC40 := Aside0.mk H
               clear H
               go_upto_region 12 with (fail)
               go_cut [110] (fun v110 wc => ∃ (kq : Nat) (x110_39 : Bool), v110 = .bool x110_39 ∧ Aside0 (redpenref18_Changes.j6 kq x5_2 y357 y361 x9_4 x10_4 x11_4 x110_39 = some r) ∧ Aside0 (kq ≤ k4) ∧ Aside0 (Kd.R k40 40 wc w.heap.size (fun _ => True) u9 x9_4) ∧ Aside0 (Below w.heap.size w wc))
               case first =>
                as_aux_lemma =>
                 have H := HC40.out
                 clear HC40
                 by_cases c41 : x10_4 < (y357.length : Int)
                 ·rw [if_pos c41] at H
                  have c41b0 : decide (x10_4 < (y357.length : Int)) = true := decide_eq_true c41
                  clear c41
                  (first | rw [c41b0] | (simp only [i64_w, i32_w]; rw [c41b0]) | skip)
                  have H' := Aside0.mk H
                  clear H
                  go_wp2
                  go_meet
                  case rel => exact ⟨_, (true), (by first | rfl | (simp; done) | (simp [*]; done)), H', ⟨by have := HJ2.out; have := HJ11.out; have := HJ31.out; have := HK4.out; first | omega | exact Nat.le_refl _⟩, ⟨by (with_reducible repeat (first | apply Kd.R_alloc | apply Kd.R_drewN | apply Kd.R_drew)); exact HO_9.out⟩, ⟨by repeat (first | (with_reducible first | exact HB.out | apply below_alloc | apply pw_below_drewN | apply below_drew1) | exact HB.out)⟩⟩
                 ·rw [if_neg c41] at H
                  have c41b0 : decide (x10_4 < (y357.length : Int)) = false := decide_eq_false c41
                  clear c41
                  (first | rw [c41b0] | (simp only [i64_w, i32_w]; rw [c41b0]) | skip)
                  have H' := Aside0.mk H
                  clear H
                  go_wp2
                  go_meet
                  case rel => exact ⟨_, (decide (x11_4 < (y361.length : Int))), (by first | rfl | (simp; done) | (simp [*]; done)), H', ⟨by have := HJ2.out; have := HJ11.out; have := HJ31.out; have := HK4.out; first | omega | exact Nat.le_refl _⟩, ⟨by (with_reducible repeat (first | apply Kd.R_alloc | apply Kd.R_drewN | apply Kd.R_drew)); exact HO_9.out⟩, ⟨by repeat (first | (with_reducible first | exact HB.out | apply below_alloc | apply pw_below_drewN | apply below_drew1) | exact HB.out)⟩⟩
               case rest =>
                clear HC40
                (try clear c1); (try clear c2); (try clear p2); (try clear c3); (try clear q3); (try clear c4); (try clear p6); (try clear c13); (try clear c13b0); (try clear c14); (try clear c14b0); (try clear c16); (try clear c17); (try clear c19); (try clear c20); (try clear c26); (try clear c26b0); (try clear c26b1); (try clear c27); (try clear c27b0); (try clear c27b1); (try clear c28); (try clear c28b0); (try clear c28b1); (try clear c29); (try clear c29b0); (try clear c30); (try clear c30b0); (try clear c30b1); (try clear c31); (try clear c31b0); (try clear c31b1); (try clear c34); (try clear q34); (try clear c35); (try clear q35); (try clear c36); (try clear c36b0); (try clear c36b1); (try clear c37); (try clear c41); (try clear c41b0); (try clear p2); (try clear p6); (try clear q034); (try clear q035); (try clear q3); (try clear q34); (try clear q35)
                obtain ⟨kq, x110_39, rfl, HA, HJ39, HO_9, HB⟩ := hcut
                cases kq with
                | zero => exact absurd HA.out (by simp [redpenref18_Changes.j6])
                | succ kj39 =>
                 have H := HA.out
                 clear HA
                 simp only [redpenref18_Changes.j6] at H
                 by_cases c42 : x110_39 = true
                 ·subst c42
                  have H1 : (if x10_4 < (y357.length : Int) then (if x11_4 < (y361.length : Int) then (if 0 ≤ x10_4 then (if 0 ≤ x11_4 then (redpenref18_Changes.j7 kj39 x5_2 y357 y361 x9_4 x10_4 x11_4 ((rdOf ByteArray.empty y357 x10_4).toList == (rdOf ByteArray.empty y361 x11_4).toList)) else (none)) else (none)) else (redpenref18_Changes.j7 kj39 x5_2 y357 y361 x9_4 x10_4 x11_4 false)) else (redpenref18_Changes.j7 kj39 x5_2 y357 y361 x9_4 x10_4 x11_4 false)) = some r := by rw [if_pos rfl] at H; exact H
                  clear H
                  have H := H1
                  clear H1
                  have HC43 := Aside0.mk H
                  clear H
                  go_upto_region 13 with (fail)
                  go_cut [131] (fun v131 wc => ∃ (kq : Nat) (x131_42 : Bool), v131 = .bool x131_42 ∧ Aside0 (redpenref18_Changes.j7 kq x5_2 y357 y361 x9_4 x10_4 x11_4 x131_42 = some r) ∧ Aside0 (kq ≤ kj39) ∧ Aside0 (Kd.R k40 40 wc w.heap.size (fun _ => True) u9 x9_4) ∧ Aside0 (Below w.heap.size w wc))
                  case first =>
                   as_aux_lemma =>
                    have H := HC43.out
                    clear HC43
                    by_cases c44 : x10_4 < (y357.length : Int)
                    ·rw [if_pos c44] at H
                     have c44b0 : decide (x10_4 < (y357.length : Int)) = true := decide_eq_true c44
                     clear c44
                     (first | rw [c44b0] | (simp only [i64_w, i32_w]; rw [c44b0]) | skip)
                     by_cases c45 : x11_4 < (y361.length : Int)
                     ·rw [if_pos c45] at H
                      have c45b0 : decide (x11_4 < (y361.length : Int)) = true := decide_eq_true c45
                      clear c45
                      by_cases c46 : 0 ≤ x10_4
                      ·rw [if_pos c46] at H
                       have c46b0 : decide (0 ≤ x10_4) = true := decide_eq_true c46
                       clear c46
                       by_cases c47 : 0 ≤ x11_4
                       ·rw [if_pos c47] at H
                        have c47b0 : decide (0 ≤ x11_4) = true := decide_eq_true c47
                        clear c47
                        have H' := Aside0.mk H
                        clear H
                        try go_wp2
                        have n0_ := Aside0.mk (Kd.R_drew HO_9.out)
                        have n1_ := Aside0.mk (below_drew1 HB.out)
                        clear HO_9
                        clear HB
                        have HO_9 := n0_
                        have HB := n1_
                        clear n0_ n1_
                        have p368 : 0 ≤ (x10_4 : Int) := of_decide_eq_true (by first | (with_reducible assumption) | assumption)
                        have q368 : x10_4 < (y357.length : Int) := of_decide_eq_true (by first | (with_reducible assumption) | assumption)
                        obtain ⟨ad368, e368, hx368_0⟩ := Kd.at_string HR360.out x10_4 p368 q368
                        have hw368_0 := hx368_0
                        cases e368
                        replace hx368_0 := (HB.out.cell (World.block_lt_of_cell? w _ hx368_0)).trans hx368_0
                        replace p368 := eq_true p368
                        replace q368 := eq_true q368
                        have p369 : 0 ≤ (x11_4 : Int) := of_decide_eq_true (by first | (with_reducible assumption) | assumption)
                        have q369 : x11_4 < (y361.length : Int) := of_decide_eq_true (by first | (with_reducible assumption) | assumption)
                        obtain ⟨ad369, e369, hx369_0⟩ := Kd.at_string HR364.out x11_4 p369 q369
                        have hw369_0 := hx369_0
                        cases e369
                        replace hx369_0 := (HB.out.cell (World.block_lt_of_cell? w _ hx369_0)).trans hx369_0
                        replace p369 := eq_true p369
                        replace q369 := eq_true q369
                        refine start_ (n := 21) (S := fun w' => w'.cell? (ad368.add (x10_4).toNat) = some (.string (rdOf ByteArray.empty y357 x10_4)) ∧ w'.cell? (ad369.add (x11_4).toNat) = some (.string (rdOf ByteArray.empty y361 x11_4))) (ds := []) (bs 21 0) (by kernel_rfl) rfl rfl ⟨((HB.out.cell (World.block_lt_of_cell? w _ hw368_0)).trans hw368_0), ((HB.out.cell (World.block_lt_of_cell? w _ hw369_0)).trans hw369_0)⟩ (fun hHeld => ?_); refine with_tabW redpenref18_Changes.tab13 redpenref18_Changes.bits13 (fun HT_ HW_ => ?_)
                        generalize wc.drew = w48 at HO_9 HB hx368_0 hx369_0 hHeld ⊢
                        refine pu_ 0 (some 111) ?_ (bs 21 1) HT_.out (by kernel_rfl) rfl rfl (fun _ _ _ h => h) (Or.inl ⟨by rfl, ?_⟩) ?_ ?_ ?_; rotate_left; (· intro w'; go_simp; with_reducible rfl); rotate_left; (· simp only [Act.put, sit, scz, scs, i64_w, i32_w]; rfl)
                        refine pu_ 1 (some 112) ?_ (bs 21 3) HT_.out (by kernel_rfl) rfl rfl (fun _ _ _ h => h) (Or.inl ⟨by rfl, ?_⟩) ?_ ?_ ?_; rotate_left; (· intro w'; go_simp; with_reducible rfl); rotate_left; (· simp only [Act.put, sit, scz, scs, i64_w, i32_w]; rfl)
                        refine pu_ 2 (some 113) ?_ (bs 21 7) HT_.out (by kernel_rfl) rfl rfl (fun _ _ _ h => h) (Or.inl ⟨by rfl, ?_⟩) ?_ ?_ ?_; rotate_left; (· intro w'; go_simp; with_reducible rfl); rotate_left; (· simp only [Act.put, sit, scz, scs, i64_w, i32_w]; rfl)
                        refine pu_ 3 (some 114) ?_ (bs 21 15) HT_.out (by kernel_rfl) rfl rfl (fun _ _ _ h => h) (Or.inl ⟨by rfl, ?_⟩) ?_ ?_ ?_; rotate_left; (· intro w'; go_simp; with_reducible rfl); rotate_left; (· simp only [Act.put, sit, scz, scs, i64_w, i32_w]; rfl)
                        refine pu_ 4 (some 115) ?_ (bs 21 31) HT_.out (by kernel_rfl) rfl rfl (fun _ _ _ h => h) (Or.inl ⟨by rfl, ?_⟩) ?_ ?_ ?_; rotate_left; (· intro w'; go_simp; with_reducible rfl); rotate_left; (· simp only [Act.put, sit, scz, scs, i64_w, i32_w]; rfl)
                        refine pu_ 5 (some 116) ?_ (bs 21 63) HT_.out (by kernel_rfl) rfl rfl (fun _ _ _ h => h) (Or.inl ⟨by rfl, ?_⟩) ?_ ?_ ?_; rotate_left; (· intro w'; go_simp; with_reducible rfl); rotate_left; (· simp only [Act.put, sit, scz, scs, i64_w, i32_w]; rfl)
                        refine pu_ 6 (some 117) ?_ (bs 21 127) HT_.out (by kernel_rfl) rfl rfl (fun _ _ _ h => h) (Or.inl ⟨by rfl, ?_⟩) ?_ ?_ ?_; rotate_left; (· intro w'; go_simp; with_reducible rfl); rotate_left; (· simp only [Act.put, sit, scz, scs, i64_w, i32_w]; rfl)
                        refine pu_ 7 (some 118) ?_ (bs 21 255) HT_.out (by kernel_rfl) rfl rfl (fun _ _ _ h => h) (Or.inl ⟨by rfl, ?_⟩) ?_ ?_ ?_; rotate_left; (· intro w'; go_simp; with_reducible rfl); rotate_left; (· simp only [Act.put, sit, scz, scs, i64_w, i32_w]; rfl)
                        refine pu_ 8 (some 119) ?_ (bs 21 511) HT_.out (by kernel_rfl) rfl rfl (fun _ _ _ h => h) (Or.inl ⟨by rfl, ?_⟩) ?_ ?_ ?_; rotate_left; (· intro w'; go_simp; with_reducible rfl); rotate_left; (· simp only [Act.put, sit, scz, scs, i64_w, i32_w]; rfl)
                        refine pu_ 9 (some 120) ?_ (bs 21 1023) HT_.out (by kernel_rfl) rfl rfl (fun _ _ _ h => h) (Or.inl ⟨by rfl, ?_⟩) ?_ ?_ ?_; rotate_left; (· intro w'; go_simp; with_reducible rfl); rotate_left; (· simp only [Act.put, sit, scz, scs, i64_w, i32_w]; rfl)
                        refine pu_ 10 (some 121) ?_ (bs 21 2047) HT_.out (by kernel_rfl) rfl rfl (fun _ _ _ h => h) (Or.inl ⟨by rfl, ?_⟩) ?_ ?_ ?_; rotate_left; (· intro w'; go_simp; with_reducible rfl); rotate_left; (· simp only [Act.put, sit, scz, scs, i64_w, i32_w]; rfl)
                        refine pu_ 11 (some 122) ?_ (bs 21 4095) HT_.out (by kernel_rfl) rfl rfl (fun _ _ _ h => h) (Or.inl ⟨by rfl, ?_⟩) ?_ ?_ ?_; rotate_left; (· intro w'; go_simp; with_reducible rfl); rotate_left; (· simp only [Act.put, sit, scz, scs, i64_w, i32_w]; rfl)
                        refine pu_ 12 (some 123) ?_ (bs 21 8191) HT_.out (by kernel_rfl) rfl rfl (fun _ _ _ h => h) (Or.inl ⟨by rfl, ?_⟩) ?_ ?_ ?_; rotate_left; (· intro w'; go_simp; with_reducible rfl); rotate_left; (· simp only [Act.put, sit, scz, scs, i64_w, i32_w]; rfl)
                        refine pu_ 13 (some 124) ?_ (bs 21 16383) HT_.out (by kernel_rfl) rfl rfl (fun _ _ _ h => h) (Or.inl ⟨by rfl, ?_⟩) ?_ ?_ ?_; rotate_left; (· intro w'; go_simp; with_reducible rfl); rotate_left; (· simp only [Act.put, sit, scz, scs, i64_w, i32_w]; rfl)
                        refine pu_ 15 (some 126) ?_ (bs 21 49151) HT_.out (by kernel_rfl) rfl rfl (fun _ _ _ h => h) (Or.inl ⟨by rfl, ?_⟩) ?_ ?_ ?_; rotate_left; (· intro w'; go_simp; with_reducible rfl); rotate_left; (· simp only [Act.put, sit, scz, scs, i64_w, i32_w]; rfl)
                        refine pu_ 16 (some 127) ?_ (bs 21 114687) HT_.out (by kernel_rfl) rfl rfl (fun _ _ _ h => h) (Or.inl ⟨by rfl, ?_⟩) ?_ ?_ ?_; rotate_left; (· intro w'; go_simp; with_reducible rfl); rotate_left; (· simp only [Act.put, sit, scz, scs, i64_w, i32_w]; rfl)
                        refine pu_ 17 (some 128) ?_ (bs 21 245759) HT_.out (by kernel_rfl) rfl rfl (fun _ _ _ h => h) (Or.inl ⟨by rfl, ?_⟩) ?_ ?_ ?_; rotate_left; (· intro w'; go_simp; with_reducible rfl); rotate_left; (· simp only [Act.put, sit, scz, scs, i64_w, i32_w]; rfl)
                        refine take_ (i := 14) (N := some 125) (v := ?_) (a' := ?_) (bs 21 262143) rfl rfl (take_ofW HT_.out HW_.out (by kernel_rfl)) (fun _ _ _ h => h) (Or.inl ⟨by rfl, ?_⟩) hHeld ?_ ?_; rotate_left; (· rintro w' ⟨s0, s1⟩; go_simp; with_reducible rfl); rotate_left; (· simp only [Act.put, sit, scz, scs, i64_w, i32_w]; rfl)
                        refine take_ (i := 18) (N := some 129) (v := ?_) (a' := ?_) (bs 21 524287) rfl rfl (take_ofW HT_.out HW_.out (by kernel_rfl)) (fun _ _ _ h => h) (Or.inl ⟨by rfl, ?_⟩) hHeld ?_ ?_; rotate_left; (· rintro w' ⟨s0, s1⟩; go_simp; with_reducible rfl); rotate_left; (· simp only [Act.put, sit, scz, scs, i64_w, i32_w]; rfl)
                        refine pu_ 19 (some 130) ?_ (bs 21 1048575) HT_.out (by kernel_rfl) rfl rfl (fun _ _ _ h => h) (Or.inl ⟨by rfl, ?_⟩) ?_ ?_ ?_; rotate_left; (· intro w'; go_simp; with_reducible rfl); rotate_left; (· simp only [Act.put, sit, scz, scs, i64_w, i32_w]; rfl)
                        refine pu_ 20 (some 131) ?_ (bs 21 2097151) HT_.out (by kernel_rfl) rfl rfl (fun _ _ _ h => h) (Or.inl ⟨by rfl, ?_⟩) ?_ ?_ ?_; rotate_left; (· intro w'; go_simp; with_reducible rfl); rotate_left; (· simp only [Act.put, sit, scz, scs, i64_w, i32_w]; rfl)
                        refine done_ (done_of HT_.out (by kernel_rfl)) ?_
                        try go_wp2
                        go_meet
                        case rel => exact ⟨_, (((rdOf ByteArray.empty y357 x10_4).toList == (rdOf ByteArray.empty y361 x11_4).toList)), (by first | rfl | (simp; done) | (simp [*]; done)), H', ⟨by have := HJ2.out; have := HJ11.out; have := HJ31.out; have := HK4.out; have := HJ39.out; first | omega | exact Nat.le_refl _⟩, ⟨by (with_reducible repeat (first | apply Kd.R_alloc | apply Kd.R_drewN | apply Kd.R_drew)); exact HO_9.out⟩, ⟨by repeat (first | (with_reducible first | exact HB.out | apply below_alloc | apply pw_below_drewN | apply below_drew1) | exact HB.out)⟩⟩
                       ·rw [if_neg c47] at H
                        exact absurd H (by simp)
                      ·rw [if_neg c46] at H
                       exact absurd H (by simp)
                     ·rw [if_neg c45] at H
                      have c45b0 : decide (x11_4 < (y361.length : Int)) = false := decide_eq_false c45
                      clear c45
                      have H' := Aside0.mk H
                      clear H
                      try go_wp2
                      have n0_ := Aside0.mk (Kd.R_drew HO_9.out)
                      have n1_ := Aside0.mk (below_drew1 HB.out)
                      clear HO_9
                      clear HB
                      have HO_9 := n0_
                      have HB := n1_
                      clear n0_ n1_
                      refine start_ (n := 21) (S := fun w' => True) (ds := []) (bs 21 0) (by kernel_rfl) rfl rfl trivial (fun hHeld => ?_); refine with_tabW redpenref18_Changes.tab13 redpenref18_Changes.bits13 (fun HT_ HW_ => ?_)
                      generalize wc.drew = w49 at HO_9 HB hHeld ⊢
                      refine pu_ 0 (some 111) ?_ (bs 21 1) HT_.out (by kernel_rfl) rfl rfl (fun _ _ _ h => h) (Or.inl ⟨by rfl, ?_⟩) ?_ ?_ ?_; rotate_left; (· intro w'; go_simp; with_reducible rfl); rotate_left; (· simp only [Act.put, sit, scz, scs, i64_w, i32_w]; rfl)
                      refine pu_ 1 (some 112) ?_ (bs 21 3) HT_.out (by kernel_rfl) rfl rfl (fun _ _ _ h => h) (Or.inl ⟨by rfl, ?_⟩) ?_ ?_ ?_; rotate_left; (· intro w'; go_simp; with_reducible rfl); rotate_left; (· simp only [Act.put, sit, scz, scs, i64_w, i32_w]; rfl)
                      refine pu_ 2 (some 113) ?_ (bs 21 7) HT_.out (by kernel_rfl) rfl rfl (fun _ _ _ h => h) (Or.inl ⟨by rfl, ?_⟩) ?_ ?_ ?_; rotate_left; (· intro w'; go_simp; with_reducible rfl); rotate_left; (· simp only [Act.put, sit, scz, scs, i64_w, i32_w]; rfl)
                      refine pu_ 3 (some 114) ?_ (bs 21 15) HT_.out (by kernel_rfl) rfl rfl (fun _ _ _ h => h) (Or.inl ⟨by rfl, ?_⟩) ?_ ?_ ?_; rotate_left; (· intro w'; go_simp; with_reducible rfl); rotate_left; (· simp only [Act.put, sit, scz, scs, i64_w, i32_w]; rfl)
                      refine pu_ 4 (some 115) ?_ (bs 21 31) HT_.out (by kernel_rfl) rfl rfl (fun _ _ _ h => h) (Or.inl ⟨by rfl, ?_⟩) ?_ ?_ ?_; rotate_left; (· intro w'; go_simp; with_reducible rfl); rotate_left; (· simp only [Act.put, sit, scz, scs, i64_w, i32_w]; rfl)
                      refine pu_ 5 (some 116) ?_ (bs 21 63) HT_.out (by kernel_rfl) rfl rfl (fun _ _ _ h => h) (Or.inl ⟨by rfl, ?_⟩) ?_ ?_ ?_; rotate_left; (· intro w'; go_simp; with_reducible rfl); rotate_left; (· simp only [Act.put, sit, scz, scs, i64_w, i32_w]; rfl)
                      refine pu_ 6 (some 117) ?_ (bs 21 127) HT_.out (by kernel_rfl) rfl rfl (fun _ _ _ h => h) (Or.inl ⟨by rfl, ?_⟩) ?_ ?_ ?_; rotate_left; (· intro w'; go_simp; with_reducible rfl); rotate_left; (· simp only [Act.put, sit, scz, scs, i64_w, i32_w]; rfl)
                      refine pu_ 7 (some 118) ?_ (bs 21 255) HT_.out (by kernel_rfl) rfl rfl (fun _ _ _ h => h) (Or.inl ⟨by rfl, ?_⟩) ?_ ?_ ?_; rotate_left; (· intro w'; go_simp; with_reducible rfl); rotate_left; (· simp only [Act.put, sit, scz, scs, i64_w, i32_w]; rfl)
                      refine pu_ 8 (some 119) ?_ (bs 21 511) HT_.out (by kernel_rfl) rfl rfl (fun _ _ _ h => h) (Or.inl ⟨by rfl, ?_⟩) ?_ ?_ ?_; rotate_left; (· intro w'; go_simp; with_reducible rfl); rotate_left; (· simp only [Act.put, sit, scz, scs, i64_w, i32_w]; rfl)
                      refine pu_ 9 (some 120) ?_ (bs 21 1023) HT_.out (by kernel_rfl) rfl rfl (fun _ _ _ h => h) (Or.inl ⟨by rfl, ?_⟩) ?_ ?_ ?_; rotate_left; (· intro w'; go_simp; with_reducible rfl); rotate_left; (· simp only [Act.put, sit, scz, scs, i64_w, i32_w]; rfl)
                      refine pu_ 10 (some 121) ?_ (bs 21 2047) HT_.out (by kernel_rfl) rfl rfl (fun _ _ _ h => h) (Or.inl ⟨by rfl, ?_⟩) ?_ ?_ ?_; rotate_left; (· intro w'; go_simp; with_reducible rfl); rotate_left; (· simp only [Act.put, sit, scz, scs, i64_w, i32_w]; rfl)
                      refine pu_ 11 (some 122) undef (bs 21 4095) HT_.out (by kernel_rfl) rfl rfl (fun _ _ _ h => h) (Or.inr ⟨by rfl, rfl⟩) ?_ ?_ ?_; rotate_left; (· simp only [Act.put, sit, scz, scs, i64_w, i32_w]; rfl)
                      refine pu_ 12 (some 123) undef (bs 21 8191) HT_.out (by kernel_rfl) rfl rfl (fun _ _ _ h => h) (Or.inr ⟨by rfl, rfl⟩) ?_ ?_ ?_; rotate_left; (· simp only [Act.put, sit, scz, scs, i64_w, i32_w]; rfl)
                      refine pu_ 13 (some 124) undef (bs 21 16383) HT_.out (by kernel_rfl) rfl rfl (fun _ _ _ h => h) (Or.inr ⟨by rfl, rfl⟩) ?_ ?_ ?_; rotate_left; (· simp only [Act.put, sit, scz, scs, i64_w, i32_w]; rfl)
                      refine pu_ 14 (some 125) undef (bs 21 32767) HT_.out (by kernel_rfl) rfl rfl (fun _ _ _ h => h) (Or.inr ⟨by rfl, rfl⟩) ?_ ?_ ?_; rotate_left; (· simp only [Act.put, sit, scz, scs, i64_w, i32_w]; rfl)
                      refine pu_ 15 (some 126) undef (bs 21 65535) HT_.out (by kernel_rfl) rfl rfl (fun _ _ _ h => h) (Or.inr ⟨by rfl, rfl⟩) ?_ ?_ ?_; rotate_left; (· simp only [Act.put, sit, scz, scs, i64_w, i32_w]; rfl)
                      refine pu_ 16 (some 127) undef (bs 21 131071) HT_.out (by kernel_rfl) rfl rfl (fun _ _ _ h => h) (Or.inr ⟨by rfl, rfl⟩) ?_ ?_ ?_; rotate_left; (· simp only [Act.put, sit, scz, scs, i64_w, i32_w]; rfl)
                      refine pu_ 17 (some 128) undef (bs 21 262143) HT_.out (by kernel_rfl) rfl rfl (fun _ _ _ h => h) (Or.inr ⟨by rfl, rfl⟩) ?_ ?_ ?_; rotate_left; (· simp only [Act.put, sit, scz, scs, i64_w, i32_w]; rfl)
                      refine pu_ 18 (some 129) undef (bs 21 524287) HT_.out (by kernel_rfl) rfl rfl (fun _ _ _ h => h) (Or.inr ⟨by rfl, rfl⟩) ?_ ?_ ?_; rotate_left; (· simp only [Act.put, sit, scz, scs, i64_w, i32_w]; rfl)
                      refine pu_ 19 (some 130) undef (bs 21 1048575) HT_.out (by kernel_rfl) rfl rfl (fun _ _ _ h => h) (Or.inr ⟨by rfl, rfl⟩) ?_ ?_ ?_; rotate_left; (· simp only [Act.put, sit, scz, scs, i64_w, i32_w]; rfl)
                      refine pu_ 20 (some 131) ?_ (bs 21 2097151) HT_.out (by kernel_rfl) rfl rfl (fun _ _ _ h => h) (Or.inl ⟨by rfl, ?_⟩) ?_ ?_ ?_; rotate_left; (· intro w'; go_simp; with_reducible rfl); rotate_left; (· simp only [Act.put, sit, scz, scs, i64_w, i32_w]; rfl)
                      refine done_ (done_of HT_.out (by kernel_rfl)) ?_
                      try go_wp2
                      go_meet
                      case rel => exact ⟨_, (false), (by first | rfl | (simp; done) | (simp [*]; done)), H', ⟨by have := HJ2.out; have := HJ11.out; have := HJ31.out; have := HK4.out; have := HJ39.out; first | omega | exact Nat.le_refl _⟩, ⟨by (with_reducible repeat (first | apply Kd.R_alloc | apply Kd.R_drewN | apply Kd.R_drew)); exact HO_9.out⟩, ⟨by repeat (first | (with_reducible first | exact HB.out | apply below_alloc | apply pw_below_drewN | apply below_drew1) | exact HB.out)⟩⟩
                    ·rw [if_neg c44] at H
                     have c44b0 : decide (x10_4 < (y357.length : Int)) = false := decide_eq_false c44
                     clear c44
                     (first | rw [c44b0] | (simp only [i64_w, i32_w]; rw [c44b0]) | skip)
                     have H' := Aside0.mk H
                     clear H
                     try go_wp2
                     have n0_ := Aside0.mk (Kd.R_drew HO_9.out)
                     have n1_ := Aside0.mk (below_drew1 HB.out)
                     clear HO_9
                     clear HB
                     have HO_9 := n0_
                     have HB := n1_
                     clear n0_ n1_
                     refine start_ (n := 21) (S := fun w' => True) (ds := []) (bs 21 0) (by kernel_rfl) rfl rfl trivial (fun hHeld => ?_); refine with_tabW redpenref18_Changes.tab13 redpenref18_Changes.bits13 (fun HT_ HW_ => ?_)
                     generalize wc.drew = w50 at HO_9 HB hHeld ⊢
                     refine pu_ 0 (some 111) ?_ (bs 21 1) HT_.out (by kernel_rfl) rfl rfl (fun _ _ _ h => h) (Or.inl ⟨by rfl, ?_⟩) ?_ ?_ ?_; rotate_left; (· intro w'; go_simp; with_reducible rfl); rotate_left; (· simp only [Act.put, sit, scz, scs, i64_w, i32_w]; rfl)
                     refine pu_ 1 (some 112) ?_ (bs 21 3) HT_.out (by kernel_rfl) rfl rfl (fun _ _ _ h => h) (Or.inl ⟨by rfl, ?_⟩) ?_ ?_ ?_; rotate_left; (· intro w'; go_simp; with_reducible rfl); rotate_left; (· simp only [Act.put, sit, scz, scs, i64_w, i32_w]; rfl)
                     refine pu_ 2 (some 113) ?_ (bs 21 7) HT_.out (by kernel_rfl) rfl rfl (fun _ _ _ h => h) (Or.inl ⟨by rfl, ?_⟩) ?_ ?_ ?_; rotate_left; (· intro w'; go_simp; with_reducible rfl); rotate_left; (· simp only [Act.put, sit, scz, scs, i64_w, i32_w]; rfl)
                     refine pu_ 3 (some 114) ?_ (bs 21 15) HT_.out (by kernel_rfl) rfl rfl (fun _ _ _ h => h) (Or.inl ⟨by rfl, ?_⟩) ?_ ?_ ?_; rotate_left; (· intro w'; go_simp; with_reducible rfl); rotate_left; (· simp only [Act.put, sit, scz, scs, i64_w, i32_w]; rfl)
                     refine pu_ 4 (some 115) ?_ (bs 21 31) HT_.out (by kernel_rfl) rfl rfl (fun _ _ _ h => h) (Or.inl ⟨by rfl, ?_⟩) ?_ ?_ ?_; rotate_left; (· intro w'; go_simp; with_reducible rfl); rotate_left; (· simp only [Act.put, sit, scz, scs, i64_w, i32_w]; rfl)
                     refine pu_ 5 (some 116) undef (bs 21 63) HT_.out (by kernel_rfl) rfl rfl (fun _ _ _ h => h) (Or.inr ⟨by rfl, rfl⟩) ?_ ?_ ?_; rotate_left; (· simp only [Act.put, sit, scz, scs, i64_w, i32_w]; rfl)
                     refine pu_ 6 (some 117) undef (bs 21 127) HT_.out (by kernel_rfl) rfl rfl (fun _ _ _ h => h) (Or.inr ⟨by rfl, rfl⟩) ?_ ?_ ?_; rotate_left; (· simp only [Act.put, sit, scz, scs, i64_w, i32_w]; rfl)
                     refine pu_ 7 (some 118) undef (bs 21 255) HT_.out (by kernel_rfl) rfl rfl (fun _ _ _ h => h) (Or.inr ⟨by rfl, rfl⟩) ?_ ?_ ?_; rotate_left; (· simp only [Act.put, sit, scz, scs, i64_w, i32_w]; rfl)
                     refine pu_ 8 (some 119) undef (bs 21 511) HT_.out (by kernel_rfl) rfl rfl (fun _ _ _ h => h) (Or.inr ⟨by rfl, rfl⟩) ?_ ?_ ?_; rotate_left; (· simp only [Act.put, sit, scz, scs, i64_w, i32_w]; rfl)
                     refine pu_ 9 (some 120) ?_ (bs 21 1023) HT_.out (by kernel_rfl) rfl rfl (fun _ _ _ h => h) (Or.inl ⟨by rfl, ?_⟩) ?_ ?_ ?_; rotate_left; (· intro w'; go_simp; with_reducible rfl); rotate_left; (· simp only [Act.put, sit, scz, scs, i64_w, i32_w]; rfl)
                     refine pu_ 10 (some 121) ?_ (bs 21 2047) HT_.out (by kernel_rfl) rfl rfl (fun _ _ _ h => h) (Or.inl ⟨by rfl, ?_⟩) ?_ ?_ ?_; rotate_left; (· intro w'; go_simp; with_reducible rfl); rotate_left; (· simp only [Act.put, sit, scz, scs, i64_w, i32_w]; rfl)
                     refine pu_ 11 (some 122) undef (bs 21 4095) HT_.out (by kernel_rfl) rfl rfl (fun _ _ _ h => h) (Or.inr ⟨by rfl, rfl⟩) ?_ ?_ ?_; rotate_left; (· simp only [Act.put, sit, scz, scs, i64_w, i32_w]; rfl)
                     refine pu_ 12 (some 123) undef (bs 21 8191) HT_.out (by kernel_rfl) rfl rfl (fun _ _ _ h => h) (Or.inr ⟨by rfl, rfl⟩) ?_ ?_ ?_; rotate_left; (· simp only [Act.put, sit, scz, scs, i64_w, i32_w]; rfl)
                     refine pu_ 13 (some 124) undef (bs 21 16383) HT_.out (by kernel_rfl) rfl rfl (fun _ _ _ h => h) (Or.inr ⟨by rfl, rfl⟩) ?_ ?_ ?_; rotate_left; (· simp only [Act.put, sit, scz, scs, i64_w, i32_w]; rfl)
                     refine pu_ 14 (some 125) undef (bs 21 32767) HT_.out (by kernel_rfl) rfl rfl (fun _ _ _ h => h) (Or.inr ⟨by rfl, rfl⟩) ?_ ?_ ?_; rotate_left; (· simp only [Act.put, sit, scz, scs, i64_w, i32_w]; rfl)
                     refine pu_ 15 (some 126) undef (bs 21 65535) HT_.out (by kernel_rfl) rfl rfl (fun _ _ _ h => h) (Or.inr ⟨by rfl, rfl⟩) ?_ ?_ ?_; rotate_left; (· simp only [Act.put, sit, scz, scs, i64_w, i32_w]; rfl)
                     refine pu_ 16 (some 127) undef (bs 21 131071) HT_.out (by kernel_rfl) rfl rfl (fun _ _ _ h => h) (Or.inr ⟨by rfl, rfl⟩) ?_ ?_ ?_; rotate_left; (· simp only [Act.put, sit, scz, scs, i64_w, i32_w]; rfl)
                     refine pu_ 17 (some 128) undef (bs 21 262143) HT_.out (by kernel_rfl) rfl rfl (fun _ _ _ h => h) (Or.inr ⟨by rfl, rfl⟩) ?_ ?_ ?_; rotate_left; (· simp only [Act.put, sit, scz, scs, i64_w, i32_w]; rfl)
                     refine pu_ 18 (some 129) undef (bs 21 524287) HT_.out (by kernel_rfl) rfl rfl (fun _ _ _ h => h) (Or.inr ⟨by rfl, rfl⟩) ?_ ?_ ?_; rotate_left; (· simp only [Act.put, sit, scz, scs, i64_w, i32_w]; rfl)
                     refine pu_ 19 (some 130) undef (bs 21 1048575) HT_.out (by kernel_rfl) rfl rfl (fun _ _ _ h => h) (Or.inr ⟨by rfl, rfl⟩) ?_ ?_ ?_; rotate_left; (· simp only [Act.put, sit, scz, scs, i64_w, i32_w]; rfl)
                     refine pu_ 20 (some 131) ?_ (bs 21 2097151) HT_.out (by kernel_rfl) rfl rfl (fun _ _ _ h => h) (Or.inl ⟨by rfl, ?_⟩) ?_ ?_ ?_; rotate_left; (· intro w'; go_simp; with_reducible rfl); rotate_left; (· simp only [Act.put, sit, scz, scs, i64_w, i32_w]; rfl)
                     refine done_ (done_of HT_.out (by kernel_rfl)) ?_
                     try go_wp2
                     go_meet
                     case rel => exact ⟨_, (false), (by first | rfl | (simp; done) | (simp [*]; done)), H', ⟨by have := HJ2.out; have := HJ11.out; have := HJ31.out; have := HK4.out; have := HJ39.out; first | omega | exact Nat.le_refl _⟩, ⟨by (with_reducible repeat (first | apply Kd.R_alloc | apply Kd.R_drewN | apply Kd.R_drew)); exact HO_9.out⟩, ⟨by repeat (first | (with_reducible first | exact HB.out | apply below_alloc | apply pw_below_drewN | apply below_drew1) | exact HB.out)⟩⟩
                  case rest =>
                   clear HC43
                   (try clear c1); (try clear c2); (try clear p2); (try clear c3); (try clear p3); (try clear q3); (try clear hx3); (try clear c4); (try clear p6); (try clear c13); (try clear c13b0); (try clear c14); (try clear c14b0); (try clear c16); (try clear c17); (try clear c19); (try clear c20); (try clear c26); (try clear c26b0); (try clear c26b1); (try clear c27); (try clear c27b0); (try clear c27b1); (try clear c28); (try clear c28b0); (try clear c28b1); (try clear c29); (try clear c29b0); (try clear c30); (try clear c30b0); (try clear c30b1); (try clear c31); (try clear c31b0); (try clear c31b1); (try clear c34); (try clear q34); (try clear c35); (try clear q35); (try clear c36); (try clear c36b0); (try clear c36b1); (try clear p36); (try clear q36); (try clear hx36); (try clear c37); (try clear c41); (try clear c41b0); (try clear c42); (try clear c44); (try clear c44b0); (try clear c45); (try clear c45b0); (try clear c46); (try clear c46b0); (try clear c47); (try clear c47b0); (try clear hx368_0); (try clear hx369_0); (try clear p2); (try clear p368); (try clear p369); (try clear p6); (try clear q034); (try clear q035); (try clear q3); (try clear q34); (try clear q35); (try clear q368); (try clear q369)
                   obtain ⟨kq, x131_42, rfl, HA, HJ42, HO_9, HB⟩ := hcut
                   cases kq with
                   | zero => exact absurd HA.out (by simp [redpenref18_Changes.j7])
                   | succ kj42 =>
                    have H := HA.out
                    clear HA
                    simp only [redpenref18_Changes.j7] at H
                    by_cases c51 : x131_42 = true
                    ·subst c51
                     have H1 : (redpenref18_Changes.l2 kj42 x5_2 y357 y361 x9_4 (wrap64 (x10_4 + 1)) (wrap64 (x11_4 + 1))) = some r := by rw [if_pos rfl] at H; exact H
                     clear H
                     have H := H1
                     clear H1
                     have H' := Aside0.mk H
                     clear H
                     go_wp2
                     go_roundg kj42
                     case measure => have := HJ2.out; have := HJ11.out; have := HJ31.out; have := HK4.out; have := HJ39.out; have := HJ42.out; omega
                     case rel => exact ⟨(x9_4), (wrap64 (x10_4 + 1)), (wrap64 (x11_4 + 1)), (by first | rfl | (simp; done) | (simp [*]; done)), (by first | rfl | (simp; done) | (simp [*]; done)), H', ⟨by have := HJ2.out; have := HJ11.out; have := HJ31.out; have := HK4.out; have := HJ39.out; have := HJ42.out; omega⟩, ⟨by (with_reducible repeat (first | apply Kd.R_alloc | apply Kd.R_drewN | apply Kd.R_drew)); exact HO_9.out⟩, ⟨by repeat (first | (with_reducible first | exact HB.out | apply below_alloc | apply pw_below_drewN | apply below_drew1) | exact HB.out)⟩⟩
                    ·replace c51 := Bool.eq_false_iff.mpr c51
                     subst c51
                     have H1 : (redpenref18_Changes.l3 kj42 x5_2 y357 y361 x9_4 x10_4 x11_4 (wrap64 (x5_2 + x10_4)) 0 (wrap64 (x5_2 + x11_4)) 0) = some r := by rw [if_neg (show ¬ (false = true) by decide)] at H; exact H
                     clear H
                     have H := H1
                     clear H1
                     have H' := Aside0.mk H
                     clear H
                     go_wp2_with (first | ((with_reducible refine gate_dst (N := 12) rfl ?_); (try (refine gate_guard (by rfl) ?_; dsimp only)); refine box_event ?hg (N := 12) ?hd (cs := #[.int .i64 0, .int .i64 0, .int .i64 0, .int .i64 0]) (t := 40) ?hr ?_; (case hd => rfl); (case hg => rfl); (case hr => first | (go_simp; done) | (go_simp; rfl)); intro gb370 hg w52 hbox hb; have n0_ := Aside0.mk (Kd.R_below (Kd.R_elderB (by (with_reducible repeat (first | apply Kd.R_alloc | apply Kd.R_drewN | apply Kd.R_drew)); exact HO_9.out) gb370 (Nat.le_of_eq hg.symm)) hb); have n1_ := Aside0.mk (below_step (by repeat (first | (with_reducible first | exact HB.out | apply below_alloc | apply pw_below_drewN | apply below_drew1) | exact HB.out)) hb); have n2_ := Aside0.mk (hbox); have n3_ := Aside0.mk ((by rw [hg]; exact (below_size (by repeat (first | (with_reducible first | exact HB.out | apply below_alloc | apply pw_below_drewN | apply below_drew1) | exact HB.out))) : w.heap.size ≤ gb370)); have n4_ := Aside0.mk ((by rw [hg]; exact (below_size (by repeat (first | (with_reducible first | exact HB.out | apply below_alloc | apply pw_below_drewN | apply below_drew1) | exact HB.out))) : w.heap.size ≤ gb370)); clear HO_9; clear HB; have HO_9 := n0_; have HB := n1_; have BK370 := n2_; have GW370 := n3_; have GE370 := n4_; clear n0_ n1_ n2_ n3_ n4_; clear hb hbox hg; have hcz53_0 : w52.cell? ⟨gb370, 0, none⟩ = some (.int .i64 0) := (blk_cell BK370.out 0).trans rfl; have hcz53_1 : w52.cell? ⟨gb370, 1, none⟩ = some (.int .i64 0) := (blk_cell BK370.out 1).trans rfl; have hcz53_2 : w52.cell? ⟨gb370, 2, none⟩ = some (.int .i64 0) := (blk_cell BK370.out 2).trans rfl; have hcz53_3 : w52.cell? ⟨gb370, 3, none⟩ = some (.int .i64 0) := (blk_cell BK370.out 3).trans rfl; have hfz53_0 := blk_frozen BK370.out 0; have hfz53_1 := blk_frozen BK370.out 1; have hfz53_2 := blk_frozen BK370.out 2; have hfz53_3 := blk_frozen BK370.out 3))
                     go_loopg [10, 11] kj42 (fun kq v10 v11 w' => ∃ (x10_7 : Int) (x11_7 : Int) (x371001_7 : Int) (x371003_7 : Int), v10 = .int .i64 x10_7 ∧ v11 = .int .i64 x11_7 ∧ Aside0 (redpenref18_Changes.l3 kq x5_2 y357 y361 x9_4 x10_7 x11_7 (wrap64 (x5_2 + x10_4)) x371001_7 (wrap64 (x5_2 + x11_4)) x371003_7 = some r) ∧ Aside0 (kq ≤ kj42) ∧ Aside0 (Kd.R k40 40 w' w.heap.size (fun k_ => k_ ≠ gb370) u9 x9_4) ∧ Aside0 (w'.heap[gb370]? = some (.cells #[.int .i64 (wrap64 (x5_2 + x10_4)), .int .i64 x371001_7, .int .i64 (wrap64 (x5_2 + x11_4)), .int .i64 x371003_7] 40 (0, 0))) ∧ Aside0 (Below w.heap.size w w'))
                     case atStart => exact ⟨(x10_4), (x11_4), (0), (0), (by first | rfl | (simp; done) | (simp [*]; done)), (by first | rfl | (simp; done) | (simp [*]; done)), H', ⟨Nat.le_refl _⟩, ⟨by (with_reducible repeat (first | apply Kd.R_alloc | apply Kd.R_drewN | apply Kd.R_drew)); exact Kd.R_mono (Kd.R_far (p := ⟨gb370, 3, none⟩) (Kd.R_far (p := ⟨gb370, 2, none⟩) (Kd.R_far (p := ⟨gb370, 1, none⟩) (Kd.R_far (p := ⟨gb370, 0, none⟩) (Kd.R_mono HO_9.out (fun k_ hk => (⟨hk, hk.2⟩ : _ ∧ k_ ≠ gb370))) (fun _ hk => hk.2) (.int .i64 (wrap64 (x5_2 + x10_4)))) (fun _ hk => hk.2) (.int .i64 0)) (fun _ hk => hk.2) (.int .i64 (wrap64 (x5_2 + x11_4)))) (fun _ hk => hk.2) (.int .i64 0)) (fun _ hk => hk.1.2)⟩, ⟨by (with_reducible repeat (first | refine blk_drewN ?_ _ | refine blk_drew ?_ | refine blk_alloc ?_ _)); refine blk_put (cs := #[.int .i64 (wrap64 (x5_2 + x10_4)), .int .i64 0, .int .i64 (wrap64 (x5_2 + x11_4)), .int .i64 0]) ?_ 3 _ rfl; (with_reducible repeat (first | refine blk_drewN ?_ _ | refine blk_drew ?_ | refine blk_alloc ?_ _)); refine blk_put (cs := #[.int .i64 (wrap64 (x5_2 + x10_4)), .int .i64 0, .int .i64 0, .int .i64 0]) ?_ 2 _ rfl; (with_reducible repeat (first | refine blk_drewN ?_ _ | refine blk_drew ?_ | refine blk_alloc ?_ _)); refine blk_put (cs := #[.int .i64 (wrap64 (x5_2 + x10_4)), .int .i64 0, .int .i64 0, .int .i64 0]) ?_ 1 _ rfl; (with_reducible repeat (first | refine blk_drewN ?_ _ | refine blk_drew ?_ | refine blk_alloc ?_ _)); refine blk_put (cs := #[.int .i64 0, .int .i64 0, .int .i64 0, .int .i64 0]) ?_ 0 _ rfl; (with_reducible repeat (first | refine blk_drewN ?_ _ | refine blk_drew ?_ | refine blk_alloc ?_ _)); exact BK370.out⟩, ⟨by repeat (first | (with_reducible first | exact HB.out | apply below_alloc | apply pw_below_drewN | apply below_drew1 | refine below_set ?_ GE370.out) | exact HB.out)⟩⟩
                     case round =>
                      clear H'
                      (try clear c1); (try clear c2); (try clear p2); (try clear c3); (try clear p3); (try clear q3); (try clear hx3); (try clear c4); (try clear c5); (try clear p6); (try clear c13); (try clear c13b0); (try clear c14); (try clear c14b0); (try clear c16); (try clear c17); (try clear c19); (try clear c20); (try clear c26); (try clear c26b0); (try clear c26b1); (try clear c27); (try clear c27b0); (try clear c27b1); (try clear c28); (try clear c28b0); (try clear c28b1); (try clear c29); (try clear c29b0); (try clear c30); (try clear c30b0); (try clear c30b1); (try clear c31); (try clear c31b0); (try clear c31b1); (try clear c34); (try clear q34); (try clear c35); (try clear q35); (try clear c36); (try clear c36b0); (try clear c36b1); (try clear p36); (try clear q36); (try clear hx36); (try clear c37); (try clear c41); (try clear c41b0); (try clear c42); (try clear c44); (try clear c44b0); (try clear c45); (try clear c45b0); (try clear c46); (try clear c46b0); (try clear c47); (try clear c47b0); (try clear c51); (try clear hcz53_0); (try clear hcz53_1); (try clear hcz53_2); (try clear hcz53_3); (try clear hfz53_0); (try clear hfz53_1); (try clear hfz53_2); (try clear hfz53_3); (try clear hx368_0); (try clear hx369_0); (try clear p2); (try clear p3); (try clear p36); (try clear p368); (try clear p369); (try clear p6); (try clear q034); (try clear q035); (try clear q3); (try clear q34); (try clear q35); (try clear q36); (try clear q368); (try clear q369)
                      obtain ⟨x10_7, x11_7, x371001_7, x371003_7, rfl, rfl, HA, HK7, HO_9, BK370, HB⟩ := hrel
                      cases gk with
                      | zero => exact absurd HA.out (by simp [redpenref18_Changes.l3])
                      | succ k7 =>
                       have H := HA.out
                       clear HA
                       simp only [redpenref18_Changes.l3] at H
                       have HC54 := Aside0.mk H
                       clear H
                       go_upto_region 17 with (fail)
                       go_cut [152] (fun v152 wc => ∃ (kq : Nat) (x152_53 : Bool), v152 = .bool x152_53 ∧ Aside0 (redpenref18_Changes.j9 kq x5_2 y357 y361 x9_4 x10_7 x11_7 x152_53 (wrap64 (x5_2 + x10_4)) x371001_7 (wrap64 (x5_2 + x11_4)) x371003_7 = some r) ∧ Aside0 (kq ≤ k7) ∧ Aside0 (Kd.R k40 40 wc w.heap.size (fun k_ => k_ ≠ gb370) u9 x9_4) ∧ Aside0 (wc.heap[gb370]? = some (.cells #[.int .i64 (wrap64 (x5_2 + x10_4)), .int .i64 x371001_7, .int .i64 (wrap64 (x5_2 + x11_4)), .int .i64 x371003_7] 40 (0, 0))) ∧ Aside0 (Below w.heap.size w wc))
                       case first =>
                        as_aux_lemma =>
                         have H := HC54.out
                         clear HC54
                         by_cases c55 : x10_7 < (y357.length : Int)
                         ·rw [if_pos c55] at H
                          have c55b0 : decide (x10_7 < (y357.length : Int)) = true := decide_eq_true c55
                          clear c55
                          (first | rw [c55b0] | (simp only [i64_w, i32_w]; rw [c55b0]) | skip)
                          have H' := Aside0.mk H
                          clear H
                          go_wp2
                          go_meet
                          case rel => exact ⟨_, (true), (by first | rfl | (simp; done) | (simp [*]; done)), H', ⟨by have := HJ2.out; have := HJ11.out; have := HJ31.out; have := HK4.out; have := HJ39.out; have := HJ42.out; have := HK7.out; first | omega | exact Nat.le_refl _⟩, ⟨by (with_reducible repeat (first | apply Kd.R_alloc | apply Kd.R_drewN | apply Kd.R_drew)); exact HO_9.out⟩, ⟨by (with_reducible repeat (first | refine blk_drewN ?_ _ | refine blk_drew ?_ | refine blk_alloc ?_ _)); exact BK370.out⟩, ⟨by repeat (first | (with_reducible first | exact HB.out | apply below_alloc | apply pw_below_drewN | apply below_drew1 | refine below_set ?_ GE370.out) | exact HB.out)⟩⟩
                         ·rw [if_neg c55] at H
                          have c55b0 : decide (x10_7 < (y357.length : Int)) = false := decide_eq_false c55
                          clear c55
                          (first | rw [c55b0] | (simp only [i64_w, i32_w]; rw [c55b0]) | skip)
                          have H' := Aside0.mk H
                          clear H
                          go_wp2
                          go_meet
                          case rel => exact ⟨_, (decide (x11_7 < (y361.length : Int))), (by first | rfl | (simp; done) | (simp [*]; done)), H', ⟨by have := HJ2.out; have := HJ11.out; have := HJ31.out; have := HK4.out; have := HJ39.out; have := HJ42.out; have := HK7.out; first | omega | exact Nat.le_refl _⟩, ⟨by (with_reducible repeat (first | apply Kd.R_alloc | apply Kd.R_drewN | apply Kd.R_drew)); exact HO_9.out⟩, ⟨by (with_reducible repeat (first | refine blk_drewN ?_ _ | refine blk_drew ?_ | refine blk_alloc ?_ _)); exact BK370.out⟩, ⟨by repeat (first | (with_reducible first | exact HB.out | apply below_alloc | apply pw_below_drewN | apply below_drew1 | refine below_set ?_ GE370.out) | exact HB.out)⟩⟩
                       case rest =>
                        clear HC54
                        (try clear c1); (try clear c2); (try clear p2); (try clear c3); (try clear p3); (try clear q3); (try clear hx3); (try clear c4); (try clear c5); (try clear p6); (try clear c13); (try clear c13b0); (try clear c14); (try clear c14b0); (try clear c16); (try clear c17); (try clear c19); (try clear c20); (try clear c26); (try clear c26b0); (try clear c26b1); (try clear c27); (try clear c27b0); (try clear c27b1); (try clear c28); (try clear c28b0); (try clear c28b1); (try clear c29); (try clear c29b0); (try clear c30); (try clear c30b0); (try clear c30b1); (try clear c31); (try clear c31b0); (try clear c31b1); (try clear c34); (try clear q34); (try clear c35); (try clear q35); (try clear c36); (try clear c36b0); (try clear c36b1); (try clear p36); (try clear q36); (try clear hx36); (try clear c37); (try clear c41); (try clear c41b0); (try clear c42); (try clear c44); (try clear c44b0); (try clear c45); (try clear c45b0); (try clear c46); (try clear c46b0); (try clear c47); (try clear c47b0); (try clear c51); (try clear c55); (try clear c55b0); (try clear hcz53_0); (try clear hcz53_1); (try clear hcz53_2); (try clear hcz53_3); (try clear hfz53_0); (try clear hfz53_1); (try clear hfz53_2); (try clear hfz53_3); (try clear hx368_0); (try clear hx369_0); (try clear p2); (try clear p3); (try clear p36); (try clear p368); (try clear p369); (try clear p6); (try clear q034); (try clear q035); (try clear q3); (try clear q34); (try clear q35); (try clear q36); (try clear q368); (try clear q369)
                        obtain ⟨kq, x152_53, rfl, HA, HJ53, HO_9, BK370, HB⟩ := hcut
                        cases kq with
                        | zero => exact absurd HA.out (by simp [redpenref18_Changes.j9])
                        | succ kj53 =>
                         have H := HA.out
                         clear HA
                         simp only [redpenref18_Changes.j9] at H
                         by_cases c56 : x152_53 = true
                         ·subst c56
                          have H1 : (if x10_7 < (y357.length : Int) then (if x11_7 < (y361.length : Int) then (if 0 ≤ x10_7 then (if 0 ≤ x11_7 then (redpenref18_Changes.j10 kj53 x5_2 y357 y361 x9_4 x10_7 x11_7 ((rdOf ByteArray.empty y357 x10_7).toList == (rdOf ByteArray.empty y361 x11_7).toList) (wrap64 (x5_2 + x10_4)) x371001_7 (wrap64 (x5_2 + x11_4)) x371003_7) else (none)) else (none)) else (redpenref18_Changes.j10 kj53 x5_2 y357 y361 x9_4 x10_7 x11_7 false (wrap64 (x5_2 + x10_4)) x371001_7 (wrap64 (x5_2 + x11_4)) x371003_7)) else (redpenref18_Changes.j10 kj53 x5_2 y357 y361 x9_4 x10_7 x11_7 false (wrap64 (x5_2 + x10_4)) x371001_7 (wrap64 (x5_2 + x11_4)) x371003_7)) = some r := by rw [if_pos rfl] at H; exact H
                          clear H
                          have H := H1
                          clear H1
                          have HC57 := Aside0.mk H
                          clear H
                          go_upto_region 18 with (fail)
                          go_cut [173] (fun v173 wc => ∃ (kq : Nat) (x173_56 : Bool), v173 = .bool x173_56 ∧ Aside0 (redpenref18_Changes.j10 kq x5_2 y357 y361 x9_4 x10_7 x11_7 x173_56 (wrap64 (x5_2 + x10_4)) x371001_7 (wrap64 (x5_2 + x11_4)) x371003_7 = some r) ∧ Aside0 (kq ≤ kj53) ∧ Aside0 (Kd.R k40 40 wc w.heap.size (fun k_ => k_ ≠ gb370) u9 x9_4) ∧ Aside0 (wc.heap[gb370]? = some (.cells #[.int .i64 (wrap64 (x5_2 + x10_4)), .int .i64 x371001_7, .int .i64 (wrap64 (x5_2 + x11_4)), .int .i64 x371003_7] 40 (0, 0))) ∧ Aside0 (Below w.heap.size w wc))
                          case first =>
                           as_aux_lemma =>
                            have H := HC57.out
                            clear HC57
                            by_cases c58 : x10_7 < (y357.length : Int)
                            ·rw [if_pos c58] at H
                             have c58b0 : decide (x10_7 < (y357.length : Int)) = true := decide_eq_true c58
                             clear c58
                             (first | rw [c58b0] | (simp only [i64_w, i32_w]; rw [c58b0]) | skip)
                             by_cases c59 : x11_7 < (y361.length : Int)
                             ·rw [if_pos c59] at H
                              have c59b0 : decide (x11_7 < (y361.length : Int)) = true := decide_eq_true c59
                              clear c59
                              by_cases c60 : 0 ≤ x10_7
                              ·rw [if_pos c60] at H
                               have c60b0 : decide (0 ≤ x10_7) = true := decide_eq_true c60
                               clear c60
                               by_cases c61 : 0 ≤ x11_7
                               ·rw [if_pos c61] at H
                                have c61b0 : decide (0 ≤ x11_7) = true := decide_eq_true c61
                                clear c61
                                have H' := Aside0.mk H
                                clear H
                                try go_wp2
                                have n0_ := Aside0.mk (Kd.R_drew HO_9.out)
                                have n1_ := Aside0.mk (blk_drew BK370.out)
                                have n2_ := Aside0.mk (below_drew1 HB.out)
                                clear HO_9
                                clear BK370
                                clear HB
                                have HO_9 := n0_
                                have BK370 := n1_
                                have HB := n2_
                                clear n0_ n1_ n2_
                                have p374 : 0 ≤ (x10_7 : Int) := of_decide_eq_true (by first | (with_reducible assumption) | assumption)
                                have q374 : x10_7 < (y357.length : Int) := of_decide_eq_true (by first | (with_reducible assumption) | assumption)
                                obtain ⟨ad374, e374, hx374_0⟩ := Kd.at_string HR360.out x10_7 p374 q374
                                have hw374_0 := hx374_0
                                cases e374
                                replace hx374_0 := (HB.out.cell (World.block_lt_of_cell? w _ hx374_0)).trans hx374_0
                                replace p374 := eq_true p374
                                replace q374 := eq_true q374
                                have p375 : 0 ≤ (x11_7 : Int) := of_decide_eq_true (by first | (with_reducible assumption) | assumption)
                                have q375 : x11_7 < (y361.length : Int) := of_decide_eq_true (by first | (with_reducible assumption) | assumption)
                                obtain ⟨ad375, e375, hx375_0⟩ := Kd.at_string HR364.out x11_7 p375 q375
                                have hw375_0 := hx375_0
                                cases e375
                                replace hx375_0 := (HB.out.cell (World.block_lt_of_cell? w _ hx375_0)).trans hx375_0
                                replace p375 := eq_true p375
                                replace q375 := eq_true q375
                                refine start_ (n := 21) (S := fun w' => w'.cell? (ad374.add (x10_7).toNat) = some (.string (rdOf ByteArray.empty y357 x10_7)) ∧ w'.cell? (ad375.add (x11_7).toNat) = some (.string (rdOf ByteArray.empty y361 x11_7))) (ds := []) (bs 21 0) (by kernel_rfl) rfl rfl ⟨((HB.out.cell (World.block_lt_of_cell? w _ hw374_0)).trans hw374_0), ((HB.out.cell (World.block_lt_of_cell? w _ hw375_0)).trans hw375_0)⟩ (fun hHeld => ?_); refine with_tabW redpenref18_Changes.tab18 redpenref18_Changes.bits18 (fun HT_ HW_ => ?_)
                                generalize wc.drew = w62 at HO_9 BK370 HB hx374_0 hx375_0 hHeld ⊢
                                refine pu_ 0 (some 153) ?_ (bs 21 1) HT_.out (by kernel_rfl) rfl rfl (fun _ _ _ h => h) (Or.inl ⟨by rfl, ?_⟩) ?_ ?_ ?_; rotate_left; (· intro w'; go_simp; with_reducible rfl); rotate_left; (· simp only [Act.put, sit, scz, scs, i64_w, i32_w]; rfl)
                                refine pu_ 1 (some 154) ?_ (bs 21 3) HT_.out (by kernel_rfl) rfl rfl (fun _ _ _ h => h) (Or.inl ⟨by rfl, ?_⟩) ?_ ?_ ?_; rotate_left; (· intro w'; go_simp; with_reducible rfl); rotate_left; (· simp only [Act.put, sit, scz, scs, i64_w, i32_w]; rfl)
                                refine pu_ 2 (some 155) ?_ (bs 21 7) HT_.out (by kernel_rfl) rfl rfl (fun _ _ _ h => h) (Or.inl ⟨by rfl, ?_⟩) ?_ ?_ ?_; rotate_left; (· intro w'; go_simp; with_reducible rfl); rotate_left; (· simp only [Act.put, sit, scz, scs, i64_w, i32_w]; rfl)
                                refine pu_ 3 (some 156) ?_ (bs 21 15) HT_.out (by kernel_rfl) rfl rfl (fun _ _ _ h => h) (Or.inl ⟨by rfl, ?_⟩) ?_ ?_ ?_; rotate_left; (· intro w'; go_simp; with_reducible rfl); rotate_left; (· simp only [Act.put, sit, scz, scs, i64_w, i32_w]; rfl)
                                refine pu_ 4 (some 157) ?_ (bs 21 31) HT_.out (by kernel_rfl) rfl rfl (fun _ _ _ h => h) (Or.inl ⟨by rfl, ?_⟩) ?_ ?_ ?_; rotate_left; (· intro w'; go_simp; with_reducible rfl); rotate_left; (· simp only [Act.put, sit, scz, scs, i64_w, i32_w]; rfl)
                                refine pu_ 5 (some 158) ?_ (bs 21 63) HT_.out (by kernel_rfl) rfl rfl (fun _ _ _ h => h) (Or.inl ⟨by rfl, ?_⟩) ?_ ?_ ?_; rotate_left; (· intro w'; go_simp; with_reducible rfl); rotate_left; (· simp only [Act.put, sit, scz, scs, i64_w, i32_w]; rfl)
                                refine pu_ 6 (some 159) ?_ (bs 21 127) HT_.out (by kernel_rfl) rfl rfl (fun _ _ _ h => h) (Or.inl ⟨by rfl, ?_⟩) ?_ ?_ ?_; rotate_left; (· intro w'; go_simp; with_reducible rfl); rotate_left; (· simp only [Act.put, sit, scz, scs, i64_w, i32_w]; rfl)
                                refine pu_ 7 (some 160) ?_ (bs 21 255) HT_.out (by kernel_rfl) rfl rfl (fun _ _ _ h => h) (Or.inl ⟨by rfl, ?_⟩) ?_ ?_ ?_; rotate_left; (· intro w'; go_simp; with_reducible rfl); rotate_left; (· simp only [Act.put, sit, scz, scs, i64_w, i32_w]; rfl)
                                refine pu_ 8 (some 161) ?_ (bs 21 511) HT_.out (by kernel_rfl) rfl rfl (fun _ _ _ h => h) (Or.inl ⟨by rfl, ?_⟩) ?_ ?_ ?_; rotate_left; (· intro w'; go_simp; with_reducible rfl); rotate_left; (· simp only [Act.put, sit, scz, scs, i64_w, i32_w]; rfl)
                                refine pu_ 9 (some 162) ?_ (bs 21 1023) HT_.out (by kernel_rfl) rfl rfl (fun _ _ _ h => h) (Or.inl ⟨by rfl, ?_⟩) ?_ ?_ ?_; rotate_left; (· intro w'; go_simp; with_reducible rfl); rotate_left; (· simp only [Act.put, sit, scz, scs, i64_w, i32_w]; rfl)
                                refine pu_ 10 (some 163) ?_ (bs 21 2047) HT_.out (by kernel_rfl) rfl rfl (fun _ _ _ h => h) (Or.inl ⟨by rfl, ?_⟩) ?_ ?_ ?_; rotate_left; (· intro w'; go_simp; with_reducible rfl); rotate_left; (· simp only [Act.put, sit, scz, scs, i64_w, i32_w]; rfl)
                                refine pu_ 11 (some 164) ?_ (bs 21 4095) HT_.out (by kernel_rfl) rfl rfl (fun _ _ _ h => h) (Or.inl ⟨by rfl, ?_⟩) ?_ ?_ ?_; rotate_left; (· intro w'; go_simp; with_reducible rfl); rotate_left; (· simp only [Act.put, sit, scz, scs, i64_w, i32_w]; rfl)
                                refine pu_ 12 (some 165) ?_ (bs 21 8191) HT_.out (by kernel_rfl) rfl rfl (fun _ _ _ h => h) (Or.inl ⟨by rfl, ?_⟩) ?_ ?_ ?_; rotate_left; (· intro w'; go_simp; with_reducible rfl); rotate_left; (· simp only [Act.put, sit, scz, scs, i64_w, i32_w]; rfl)
                                refine pu_ 13 (some 166) ?_ (bs 21 16383) HT_.out (by kernel_rfl) rfl rfl (fun _ _ _ h => h) (Or.inl ⟨by rfl, ?_⟩) ?_ ?_ ?_; rotate_left; (· intro w'; go_simp; with_reducible rfl); rotate_left; (· simp only [Act.put, sit, scz, scs, i64_w, i32_w]; rfl)
                                refine pu_ 15 (some 168) ?_ (bs 21 49151) HT_.out (by kernel_rfl) rfl rfl (fun _ _ _ h => h) (Or.inl ⟨by rfl, ?_⟩) ?_ ?_ ?_; rotate_left; (· intro w'; go_simp; with_reducible rfl); rotate_left; (· simp only [Act.put, sit, scz, scs, i64_w, i32_w]; rfl)
                                refine pu_ 16 (some 169) ?_ (bs 21 114687) HT_.out (by kernel_rfl) rfl rfl (fun _ _ _ h => h) (Or.inl ⟨by rfl, ?_⟩) ?_ ?_ ?_; rotate_left; (· intro w'; go_simp; with_reducible rfl); rotate_left; (· simp only [Act.put, sit, scz, scs, i64_w, i32_w]; rfl)
                                refine pu_ 17 (some 170) ?_ (bs 21 245759) HT_.out (by kernel_rfl) rfl rfl (fun _ _ _ h => h) (Or.inl ⟨by rfl, ?_⟩) ?_ ?_ ?_; rotate_left; (· intro w'; go_simp; with_reducible rfl); rotate_left; (· simp only [Act.put, sit, scz, scs, i64_w, i32_w]; rfl)
                                refine take_ (i := 14) (N := some 167) (v := ?_) (a' := ?_) (bs 21 262143) rfl rfl (take_ofW HT_.out HW_.out (by kernel_rfl)) (fun _ _ _ h => h) (Or.inl ⟨by rfl, ?_⟩) hHeld ?_ ?_; rotate_left; (· rintro w' ⟨s0, s1⟩; go_simp; with_reducible rfl); rotate_left; (· simp only [Act.put, sit, scz, scs, i64_w, i32_w]; rfl)
                                refine take_ (i := 18) (N := some 171) (v := ?_) (a' := ?_) (bs 21 524287) rfl rfl (take_ofW HT_.out HW_.out (by kernel_rfl)) (fun _ _ _ h => h) (Or.inl ⟨by rfl, ?_⟩) hHeld ?_ ?_; rotate_left; (· rintro w' ⟨s0, s1⟩; go_simp; with_reducible rfl); rotate_left; (· simp only [Act.put, sit, scz, scs, i64_w, i32_w]; rfl)
                                refine pu_ 19 (some 172) ?_ (bs 21 1048575) HT_.out (by kernel_rfl) rfl rfl (fun _ _ _ h => h) (Or.inl ⟨by rfl, ?_⟩) ?_ ?_ ?_; rotate_left; (· intro w'; go_simp; with_reducible rfl); rotate_left; (· simp only [Act.put, sit, scz, scs, i64_w, i32_w]; rfl)
                                refine pu_ 20 (some 173) ?_ (bs 21 2097151) HT_.out (by kernel_rfl) rfl rfl (fun _ _ _ h => h) (Or.inl ⟨by rfl, ?_⟩) ?_ ?_ ?_; rotate_left; (· intro w'; go_simp; with_reducible rfl); rotate_left; (· simp only [Act.put, sit, scz, scs, i64_w, i32_w]; rfl)
                                refine done_ (done_of HT_.out (by kernel_rfl)) ?_
                                try go_wp2
                                go_meet
                                case rel => exact ⟨_, (((rdOf ByteArray.empty y357 x10_7).toList == (rdOf ByteArray.empty y361 x11_7).toList)), (by first | rfl | (simp; done) | (simp [*]; done)), H', ⟨by have := HJ2.out; have := HJ11.out; have := HJ31.out; have := HK4.out; have := HJ39.out; have := HJ42.out; have := HK7.out; have := HJ53.out; first | omega | exact Nat.le_refl _⟩, ⟨by (with_reducible repeat (first | apply Kd.R_alloc | apply Kd.R_drewN | apply Kd.R_drew)); exact HO_9.out⟩, ⟨by (with_reducible repeat (first | refine blk_drewN ?_ _ | refine blk_drew ?_ | refine blk_alloc ?_ _)); exact BK370.out⟩, ⟨by repeat (first | (with_reducible first | exact HB.out | apply below_alloc | apply pw_below_drewN | apply below_drew1 | refine below_set ?_ GE370.out) | exact HB.out)⟩⟩
                               ·rw [if_neg c61] at H
                                exact absurd H (by simp)
                              ·rw [if_neg c60] at H
                               exact absurd H (by simp)
                             ·rw [if_neg c59] at H
                              have c59b0 : decide (x11_7 < (y361.length : Int)) = false := decide_eq_false c59
                              clear c59
                              have H' := Aside0.mk H
                              clear H
                              try go_wp2
                              have n0_ := Aside0.mk (Kd.R_drew HO_9.out)
                              have n1_ := Aside0.mk (blk_drew BK370.out)
                              have n2_ := Aside0.mk (below_drew1 HB.out)
                              clear HO_9
                              clear BK370
                              clear HB
                              have HO_9 := n0_
                              have BK370 := n1_
                              have HB := n2_
                              clear n0_ n1_ n2_
                              refine start_ (n := 21) (S := fun w' => True) (ds := []) (bs 21 0) (by kernel_rfl) rfl rfl trivial (fun hHeld => ?_); refine with_tabW redpenref18_Changes.tab18 redpenref18_Changes.bits18 (fun HT_ HW_ => ?_)
                              generalize wc.drew = w63 at HO_9 BK370 HB hHeld ⊢
                              refine pu_ 0 (some 153) ?_ (bs 21 1) HT_.out (by kernel_rfl) rfl rfl (fun _ _ _ h => h) (Or.inl ⟨by rfl, ?_⟩) ?_ ?_ ?_; rotate_left; (· intro w'; go_simp; with_reducible rfl); rotate_left; (· simp only [Act.put, sit, scz, scs, i64_w, i32_w]; rfl)
                              refine pu_ 1 (some 154) ?_ (bs 21 3) HT_.out (by kernel_rfl) rfl rfl (fun _ _ _ h => h) (Or.inl ⟨by rfl, ?_⟩) ?_ ?_ ?_; rotate_left; (· intro w'; go_simp; with_reducible rfl); rotate_left; (· simp only [Act.put, sit, scz, scs, i64_w, i32_w]; rfl)
                              refine pu_ 2 (some 155) ?_ (bs 21 7) HT_.out (by kernel_rfl) rfl rfl (fun _ _ _ h => h) (Or.inl ⟨by rfl, ?_⟩) ?_ ?_ ?_; rotate_left; (· intro w'; go_simp; with_reducible rfl); rotate_left; (· simp only [Act.put, sit, scz, scs, i64_w, i32_w]; rfl)
                              refine pu_ 3 (some 156) ?_ (bs 21 15) HT_.out (by kernel_rfl) rfl rfl (fun _ _ _ h => h) (Or.inl ⟨by rfl, ?_⟩) ?_ ?_ ?_; rotate_left; (· intro w'; go_simp; with_reducible rfl); rotate_left; (· simp only [Act.put, sit, scz, scs, i64_w, i32_w]; rfl)
                              refine pu_ 4 (some 157) ?_ (bs 21 31) HT_.out (by kernel_rfl) rfl rfl (fun _ _ _ h => h) (Or.inl ⟨by rfl, ?_⟩) ?_ ?_ ?_; rotate_left; (· intro w'; go_simp; with_reducible rfl); rotate_left; (· simp only [Act.put, sit, scz, scs, i64_w, i32_w]; rfl)
                              refine pu_ 5 (some 158) ?_ (bs 21 63) HT_.out (by kernel_rfl) rfl rfl (fun _ _ _ h => h) (Or.inl ⟨by rfl, ?_⟩) ?_ ?_ ?_; rotate_left; (· intro w'; go_simp; with_reducible rfl); rotate_left; (· simp only [Act.put, sit, scz, scs, i64_w, i32_w]; rfl)
                              refine pu_ 6 (some 159) ?_ (bs 21 127) HT_.out (by kernel_rfl) rfl rfl (fun _ _ _ h => h) (Or.inl ⟨by rfl, ?_⟩) ?_ ?_ ?_; rotate_left; (· intro w'; go_simp; with_reducible rfl); rotate_left; (· simp only [Act.put, sit, scz, scs, i64_w, i32_w]; rfl)
                              refine pu_ 7 (some 160) ?_ (bs 21 255) HT_.out (by kernel_rfl) rfl rfl (fun _ _ _ h => h) (Or.inl ⟨by rfl, ?_⟩) ?_ ?_ ?_; rotate_left; (· intro w'; go_simp; with_reducible rfl); rotate_left; (· simp only [Act.put, sit, scz, scs, i64_w, i32_w]; rfl)
                              refine pu_ 8 (some 161) ?_ (bs 21 511) HT_.out (by kernel_rfl) rfl rfl (fun _ _ _ h => h) (Or.inl ⟨by rfl, ?_⟩) ?_ ?_ ?_; rotate_left; (· intro w'; go_simp; with_reducible rfl); rotate_left; (· simp only [Act.put, sit, scz, scs, i64_w, i32_w]; rfl)
                              refine pu_ 9 (some 162) ?_ (bs 21 1023) HT_.out (by kernel_rfl) rfl rfl (fun _ _ _ h => h) (Or.inl ⟨by rfl, ?_⟩) ?_ ?_ ?_; rotate_left; (· intro w'; go_simp; with_reducible rfl); rotate_left; (· simp only [Act.put, sit, scz, scs, i64_w, i32_w]; rfl)
                              refine pu_ 10 (some 163) ?_ (bs 21 2047) HT_.out (by kernel_rfl) rfl rfl (fun _ _ _ h => h) (Or.inl ⟨by rfl, ?_⟩) ?_ ?_ ?_; rotate_left; (· intro w'; go_simp; with_reducible rfl); rotate_left; (· simp only [Act.put, sit, scz, scs, i64_w, i32_w]; rfl)
                              refine pu_ 11 (some 164) undef (bs 21 4095) HT_.out (by kernel_rfl) rfl rfl (fun _ _ _ h => h) (Or.inr ⟨by rfl, rfl⟩) ?_ ?_ ?_; rotate_left; (· simp only [Act.put, sit, scz, scs, i64_w, i32_w]; rfl)
                              refine pu_ 12 (some 165) undef (bs 21 8191) HT_.out (by kernel_rfl) rfl rfl (fun _ _ _ h => h) (Or.inr ⟨by rfl, rfl⟩) ?_ ?_ ?_; rotate_left; (· simp only [Act.put, sit, scz, scs, i64_w, i32_w]; rfl)
                              refine pu_ 13 (some 166) undef (bs 21 16383) HT_.out (by kernel_rfl) rfl rfl (fun _ _ _ h => h) (Or.inr ⟨by rfl, rfl⟩) ?_ ?_ ?_; rotate_left; (· simp only [Act.put, sit, scz, scs, i64_w, i32_w]; rfl)
                              refine pu_ 14 (some 167) undef (bs 21 32767) HT_.out (by kernel_rfl) rfl rfl (fun _ _ _ h => h) (Or.inr ⟨by rfl, rfl⟩) ?_ ?_ ?_; rotate_left; (· simp only [Act.put, sit, scz, scs, i64_w, i32_w]; rfl)
                              refine pu_ 15 (some 168) undef (bs 21 65535) HT_.out (by kernel_rfl) rfl rfl (fun _ _ _ h => h) (Or.inr ⟨by rfl, rfl⟩) ?_ ?_ ?_; rotate_left; (· simp only [Act.put, sit, scz, scs, i64_w, i32_w]; rfl)
                              refine pu_ 16 (some 169) undef (bs 21 131071) HT_.out (by kernel_rfl) rfl rfl (fun _ _ _ h => h) (Or.inr ⟨by rfl, rfl⟩) ?_ ?_ ?_; rotate_left; (· simp only [Act.put, sit, scz, scs, i64_w, i32_w]; rfl)
                              refine pu_ 17 (some 170) undef (bs 21 262143) HT_.out (by kernel_rfl) rfl rfl (fun _ _ _ h => h) (Or.inr ⟨by rfl, rfl⟩) ?_ ?_ ?_; rotate_left; (· simp only [Act.put, sit, scz, scs, i64_w, i32_w]; rfl)
                              refine pu_ 18 (some 171) undef (bs 21 524287) HT_.out (by kernel_rfl) rfl rfl (fun _ _ _ h => h) (Or.inr ⟨by rfl, rfl⟩) ?_ ?_ ?_; rotate_left; (· simp only [Act.put, sit, scz, scs, i64_w, i32_w]; rfl)
                              refine pu_ 19 (some 172) undef (bs 21 1048575) HT_.out (by kernel_rfl) rfl rfl (fun _ _ _ h => h) (Or.inr ⟨by rfl, rfl⟩) ?_ ?_ ?_; rotate_left; (· simp only [Act.put, sit, scz, scs, i64_w, i32_w]; rfl)
                              refine pu_ 20 (some 173) ?_ (bs 21 2097151) HT_.out (by kernel_rfl) rfl rfl (fun _ _ _ h => h) (Or.inl ⟨by rfl, ?_⟩) ?_ ?_ ?_; rotate_left; (· intro w'; go_simp; with_reducible rfl); rotate_left; (· simp only [Act.put, sit, scz, scs, i64_w, i32_w]; rfl)
                              refine done_ (done_of HT_.out (by kernel_rfl)) ?_
                              try go_wp2
                              go_meet
                              case rel => exact ⟨_, (false), (by first | rfl | (simp; done) | (simp [*]; done)), H', ⟨by have := HJ2.out; have := HJ11.out; have := HJ31.out; have := HK4.out; have := HJ39.out; have := HJ42.out; have := HK7.out; have := HJ53.out; first | omega | exact Nat.le_refl _⟩, ⟨by (with_reducible repeat (first | apply Kd.R_alloc | apply Kd.R_drewN | apply Kd.R_drew)); exact HO_9.out⟩, ⟨by (with_reducible repeat (first | refine blk_drewN ?_ _ | refine blk_drew ?_ | refine blk_alloc ?_ _)); exact BK370.out⟩, ⟨by repeat (first | (with_reducible first | exact HB.out | apply below_alloc | apply pw_below_drewN | apply below_drew1 | refine below_set ?_ GE370.out) | exact HB.out)⟩⟩
                            ·rw [if_neg c58] at H
                             have c58b0 : decide (x10_7 < (y357.length : Int)) = false := decide_eq_false c58
                             clear c58
                             (first | rw [c58b0] | (simp only [i64_w, i32_w]; rw [c58b0]) | skip)
                             have H' := Aside0.mk H
                             clear H
                             try go_wp2
                             have n0_ := Aside0.mk (Kd.R_drew HO_9.out)
                             have n1_ := Aside0.mk (blk_drew BK370.out)
                             have n2_ := Aside0.mk (below_drew1 HB.out)
                             clear HO_9
                             clear BK370
                             clear HB
                             have HO_9 := n0_
                             have BK370 := n1_
                             have HB := n2_
                             clear n0_ n1_ n2_
                             refine start_ (n := 21) (S := fun w' => True) (ds := []) (bs 21 0) (by kernel_rfl) rfl rfl trivial (fun hHeld => ?_); refine with_tabW redpenref18_Changes.tab18 redpenref18_Changes.bits18 (fun HT_ HW_ => ?_)
                             generalize wc.drew = w64 at HO_9 BK370 HB hHeld ⊢
                             refine pu_ 0 (some 153) ?_ (bs 21 1) HT_.out (by kernel_rfl) rfl rfl (fun _ _ _ h => h) (Or.inl ⟨by rfl, ?_⟩) ?_ ?_ ?_; rotate_left; (· intro w'; go_simp; with_reducible rfl); rotate_left; (· simp only [Act.put, sit, scz, scs, i64_w, i32_w]; rfl)
                             refine pu_ 1 (some 154) ?_ (bs 21 3) HT_.out (by kernel_rfl) rfl rfl (fun _ _ _ h => h) (Or.inl ⟨by rfl, ?_⟩) ?_ ?_ ?_; rotate_left; (· intro w'; go_simp; with_reducible rfl); rotate_left; (· simp only [Act.put, sit, scz, scs, i64_w, i32_w]; rfl)
                             refine pu_ 2 (some 155) ?_ (bs 21 7) HT_.out (by kernel_rfl) rfl rfl (fun _ _ _ h => h) (Or.inl ⟨by rfl, ?_⟩) ?_ ?_ ?_; rotate_left; (· intro w'; go_simp; with_reducible rfl); rotate_left; (· simp only [Act.put, sit, scz, scs, i64_w, i32_w]; rfl)
                             refine pu_ 3 (some 156) ?_ (bs 21 15) HT_.out (by kernel_rfl) rfl rfl (fun _ _ _ h => h) (Or.inl ⟨by rfl, ?_⟩) ?_ ?_ ?_; rotate_left; (· intro w'; go_simp; with_reducible rfl); rotate_left; (· simp only [Act.put, sit, scz, scs, i64_w, i32_w]; rfl)
                             refine pu_ 4 (some 157) ?_ (bs 21 31) HT_.out (by kernel_rfl) rfl rfl (fun _ _ _ h => h) (Or.inl ⟨by rfl, ?_⟩) ?_ ?_ ?_; rotate_left; (· intro w'; go_simp; with_reducible rfl); rotate_left; (· simp only [Act.put, sit, scz, scs, i64_w, i32_w]; rfl)
                             refine pu_ 5 (some 158) undef (bs 21 63) HT_.out (by kernel_rfl) rfl rfl (fun _ _ _ h => h) (Or.inr ⟨by rfl, rfl⟩) ?_ ?_ ?_; rotate_left; (· simp only [Act.put, sit, scz, scs, i64_w, i32_w]; rfl)
                             refine pu_ 6 (some 159) undef (bs 21 127) HT_.out (by kernel_rfl) rfl rfl (fun _ _ _ h => h) (Or.inr ⟨by rfl, rfl⟩) ?_ ?_ ?_; rotate_left; (· simp only [Act.put, sit, scz, scs, i64_w, i32_w]; rfl)
                             refine pu_ 7 (some 160) undef (bs 21 255) HT_.out (by kernel_rfl) rfl rfl (fun _ _ _ h => h) (Or.inr ⟨by rfl, rfl⟩) ?_ ?_ ?_; rotate_left; (· simp only [Act.put, sit, scz, scs, i64_w, i32_w]; rfl)
                             refine pu_ 8 (some 161) undef (bs 21 511) HT_.out (by kernel_rfl) rfl rfl (fun _ _ _ h => h) (Or.inr ⟨by rfl, rfl⟩) ?_ ?_ ?_; rotate_left; (· simp only [Act.put, sit, scz, scs, i64_w, i32_w]; rfl)
                             refine pu_ 9 (some 162) ?_ (bs 21 1023) HT_.out (by kernel_rfl) rfl rfl (fun _ _ _ h => h) (Or.inl ⟨by rfl, ?_⟩) ?_ ?_ ?_; rotate_left; (· intro w'; go_simp; with_reducible rfl); rotate_left; (· simp only [Act.put, sit, scz, scs, i64_w, i32_w]; rfl)
                             refine pu_ 10 (some 163) ?_ (bs 21 2047) HT_.out (by kernel_rfl) rfl rfl (fun _ _ _ h => h) (Or.inl ⟨by rfl, ?_⟩) ?_ ?_ ?_; rotate_left; (· intro w'; go_simp; with_reducible rfl); rotate_left; (· simp only [Act.put, sit, scz, scs, i64_w, i32_w]; rfl)
                             refine pu_ 11 (some 164) undef (bs 21 4095) HT_.out (by kernel_rfl) rfl rfl (fun _ _ _ h => h) (Or.inr ⟨by rfl, rfl⟩) ?_ ?_ ?_; rotate_left; (· simp only [Act.put, sit, scz, scs, i64_w, i32_w]; rfl)
                             refine pu_ 12 (some 165) undef (bs 21 8191) HT_.out (by kernel_rfl) rfl rfl (fun _ _ _ h => h) (Or.inr ⟨by rfl, rfl⟩) ?_ ?_ ?_; rotate_left; (· simp only [Act.put, sit, scz, scs, i64_w, i32_w]; rfl)
                             refine pu_ 13 (some 166) undef (bs 21 16383) HT_.out (by kernel_rfl) rfl rfl (fun _ _ _ h => h) (Or.inr ⟨by rfl, rfl⟩) ?_ ?_ ?_; rotate_left; (· simp only [Act.put, sit, scz, scs, i64_w, i32_w]; rfl)
                             refine pu_ 14 (some 167) undef (bs 21 32767) HT_.out (by kernel_rfl) rfl rfl (fun _ _ _ h => h) (Or.inr ⟨by rfl, rfl⟩) ?_ ?_ ?_; rotate_left; (· simp only [Act.put, sit, scz, scs, i64_w, i32_w]; rfl)
                             refine pu_ 15 (some 168) undef (bs 21 65535) HT_.out (by kernel_rfl) rfl rfl (fun _ _ _ h => h) (Or.inr ⟨by rfl, rfl⟩) ?_ ?_ ?_; rotate_left; (· simp only [Act.put, sit, scz, scs, i64_w, i32_w]; rfl)
                             refine pu_ 16 (some 169) undef (bs 21 131071) HT_.out (by kernel_rfl) rfl rfl (fun _ _ _ h => h) (Or.inr ⟨by rfl, rfl⟩) ?_ ?_ ?_; rotate_left; (· simp only [Act.put, sit, scz, scs, i64_w, i32_w]; rfl)
                             refine pu_ 17 (some 170) undef (bs 21 262143) HT_.out (by kernel_rfl) rfl rfl (fun _ _ _ h => h) (Or.inr ⟨by rfl, rfl⟩) ?_ ?_ ?_; rotate_left; (· simp only [Act.put, sit, scz, scs, i64_w, i32_w]; rfl)
                             refine pu_ 18 (some 171) undef (bs 21 524287) HT_.out (by kernel_rfl) rfl rfl (fun _ _ _ h => h) (Or.inr ⟨by rfl, rfl⟩) ?_ ?_ ?_; rotate_left; (· simp only [Act.put, sit, scz, scs, i64_w, i32_w]; rfl)
                             refine pu_ 19 (some 172) undef (bs 21 1048575) HT_.out (by kernel_rfl) rfl rfl (fun _ _ _ h => h) (Or.inr ⟨by rfl, rfl⟩) ?_ ?_ ?_; rotate_left; (· simp only [Act.put, sit, scz, scs, i64_w, i32_w]; rfl)
                             refine pu_ 20 (some 173) ?_ (bs 21 2097151) HT_.out (by kernel_rfl) rfl rfl (fun _ _ _ h => h) (Or.inl ⟨by rfl, ?_⟩) ?_ ?_ ?_; rotate_left; (· intro w'; go_simp; with_reducible rfl); rotate_left; (· simp only [Act.put, sit, scz, scs, i64_w, i32_w]; rfl)
                             refine done_ (done_of HT_.out (by kernel_rfl)) ?_
                             try go_wp2
                             go_meet
                             case rel => exact ⟨_, (false), (by first | rfl | (simp; done) | (simp [*]; done)), H', ⟨by have := HJ2.out; have := HJ11.out; have := HJ31.out; have := HK4.out; have := HJ39.out; have := HJ42.out; have := HK7.out; have := HJ53.out; first | omega | exact Nat.le_refl _⟩, ⟨by (with_reducible repeat (first | apply Kd.R_alloc | apply Kd.R_drewN | apply Kd.R_drew)); exact HO_9.out⟩, ⟨by (with_reducible repeat (first | refine blk_drewN ?_ _ | refine blk_drew ?_ | refine blk_alloc ?_ _)); exact BK370.out⟩, ⟨by repeat (first | (with_reducible first | exact HB.out | apply below_alloc | apply pw_below_drewN | apply below_drew1 | refine below_set ?_ GE370.out) | exact HB.out)⟩⟩
                          case rest =>
                           clear HC57
                           (try clear c2); (try clear p2); (try clear c3); (try clear p3); (try clear q3); (try clear hx3); (try clear c4); (try clear c5); (try clear c6); (try clear p6); (try clear c27); (try clear c27b1); (try clear c28); (try clear c28b0); (try clear c28b1); (try clear c29); (try clear c29b0); (try clear c30); (try clear c30b0); (try clear c30b1); (try clear c31); (try clear c31b0); (try clear c31b1); (try clear c34); (try clear q34); (try clear c35); (try clear q35); (try clear c36); (try clear c36b0); (try clear c36b1); (try clear p36); (try clear q36); (try clear hx36); (try clear c37); (try clear p37); (try clear q37); (try clear hx37); (try clear c41); (try clear c41b0); (try clear c42); (try clear c44); (try clear c44b0); (try clear c45); (try clear c45b0); (try clear c46); (try clear c46b0); (try clear c47); (try clear c47b0); (try clear c51); (try clear c55); (try clear c55b0); (try clear c56); (try clear c58); (try clear c58b0); (try clear c59); (try clear c59b0); (try clear c60); (try clear c60b0); (try clear c61); (try clear c61b0); (try clear p64); (try clear hcz53_0); (try clear hcz53_1); (try clear hcz53_2); (try clear hcz53_3); (try clear hfz53_0); (try clear hfz53_1); (try clear hfz53_2); (try clear hfz53_3); (try clear hx368_0); (try clear hx369_0); (try clear hx374_0); (try clear hx375_0); (try clear p2); (try clear p3); (try clear p36); (try clear p368); (try clear p369); (try clear p374); (try clear p375); (try clear p6); (try clear q034); (try clear q035); (try clear q3); (try clear q34); (try clear q35); (try clear q36); (try clear q368); (try clear q369); (try clear q374); (try clear q375)
                           obtain ⟨kq, x173_56, rfl, HA, HJ56, HO_9, BK370, HB⟩ := hcut
                           cases kq with
                           | zero => exact absurd HA.out (by simp [redpenref18_Changes.j10])
                           | succ kj56 =>
                            have H := HA.out
                            clear HA
                            simp only [redpenref18_Changes.j10] at H
                            by_cases c65 : x173_56 = true
                            ·subst c65
                             have H1 : (if x9_4.length < 4398046511104 then (redpenref18_Changes.l2 kj56 x5_2 y357 y361 (x9_4 ++ [(⟨(wrap64 (x5_2 + x10_4)), x371001_7, (wrap64 (x5_2 + x11_4)), x371003_7⟩ : S40)]) x10_7 x11_7) else (none)) = some r := by rw [if_pos rfl] at H; exact H
                             clear H
                             have H := H1
                             clear H1
                             by_cases c66 : x9_4.length < 4398046511104
                             ·rw [if_pos c66] at H
                              have LMc66 := Aside0.mk c66
                              clear c66
                              obtain ⟨y376, hy376⟩ : ∃ y_ : List (S40), y_ = (x9_4 ++ [(⟨(wrap64 (x5_2 + x10_4)), x371001_7, (wrap64 (x5_2 + x11_4)), x371003_7⟩ : S40)]) := ⟨_, rfl⟩
                              replace H : (redpenref18_Changes.l2 kj56 x5_2 y357 y361 y376 x10_7 x11_7) = some r := by first | (rw [hy376]; with_reducible exact H) | (have H2_ := (Option.bind_some _ _).symm.trans H; rw [hy376]; with_reducible exact H2_) | (have H2_ := (Option.bind_some _ _).symm.trans H; with_reducible exact H2_) | with_reducible exact H | (rw [hy376]; exact H) | exact H
                              have Ny376 := Aside0.mk hy376
                              clear hy376
                              have H' := Aside0.mk H
                              clear H
                              have hcz67_0 : wc.cell? ⟨gb370, 0, none⟩ = some (.int .i64 (wrap64 (x5_2 + x10_4))) := (blk_cell BK370.out 0).trans rfl
                              have hcz67_1 : wc.cell? ⟨gb370, 1, none⟩ = some (.int .i64 x371001_7) := (blk_cell BK370.out 1).trans rfl
                              have hcz67_2 : wc.cell? ⟨gb370, 2, none⟩ = some (.int .i64 (wrap64 (x5_2 + x11_4))) := (blk_cell BK370.out 2).trans rfl
                              have hcz67_3 : wc.cell? ⟨gb370, 3, none⟩ = some (.int .i64 x371003_7) := (blk_cell BK370.out 3).trans rfl
                              have hfz67_0 := blk_frozen BK370.out 0
                              have hfz67_1 := blk_frozen BK370.out 1
                              have hfz67_2 := blk_frozen BK370.out 2
                              have hfz67_3 := blk_frozen BK370.out 3
                              go_wp2_with (first | ((with_reducible refine gate_builtin (b := .append) (xs := #[.tmp 215, .tmp 217]) rfl ?_); (try (refine gate_guard (by rfl) ?_; dsimp only)); at_builtin; refine Kd.R_append k40 (w0 := w) w.heap.size rfl (.tmp 215) (.tmp 217) 36 40 (.agg #[(.int .i64 0), (.int .i64 0), (.int .i64 0), (.int .i64 0)]) 32 rfl Try.underlying36 info40 rfl (by decide) (by omega) u9 x9_4 (⟨(wrap64 (x5_2 + x10_4)), x371001_7, (wrap64 (x5_2 + x11_4)), x371003_7⟩ : S40) [.int .i64 (wrap64 (x5_2 + x10_4)), .int .i64 x371001_7, .int .i64 (wrap64 (x5_2 + x11_4)), .int .i64 x371003_7] (fun k_ => k_ ≠ gb370) (fun _ => False) rfl rfl ?aP (fun _ hk => hk.elim) ?aF ?aO ?aB ?aS ?aL ?_; (case aP => exact k40_mkM _ _ _ (⟨(wrap64 (x5_2 + x10_4)), x371001_7, (wrap64 (x5_2 + x11_4)), x371003_7⟩ : S40)); (case aB => exact (by repeat (first | (with_reducible first | exact HB.out | apply below_alloc | apply pw_below_drewN | apply below_drew1 | refine below_set ?_ GE370.out) | exact HB.out))); (case aF => exact (fun k_ hk => Kd.freshB (g := gb370) (o := .cells #[.int .i64 (wrap64 (x5_2 + x10_4)), .int .i64 x371001_7, .int .i64 (wrap64 (x5_2 + x11_4)), .int .i64 x371003_7] 40 (0, 0)) (by (with_reducible repeat (first | refine blk_drewN ?_ _ | refine blk_drew ?_ | refine blk_alloc ?_ _)); exact BK370.out) k_ hk)); (case aO => exact (by (with_reducible repeat (first | apply Kd.R_alloc | apply Kd.R_drewN | apply Kd.R_drew)); exact HO_9.out)); (case aS => exact (below_size (by repeat (first | (with_reducible first | exact HB.out | apply below_alloc | apply pw_below_drewN | apply below_drew1 | refine below_set ?_ GE370.out) | exact HB.out)))); (case aL => have := LMc66.out; omega); intro v377 w68 ho hb hg hat; rw [← Ny376.out] at ho; have n0_ := Aside0.mk (blk_grown (g := gb370) (o := .cells #[.int .i64 (wrap64 (x5_2 + x10_4)), .int .i64 x371001_7, .int .i64 (wrap64 (x5_2 + x11_4)), .int .i64 x371003_7] 40 (0, 0)) (by (with_reducible repeat (first | refine blk_drewN ?_ _ | refine blk_drew ?_ | refine blk_alloc ?_ _)); exact BK370.out) hg (Kd.R_away HO_9.out (fun _ hk => hk))); have n1_ := Aside0.mk (hb); have n2_ := Aside0.mk (ho); clear BK370; clear HB; clear HO_9; have BK370 := n0_; have HB := n1_; have HO378 := n2_; clear n0_ n1_ n2_; clear ho hb hg hat))
                              go_roundg kj56
                              case measure => have := HJ2.out; have := HJ11.out; have := HJ31.out; have := HK4.out; have := HJ39.out; have := HJ42.out; have := HK7.out; have := HJ53.out; have := HJ56.out; omega
                              case rel => exact ⟨(y376), (x10_7), (x11_7), (by first | rfl | (simp; done) | (simp [*]; done)), (by first | rfl | (simp; done) | (simp [*]; done)), H', ⟨by have := HJ2.out; have := HJ11.out; have := HJ31.out; have := HK4.out; have := HJ39.out; have := HJ42.out; have := HK7.out; have := HJ53.out; have := HJ56.out; omega⟩, ⟨by (with_reducible repeat (first | apply Kd.R_alloc | apply Kd.R_drewN | apply Kd.R_drew)); exact Kd.R_mono HO378.out (fun _ hk => trivial)⟩, ⟨by repeat (first | (with_reducible first | exact HB.out | apply below_alloc | apply pw_below_drewN | apply below_drew1 | refine below_set ?_ GE370.out) | exact HB.out)⟩⟩
                             ·rw [if_neg c66] at H
                              exact absurd H (by simp)
                            ·replace c65 := Bool.eq_false_iff.mpr c65
                             subst c65
                             have H1 : (if x10_7 < (y357.length : Int) then (if x11_7 = (y361.length : Int) then (redpenref18_Changes.l3 kj56 x5_2 y357 y361 x9_4 (wrap64 (x10_7 + 1)) x11_7 (wrap64 (x5_2 + x10_4)) (wrap64 (x371001_7 + 1)) (wrap64 (x5_2 + x11_4)) x371003_7) else (if 0 ≤ (wrap64 (x10_7 + 1)) then (if (wrap64 (x10_7 + 1)) ≤ (y357.length : Int) then (if 0 ≤ x11_7 then (if x11_7 ≤ (y361.length : Int) then ((redpenref18_Common.f kj56 (y357.drop ((wrap64 (x10_7 + 1)) : Int).toNat) (y361.drop (x11_7 : Int).toNat)).bind fun t381 => (if 0 ≤ x10_7 then (if x10_7 ≤ (y357.length : Int) then (if 0 ≤ (wrap64 (x11_7 + 1)) then (if (wrap64 (x11_7 + 1)) ≤ (y361.length : Int) then ((redpenref18_Common.f kj56 (y357.drop (x10_7 : Int).toNat) (y361.drop ((wrap64 (x11_7 + 1)) : Int).toNat)).bind fun t384 => (if t381 ≥ t384 then (redpenref18_Changes.l3 kj56 x5_2 y357 y361 x9_4 (wrap64 (x10_7 + 1)) x11_7 (wrap64 (x5_2 + x10_4)) (wrap64 (x371001_7 + 1)) (wrap64 (x5_2 + x11_4)) x371003_7) else (redpenref18_Changes.l3 kj56 x5_2 y357 y361 x9_4 x10_7 (wrap64 (x11_7 + 1)) (wrap64 (x5_2 + x10_4)) x371001_7 (wrap64 (x5_2 + x11_4)) (wrap64 (x371003_7 + 1))))) else (none)) else (none)) else (none)) else (none))) else (none)) else (none)) else (none)) else (none))) else (redpenref18_Changes.l3 kj56 x5_2 y357 y361 x9_4 x10_7 (wrap64 (x11_7 + 1)) (wrap64 (x5_2 + x10_4)) x371001_7 (wrap64 (x5_2 + x11_4)) (wrap64 (x371003_7 + 1)))) = some r := by rw [if_neg (show ¬ (false = true) by decide)] at H; exact H
                             clear H
                             have H := H1
                             clear H1
                             by_cases c69 : x10_7 < (y357.length : Int)
                             ·rw [if_pos c69] at H
                              have c69b0 : decide (x10_7 < (y357.length : Int)) = true := decide_eq_true c69
                              clear c69
                              by_cases c70 : x11_7 = (y361.length : Int)
                              ·rw [if_pos c70] at H
                               have c70b0 : (x11_7 == (y361.length : Int)) = true := beq_iff_eq.mpr c70
                               have c70b1 : (x11_7 != (y361.length : Int)) = false := bne_eq_false_iff_eq.mpr c70
                               clear c70
                               have H' := Aside0.mk H
                               clear H
                               try go_wp2
                               have n0_ := Aside0.mk (Kd.R_drew HO_9.out)
                               have n1_ := Aside0.mk (blk_drew BK370.out)
                               have n2_ := Aside0.mk (below_drew1 HB.out)
                               clear HO_9
                               clear BK370
                               clear HB
                               have HO_9 := n0_
                               have BK370 := n1_
                               have HB := n2_
                               clear n0_ n1_ n2_
                               refine start_ (n := 29) (S := fun w' => True) (ds := []) (bs 29 0) (by kernel_rfl) rfl rfl trivial (fun hHeld => ?_); refine with_tabW redpenref18_Changes.tab19 redpenref18_Changes.bits19 (fun HT_ HW_ => ?_)
                               generalize wc.drew = w71 at HO_9 BK370 HB hHeld ⊢
                               refine pu_ 0 (some 174) ?_ (bs 29 1) HT_.out (by kernel_rfl) rfl rfl (fun _ _ _ h => h) (Or.inl ⟨by rfl, ?_⟩) ?_ ?_ ?_; rotate_left; (· intro w'; go_simp; with_reducible rfl); rotate_left; (· simp only [Act.put, sit, scz, scs, i64_w, i32_w]; rfl)
                               refine pu_ 1 (some 175) ?_ (bs 29 3) HT_.out (by kernel_rfl) rfl rfl (fun _ _ _ h => h) (Or.inl ⟨by rfl, ?_⟩) ?_ ?_ ?_; rotate_left; (· intro w'; go_simp; with_reducible rfl); rotate_left; (· simp only [Act.put, sit, scz, scs, i64_w, i32_w]; rfl)
                               refine pu_ 2 (some 176) ?_ (bs 29 7) HT_.out (by kernel_rfl) rfl rfl (fun _ _ _ h => h) (Or.inl ⟨by rfl, ?_⟩) ?_ ?_ ?_; rotate_left; (· intro w'; go_simp; with_reducible rfl); rotate_left; (· simp only [Act.put, sit, scz, scs, i64_w, i32_w]; rfl)
                               refine pu_ 3 (some 177) ?_ (bs 29 15) HT_.out (by kernel_rfl) rfl rfl (fun _ _ _ h => h) (Or.inl ⟨by rfl, ?_⟩) ?_ ?_ ?_; rotate_left; (· intro w'; go_simp; with_reducible rfl); rotate_left; (· simp only [Act.put, sit, scz, scs, i64_w, i32_w]; rfl)
                               refine pu_ 4 (some 178) ?_ (bs 29 31) HT_.out (by kernel_rfl) rfl rfl (fun _ _ _ h => h) (Or.inl ⟨by rfl, ?_⟩) ?_ ?_ ?_; rotate_left; (· intro w'; go_simp; with_reducible rfl); rotate_left; (· simp only [Act.put, sit, scz, scs, i64_w, i32_w]; rfl)
                               refine pu_ 5 (some 179) ?_ (bs 29 63) HT_.out (by kernel_rfl) rfl rfl (fun _ _ _ h => h) (Or.inl ⟨by rfl, ?_⟩) ?_ ?_ ?_; rotate_left; (· intro w'; go_simp; with_reducible rfl); rotate_left; (· simp only [Act.put, sit, scz, scs, i64_w, i32_w]; rfl)
                               refine pu_ 6 (some 180) ?_ (bs 29 127) HT_.out (by kernel_rfl) rfl rfl (fun _ _ _ h => h) (Or.inl ⟨by rfl, ?_⟩) ?_ ?_ ?_; rotate_left; (· intro w'; go_simp; with_reducible rfl); rotate_left; (· simp only [Act.put, sit, scz, scs, i64_w, i32_w]; rfl)
                               refine pu_ 7 (some 181) ?_ (bs 29 255) HT_.out (by kernel_rfl) rfl rfl (fun _ _ _ h => h) (Or.inl ⟨by rfl, ?_⟩) ?_ ?_ ?_; rotate_left; (· intro w'; go_simp; with_reducible rfl); rotate_left; (· simp only [Act.put, sit, scz, scs, i64_w, i32_w]; rfl)
                               refine pu_ 8 (some 182) ?_ (bs 29 511) HT_.out (by kernel_rfl) rfl rfl (fun _ _ _ h => h) (Or.inl ⟨by rfl, ?_⟩) ?_ ?_ ?_; rotate_left; (· intro w'; go_simp; with_reducible rfl); rotate_left; (· simp only [Act.put, sit, scz, scs, i64_w, i32_w]; rfl)
                               refine pu_ 9 (some 183) ?_ (bs 29 1023) HT_.out (by kernel_rfl) rfl rfl (fun _ _ _ h => h) (Or.inl ⟨by rfl, ?_⟩) ?_ ?_ ?_; rotate_left; (· intro w'; go_simp; with_reducible rfl); rotate_left; (· simp only [Act.put, sit, scz, scs, i64_w, i32_w]; rfl)
                               refine pu_ 10 (some 184) undef (bs 29 2047) HT_.out (by kernel_rfl) rfl rfl (fun _ _ _ h => h) (Or.inr ⟨by rfl, rfl⟩) ?_ ?_ ?_; rotate_left; (· simp only [Act.put, sit, scz, scs, i64_w, i32_w]; rfl)
                               refine pu_ 11 (some 185) undef (bs 29 4095) HT_.out (by kernel_rfl) rfl rfl (fun _ _ _ h => h) (Or.inr ⟨by rfl, rfl⟩) ?_ ?_ ?_; rotate_left; (· simp only [Act.put, sit, scz, scs, i64_w, i32_w]; rfl)
                               refine pu_ 12 (some 186) undef (bs 29 8191) HT_.out (by kernel_rfl) rfl rfl (fun _ _ _ h => h) (Or.inr ⟨by rfl, rfl⟩) ?_ ?_ ?_; rotate_left; (· simp only [Act.put, sit, scz, scs, i64_w, i32_w]; rfl)
                               refine pu_ 13 (some 187) undef (bs 29 16383) HT_.out (by kernel_rfl) rfl rfl (fun _ _ _ h => h) (Or.inr ⟨by rfl, rfl⟩) ?_ ?_ ?_; rotate_left; (· simp only [Act.put, sit, scz, scs, i64_w, i32_w]; rfl)
                               refine pu_ 14 (some 188) undef (bs 29 32767) HT_.out (by kernel_rfl) rfl rfl (fun _ _ _ h => h) (Or.inr ⟨by rfl, rfl⟩) ?_ ?_ ?_; rotate_left; (· simp only [Act.put, sit, scz, scs, i64_w, i32_w]; rfl)
                               refine pu_ 15 (some 189) undef (bs 29 65535) HT_.out (by kernel_rfl) rfl rfl (fun _ _ _ h => h) (Or.inr ⟨by rfl, rfl⟩) ?_ ?_ ?_; rotate_left; (· simp only [Act.put, sit, scz, scs, i64_w, i32_w]; rfl)
                               refine pu_ 16 (some 190) undef (bs 29 131071) HT_.out (by kernel_rfl) rfl rfl (fun _ _ _ h => h) (Or.inr ⟨by rfl, rfl⟩) ?_ ?_ ?_; rotate_left; (· simp only [Act.put, sit, scz, scs, i64_w, i32_w]; rfl)
                               refine pu_ 17 (some 191) undef (bs 29 262143) HT_.out (by kernel_rfl) rfl rfl (fun _ _ _ h => h) (Or.inr ⟨by rfl, rfl⟩) ?_ ?_ ?_; rotate_left; (· simp only [Act.put, sit, scz, scs, i64_w, i32_w]; rfl)
                               refine pu_ 18 (some 192) undef (bs 29 524287) HT_.out (by kernel_rfl) rfl rfl (fun _ _ _ h => h) (Or.inr ⟨by rfl, rfl⟩) ?_ ?_ ?_; rotate_left; (· simp only [Act.put, sit, scz, scs, i64_w, i32_w]; rfl)
                               refine pu_ 19 (some 193) undef (bs 29 1048575) HT_.out (by kernel_rfl) rfl rfl (fun _ _ _ h => h) (Or.inr ⟨by rfl, rfl⟩) ?_ ?_ ?_; rotate_left; (· simp only [Act.put, sit, scz, scs, i64_w, i32_w]; rfl)
                               refine pu_ 20 (some 194) undef (bs 29 2097151) HT_.out (by kernel_rfl) rfl rfl (fun _ _ _ h => h) (Or.inr ⟨by rfl, rfl⟩) ?_ ?_ ?_; rotate_left; (· simp only [Act.put, sit, scz, scs, i64_w, i32_w]; rfl)
                               refine pu_ 21 (some 195) undef (bs 29 4194303) HT_.out (by kernel_rfl) rfl rfl (fun _ _ _ h => h) (Or.inr ⟨by rfl, rfl⟩) ?_ ?_ ?_; rotate_left; (· simp only [Act.put, sit, scz, scs, i64_w, i32_w]; rfl)
                               refine pu_ 22 (some 196) undef (bs 29 8388607) HT_.out (by kernel_rfl) rfl rfl (fun _ _ _ h => h) (Or.inr ⟨by rfl, rfl⟩) ?_ ?_ ?_; rotate_left; (· simp only [Act.put, sit, scz, scs, i64_w, i32_w]; rfl)
                               refine pu_ 23 (some 197) undef (bs 29 16777215) HT_.out (by kernel_rfl) rfl rfl (fun _ _ _ h => h) (Or.inr ⟨by rfl, rfl⟩) ?_ ?_ ?_; rotate_left; (· simp only [Act.put, sit, scz, scs, i64_w, i32_w]; rfl)
                               refine pu_ 24 (some 198) undef (bs 29 33554431) HT_.out (by kernel_rfl) rfl rfl (fun _ _ _ h => h) (Or.inr ⟨by rfl, rfl⟩) ?_ ?_ ?_; rotate_left; (· simp only [Act.put, sit, scz, scs, i64_w, i32_w]; rfl)
                               refine pu_ 25 (some 199) undef (bs 29 67108863) HT_.out (by kernel_rfl) rfl rfl (fun _ _ _ h => h) (Or.inr ⟨by rfl, rfl⟩) ?_ ?_ ?_; rotate_left; (· simp only [Act.put, sit, scz, scs, i64_w, i32_w]; rfl)
                               refine pu_ 26 (some 200) undef (bs 29 134217727) HT_.out (by kernel_rfl) rfl rfl (fun _ _ _ h => h) (Or.inr ⟨by rfl, rfl⟩) ?_ ?_ ?_; rotate_left; (· simp only [Act.put, sit, scz, scs, i64_w, i32_w]; rfl)
                               refine pu_ 27 (some 201) ?_ (bs 29 268435455) HT_.out (by kernel_rfl) rfl rfl (fun _ _ _ h => h) (Or.inl ⟨by rfl, ?_⟩) ?_ ?_ ?_; rotate_left; (· intro w'; go_simp; with_reducible rfl); rotate_left; (· simp only [Act.put, sit, scz, scs, i64_w, i32_w]; rfl)
                               refine pu_ 28 (some 202) ?_ (bs 29 536870911) HT_.out (by kernel_rfl) rfl rfl (fun _ _ _ h => h) (Or.inl ⟨by rfl, ?_⟩) ?_ ?_ ?_; rotate_left; (· intro w'; go_simp; with_reducible rfl); rotate_left; (· simp only [Act.put, sit, scz, scs, i64_w, i32_w]; rfl)
                               refine done_ (done_of HT_.out (by kernel_rfl)) ?_
                               have hcz72_0 : w71.cell? ⟨gb370, 0, none⟩ = some (.int .i64 (wrap64 (x5_2 + x10_4))) := (blk_cell BK370.out 0).trans rfl
                               have hcz72_1 : w71.cell? ⟨gb370, 1, none⟩ = some (.int .i64 x371001_7) := (blk_cell BK370.out 1).trans rfl
                               have hcz72_2 : w71.cell? ⟨gb370, 2, none⟩ = some (.int .i64 (wrap64 (x5_2 + x11_4))) := (blk_cell BK370.out 2).trans rfl
                               have hcz72_3 : w71.cell? ⟨gb370, 3, none⟩ = some (.int .i64 x371003_7) := (blk_cell BK370.out 3).trans rfl
                               have hfz72_0 := blk_frozen BK370.out 0
                               have hfz72_1 := blk_frozen BK370.out 1
                               have hfz72_2 := blk_frozen BK370.out 2
                               have hfz72_3 := blk_frozen BK370.out 3
                               try go_wp2
                               go_roundg kj56
                               case measure => have := HJ2.out; have := HJ11.out; have := HJ31.out; have := HK4.out; have := HJ39.out; have := HJ42.out; have := HK7.out; have := HJ53.out; have := HJ56.out; omega
                               case rel => exact ⟨(wrap64 (x10_7 + 1)), (x11_7), (wrap64 (x371001_7 + 1)), (x371003_7), (by first | rfl | (simp; done) | (simp [*]; done)), (by first | rfl | (simp; done) | (simp [*]; done)), H', ⟨by have := HJ2.out; have := HJ11.out; have := HJ31.out; have := HK4.out; have := HJ39.out; have := HJ42.out; have := HK7.out; have := HJ53.out; have := HJ56.out; omega⟩, ⟨by (with_reducible repeat (first | apply Kd.R_alloc | apply Kd.R_drewN | apply Kd.R_drew)); exact Kd.R_mono (Kd.R_far (p := ⟨gb370, 1, none⟩) (Kd.R_mono HO_9.out (fun k_ hk => (⟨hk, hk⟩ : _ ∧ k_ ≠ gb370))) (fun _ hk => hk.2) (.int .i64 (wrap64 (x371001_7 + 1)))) (fun _ hk => hk.1)⟩, ⟨by (with_reducible repeat (first | refine blk_drewN ?_ _ | refine blk_drew ?_ | refine blk_alloc ?_ _)); refine blk_put (cs := #[.int .i64 (wrap64 (x5_2 + x10_4)), .int .i64 x371001_7, .int .i64 (wrap64 (x5_2 + x11_4)), .int .i64 x371003_7]) ?_ 1 _ rfl; (with_reducible repeat (first | refine blk_drewN ?_ _ | refine blk_drew ?_ | refine blk_alloc ?_ _)); exact BK370.out⟩, ⟨by repeat (first | (with_reducible first | exact HB.out | apply below_alloc | apply pw_below_drewN | apply below_drew1 | refine below_set ?_ GE370.out) | exact HB.out)⟩⟩
                              ·rw [if_neg c70] at H
                               have c70b0 : (x11_7 == (y361.length : Int)) = false := beq_eq_false_iff_ne.mpr c70
                               have c70b1 : (x11_7 != (y361.length : Int)) = true := bne_iff_ne.mpr c70
                               obtain ⟨ji73, hji73⟩ : ∃ j_ : Int, (wrap64 (x10_7 + 1)) = j_ := ⟨_, rfl⟩
                               replace H : (if 0 ≤ (ji73) then (if (ji73) ≤ (y357.length : Int) then (if 0 ≤ x11_7 then (if x11_7 ≤ (y361.length : Int) then ((redpenref18_Common.f kj56 (y357.drop ((ji73) : Int).toNat) (y361.drop (x11_7 : Int).toNat)).bind fun t381 => (if 0 ≤ x10_7 then (if x10_7 ≤ (y357.length : Int) then (if 0 ≤ (wrap64 (x11_7 + 1)) then (if (wrap64 (x11_7 + 1)) ≤ (y361.length : Int) then ((redpenref18_Common.f kj56 (y357.drop (x10_7 : Int).toNat) (y361.drop ((wrap64 (x11_7 + 1)) : Int).toNat)).bind fun t384 => (if t381 ≥ t384 then (redpenref18_Changes.l3 kj56 x5_2 y357 y361 x9_4 ji73 x11_7 (wrap64 (x5_2 + x10_4)) (wrap64 (x371001_7 + 1)) (wrap64 (x5_2 + x11_4)) x371003_7) else (redpenref18_Changes.l3 kj56 x5_2 y357 y361 x9_4 x10_7 (wrap64 (x11_7 + 1)) (wrap64 (x5_2 + x10_4)) x371001_7 (wrap64 (x5_2 + x11_4)) (wrap64 (x371003_7 + 1))))) else (none)) else (none)) else (none)) else (none))) else (none)) else (none)) else (none)) else (none)) = some r := by first | (rw [hji73] at H; exact H) | (simp only [hji73] at H ⊢; exact H)
                               have hji73w : (IntKind.i64.wrap (x10_7 + 1)) = ji73 := (i64_w _).trans hji73
                               by_cases c74 : 0 ≤ (ji73)
                               ·rw [if_pos c74] at H
                                have c74b0 := eq_true c74
                                have c74b1 : decide (0 ≤ (ji73)) = true := decide_eq_true c74
                                clear c74
                                by_cases c75 : (ji73) ≤ (y357.length : Int)
                                ·rw [if_pos c75] at H
                                 have c75b0 := eq_true c75
                                 have c75b1 : decide ((ji73) ≤ (y357.length : Int)) = true := decide_eq_true c75
                                 clear c75
                                 by_cases c76 : 0 ≤ x11_7
                                 ·rw [if_pos c76] at H
                                  have c76b0 := eq_true c76
                                  have c76b1 : decide (0 ≤ x11_7) = true := decide_eq_true c76
                                  clear c76
                                  by_cases c77 : x11_7 ≤ (y361.length : Int)
                                  ·rw [if_pos c77] at H
                                   have c77b0 := eq_true c77
                                   have c77b1 : decide (x11_7 ≤ (y361.length : Int)) = true := decide_eq_true c77
                                   clear c77
                                   replace H := Option.bind_eq_some_iff.mp H
                                   obtain ⟨t381, A780, H⟩ := H
                                   replace H : (if 0 ≤ x10_7 then (if x10_7 ≤ (y357.length : Int) then (if 0 ≤ (wrap64 (x11_7 + 1)) then (if (wrap64 (x11_7 + 1)) ≤ (y361.length : Int) then ((redpenref18_Common.f kj56 (y357.drop (x10_7 : Int).toNat) (y361.drop ((wrap64 (x11_7 + 1)) : Int).toNat)).bind fun t384 => (if t381 ≥ t384 then (redpenref18_Changes.l3 kj56 x5_2 y357 y361 x9_4 ji73 x11_7 (wrap64 (x5_2 + x10_4)) (wrap64 (x371001_7 + 1)) (wrap64 (x5_2 + x11_4)) x371003_7) else (redpenref18_Changes.l3 kj56 x5_2 y357 y361 x9_4 x10_7 (wrap64 (x11_7 + 1)) (wrap64 (x5_2 + x10_4)) x371001_7 (wrap64 (x5_2 + x11_4)) (wrap64 (x371003_7 + 1))))) else (none)) else (none)) else (none)) else (none)) = some r := H
                                   have A78 := Aside0.mk A780
                                   clear A780
                                   by_cases c79 : 0 ≤ x10_7
                                   ·rw [if_pos c79] at H
                                    have c79b0 := eq_true c79
                                    have c79b1 : decide (0 ≤ x10_7) = true := decide_eq_true c79
                                    clear c79
                                    by_cases c80 : x10_7 ≤ (y357.length : Int)
                                    ·rw [if_pos c80] at H
                                     have c80b0 := eq_true c80
                                     have c80b1 : decide (x10_7 ≤ (y357.length : Int)) = true := decide_eq_true c80
                                     clear c80
                                     obtain ⟨ji81, hji81⟩ : ∃ j_ : Int, (wrap64 (x11_7 + 1)) = j_ := ⟨_, rfl⟩
                                     replace H : (if 0 ≤ (ji81) then (if (ji81) ≤ (y361.length : Int) then ((redpenref18_Common.f kj56 (y357.drop (x10_7 : Int).toNat) (y361.drop ((ji81) : Int).toNat)).bind fun t384 => (if t381 ≥ t384 then (redpenref18_Changes.l3 kj56 x5_2 y357 y361 x9_4 ji73 x11_7 (wrap64 (x5_2 + x10_4)) (wrap64 (x371001_7 + 1)) (wrap64 (x5_2 + x11_4)) x371003_7) else (redpenref18_Changes.l3 kj56 x5_2 y357 y361 x9_4 x10_7 ji81 (wrap64 (x5_2 + x10_4)) x371001_7 (wrap64 (x5_2 + x11_4)) (wrap64 (x371003_7 + 1))))) else (none)) else (none)) = some r := by first | (rw [hji81] at H; exact H) | (simp only [hji81] at H ⊢; exact H)
                                     (try rw [hji81] at A78)
                                     have hji81w : (IntKind.i64.wrap (x11_7 + 1)) = ji81 := (i64_w _).trans hji81
                                     by_cases c82 : 0 ≤ (ji81)
                                     ·rw [if_pos c82] at H
                                      have c82b0 := eq_true c82
                                      have c82b1 : decide (0 ≤ (ji81)) = true := decide_eq_true c82
                                      clear c82
                                      by_cases c83 : (ji81) ≤ (y361.length : Int)
                                      ·rw [if_pos c83] at H
                                       have c83b0 := eq_true c83
                                       have c83b1 : decide ((ji81) ≤ (y361.length : Int)) = true := decide_eq_true c83
                                       clear c83
                                       replace H := Option.bind_eq_some_iff.mp H
                                       obtain ⟨t384, A840, H⟩ := H
                                       replace H : (if t381 ≥ t384 then (redpenref18_Changes.l3 kj56 x5_2 y357 y361 x9_4 ji73 x11_7 (wrap64 (x5_2 + x10_4)) (wrap64 (x371001_7 + 1)) (wrap64 (x5_2 + x11_4)) x371003_7) else (redpenref18_Changes.l3 kj56 x5_2 y357 y361 x9_4 x10_7 ji81 (wrap64 (x5_2 + x10_4)) x371001_7 (wrap64 (x5_2 + x11_4)) (wrap64 (x371003_7 + 1)))) = some r := H
                                       have A84 := Aside0.mk A840
                                       clear A840
                                       by_cases c85 : t381 ≥ t384
                                       ·rw [if_pos c85] at H
                                        have c85b0 : decide (t384 ≤ t381) = true := decide_eq_true c85
                                        clear c85
                                        have H' := Aside0.mk H
                                        clear H
                                        try go_wp2
                                        have n0_ := Aside0.mk (Kd.R_drew HO_9.out)
                                        have n1_ := Aside0.mk (blk_drew BK370.out)
                                        have n2_ := Aside0.mk (below_drew1 HB.out)
                                        clear HO_9
                                        clear BK370
                                        clear HB
                                        have HO_9 := n0_
                                        have BK370 := n1_
                                        have HB := n2_
                                        clear n0_ n1_ n2_
                                        obtain ⟨i087, hi087, _, hsz87, _⟩ := info_parts info9
                                        obtain ⟨A87, hcut87, hA87, hC87⟩ := print_drop_of (P := Try.prog) Value.string (⟨#[]⟩ : ByteArray) 29 9 .i64 Try.underlying29 hi087 hsz87 A34 c34 y357 (ji73) (of_decide_eq_true (by first | (with_reducible assumption) | assumption)) (of_decide_eq_true (by first | (with_reducible assumption) | assumption)) HC360.out
                                        have HR379 := Aside0.mk (Kd.C_of_reads (h1 := fun _ => rfl) (hA87 _ (Kd.reads_of_C HR360.out)))
                                        have HC379 := Aside0.mk hC87
                                        clear hA87 hC87 hi087 hsz87
                                        obtain ⟨i088, hi088, _, hsz88, _⟩ := info_parts info9
                                        obtain ⟨A88, hcut88, hA88, hC88⟩ := print_drop_of (P := Try.prog) Value.string (⟨#[]⟩ : ByteArray) 29 9 .i64 Try.underlying29 hi088 hsz88 A35 c35 y361 x11_7 (of_decide_eq_true (by first | (with_reducible assumption) | assumption)) (of_decide_eq_true (by first | (with_reducible assumption) | assumption)) HC364.out
                                        have HR380 := Aside0.mk (Kd.C_of_reads (h1 := fun _ => rfl) (hA88 _ (Kd.reads_of_C HR364.out)))
                                        have HC380 := Aside0.mk hC88
                                        clear hA88 hC88 hi088 hsz88
                                        obtain ⟨i089, hi089, _, hsz89, _⟩ := info_parts info9
                                        obtain ⟨A89, hcut89, hA89, hC89⟩ := print_drop_of (P := Try.prog) Value.string (⟨#[]⟩ : ByteArray) 29 9 .i64 Try.underlying29 hi089 hsz89 A34 c34 y357 x10_7 (of_decide_eq_true (by first | (with_reducible assumption) | assumption)) (of_decide_eq_true (by first | (with_reducible assumption) | assumption)) HC360.out
                                        have HR382 := Aside0.mk (Kd.C_of_reads (h1 := fun _ => rfl) (hA89 _ (Kd.reads_of_C HR360.out)))
                                        have HC382 := Aside0.mk hC89
                                        clear hA89 hC89 hi089 hsz89
                                        obtain ⟨i090, hi090, _, hsz90, _⟩ := info_parts info9
                                        obtain ⟨A90, hcut90, hA90, hC90⟩ := print_drop_of (P := Try.prog) Value.string (⟨#[]⟩ : ByteArray) 29 9 .i64 Try.underlying29 hi090 hsz90 A35 c35 y361 (ji81) (of_decide_eq_true (by first | (with_reducible assumption) | assumption)) (of_decide_eq_true (by first | (with_reducible assumption) | assumption)) HC364.out
                                        have HR383 := Aside0.mk (Kd.C_of_reads (h1 := fun _ => rfl) (hA90 _ (Kd.reads_of_C HR364.out)))
                                        have HC383 := Aside0.mk hC90
                                        clear hA90 hC90 hi090 hsz90
                                        refine start_ (n := 29) (S := fun w' => True) (ds := []) (bs 29 0) (by kernel_rfl) rfl rfl trivial (fun hHeld => ?_); refine with_tabW redpenref18_Changes.tab19 redpenref18_Changes.bits19 (fun HT_ HW_ => ?_)
                                        generalize wc.drew = w86 at HO_9 BK370 HB HR379 HR380 HR382 HR383 hHeld ⊢
                                        refine pu_ 0 (some 174) ?_ (bs 29 1) HT_.out (by kernel_rfl) rfl rfl (fun _ _ _ h => h) (Or.inl ⟨by rfl, ?_⟩) ?_ ?_ ?_; rotate_left; (· intro w'; go_simp; with_reducible rfl); rotate_left; (· simp only [Act.put, sit, scz, scs, i64_w, i32_w]; rfl)
                                        refine pu_ 1 (some 175) ?_ (bs 29 3) HT_.out (by kernel_rfl) rfl rfl (fun _ _ _ h => h) (Or.inl ⟨by rfl, ?_⟩) ?_ ?_ ?_; rotate_left; (· intro w'; go_simp; with_reducible rfl); rotate_left; (· simp only [Act.put, sit, scz, scs, i64_w, i32_w]; rfl)
                                        refine pu_ 2 (some 176) ?_ (bs 29 7) HT_.out (by kernel_rfl) rfl rfl (fun _ _ _ h => h) (Or.inl ⟨by rfl, ?_⟩) ?_ ?_ ?_; rotate_left; (· intro w'; go_simp; with_reducible rfl); rotate_left; (· simp only [Act.put, sit, scz, scs, i64_w, i32_w]; rfl)
                                        refine pu_ 3 (some 177) ?_ (bs 29 15) HT_.out (by kernel_rfl) rfl rfl (fun _ _ _ h => h) (Or.inl ⟨by rfl, ?_⟩) ?_ ?_ ?_; rotate_left; (· intro w'; go_simp; with_reducible rfl); rotate_left; (· simp only [Act.put, sit, scz, scs, i64_w, i32_w]; rfl)
                                        refine pu_ 4 (some 178) ?_ (bs 29 31) HT_.out (by kernel_rfl) rfl rfl (fun _ _ _ h => h) (Or.inl ⟨by rfl, ?_⟩) ?_ ?_ ?_; rotate_left; (· intro w'; go_simp; with_reducible rfl); rotate_left; (· simp only [Act.put, sit, scz, scs, i64_w, i32_w]; rfl)
                                        refine pu_ 5 (some 179) ?_ (bs 29 63) HT_.out (by kernel_rfl) rfl rfl (fun _ _ _ h => h) (Or.inl ⟨by rfl, ?_⟩) ?_ ?_ ?_; rotate_left; (· intro w'; go_simp; with_reducible rfl); rotate_left; (· simp only [Act.put, sit, scz, scs, i64_w, i32_w]; rfl)
                                        refine pu_ 6 (some 180) ?_ (bs 29 127) HT_.out (by kernel_rfl) rfl rfl (fun _ _ _ h => h) (Or.inl ⟨by rfl, ?_⟩) ?_ ?_ ?_; rotate_left; (· intro w'; go_simp; with_reducible rfl); rotate_left; (· simp only [Act.put, sit, scz, scs, i64_w, i32_w]; rfl)
                                        refine pu_ 7 (some 181) ?_ (bs 29 255) HT_.out (by kernel_rfl) rfl rfl (fun _ _ _ h => h) (Or.inl ⟨by rfl, ?_⟩) ?_ ?_ ?_; rotate_left; (· intro w'; go_simp; with_reducible rfl); rotate_left; (· simp only [Act.put, sit, scz, scs, i64_w, i32_w]; rfl)
                                        refine pu_ 8 (some 182) ?_ (bs 29 511) HT_.out (by kernel_rfl) rfl rfl (fun _ _ _ h => h) (Or.inl ⟨by rfl, ?_⟩) ?_ ?_ ?_; rotate_left; (· intro w'; go_simp; with_reducible rfl); rotate_left; (· simp only [Act.put, sit, scz, scs, i64_w, i32_w]; rfl)
                                        refine pu_ 9 (some 183) ?_ (bs 29 1023) HT_.out (by kernel_rfl) rfl rfl (fun _ _ _ h => h) (Or.inl ⟨by rfl, ?_⟩) ?_ ?_ ?_; rotate_left; (· intro w'; go_simp; with_reducible rfl); rotate_left; (· simp only [Act.put, sit, scz, scs, i64_w, i32_w]; rfl)
                                        refine pu_ 10 (some 184) ?_ (bs 29 2047) HT_.out (by kernel_rfl) rfl rfl (fun _ _ _ h => h) (Or.inl ⟨by rfl, ?_⟩) ?_ ?_ ?_; rotate_left; (· intro w'; go_simp; with_reducible rfl); rotate_left; (· simp only [Act.put, sit, scz, scs, i64_w, i32_w]; rfl)
                                        refine pu_ 11 (some 185) ?_ (bs 29 4095) HT_.out (by kernel_rfl) rfl rfl (fun _ _ _ h => h) (Or.inl ⟨by rfl, ?_⟩) ?_ ?_ ?_; rotate_left; (· intro w'; go_simp; with_reducible rfl); rotate_left; (· simp only [Act.put, sit, scz, scs, i64_w, i32_w]; rfl)
                                        refine pu_ 12 (some 186) ?_ (bs 29 8191) HT_.out (by kernel_rfl) rfl rfl (fun _ _ _ h => h) (Or.inl ⟨by rfl, ?_⟩) ?_ ?_ ?_; rotate_left; (· intro w'; go_simp; with_reducible rfl); rotate_left; (· simp only [Act.put, sit, scz, scs, i64_w, i32_w]; rfl)
                                        refine pu_ 13 (some 187) ?_ (bs 29 16383) HT_.out (by kernel_rfl) rfl rfl (fun _ _ _ h => h) (Or.inl ⟨by rfl, ?_⟩) ?_ ?_ ?_; rotate_left; (· intro w'; go_simp; with_reducible rfl); rotate_left; (· simp only [Act.put, sit, scz, scs, i64_w, i32_w]; rfl)
                                        refine pu_ 14 (some 188) ?_ (bs 29 32767) HT_.out (by kernel_rfl) rfl rfl (fun _ _ _ h => h) (Or.inl ⟨by rfl, ?_⟩) ?_ ?_ ?_; rotate_left; (· intro w'; go_simp; with_reducible rfl); rotate_left; (· simp only [Act.put, sit, scz, scs, i64_w, i32_w]; rfl)
                                        refine pu_ 15 (some 189) ?_ (bs 29 65535) HT_.out (by kernel_rfl) rfl rfl (fun _ _ _ h => h) (Or.inl ⟨by rfl, ?_⟩) ?_ ?_ ?_; rotate_left; (· intro w'; go_simp; with_reducible rfl); rotate_left; (· simp only [Act.put, sit, scz, scs, i64_w, i32_w]; rfl)
                                        refine pu_ 16 (some 190) ?_ (bs 29 131071) HT_.out (by kernel_rfl) rfl rfl (fun _ _ _ h => h) (Or.inl ⟨by rfl, ?_⟩) ?_ ?_ ?_; rotate_left; (· intro w'; go_simp; with_reducible rfl); rotate_left; (· simp only [Act.put, sit, scz, scs, i64_w, i32_w]; rfl)
                                        refine pu_ 18 (some 192) ?_ (bs 29 393215) HT_.out (by kernel_rfl) rfl rfl (fun _ _ _ h => h) (Or.inl ⟨by rfl, ?_⟩) ?_ ?_ ?_; rotate_left; (· intro w'; go_simp; with_reducible rfl); rotate_left; (· simp only [Act.put, sit, scz, scs, i64_w, i32_w]; rfl)
                                        refine pu_ 19 (some 193) ?_ (bs 29 917503) HT_.out (by kernel_rfl) rfl rfl (fun _ _ _ h => h) (Or.inl ⟨by rfl, ?_⟩) ?_ ?_ ?_; rotate_left; (· intro w'; go_simp; with_reducible rfl); rotate_left; (· simp only [Act.put, sit, scz, scs, i64_w, i32_w]; rfl)
                                        refine pu_ 20 (some 194) ?_ (bs 29 1966079) HT_.out (by kernel_rfl) rfl rfl (fun _ _ _ h => h) (Or.inl ⟨by rfl, ?_⟩) ?_ ?_ ?_; rotate_left; (· intro w'; go_simp; with_reducible rfl); rotate_left; (· simp only [Act.put, sit, scz, scs, i64_w, i32_w]; rfl)
                                        refine pu_ 21 (some 195) ?_ (bs 29 4063231) HT_.out (by kernel_rfl) rfl rfl (fun _ _ _ h => h) (Or.inl ⟨by rfl, ?_⟩) ?_ ?_ ?_; rotate_left; (· intro w'; go_simp; with_reducible rfl); rotate_left; (· simp only [Act.put, sit, scz, scs, i64_w, i32_w]; rfl)
                                        refine pu_ 22 (some 196) ?_ (bs 29 8257535) HT_.out (by kernel_rfl) rfl rfl (fun _ _ _ h => h) (Or.inl ⟨by rfl, ?_⟩) ?_ ?_ ?_; rotate_left; (· intro w'; go_simp; with_reducible rfl); rotate_left; (· simp only [Act.put, sit, scz, scs, i64_w, i32_w]; rfl)
                                        refine pu_ 23 (some 197) ?_ (bs 29 16646143) HT_.out (by kernel_rfl) rfl rfl (fun _ _ _ h => h) (Or.inl ⟨by rfl, ?_⟩) ?_ ?_ ?_; rotate_left; (· intro w'; go_simp; with_reducible rfl); rotate_left; (· simp only [Act.put, sit, scz, scs, i64_w, i32_w]; rfl)
                                        refine pu_ 24 (some 198) ?_ (bs 29 33423359) HT_.out (by kernel_rfl) rfl rfl (fun _ _ _ h => h) (Or.inl ⟨by rfl, ?_⟩) ?_ ?_ ?_; rotate_left; (· intro w'; go_simp; with_reducible rfl); rotate_left; (· simp only [Act.put, sit, scz, scs, i64_w, i32_w]; rfl)
                                        refine one_ (i := 17) (N := some 191) (bs 29 33554431) rfl rfl (one_of HT_.out (by kernel_rfl)) (by decide) (fun K hK => ?_)
                                        refine goes_ Try.func25 (by kernel_rfl) rfl #[.slice A87 (y357.drop ((ji73) : Int).toNat).length (c34 - (ji73).toNat), .slice A88 (y361.drop (x11_7 : Int).toNat).length (c35 - x11_7.toNat)] (by rfl) rfl rfl (by (try simp only [List.map_toArray, List.map_cons, List.map_nil]); first | done | (rw [show (y357.drop ((ji73) : Int).toNat).length = (y357.length - (ji73).toNat) from List.length_drop] <;> rfl) | (rw [show (y361.drop (x11_7 : Int).toNat).length = (y361.length - x11_7.toNat) from List.length_drop] <;> rfl) | (simp only [hji73]; rfl) | rfl | (simp only [List.length_drop, List.length_take]; rfl)) ?_
                                        with_reducible refine (redpenref18_Common.calls kj56 _ _ (y357.drop ((ji73) : Int).toNat) _ _ (y361.drop (x11_7 : Int).toNat) t381 _ ?side1 ?side2 ?side3 ?side4 A78.out).mono ?_
                                        (case side1 => repeat (first | exact (Kd.C_below HR379.out HB.out) | (with_reducible refine Kd.C_alloc ?_ _) | (with_reducible refine Kd.C_drewN ?_ _) | (with_reducible refine Kd.C_drew ?_)))
                                        (case side2 => exact HC379.out)
                                        (case side3 => repeat (first | exact (Kd.C_below HR380.out HB.out) | (with_reducible refine Kd.C_alloc ?_ _) | (with_reducible refine Kd.C_drewN ?_ _) | (with_reducible refine Kd.C_drew ?_)))
                                        (case side4 => exact HC380.out)
                                        rintro e w91 ⟨rfl, hb⟩
                                        refine ⟨_, rfl, ?_⟩
                                        have n0_ := Aside0.mk (Kd.R_below (by (with_reducible repeat (first | apply Kd.R_alloc | apply Kd.R_drewN | apply Kd.R_drew)); exact HO_9.out) hb)
                                        have n1_ := Aside0.mk (blk_below (g := gb370) (o := .cells #[.int .i64 (wrap64 (x5_2 + x10_4)), .int .i64 x371001_7, .int .i64 (wrap64 (x5_2 + x11_4)), .int .i64 x371003_7] 40 (0, 0)) (by (with_reducible repeat (first | refine blk_drewN ?_ _ | refine blk_drew ?_ | refine blk_alloc ?_ _)); exact BK370.out) hb)
                                        have n2_ := Aside0.mk (below_step (by repeat (first | (with_reducible first | exact HB.out | apply below_alloc | apply pw_below_drewN | apply below_drew1 | refine below_set ?_ GE370.out) | exact HB.out)) hb)
                                        clear HO_9
                                        clear BK370
                                        clear HB
                                        have HO_9 := n0_
                                        have BK370 := n1_
                                        have HB := n2_
                                        clear n0_ n1_ n2_
                                        (try clear hb)
                                        (try clear hb2)
                                        (try clear hk)
                                        (try clear hi)
                                        refine hK.out _ _ trivial (fun hHeld => ?_)
                                        clear hK K
                                        refine norm_ (a' := ?_) ?_ ?_
                                        rotate_left
                                        ·show Act.put _ (some 191) _ = _
                                         simp only [Act.put, List.setIfInBounds_toArray, List.set_cons_zero, List.set_cons_succ, i64_w, i32_w]
                                         rfl
                                        refine one_ (i := 25) (N := some 199) (bs 29 67108863) rfl rfl (one_of HT_.out (by kernel_rfl)) (by decide) (fun K hK => ?_)
                                        refine goes_ Try.func25 (by kernel_rfl) rfl #[.slice A89 (y357.drop (x10_7 : Int).toNat).length (c34 - x10_7.toNat), .slice A90 (y361.drop ((ji81) : Int).toNat).length (c35 - (ji81).toNat)] (by rfl) rfl rfl (by (try simp only [List.map_toArray, List.map_cons, List.map_nil]); first | done | (rw [show (y357.drop (x10_7 : Int).toNat).length = (y357.length - x10_7.toNat) from List.length_drop] <;> rfl) | (rw [show (y361.drop ((ji81) : Int).toNat).length = (y361.length - (ji81).toNat) from List.length_drop] <;> rfl) | (simp only [hji81]; rfl) | rfl | (simp only [List.length_drop, List.length_take]; rfl)) ?_
                                        with_reducible refine (redpenref18_Common.calls kj56 _ _ (y357.drop (x10_7 : Int).toNat) _ _ (y361.drop ((ji81) : Int).toNat) t384 _ ?side1 ?side2 ?side3 ?side4 A84.out).mono ?_
                                        (case side1 => repeat (first | exact (Kd.C_below HR382.out HB.out) | (with_reducible refine Kd.C_alloc ?_ _) | (with_reducible refine Kd.C_drewN ?_ _) | (with_reducible refine Kd.C_drew ?_)))
                                        (case side2 => exact HC382.out)
                                        (case side3 => repeat (first | exact (Kd.C_below HR383.out HB.out) | (with_reducible refine Kd.C_alloc ?_ _) | (with_reducible refine Kd.C_drewN ?_ _) | (with_reducible refine Kd.C_drew ?_)))
                                        (case side4 => exact HC383.out)
                                        rintro e w92 ⟨rfl, hb⟩
                                        refine ⟨_, rfl, ?_⟩
                                        have n0_ := Aside0.mk (Kd.R_below (by (with_reducible repeat (first | apply Kd.R_alloc | apply Kd.R_drewN | apply Kd.R_drew)); exact HO_9.out) hb)
                                        have n1_ := Aside0.mk (blk_below (g := gb370) (o := .cells #[.int .i64 (wrap64 (x5_2 + x10_4)), .int .i64 x371001_7, .int .i64 (wrap64 (x5_2 + x11_4)), .int .i64 x371003_7] 40 (0, 0)) (by (with_reducible repeat (first | refine blk_drewN ?_ _ | refine blk_drew ?_ | refine blk_alloc ?_ _)); exact BK370.out) hb)
                                        have n2_ := Aside0.mk (below_step (by repeat (first | (with_reducible first | exact HB.out | apply below_alloc | apply pw_below_drewN | apply below_drew1 | refine below_set ?_ GE370.out) | exact HB.out)) hb)
                                        clear HO_9
                                        clear BK370
                                        clear HB
                                        have HO_9 := n0_
                                        have BK370 := n1_
                                        have HB := n2_
                                        clear n0_ n1_ n2_
                                        (try clear hb)
                                        (try clear hb2)
                                        (try clear hk)
                                        (try clear hi)
                                        refine hK.out _ _ trivial (fun hHeld => ?_)
                                        clear hK K
                                        refine norm_ (a' := ?_) ?_ ?_
                                        rotate_left
                                        ·show Act.put _ (some 199) _ = _
                                         simp only [Act.put, List.setIfInBounds_toArray, List.set_cons_zero, List.set_cons_succ, i64_w, i32_w]
                                         rfl
                                        refine pu_ 26 (some 200) ?_ (bs 29 134217727) HT_.out (by kernel_rfl) rfl rfl (fun _ _ _ h => h) (Or.inl ⟨by rfl, ?_⟩) ?_ ?_ ?_; rotate_left; (· intro w'; go_simp; with_reducible rfl); rotate_left; (· simp only [Act.put, sit, scz, scs, i64_w, i32_w]; rfl)
                                        refine pu_ 27 (some 201) ?_ (bs 29 268435455) HT_.out (by kernel_rfl) rfl rfl (fun _ _ _ h => h) (Or.inl ⟨by rfl, ?_⟩) ?_ ?_ ?_; rotate_left; (· intro w'; go_simp; with_reducible rfl); rotate_left; (· simp only [Act.put, sit, scz, scs, i64_w, i32_w]; rfl)
                                        refine pu_ 28 (some 202) ?_ (bs 29 536870911) HT_.out (by kernel_rfl) rfl rfl (fun _ _ _ h => h) (Or.inl ⟨by rfl, ?_⟩) ?_ ?_ ?_; rotate_left; (· intro w'; go_simp; with_reducible rfl); rotate_left; (· simp only [Act.put, sit, scz, scs, i64_w, i32_w]; rfl)
                                        refine done_ (done_of HT_.out (by kernel_rfl)) ?_
                                        have hcz93_0 : w92.cell? ⟨gb370, 0, none⟩ = some (.int .i64 (wrap64 (x5_2 + x10_4))) := (blk_cell BK370.out 0).trans rfl
                                        have hcz93_1 : w92.cell? ⟨gb370, 1, none⟩ = some (.int .i64 x371001_7) := (blk_cell BK370.out 1).trans rfl
                                        have hcz93_2 : w92.cell? ⟨gb370, 2, none⟩ = some (.int .i64 (wrap64 (x5_2 + x11_4))) := (blk_cell BK370.out 2).trans rfl
                                        have hcz93_3 : w92.cell? ⟨gb370, 3, none⟩ = some (.int .i64 x371003_7) := (blk_cell BK370.out 3).trans rfl
                                        have hfz93_0 := blk_frozen BK370.out 0
                                        have hfz93_1 := blk_frozen BK370.out 1
                                        have hfz93_2 := blk_frozen BK370.out 2
                                        have hfz93_3 := blk_frozen BK370.out 3
                                        try go_wp2
                                        go_roundg kj56
                                        case measure => have := HJ2.out; have := HJ11.out; have := HJ31.out; have := HK4.out; have := HJ39.out; have := HJ42.out; have := HK7.out; have := HJ53.out; have := HJ56.out; omega
                                        case rel => exact ⟨(ji73), (x11_7), (wrap64 (x371001_7 + 1)), (x371003_7), (by first | rfl | (simp; done) | (simp only [← hji73] <;> (first | rfl | simp)) | (simp [*]; done)), (by first | rfl | (simp; done) | (simp [*]; done)), (by first | exact H' | (rw [hji73]; exact H') | (simp only [hji73]; exact H')), ⟨by have := HJ2.out; have := HJ11.out; have := HJ31.out; have := HK4.out; have := HJ39.out; have := HJ42.out; have := HK7.out; have := HJ53.out; have := HJ56.out; omega⟩, ⟨by (with_reducible repeat (first | apply Kd.R_alloc | apply Kd.R_drewN | apply Kd.R_drew)); exact Kd.R_mono (Kd.R_far (p := ⟨gb370, 1, none⟩) (Kd.R_mono HO_9.out (fun k_ hk => (⟨hk, hk⟩ : _ ∧ k_ ≠ gb370))) (fun _ hk => hk.2) (.int .i64 (wrap64 (x371001_7 + 1)))) (fun _ hk => hk.1)⟩, ⟨by (with_reducible repeat (first | refine blk_drewN ?_ _ | refine blk_drew ?_ | refine blk_alloc ?_ _)); refine blk_put (cs := #[.int .i64 (wrap64 (x5_2 + x10_4)), .int .i64 x371001_7, .int .i64 (wrap64 (x5_2 + x11_4)), .int .i64 x371003_7]) ?_ 1 _ rfl; (with_reducible repeat (first | refine blk_drewN ?_ _ | refine blk_drew ?_ | refine blk_alloc ?_ _)); exact BK370.out⟩, ⟨by repeat (first | (with_reducible first | exact HB.out | apply below_alloc | apply pw_below_drewN | apply below_drew1 | refine below_set ?_ GE370.out) | exact HB.out)⟩⟩
                                       ·rw [if_neg c85] at H
                                        have c85b0 : decide (t384 ≤ t381) = false := decide_eq_false c85
                                        clear c85
                                        have H' := Aside0.mk H
                                        clear H
                                        try go_wp2
                                        have n0_ := Aside0.mk (Kd.R_drew HO_9.out)
                                        have n1_ := Aside0.mk (blk_drew BK370.out)
                                        have n2_ := Aside0.mk (below_drew1 HB.out)
                                        clear HO_9
                                        clear BK370
                                        clear HB
                                        have HO_9 := n0_
                                        have BK370 := n1_
                                        have HB := n2_
                                        clear n0_ n1_ n2_
                                        obtain ⟨i095, hi095, _, hsz95, _⟩ := info_parts info9
                                        obtain ⟨A95, hcut95, hA95, hC95⟩ := print_drop_of (P := Try.prog) Value.string (⟨#[]⟩ : ByteArray) 29 9 .i64 Try.underlying29 hi095 hsz95 A34 c34 y357 (ji73) (of_decide_eq_true (by first | (with_reducible assumption) | assumption)) (of_decide_eq_true (by first | (with_reducible assumption) | assumption)) HC360.out
                                        have HR379 := Aside0.mk (Kd.C_of_reads (h1 := fun _ => rfl) (hA95 _ (Kd.reads_of_C HR360.out)))
                                        have HC379 := Aside0.mk hC95
                                        clear hA95 hC95 hi095 hsz95
                                        obtain ⟨i096, hi096, _, hsz96, _⟩ := info_parts info9
                                        obtain ⟨A96, hcut96, hA96, hC96⟩ := print_drop_of (P := Try.prog) Value.string (⟨#[]⟩ : ByteArray) 29 9 .i64 Try.underlying29 hi096 hsz96 A35 c35 y361 x11_7 (of_decide_eq_true (by first | (with_reducible assumption) | assumption)) (of_decide_eq_true (by first | (with_reducible assumption) | assumption)) HC364.out
                                        have HR380 := Aside0.mk (Kd.C_of_reads (h1 := fun _ => rfl) (hA96 _ (Kd.reads_of_C HR364.out)))
                                        have HC380 := Aside0.mk hC96
                                        clear hA96 hC96 hi096 hsz96
                                        obtain ⟨i097, hi097, _, hsz97, _⟩ := info_parts info9
                                        obtain ⟨A97, hcut97, hA97, hC97⟩ := print_drop_of (P := Try.prog) Value.string (⟨#[]⟩ : ByteArray) 29 9 .i64 Try.underlying29 hi097 hsz97 A34 c34 y357 x10_7 (of_decide_eq_true (by first | (with_reducible assumption) | assumption)) (of_decide_eq_true (by first | (with_reducible assumption) | assumption)) HC360.out
                                        have HR382 := Aside0.mk (Kd.C_of_reads (h1 := fun _ => rfl) (hA97 _ (Kd.reads_of_C HR360.out)))
                                        have HC382 := Aside0.mk hC97
                                        clear hA97 hC97 hi097 hsz97
                                        obtain ⟨i098, hi098, _, hsz98, _⟩ := info_parts info9
                                        obtain ⟨A98, hcut98, hA98, hC98⟩ := print_drop_of (P := Try.prog) Value.string (⟨#[]⟩ : ByteArray) 29 9 .i64 Try.underlying29 hi098 hsz98 A35 c35 y361 (ji81) (of_decide_eq_true (by first | (with_reducible assumption) | assumption)) (of_decide_eq_true (by first | (with_reducible assumption) | assumption)) HC364.out
                                        have HR383 := Aside0.mk (Kd.C_of_reads (h1 := fun _ => rfl) (hA98 _ (Kd.reads_of_C HR364.out)))
                                        have HC383 := Aside0.mk hC98
                                        clear hA98 hC98 hi098 hsz98
                                        refine start_ (n := 29) (S := fun w' => True) (ds := []) (bs 29 0) (by kernel_rfl) rfl rfl trivial (fun hHeld => ?_); refine with_tabW redpenref18_Changes.tab19 redpenref18_Changes.bits19 (fun HT_ HW_ => ?_)
                                        generalize wc.drew = w94 at HO_9 BK370 HB HR379 HR380 HR382 HR383 hHeld ⊢
                                        refine pu_ 0 (some 174) ?_ (bs 29 1) HT_.out (by kernel_rfl) rfl rfl (fun _ _ _ h => h) (Or.inl ⟨by rfl, ?_⟩) ?_ ?_ ?_; rotate_left; (· intro w'; go_simp; with_reducible rfl); rotate_left; (· simp only [Act.put, sit, scz, scs, i64_w, i32_w]; rfl)
                                        refine pu_ 1 (some 175) ?_ (bs 29 3) HT_.out (by kernel_rfl) rfl rfl (fun _ _ _ h => h) (Or.inl ⟨by rfl, ?_⟩) ?_ ?_ ?_; rotate_left; (· intro w'; go_simp; with_reducible rfl); rotate_left; (· simp only [Act.put, sit, scz, scs, i64_w, i32_w]; rfl)
                                        refine pu_ 2 (some 176) ?_ (bs 29 7) HT_.out (by kernel_rfl) rfl rfl (fun _ _ _ h => h) (Or.inl ⟨by rfl, ?_⟩) ?_ ?_ ?_; rotate_left; (· intro w'; go_simp; with_reducible rfl); rotate_left; (· simp only [Act.put, sit, scz, scs, i64_w, i32_w]; rfl)
                                        refine pu_ 3 (some 177) ?_ (bs 29 15) HT_.out (by kernel_rfl) rfl rfl (fun _ _ _ h => h) (Or.inl ⟨by rfl, ?_⟩) ?_ ?_ ?_; rotate_left; (· intro w'; go_simp; with_reducible rfl); rotate_left; (· simp only [Act.put, sit, scz, scs, i64_w, i32_w]; rfl)
                                        refine pu_ 4 (some 178) ?_ (bs 29 31) HT_.out (by kernel_rfl) rfl rfl (fun _ _ _ h => h) (Or.inl ⟨by rfl, ?_⟩) ?_ ?_ ?_; rotate_left; (· intro w'; go_simp; with_reducible rfl); rotate_left; (· simp only [Act.put, sit, scz, scs, i64_w, i32_w]; rfl)
                                        refine pu_ 5 (some 179) ?_ (bs 29 63) HT_.out (by kernel_rfl) rfl rfl (fun _ _ _ h => h) (Or.inl ⟨by rfl, ?_⟩) ?_ ?_ ?_; rotate_left; (· intro w'; go_simp; with_reducible rfl); rotate_left; (· simp only [Act.put, sit, scz, scs, i64_w, i32_w]; rfl)
                                        refine pu_ 6 (some 180) ?_ (bs 29 127) HT_.out (by kernel_rfl) rfl rfl (fun _ _ _ h => h) (Or.inl ⟨by rfl, ?_⟩) ?_ ?_ ?_; rotate_left; (· intro w'; go_simp; with_reducible rfl); rotate_left; (· simp only [Act.put, sit, scz, scs, i64_w, i32_w]; rfl)
                                        refine pu_ 7 (some 181) ?_ (bs 29 255) HT_.out (by kernel_rfl) rfl rfl (fun _ _ _ h => h) (Or.inl ⟨by rfl, ?_⟩) ?_ ?_ ?_; rotate_left; (· intro w'; go_simp; with_reducible rfl); rotate_left; (· simp only [Act.put, sit, scz, scs, i64_w, i32_w]; rfl)
                                        refine pu_ 8 (some 182) ?_ (bs 29 511) HT_.out (by kernel_rfl) rfl rfl (fun _ _ _ h => h) (Or.inl ⟨by rfl, ?_⟩) ?_ ?_ ?_; rotate_left; (· intro w'; go_simp; with_reducible rfl); rotate_left; (· simp only [Act.put, sit, scz, scs, i64_w, i32_w]; rfl)
                                        refine pu_ 9 (some 183) ?_ (bs 29 1023) HT_.out (by kernel_rfl) rfl rfl (fun _ _ _ h => h) (Or.inl ⟨by rfl, ?_⟩) ?_ ?_ ?_; rotate_left; (· intro w'; go_simp; with_reducible rfl); rotate_left; (· simp only [Act.put, sit, scz, scs, i64_w, i32_w]; rfl)
                                        refine pu_ 10 (some 184) ?_ (bs 29 2047) HT_.out (by kernel_rfl) rfl rfl (fun _ _ _ h => h) (Or.inl ⟨by rfl, ?_⟩) ?_ ?_ ?_; rotate_left; (· intro w'; go_simp; with_reducible rfl); rotate_left; (· simp only [Act.put, sit, scz, scs, i64_w, i32_w]; rfl)
                                        refine pu_ 11 (some 185) ?_ (bs 29 4095) HT_.out (by kernel_rfl) rfl rfl (fun _ _ _ h => h) (Or.inl ⟨by rfl, ?_⟩) ?_ ?_ ?_; rotate_left; (· intro w'; go_simp; with_reducible rfl); rotate_left; (· simp only [Act.put, sit, scz, scs, i64_w, i32_w]; rfl)
                                        refine pu_ 12 (some 186) ?_ (bs 29 8191) HT_.out (by kernel_rfl) rfl rfl (fun _ _ _ h => h) (Or.inl ⟨by rfl, ?_⟩) ?_ ?_ ?_; rotate_left; (· intro w'; go_simp; with_reducible rfl); rotate_left; (· simp only [Act.put, sit, scz, scs, i64_w, i32_w]; rfl)
                                        refine pu_ 13 (some 187) ?_ (bs 29 16383) HT_.out (by kernel_rfl) rfl rfl (fun _ _ _ h => h) (Or.inl ⟨by rfl, ?_⟩) ?_ ?_ ?_; rotate_left; (· intro w'; go_simp; with_reducible rfl); rotate_left; (· simp only [Act.put, sit, scz, scs, i64_w, i32_w]; rfl)
                                        refine pu_ 14 (some 188) ?_ (bs 29 32767) HT_.out (by kernel_rfl) rfl rfl (fun _ _ _ h => h) (Or.inl ⟨by rfl, ?_⟩) ?_ ?_ ?_; rotate_left; (· intro w'; go_simp; with_reducible rfl); rotate_left; (· simp only [Act.put, sit, scz, scs, i64_w, i32_w]; rfl)
                                        refine pu_ 15 (some 189) ?_ (bs 29 65535) HT_.out (by kernel_rfl) rfl rfl (fun _ _ _ h => h) (Or.inl ⟨by rfl, ?_⟩) ?_ ?_ ?_; rotate_left; (· intro w'; go_simp; with_reducible rfl); rotate_left; (· simp only [Act.put, sit, scz, scs, i64_w, i32_w]; rfl)
                                        refine pu_ 16 (some 190) ?_ (bs 29 131071) HT_.out (by kernel_rfl) rfl rfl (fun _ _ _ h => h) (Or.inl ⟨by rfl, ?_⟩) ?_ ?_ ?_; rotate_left; (· intro w'; go_simp; with_reducible rfl); rotate_left; (· simp only [Act.put, sit, scz, scs, i64_w, i32_w]; rfl)
                                        refine pu_ 18 (some 192) ?_ (bs 29 393215) HT_.out (by kernel_rfl) rfl rfl (fun _ _ _ h => h) (Or.inl ⟨by rfl, ?_⟩) ?_ ?_ ?_; rotate_left; (· intro w'; go_simp; with_reducible rfl); rotate_left; (· simp only [Act.put, sit, scz, scs, i64_w, i32_w]; rfl)
                                        refine pu_ 19 (some 193) ?_ (bs 29 917503) HT_.out (by kernel_rfl) rfl rfl (fun _ _ _ h => h) (Or.inl ⟨by rfl, ?_⟩) ?_ ?_ ?_; rotate_left; (· intro w'; go_simp; with_reducible rfl); rotate_left; (· simp only [Act.put, sit, scz, scs, i64_w, i32_w]; rfl)
                                        refine pu_ 20 (some 194) ?_ (bs 29 1966079) HT_.out (by kernel_rfl) rfl rfl (fun _ _ _ h => h) (Or.inl ⟨by rfl, ?_⟩) ?_ ?_ ?_; rotate_left; (· intro w'; go_simp; with_reducible rfl); rotate_left; (· simp only [Act.put, sit, scz, scs, i64_w, i32_w]; rfl)
                                        refine pu_ 21 (some 195) ?_ (bs 29 4063231) HT_.out (by kernel_rfl) rfl rfl (fun _ _ _ h => h) (Or.inl ⟨by rfl, ?_⟩) ?_ ?_ ?_; rotate_left; (· intro w'; go_simp; with_reducible rfl); rotate_left; (· simp only [Act.put, sit, scz, scs, i64_w, i32_w]; rfl)
                                        refine pu_ 22 (some 196) ?_ (bs 29 8257535) HT_.out (by kernel_rfl) rfl rfl (fun _ _ _ h => h) (Or.inl ⟨by rfl, ?_⟩) ?_ ?_ ?_; rotate_left; (· intro w'; go_simp; with_reducible rfl); rotate_left; (· simp only [Act.put, sit, scz, scs, i64_w, i32_w]; rfl)
                                        refine pu_ 23 (some 197) ?_ (bs 29 16646143) HT_.out (by kernel_rfl) rfl rfl (fun _ _ _ h => h) (Or.inl ⟨by rfl, ?_⟩) ?_ ?_ ?_; rotate_left; (· intro w'; go_simp; with_reducible rfl); rotate_left; (· simp only [Act.put, sit, scz, scs, i64_w, i32_w]; rfl)
                                        refine pu_ 24 (some 198) ?_ (bs 29 33423359) HT_.out (by kernel_rfl) rfl rfl (fun _ _ _ h => h) (Or.inl ⟨by rfl, ?_⟩) ?_ ?_ ?_; rotate_left; (· intro w'; go_simp; with_reducible rfl); rotate_left; (· simp only [Act.put, sit, scz, scs, i64_w, i32_w]; rfl)
                                        refine one_ (i := 17) (N := some 191) (bs 29 33554431) rfl rfl (one_of HT_.out (by kernel_rfl)) (by decide) (fun K hK => ?_)
                                        refine goes_ Try.func25 (by kernel_rfl) rfl #[.slice A95 (y357.drop ((ji73) : Int).toNat).length (c34 - (ji73).toNat), .slice A96 (y361.drop (x11_7 : Int).toNat).length (c35 - x11_7.toNat)] (by rfl) rfl rfl (by (try simp only [List.map_toArray, List.map_cons, List.map_nil]); first | done | (rw [show (y357.drop ((ji73) : Int).toNat).length = (y357.length - (ji73).toNat) from List.length_drop] <;> rfl) | (rw [show (y361.drop (x11_7 : Int).toNat).length = (y361.length - x11_7.toNat) from List.length_drop] <;> rfl) | (simp only [hji73]; rfl) | rfl | (simp only [List.length_drop, List.length_take]; rfl)) ?_
                                        with_reducible refine (redpenref18_Common.calls kj56 _ _ (y357.drop ((ji73) : Int).toNat) _ _ (y361.drop (x11_7 : Int).toNat) t381 _ ?side1 ?side2 ?side3 ?side4 A78.out).mono ?_
                                        (case side1 => repeat (first | exact (Kd.C_below HR379.out HB.out) | (with_reducible refine Kd.C_alloc ?_ _) | (with_reducible refine Kd.C_drewN ?_ _) | (with_reducible refine Kd.C_drew ?_)))
                                        (case side2 => exact HC379.out)
                                        (case side3 => repeat (first | exact (Kd.C_below HR380.out HB.out) | (with_reducible refine Kd.C_alloc ?_ _) | (with_reducible refine Kd.C_drewN ?_ _) | (with_reducible refine Kd.C_drew ?_)))
                                        (case side4 => exact HC380.out)
                                        rintro e w99 ⟨rfl, hb⟩
                                        refine ⟨_, rfl, ?_⟩
                                        have n0_ := Aside0.mk (Kd.R_below (by (with_reducible repeat (first | apply Kd.R_alloc | apply Kd.R_drewN | apply Kd.R_drew)); exact HO_9.out) hb)
                                        have n1_ := Aside0.mk (blk_below (g := gb370) (o := .cells #[.int .i64 (wrap64 (x5_2 + x10_4)), .int .i64 x371001_7, .int .i64 (wrap64 (x5_2 + x11_4)), .int .i64 x371003_7] 40 (0, 0)) (by (with_reducible repeat (first | refine blk_drewN ?_ _ | refine blk_drew ?_ | refine blk_alloc ?_ _)); exact BK370.out) hb)
                                        have n2_ := Aside0.mk (below_step (by repeat (first | (with_reducible first | exact HB.out | apply below_alloc | apply pw_below_drewN | apply below_drew1 | refine below_set ?_ GE370.out) | exact HB.out)) hb)
                                        clear HO_9
                                        clear BK370
                                        clear HB
                                        have HO_9 := n0_
                                        have BK370 := n1_
                                        have HB := n2_
                                        clear n0_ n1_ n2_
                                        (try clear hb)
                                        (try clear hb2)
                                        (try clear hk)
                                        (try clear hi)
                                        refine hK.out _ _ trivial (fun hHeld => ?_)
                                        clear hK K
                                        refine norm_ (a' := ?_) ?_ ?_
                                        rotate_left
                                        ·show Act.put _ (some 191) _ = _
                                         simp only [Act.put, List.setIfInBounds_toArray, List.set_cons_zero, List.set_cons_succ, i64_w, i32_w]
                                         rfl
                                        refine one_ (i := 25) (N := some 199) (bs 29 67108863) rfl rfl (one_of HT_.out (by kernel_rfl)) (by decide) (fun K hK => ?_)
                                        refine goes_ Try.func25 (by kernel_rfl) rfl #[.slice A97 (y357.drop (x10_7 : Int).toNat).length (c34 - x10_7.toNat), .slice A98 (y361.drop ((ji81) : Int).toNat).length (c35 - (ji81).toNat)] (by rfl) rfl rfl (by (try simp only [List.map_toArray, List.map_cons, List.map_nil]); first | done | (rw [show (y357.drop (x10_7 : Int).toNat).length = (y357.length - x10_7.toNat) from List.length_drop] <;> rfl) | (rw [show (y361.drop ((ji81) : Int).toNat).length = (y361.length - (ji81).toNat) from List.length_drop] <;> rfl) | (simp only [hji81]; rfl) | rfl | (simp only [List.length_drop, List.length_take]; rfl)) ?_
                                        with_reducible refine (redpenref18_Common.calls kj56 _ _ (y357.drop (x10_7 : Int).toNat) _ _ (y361.drop ((ji81) : Int).toNat) t384 _ ?side1 ?side2 ?side3 ?side4 A84.out).mono ?_
                                        (case side1 => repeat (first | exact (Kd.C_below HR382.out HB.out) | (with_reducible refine Kd.C_alloc ?_ _) | (with_reducible refine Kd.C_drewN ?_ _) | (with_reducible refine Kd.C_drew ?_)))
                                        (case side2 => exact HC382.out)
                                        (case side3 => repeat (first | exact (Kd.C_below HR383.out HB.out) | (with_reducible refine Kd.C_alloc ?_ _) | (with_reducible refine Kd.C_drewN ?_ _) | (with_reducible refine Kd.C_drew ?_)))
                                        (case side4 => exact HC383.out)
                                        rintro e w100 ⟨rfl, hb⟩
                                        refine ⟨_, rfl, ?_⟩
                                        have n0_ := Aside0.mk (Kd.R_below (by (with_reducible repeat (first | apply Kd.R_alloc | apply Kd.R_drewN | apply Kd.R_drew)); exact HO_9.out) hb)
                                        have n1_ := Aside0.mk (blk_below (g := gb370) (o := .cells #[.int .i64 (wrap64 (x5_2 + x10_4)), .int .i64 x371001_7, .int .i64 (wrap64 (x5_2 + x11_4)), .int .i64 x371003_7] 40 (0, 0)) (by (with_reducible repeat (first | refine blk_drewN ?_ _ | refine blk_drew ?_ | refine blk_alloc ?_ _)); exact BK370.out) hb)
                                        have n2_ := Aside0.mk (below_step (by repeat (first | (with_reducible first | exact HB.out | apply below_alloc | apply pw_below_drewN | apply below_drew1 | refine below_set ?_ GE370.out) | exact HB.out)) hb)
                                        clear HO_9
                                        clear BK370
                                        clear HB
                                        have HO_9 := n0_
                                        have BK370 := n1_
                                        have HB := n2_
                                        clear n0_ n1_ n2_
                                        (try clear hb)
                                        (try clear hb2)
                                        (try clear hk)
                                        (try clear hi)
                                        refine hK.out _ _ trivial (fun hHeld => ?_)
                                        clear hK K
                                        refine norm_ (a' := ?_) ?_ ?_
                                        rotate_left
                                        ·show Act.put _ (some 199) _ = _
                                         simp only [Act.put, List.setIfInBounds_toArray, List.set_cons_zero, List.set_cons_succ, i64_w, i32_w]
                                         rfl
                                        refine pu_ 26 (some 200) ?_ (bs 29 134217727) HT_.out (by kernel_rfl) rfl rfl (fun _ _ _ h => h) (Or.inl ⟨by rfl, ?_⟩) ?_ ?_ ?_; rotate_left; (· intro w'; go_simp; with_reducible rfl); rotate_left; (· simp only [Act.put, sit, scz, scs, i64_w, i32_w]; rfl)
                                        refine pu_ 27 (some 201) ?_ (bs 29 268435455) HT_.out (by kernel_rfl) rfl rfl (fun _ _ _ h => h) (Or.inl ⟨by rfl, ?_⟩) ?_ ?_ ?_; rotate_left; (· intro w'; go_simp; with_reducible rfl); rotate_left; (· simp only [Act.put, sit, scz, scs, i64_w, i32_w]; rfl)
                                        refine pu_ 28 (some 202) ?_ (bs 29 536870911) HT_.out (by kernel_rfl) rfl rfl (fun _ _ _ h => h) (Or.inl ⟨by rfl, ?_⟩) ?_ ?_ ?_; rotate_left; (· intro w'; go_simp; with_reducible rfl); rotate_left; (· simp only [Act.put, sit, scz, scs, i64_w, i32_w]; rfl)
                                        refine done_ (done_of HT_.out (by kernel_rfl)) ?_
                                        have hcz101_0 : w100.cell? ⟨gb370, 0, none⟩ = some (.int .i64 (wrap64 (x5_2 + x10_4))) := (blk_cell BK370.out 0).trans rfl
                                        have hcz101_1 : w100.cell? ⟨gb370, 1, none⟩ = some (.int .i64 x371001_7) := (blk_cell BK370.out 1).trans rfl
                                        have hcz101_2 : w100.cell? ⟨gb370, 2, none⟩ = some (.int .i64 (wrap64 (x5_2 + x11_4))) := (blk_cell BK370.out 2).trans rfl
                                        have hcz101_3 : w100.cell? ⟨gb370, 3, none⟩ = some (.int .i64 x371003_7) := (blk_cell BK370.out 3).trans rfl
                                        have hfz101_0 := blk_frozen BK370.out 0
                                        have hfz101_1 := blk_frozen BK370.out 1
                                        have hfz101_2 := blk_frozen BK370.out 2
                                        have hfz101_3 := blk_frozen BK370.out 3
                                        try go_wp2
                                        go_roundg kj56
                                        case measure => have := HJ2.out; have := HJ11.out; have := HJ31.out; have := HK4.out; have := HJ39.out; have := HJ42.out; have := HK7.out; have := HJ53.out; have := HJ56.out; omega
                                        case rel => exact ⟨(x10_7), (ji81), (x371001_7), (wrap64 (x371003_7 + 1)), (by first | rfl | (simp; done) | (simp [*]; done)), (by first | rfl | (simp; done) | (simp only [← hji81] <;> (first | rfl | simp)) | (simp [*]; done)), (by first | exact H' | (rw [hji81]; exact H') | (simp only [hji81]; exact H')), ⟨by have := HJ2.out; have := HJ11.out; have := HJ31.out; have := HK4.out; have := HJ39.out; have := HJ42.out; have := HK7.out; have := HJ53.out; have := HJ56.out; omega⟩, ⟨by (with_reducible repeat (first | apply Kd.R_alloc | apply Kd.R_drewN | apply Kd.R_drew)); exact Kd.R_mono (Kd.R_far (p := ⟨gb370, 3, none⟩) (Kd.R_mono HO_9.out (fun k_ hk => (⟨hk, hk⟩ : _ ∧ k_ ≠ gb370))) (fun _ hk => hk.2) (.int .i64 (wrap64 (x371003_7 + 1)))) (fun _ hk => hk.1)⟩, ⟨by (with_reducible repeat (first | refine blk_drewN ?_ _ | refine blk_drew ?_ | refine blk_alloc ?_ _)); refine blk_put (cs := #[.int .i64 (wrap64 (x5_2 + x10_4)), .int .i64 x371001_7, .int .i64 (wrap64 (x5_2 + x11_4)), .int .i64 x371003_7]) ?_ 3 _ rfl; (with_reducible repeat (first | refine blk_drewN ?_ _ | refine blk_drew ?_ | refine blk_alloc ?_ _)); exact BK370.out⟩, ⟨by repeat (first | (with_reducible first | exact HB.out | apply below_alloc | apply pw_below_drewN | apply below_drew1 | refine below_set ?_ GE370.out) | exact HB.out)⟩⟩
                                      ·rw [if_neg c83] at H
                                       exact absurd H (by simp)
                                     ·rw [if_neg c82] at H
                                      exact absurd H (by simp)
                                    ·rw [if_neg c80] at H
                                     exact absurd H (by simp)
                                   ·rw [if_neg c79] at H
                                    exact absurd H (by simp)
                                  ·rw [if_neg c77] at H
                                   exact absurd H (by simp)
                                 ·rw [if_neg c76] at H
                                  exact absurd H (by simp)
                                ·rw [if_neg c75] at H
                                 exact absurd H (by simp)
                               ·rw [if_neg c74] at H
                                exact absurd H (by simp)
                             ·rw [if_neg c69] at H
                              have c69b0 : decide (x10_7 < (y357.length : Int)) = false := decide_eq_false c69
                              clear c69
                              have H' := Aside0.mk H
                              clear H
                              try go_wp2
                              have n0_ := Aside0.mk (Kd.R_drew HO_9.out)
                              have n1_ := Aside0.mk (blk_drew BK370.out)
                              have n2_ := Aside0.mk (below_drew1 HB.out)
                              clear HO_9
                              clear BK370
                              clear HB
                              have HO_9 := n0_
                              have BK370 := n1_
                              have HB := n2_
                              clear n0_ n1_ n2_
                              refine start_ (n := 29) (S := fun w' => True) (ds := []) (bs 29 0) (by kernel_rfl) rfl rfl trivial (fun hHeld => ?_); refine with_tabW redpenref18_Changes.tab19 redpenref18_Changes.bits19 (fun HT_ HW_ => ?_)
                              generalize wc.drew = w102 at HO_9 BK370 HB hHeld ⊢
                              refine pu_ 0 (some 174) ?_ (bs 29 1) HT_.out (by kernel_rfl) rfl rfl (fun _ _ _ h => h) (Or.inl ⟨by rfl, ?_⟩) ?_ ?_ ?_; rotate_left; (· intro w'; go_simp; with_reducible rfl); rotate_left; (· simp only [Act.put, sit, scz, scs, i64_w, i32_w]; rfl)
                              refine pu_ 1 (some 175) ?_ (bs 29 3) HT_.out (by kernel_rfl) rfl rfl (fun _ _ _ h => h) (Or.inl ⟨by rfl, ?_⟩) ?_ ?_ ?_; rotate_left; (· intro w'; go_simp; with_reducible rfl); rotate_left; (· simp only [Act.put, sit, scz, scs, i64_w, i32_w]; rfl)
                              refine pu_ 2 (some 176) ?_ (bs 29 7) HT_.out (by kernel_rfl) rfl rfl (fun _ _ _ h => h) (Or.inl ⟨by rfl, ?_⟩) ?_ ?_ ?_; rotate_left; (· intro w'; go_simp; with_reducible rfl); rotate_left; (· simp only [Act.put, sit, scz, scs, i64_w, i32_w]; rfl)
                              refine pu_ 3 (some 177) ?_ (bs 29 15) HT_.out (by kernel_rfl) rfl rfl (fun _ _ _ h => h) (Or.inl ⟨by rfl, ?_⟩) ?_ ?_ ?_; rotate_left; (· intro w'; go_simp; with_reducible rfl); rotate_left; (· simp only [Act.put, sit, scz, scs, i64_w, i32_w]; rfl)
                              refine pu_ 4 (some 178) ?_ (bs 29 31) HT_.out (by kernel_rfl) rfl rfl (fun _ _ _ h => h) (Or.inl ⟨by rfl, ?_⟩) ?_ ?_ ?_; rotate_left; (· intro w'; go_simp; with_reducible rfl); rotate_left; (· simp only [Act.put, sit, scz, scs, i64_w, i32_w]; rfl)
                              refine pu_ 5 (some 179) undef (bs 29 63) HT_.out (by kernel_rfl) rfl rfl (fun _ _ _ h => h) (Or.inr ⟨by rfl, rfl⟩) ?_ ?_ ?_; rotate_left; (· simp only [Act.put, sit, scz, scs, i64_w, i32_w]; rfl)
                              refine pu_ 6 (some 180) undef (bs 29 127) HT_.out (by kernel_rfl) rfl rfl (fun _ _ _ h => h) (Or.inr ⟨by rfl, rfl⟩) ?_ ?_ ?_; rotate_left; (· simp only [Act.put, sit, scz, scs, i64_w, i32_w]; rfl)
                              refine pu_ 7 (some 181) undef (bs 29 255) HT_.out (by kernel_rfl) rfl rfl (fun _ _ _ h => h) (Or.inr ⟨by rfl, rfl⟩) ?_ ?_ ?_; rotate_left; (· simp only [Act.put, sit, scz, scs, i64_w, i32_w]; rfl)
                              refine pu_ 8 (some 182) undef (bs 29 511) HT_.out (by kernel_rfl) rfl rfl (fun _ _ _ h => h) (Or.inr ⟨by rfl, rfl⟩) ?_ ?_ ?_; rotate_left; (· simp only [Act.put, sit, scz, scs, i64_w, i32_w]; rfl)
                              refine pu_ 9 (some 183) undef (bs 29 1023) HT_.out (by kernel_rfl) rfl rfl (fun _ _ _ h => h) (Or.inr ⟨by rfl, rfl⟩) ?_ ?_ ?_; rotate_left; (· simp only [Act.put, sit, scz, scs, i64_w, i32_w]; rfl)
                              refine pu_ 10 (some 184) undef (bs 29 2047) HT_.out (by kernel_rfl) rfl rfl (fun _ _ _ h => h) (Or.inr ⟨by rfl, rfl⟩) ?_ ?_ ?_; rotate_left; (· simp only [Act.put, sit, scz, scs, i64_w, i32_w]; rfl)
                              refine pu_ 11 (some 185) undef (bs 29 4095) HT_.out (by kernel_rfl) rfl rfl (fun _ _ _ h => h) (Or.inr ⟨by rfl, rfl⟩) ?_ ?_ ?_; rotate_left; (· simp only [Act.put, sit, scz, scs, i64_w, i32_w]; rfl)
                              refine pu_ 12 (some 186) undef (bs 29 8191) HT_.out (by kernel_rfl) rfl rfl (fun _ _ _ h => h) (Or.inr ⟨by rfl, rfl⟩) ?_ ?_ ?_; rotate_left; (· simp only [Act.put, sit, scz, scs, i64_w, i32_w]; rfl)
                              refine pu_ 13 (some 187) undef (bs 29 16383) HT_.out (by kernel_rfl) rfl rfl (fun _ _ _ h => h) (Or.inr ⟨by rfl, rfl⟩) ?_ ?_ ?_; rotate_left; (· simp only [Act.put, sit, scz, scs, i64_w, i32_w]; rfl)
                              refine pu_ 14 (some 188) undef (bs 29 32767) HT_.out (by kernel_rfl) rfl rfl (fun _ _ _ h => h) (Or.inr ⟨by rfl, rfl⟩) ?_ ?_ ?_; rotate_left; (· simp only [Act.put, sit, scz, scs, i64_w, i32_w]; rfl)
                              refine pu_ 15 (some 189) undef (bs 29 65535) HT_.out (by kernel_rfl) rfl rfl (fun _ _ _ h => h) (Or.inr ⟨by rfl, rfl⟩) ?_ ?_ ?_; rotate_left; (· simp only [Act.put, sit, scz, scs, i64_w, i32_w]; rfl)
                              refine pu_ 16 (some 190) undef (bs 29 131071) HT_.out (by kernel_rfl) rfl rfl (fun _ _ _ h => h) (Or.inr ⟨by rfl, rfl⟩) ?_ ?_ ?_; rotate_left; (· simp only [Act.put, sit, scz, scs, i64_w, i32_w]; rfl)
                              refine pu_ 17 (some 191) undef (bs 29 262143) HT_.out (by kernel_rfl) rfl rfl (fun _ _ _ h => h) (Or.inr ⟨by rfl, rfl⟩) ?_ ?_ ?_; rotate_left; (· simp only [Act.put, sit, scz, scs, i64_w, i32_w]; rfl)
                              refine pu_ 18 (some 192) undef (bs 29 524287) HT_.out (by kernel_rfl) rfl rfl (fun _ _ _ h => h) (Or.inr ⟨by rfl, rfl⟩) ?_ ?_ ?_; rotate_left; (· simp only [Act.put, sit, scz, scs, i64_w, i32_w]; rfl)
                              refine pu_ 19 (some 193) undef (bs 29 1048575) HT_.out (by kernel_rfl) rfl rfl (fun _ _ _ h => h) (Or.inr ⟨by rfl, rfl⟩) ?_ ?_ ?_; rotate_left; (· simp only [Act.put, sit, scz, scs, i64_w, i32_w]; rfl)
                              refine pu_ 20 (some 194) undef (bs 29 2097151) HT_.out (by kernel_rfl) rfl rfl (fun _ _ _ h => h) (Or.inr ⟨by rfl, rfl⟩) ?_ ?_ ?_; rotate_left; (· simp only [Act.put, sit, scz, scs, i64_w, i32_w]; rfl)
                              refine pu_ 21 (some 195) undef (bs 29 4194303) HT_.out (by kernel_rfl) rfl rfl (fun _ _ _ h => h) (Or.inr ⟨by rfl, rfl⟩) ?_ ?_ ?_; rotate_left; (· simp only [Act.put, sit, scz, scs, i64_w, i32_w]; rfl)
                              refine pu_ 22 (some 196) undef (bs 29 8388607) HT_.out (by kernel_rfl) rfl rfl (fun _ _ _ h => h) (Or.inr ⟨by rfl, rfl⟩) ?_ ?_ ?_; rotate_left; (· simp only [Act.put, sit, scz, scs, i64_w, i32_w]; rfl)
                              refine pu_ 23 (some 197) undef (bs 29 16777215) HT_.out (by kernel_rfl) rfl rfl (fun _ _ _ h => h) (Or.inr ⟨by rfl, rfl⟩) ?_ ?_ ?_; rotate_left; (· simp only [Act.put, sit, scz, scs, i64_w, i32_w]; rfl)
                              refine pu_ 24 (some 198) undef (bs 29 33554431) HT_.out (by kernel_rfl) rfl rfl (fun _ _ _ h => h) (Or.inr ⟨by rfl, rfl⟩) ?_ ?_ ?_; rotate_left; (· simp only [Act.put, sit, scz, scs, i64_w, i32_w]; rfl)
                              refine pu_ 25 (some 199) undef (bs 29 67108863) HT_.out (by kernel_rfl) rfl rfl (fun _ _ _ h => h) (Or.inr ⟨by rfl, rfl⟩) ?_ ?_ ?_; rotate_left; (· simp only [Act.put, sit, scz, scs, i64_w, i32_w]; rfl)
                              refine pu_ 26 (some 200) undef (bs 29 134217727) HT_.out (by kernel_rfl) rfl rfl (fun _ _ _ h => h) (Or.inr ⟨by rfl, rfl⟩) ?_ ?_ ?_; rotate_left; (· simp only [Act.put, sit, scz, scs, i64_w, i32_w]; rfl)
                              refine pu_ 27 (some 201) undef (bs 29 268435455) HT_.out (by kernel_rfl) rfl rfl (fun _ _ _ h => h) (Or.inr ⟨by rfl, rfl⟩) ?_ ?_ ?_; rotate_left; (· simp only [Act.put, sit, scz, scs, i64_w, i32_w]; rfl)
                              refine pu_ 28 (some 202) ?_ (bs 29 536870911) HT_.out (by kernel_rfl) rfl rfl (fun _ _ _ h => h) (Or.inl ⟨by rfl, ?_⟩) ?_ ?_ ?_; rotate_left; (· intro w'; go_simp; with_reducible rfl); rotate_left; (· simp only [Act.put, sit, scz, scs, i64_w, i32_w]; rfl)
                              refine done_ (done_of HT_.out (by kernel_rfl)) ?_
                              have hcz103_0 : w102.cell? ⟨gb370, 0, none⟩ = some (.int .i64 (wrap64 (x5_2 + x10_4))) := (blk_cell BK370.out 0).trans rfl
                              have hcz103_1 : w102.cell? ⟨gb370, 1, none⟩ = some (.int .i64 x371001_7) := (blk_cell BK370.out 1).trans rfl
                              have hcz103_2 : w102.cell? ⟨gb370, 2, none⟩ = some (.int .i64 (wrap64 (x5_2 + x11_4))) := (blk_cell BK370.out 2).trans rfl
                              have hcz103_3 : w102.cell? ⟨gb370, 3, none⟩ = some (.int .i64 x371003_7) := (blk_cell BK370.out 3).trans rfl
                              have hfz103_0 := blk_frozen BK370.out 0
                              have hfz103_1 := blk_frozen BK370.out 1
                              have hfz103_2 := blk_frozen BK370.out 2
                              have hfz103_3 := blk_frozen BK370.out 3
                              try go_wp2
                              go_roundg kj56
                              case measure => have := HJ2.out; have := HJ11.out; have := HJ31.out; have := HK4.out; have := HJ39.out; have := HJ42.out; have := HK7.out; have := HJ53.out; have := HJ56.out; omega
                              case rel => exact ⟨(x10_7), (wrap64 (x11_7 + 1)), (x371001_7), (wrap64 (x371003_7 + 1)), (by first | rfl | (simp; done) | (simp [*]; done)), (by first | rfl | (simp; done) | (simp [*]; done)), H', ⟨by have := HJ2.out; have := HJ11.out; have := HJ31.out; have := HK4.out; have := HJ39.out; have := HJ42.out; have := HK7.out; have := HJ53.out; have := HJ56.out; omega⟩, ⟨by (with_reducible repeat (first | apply Kd.R_alloc | apply Kd.R_drewN | apply Kd.R_drew)); exact Kd.R_mono (Kd.R_far (p := ⟨gb370, 3, none⟩) (Kd.R_mono HO_9.out (fun k_ hk => (⟨hk, hk⟩ : _ ∧ k_ ≠ gb370))) (fun _ hk => hk.2) (.int .i64 (wrap64 (x371003_7 + 1)))) (fun _ hk => hk.1)⟩, ⟨by (with_reducible repeat (first | refine blk_drewN ?_ _ | refine blk_drew ?_ | refine blk_alloc ?_ _)); refine blk_put (cs := #[.int .i64 (wrap64 (x5_2 + x10_4)), .int .i64 x371001_7, .int .i64 (wrap64 (x5_2 + x11_4)), .int .i64 x371003_7]) ?_ 3 _ rfl; (with_reducible repeat (first | refine blk_drewN ?_ _ | refine blk_drew ?_ | refine blk_alloc ?_ _)); exact BK370.out⟩, ⟨by repeat (first | (with_reducible first | exact HB.out | apply below_alloc | apply pw_below_drewN | apply below_drew1 | refine below_set ?_ GE370.out) | exact HB.out)⟩⟩
                         ·replace c56 := Bool.eq_false_iff.mpr c56
                          subst c56
                          have H1 : (if x9_4.length < 4398046511104 then (redpenref18_Changes.l2 kj53 x5_2 y357 y361 (x9_4 ++ [(⟨(wrap64 (x5_2 + x10_4)), x371001_7, (wrap64 (x5_2 + x11_4)), x371003_7⟩ : S40)]) x10_7 x11_7) else (none)) = some r := by rw [if_neg (show ¬ (false = true) by decide)] at H; exact H
                          clear H
                          have H := H1
                          clear H1
                          by_cases c104 : x9_4.length < 4398046511104
                          ·rw [if_pos c104] at H
                           have LMc104 := Aside0.mk c104
                           clear c104
                           obtain ⟨y371, hy371⟩ : ∃ y_ : List (S40), y_ = (x9_4 ++ [(⟨(wrap64 (x5_2 + x10_4)), x371001_7, (wrap64 (x5_2 + x11_4)), x371003_7⟩ : S40)]) := ⟨_, rfl⟩
                           replace H : (redpenref18_Changes.l2 kj53 x5_2 y357 y361 y371 x10_7 x11_7) = some r := by first | (rw [hy371]; with_reducible exact H) | (have H2_ := (Option.bind_some _ _).symm.trans H; rw [hy371]; with_reducible exact H2_) | (have H2_ := (Option.bind_some _ _).symm.trans H; with_reducible exact H2_) | with_reducible exact H | (rw [hy371]; exact H) | exact H
                           have Ny371 := Aside0.mk hy371
                           clear hy371
                           have H' := Aside0.mk H
                           clear H
                           have hcz105_0 : wc.cell? ⟨gb370, 0, none⟩ = some (.int .i64 (wrap64 (x5_2 + x10_4))) := (blk_cell BK370.out 0).trans rfl
                           have hcz105_1 : wc.cell? ⟨gb370, 1, none⟩ = some (.int .i64 x371001_7) := (blk_cell BK370.out 1).trans rfl
                           have hcz105_2 : wc.cell? ⟨gb370, 2, none⟩ = some (.int .i64 (wrap64 (x5_2 + x11_4))) := (blk_cell BK370.out 2).trans rfl
                           have hcz105_3 : wc.cell? ⟨gb370, 3, none⟩ = some (.int .i64 x371003_7) := (blk_cell BK370.out 3).trans rfl
                           have hfz105_0 := blk_frozen BK370.out 0
                           have hfz105_1 := blk_frozen BK370.out 1
                           have hfz105_2 := blk_frozen BK370.out 2
                           have hfz105_3 := blk_frozen BK370.out 3
                           go_wp2_with (first | ((with_reducible refine gate_builtin (b := .append) (xs := #[.tmp 215, .tmp 217]) rfl ?_); (try (refine gate_guard (by rfl) ?_; dsimp only)); at_builtin; refine Kd.R_append k40 (w0 := w) w.heap.size rfl (.tmp 215) (.tmp 217) 36 40 (.agg #[(.int .i64 0), (.int .i64 0), (.int .i64 0), (.int .i64 0)]) 32 rfl Try.underlying36 info40 rfl (by decide) (by omega) u9 x9_4 (⟨(wrap64 (x5_2 + x10_4)), x371001_7, (wrap64 (x5_2 + x11_4)), x371003_7⟩ : S40) [.int .i64 (wrap64 (x5_2 + x10_4)), .int .i64 x371001_7, .int .i64 (wrap64 (x5_2 + x11_4)), .int .i64 x371003_7] (fun k_ => k_ ≠ gb370) (fun _ => False) rfl rfl ?aP (fun _ hk => hk.elim) ?aF ?aO ?aB ?aS ?aL ?_; (case aP => exact k40_mkM _ _ _ (⟨(wrap64 (x5_2 + x10_4)), x371001_7, (wrap64 (x5_2 + x11_4)), x371003_7⟩ : S40)); (case aB => exact (by repeat (first | (with_reducible first | exact HB.out | apply below_alloc | apply pw_below_drewN | apply below_drew1 | refine below_set ?_ GE370.out) | exact HB.out))); (case aF => exact (fun k_ hk => Kd.freshB (g := gb370) (o := .cells #[.int .i64 (wrap64 (x5_2 + x10_4)), .int .i64 x371001_7, .int .i64 (wrap64 (x5_2 + x11_4)), .int .i64 x371003_7] 40 (0, 0)) (by (with_reducible repeat (first | refine blk_drewN ?_ _ | refine blk_drew ?_ | refine blk_alloc ?_ _)); exact BK370.out) k_ hk)); (case aO => exact (by (with_reducible repeat (first | apply Kd.R_alloc | apply Kd.R_drewN | apply Kd.R_drew)); exact HO_9.out)); (case aS => exact (below_size (by repeat (first | (with_reducible first | exact HB.out | apply below_alloc | apply pw_below_drewN | apply below_drew1 | refine below_set ?_ GE370.out) | exact HB.out)))); (case aL => have := LMc104.out; omega); intro v372 w106 ho hb hg hat; rw [← Ny371.out] at ho; have n0_ := Aside0.mk (blk_grown (g := gb370) (o := .cells #[.int .i64 (wrap64 (x5_2 + x10_4)), .int .i64 x371001_7, .int .i64 (wrap64 (x5_2 + x11_4)), .int .i64 x371003_7] 40 (0, 0)) (by (with_reducible repeat (first | refine blk_drewN ?_ _ | refine blk_drew ?_ | refine blk_alloc ?_ _)); exact BK370.out) hg (Kd.R_away HO_9.out (fun _ hk => hk))); have n1_ := Aside0.mk (hb); have n2_ := Aside0.mk (ho); clear BK370; clear HB; clear HO_9; have BK370 := n0_; have HB := n1_; have HO373 := n2_; clear n0_ n1_ n2_; clear ho hb hg hat))
                           go_roundg kj53
                           case measure => have := HJ2.out; have := HJ11.out; have := HJ31.out; have := HK4.out; have := HJ39.out; have := HJ42.out; have := HK7.out; have := HJ53.out; omega
                           case rel => exact ⟨(y371), (x10_7), (x11_7), (by first | rfl | (simp; done) | (simp [*]; done)), (by first | rfl | (simp; done) | (simp [*]; done)), H', ⟨by have := HJ2.out; have := HJ11.out; have := HJ31.out; have := HK4.out; have := HJ39.out; have := HJ42.out; have := HK7.out; have := HJ53.out; omega⟩, ⟨by (with_reducible repeat (first | apply Kd.R_alloc | apply Kd.R_drewN | apply Kd.R_drew)); exact Kd.R_mono HO373.out (fun _ hk => trivial)⟩, ⟨by repeat (first | (with_reducible first | exact HB.out | apply below_alloc | apply pw_below_drewN | apply below_drew1 | refine below_set ?_ GE370.out) | exact HB.out)⟩⟩
                          ·rw [if_neg c104] at H
                           exact absurd H (by simp)
                 ·replace c42 := Bool.eq_false_iff.mpr c42
                  subst c42
                  have H1 : (some x9_4) = some r := by rw [if_neg (show ¬ (false = true) by decide)] at H; exact H
                  clear H
                  have H := H1
                  clear H1
                  obtain rfl := Option.some.inj H
                  go_wp2
                  go_ret
                  exact ⟨_, by first | rfl | (simp [errW_none, errW_some] <;> rfl) | (simp [*, errW_none, errW_some] <;> rfl), by (with_reducible repeat (first | apply Kd.R_alloc | apply Kd.R_drewN | apply Kd.R_drew)); exact HO_9.out, by repeat (first | (with_reducible first | exact HB.out | apply below_alloc | apply pw_below_drewN | apply below_drew1) | exact HB.out)⟩
         ·rw [if_neg c31] at H
          exact absurd H (by simp)
        ·rw [if_neg c30] at H
         exact absurd H (by simp)
       ·rw [if_neg c28] at H
        exact absurd H (by simp)
      ·rw [if_neg c27] at H
       exact absurd H (by simp)
     ·rw [if_neg c26] at H
      exact absurd H (by simp)

end Go.Proofs.Ytokgkhndhlcfpaa.PHunksChanges
