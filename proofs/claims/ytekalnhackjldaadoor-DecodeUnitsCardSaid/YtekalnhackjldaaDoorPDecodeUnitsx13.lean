-- Laid by a program of ours (the kit's print with words and contracts of our own beside it).
import Derived.Test.YtekalnhackjldaaDoorPDecodeUnitsx0
import Derived.Test.YtekalnhackjldaaDoorPDecodeUnitsx9
import Derived.Test.YtekalnhackjldaaDoorPDecodeUnitsx10
import Derived.Test.YtekalnhackjldaaDoorPDecodeUnitsx11
import Derived.Test.YtekalnhackjldaaDoorPDecodeUnitsx12
namespace Go.Proofs.YtekalnhackjldaaDoor.PDecodeUnits
open Go.RowKit Go.Proofs.YtekalnhackjldaaDoor.X Go.Proofs.YtekalnhackjldaaDoorW.PrintWords Go.Proofs.YtekalnhackjldaaDoorW.PrintLast Go.Proofs.YtekalnhackjldaaDoorW.PrintMore
attribute [local go_sem] max2_int min2_int max_two min_two max_three min_three max_four min_four   -- for this text's walks alone
set_option linter.unusedVariables false
set_option linter.unusedSimpArgs false

/-! ### redpenref15_Units: function 20 -/
mutual
def redpenref15_Units.l0 : Nat → Int → List Int → List (S45) → Int → Int → Int → Int → Int → Option ((List (S45)) × Bool)
 | 0, _, _, _, _, _, _, _, _ => none
 | k + 1, x0, x1, x8, x9, x10, x215000, x215001, x215002 => if x10 < x9 then (if 0 ≤ x10 then (if x10 ≤ x9 then (if x9 ≤ (x1.length : Int) then ((some ((x1.take (x9 : Int).toNat).drop (x10 : Int).toNat : List Int)).bind fun y216 => ((redpenref01_Next.f k y216).bind fun bt220 => (if x215000 = 1 then (if x0 = 1 then (redpenref15_Units.j1 k x0 x1 x8 x9 x10 y216 bt220.1 bt220.2 (x215000 == 1) true x215000 x215001 x215002) else (redpenref15_Units.j1 k x0 x1 x8 x9 x10 y216 bt220.1 bt220.2 (x215000 == 1) (x0 == 2) x215000 x215001 x215002)) else (redpenref15_Units.j1 k x0 x1 x8 x9 x10 y216 bt220.1 bt220.2 (x215000 == 1) false x215000 x215001 x215002)))) else (none)) else (none)) else (none)) else (some (x8, true))
def redpenref15_Units.j1 : Nat → Int → List Int → List (S45) → Int → Int → List Int → Int → Int → Bool → Bool → Int → Int → Int → Option ((List (S45)) × Bool)
 | 0, _, _, _, _, _, _, _, _, _, _, _, _, _ => none
 | k + 1, x0, x1, x8, x9, x10, x11, x12, x13, x14, x60, x215000, x215001, x215002 => if x60 = true then ((redpenref15_Entity.f k x11).bind fun bt222 => (if bt222.2.2 = true then (redpenref15_Units.j2 k x0 x1 x8 x9 x10 x11 bt222.1 bt222.2.1 x14 x215000 x215001 x215002) else (redpenref15_Units.j2 k x0 x1 x8 x9 x10 x11 x12 x13 x14 x215000 x215001 x215002))) else (redpenref15_Units.j2 k x0 x1 x8 x9 x10 x11 x12 x13 x14 x215000 x215001 x215002)
def redpenref15_Units.j2 : Nat → Int → List Int → List (S45) → Int → Int → List Int → Int → Int → Bool → Int → Int → Int → Option ((List (S45)) × Bool)
 | 0, _, _, _, _, _, _, _, _, _, _, _, _ => none
 | k + 1, x0, x1, x8, x9, x10, x11, x12, x13, x14, x215000, x215001, x215002 => if x14 = true then (if x0 = 2 then (if 0 < (x11.length : Int) then (if (rd x11 0) = 92 then (if (x11.length : Int) > 1 then (if 1 < (x11.length : Int) then ((redpenref15_sign.f (rd x11 1)).bind fun t227 => (redpenref15_Units.j3 k x0 x1 x8 x9 x10 x11 x12 x13 t227 x215000 x215001 x215002)) else (none)) else (redpenref15_Units.j3 k x0 x1 x8 x9 x10 x11 x12 x13 false x215000 x215001 x215002)) else (redpenref15_Units.j3 k x0 x1 x8 x9 x10 x11 x12 x13 false x215000 x215001 x215002)) else (none)) else (redpenref15_Units.j3 k x0 x1 x8 x9 x10 x11 x12 x13 false x215000 x215001 x215002)) else (redpenref15_Units.j3 k x0 x1 x8 x9 x10 x11 x12 x13 false x215000 x215001 x215002)
def redpenref15_Units.j3 : Nat → Int → List Int → List (S45) → Int → Int → List Int → Int → Int → Bool → Int → Int → Int → Option ((List (S45)) × Bool)
 | 0, _, _, _, _, _, _, _, _, _, _, _, _ => none
 | k + 1, x0, x1, x8, x9, x10, x11, x12, x13, x91, x215000, x215001, x215002 => if x91 = true then (if 1 < (x11.length : Int) then (redpenref15_Units.j4 k x0 x1 x8 x9 x10 x11 (wrap32 (rd x11 1)) 2 x215000 x215001 x215002) else (none)) else (redpenref15_Units.j4 k x0 x1 x8 x9 x10 x11 x12 x13 x215000 x215001 x215002)
def redpenref15_Units.j4 : Nat → Int → List Int → List (S45) → Int → Int → List Int → Int → Int → Int → Int → Int → Option ((List (S45)) × Bool)
 | 0, _, _, _, _, _, _, _, _, _, _, _ => none
 | k + 1, x0, x1, x8, x9, x10, x11, x12, x13, x215000, x215001, x215002 => if x215000 = 5 then (if x0 = 8 then (if (x11.length : Int) > 1 then (if 0 < (x11.length : Int) then (if (rd x11 0) = 39 then (if 1 < (x11.length : Int) then (redpenref15_Units.j5 k x0 x1 x8 x9 x10 x11 x12 x13 ((rd x11 1) == 39) x215000 x215001 x215002) else (none)) else (redpenref15_Units.j5 k x0 x1 x8 x9 x10 x11 x12 x13 false x215000 x215001 x215002)) else (none)) else (redpenref15_Units.j5 k x0 x1 x8 x9 x10 x11 x12 x13 false x215000 x215001 x215002)) else (redpenref15_Units.j5 k x0 x1 x8 x9 x10 x11 x12 x13 false x215000 x215001 x215002)) else (redpenref15_Units.j5 k x0 x1 x8 x9 x10 x11 x12 x13 false x215000 x215001 x215002)
def redpenref15_Units.j5 : Nat → Int → List Int → List (S45) → Int → Int → List Int → Int → Int → Bool → Int → Int → Int → Option ((List (S45)) × Bool)
 | 0, _, _, _, _, _, _, _, _, _, _, _, _ => none
 | k + 1, x0, x1, x8, x9, x10, x11, x12, x13, x119, x215000, x215001, x215002 => if x119 = true then (redpenref15_Units.j6 k x0 x1 x8 x9 x10 x11 39 2 x215000 x215001 x215002) else (redpenref15_Units.j6 k x0 x1 x8 x9 x10 x11 x12 x13 x215000 x215001 x215002)
def redpenref15_Units.j6 : Nat → Int → List Int → List (S45) → Int → Int → List Int → Int → Int → Int → Int → Int → Option ((List (S45)) × Bool)
 | 0, _, _, _, _, _, _, _, _, _, _, _ => none
 | k + 1, x0, x1, x8, x9, x10, x11, x12, x13, x215000, x215001, x215002 => if x215000 = 5 then (if x0 ≥ 4 then (redpenref15_Units.j7 k x0 x1 x8 x9 x10 x11 x12 x13 (decide (x0 ≤ 7)) x215000 x215001 x215002) else (redpenref15_Units.j7 k x0 x1 x8 x9 x10 x11 x12 x13 false x215000 x215001 x215002)) else (redpenref15_Units.j7 k x0 x1 x8 x9 x10 x11 x12 x13 false x215000 x215001 x215002)
def redpenref15_Units.j7 : Nat → Int → List Int → List (S45) → Int → Int → List Int → Int → Int → Bool → Int → Int → Int → Option ((List (S45)) × Bool)
 | 0, _, _, _, _, _, _, _, _, _, _, _, _ => none
 | k + 1, x0, x1, x8, x9, x10, x11, x12, x13, x130, x215000, x215001, x215002 => if x130 = true then ((redpenref15_Escape.f k x0 x11).bind fun bt231 => (if bt231.2.2 = true then (if x8.length < 5864062014805 then (redpenref15_Units.l0 k x0 x1 (x8 ++ [(⟨bt231.1, (⟨x10, bt231.2.1⟩ : S40)⟩ : S45)]) x9 (wrap64 (x10 + bt231.2.1)) x215000 x215001 x215002) else (none)) else (if x8.length < 5864062014805 then (redpenref15_Units.l0 k x0 x1 (x8 ++ [(⟨x12, (⟨x10, x13⟩ : S40)⟩ : S45)]) x9 (wrap64 (x10 + x13)) x215000 x215001 x215002) else (none)))) else (if x8.length < 5864062014805 then (redpenref15_Units.l0 k x0 x1 (x8 ++ [(⟨x12, (⟨x10, x13⟩ : S40)⟩ : S45)]) x9 (wrap64 (x10 + x13)) x215000 x215001 x215002) else (none))
end
def redpenref15_Units.f (k : Nat) (a0 : Int) (l1 : List Int) (a2_0 : Int) (a2_1 : Int) (a2_2 : Int) : Option ((List (S45)) × Bool) := (redpenref01_In.f a2_1 a2_2 (l1.length : Int)).bind fun t215 => (if t215 = true then (redpenref15_Units.l0 k a0 l1 ([] : List (S45)) (wrap64 (a2_1 + a2_2)) a2_1 a2_0 a2_1 a2_2) else (some (([] : List (S45)), false)))
theorem redpenref15_Units.mono_l : ∀ k, (∀ y0 y1 y2 y3 y4 y5 y6 y7, LeO (redpenref15_Units.l0 k y0 y1 y2 y3 y4 y5 y6 y7) (redpenref15_Units.l0 (k + 1) y0 y1 y2 y3 y4 y5 y6 y7)) ∧ (∀ y0 y1 y2 y3 y4 y5 y6 y7 y8 y9 y10 y11 y12, LeO (redpenref15_Units.j1 k y0 y1 y2 y3 y4 y5 y6 y7 y8 y9 y10 y11 y12) (redpenref15_Units.j1 (k + 1) y0 y1 y2 y3 y4 y5 y6 y7 y8 y9 y10 y11 y12)) ∧ (∀ y0 y1 y2 y3 y4 y5 y6 y7 y8 y9 y10 y11, LeO (redpenref15_Units.j2 k y0 y1 y2 y3 y4 y5 y6 y7 y8 y9 y10 y11) (redpenref15_Units.j2 (k + 1) y0 y1 y2 y3 y4 y5 y6 y7 y8 y9 y10 y11)) ∧ (∀ y0 y1 y2 y3 y4 y5 y6 y7 y8 y9 y10 y11, LeO (redpenref15_Units.j3 k y0 y1 y2 y3 y4 y5 y6 y7 y8 y9 y10 y11) (redpenref15_Units.j3 (k + 1) y0 y1 y2 y3 y4 y5 y6 y7 y8 y9 y10 y11)) ∧ (∀ y0 y1 y2 y3 y4 y5 y6 y7 y8 y9 y10, LeO (redpenref15_Units.j4 k y0 y1 y2 y3 y4 y5 y6 y7 y8 y9 y10) (redpenref15_Units.j4 (k + 1) y0 y1 y2 y3 y4 y5 y6 y7 y8 y9 y10)) ∧ (∀ y0 y1 y2 y3 y4 y5 y6 y7 y8 y9 y10 y11, LeO (redpenref15_Units.j5 k y0 y1 y2 y3 y4 y5 y6 y7 y8 y9 y10 y11) (redpenref15_Units.j5 (k + 1) y0 y1 y2 y3 y4 y5 y6 y7 y8 y9 y10 y11)) ∧ (∀ y0 y1 y2 y3 y4 y5 y6 y7 y8 y9 y10, LeO (redpenref15_Units.j6 k y0 y1 y2 y3 y4 y5 y6 y7 y8 y9 y10) (redpenref15_Units.j6 (k + 1) y0 y1 y2 y3 y4 y5 y6 y7 y8 y9 y10)) ∧ (∀ y0 y1 y2 y3 y4 y5 y6 y7 y8 y9 y10 y11, LeO (redpenref15_Units.j7 k y0 y1 y2 y3 y4 y5 y6 y7 y8 y9 y10 y11) (redpenref15_Units.j7 (k + 1) y0 y1 y2 y3 y4 y5 y6 y7 y8 y9 y10 y11))
 | 0 => ⟨fun _ _ _ _ _ _ _ _ r h => by simp [redpenref15_Units.l0] at h, fun _ _ _ _ _ _ _ _ _ _ _ _ _ r h => by simp [redpenref15_Units.j1] at h, fun _ _ _ _ _ _ _ _ _ _ _ _ r h => by simp [redpenref15_Units.j2] at h, fun _ _ _ _ _ _ _ _ _ _ _ _ r h => by simp [redpenref15_Units.j3] at h, fun _ _ _ _ _ _ _ _ _ _ _ r h => by simp [redpenref15_Units.j4] at h, fun _ _ _ _ _ _ _ _ _ _ _ _ r h => by simp [redpenref15_Units.j5] at h, fun _ _ _ _ _ _ _ _ _ _ _ r h => by simp [redpenref15_Units.j6] at h, fun _ _ _ _ _ _ _ _ _ _ _ _ r h => by simp [redpenref15_Units.j7] at h⟩
 | k + 1 => by
  obtain ⟨ih0, ih1, ih2, ih3, ih4, ih5, ih6, ih7⟩ := redpenref15_Units.mono_l k
  refine ⟨?_, ?_, ?_, ?_, ?_, ?_, ?_, ?_⟩
  ·intro y0 y1 y2 y3 y4 y5 y6 y7
   unfold redpenref15_Units.l0
   repeat' first
   | (with_reducible exact ih0 _ _ _ _ _ _ _ _)
   | (with_reducible exact ih1 _ _ _ _ _ _ _ _ _ _ _ _ _)
   | (with_reducible exact ih2 _ _ _ _ _ _ _ _ _ _ _ _)
   | (with_reducible exact ih3 _ _ _ _ _ _ _ _ _ _ _ _)
   | (with_reducible exact ih4 _ _ _ _ _ _ _ _ _ _ _)
   | (with_reducible exact ih5 _ _ _ _ _ _ _ _ _ _ _ _)
   | (with_reducible exact ih6 _ _ _ _ _ _ _ _ _ _ _)
   | (with_reducible exact ih7 _ _ _ _ _ _ _ _ _ _ _ _)
   | (with_reducible exact redpenref01_Next.mono _ _)
   | (with_reducible exact redpenref15_Entity.mono _ _)
   | (with_reducible exact redpenref15_Escape.mono _ _ _)
   | (with_reducible exact LeO.refl _)
   | (with_reducible exact LeO.none _)
   | (with_reducible refine LeO.ite ?_ ?_)
   | (with_reducible refine LeO.bind ?_ (fun _ => ?_))
   | exact ih0 _ _ _ _ _ _ _ _
   | exact ih1 _ _ _ _ _ _ _ _ _ _ _ _ _
   | exact ih2 _ _ _ _ _ _ _ _ _ _ _ _
   | exact ih3 _ _ _ _ _ _ _ _ _ _ _ _
   | exact ih4 _ _ _ _ _ _ _ _ _ _ _
   | exact ih5 _ _ _ _ _ _ _ _ _ _ _ _
   | exact ih6 _ _ _ _ _ _ _ _ _ _ _
   | exact ih7 _ _ _ _ _ _ _ _ _ _ _ _
   | exact redpenref01_Next.mono _ _
   | exact redpenref15_Entity.mono _ _
   | exact redpenref15_Escape.mono _ _ _
   | exact LeO.none _
   | refine LeO.ite ?_ ?_
   | refine LeO.bind ?_ (fun _ => ?_)
  ·intro y0 y1 y2 y3 y4 y5 y6 y7 y8 y9 y10 y11 y12
   unfold redpenref15_Units.j1
   repeat' first
   | (with_reducible exact ih0 _ _ _ _ _ _ _ _)
   | (with_reducible exact ih1 _ _ _ _ _ _ _ _ _ _ _ _ _)
   | (with_reducible exact ih2 _ _ _ _ _ _ _ _ _ _ _ _)
   | (with_reducible exact ih3 _ _ _ _ _ _ _ _ _ _ _ _)
   | (with_reducible exact ih4 _ _ _ _ _ _ _ _ _ _ _)
   | (with_reducible exact ih5 _ _ _ _ _ _ _ _ _ _ _ _)
   | (with_reducible exact ih6 _ _ _ _ _ _ _ _ _ _ _)
   | (with_reducible exact ih7 _ _ _ _ _ _ _ _ _ _ _ _)
   | (with_reducible exact redpenref01_Next.mono _ _)
   | (with_reducible exact redpenref15_Entity.mono _ _)
   | (with_reducible exact redpenref15_Escape.mono _ _ _)
   | (with_reducible exact LeO.refl _)
   | (with_reducible exact LeO.none _)
   | (with_reducible refine LeO.ite ?_ ?_)
   | (with_reducible refine LeO.bind ?_ (fun _ => ?_))
   | exact ih0 _ _ _ _ _ _ _ _
   | exact ih1 _ _ _ _ _ _ _ _ _ _ _ _ _
   | exact ih2 _ _ _ _ _ _ _ _ _ _ _ _
   | exact ih3 _ _ _ _ _ _ _ _ _ _ _ _
   | exact ih4 _ _ _ _ _ _ _ _ _ _ _
   | exact ih5 _ _ _ _ _ _ _ _ _ _ _ _
   | exact ih6 _ _ _ _ _ _ _ _ _ _ _
   | exact ih7 _ _ _ _ _ _ _ _ _ _ _ _
   | exact redpenref01_Next.mono _ _
   | exact redpenref15_Entity.mono _ _
   | exact redpenref15_Escape.mono _ _ _
   | exact LeO.none _
   | refine LeO.ite ?_ ?_
   | refine LeO.bind ?_ (fun _ => ?_)
  ·intro y0 y1 y2 y3 y4 y5 y6 y7 y8 y9 y10 y11
   unfold redpenref15_Units.j2
   repeat' first
   | (with_reducible exact ih0 _ _ _ _ _ _ _ _)
   | (with_reducible exact ih1 _ _ _ _ _ _ _ _ _ _ _ _ _)
   | (with_reducible exact ih2 _ _ _ _ _ _ _ _ _ _ _ _)
   | (with_reducible exact ih3 _ _ _ _ _ _ _ _ _ _ _ _)
   | (with_reducible exact ih4 _ _ _ _ _ _ _ _ _ _ _)
   | (with_reducible exact ih5 _ _ _ _ _ _ _ _ _ _ _ _)
   | (with_reducible exact ih6 _ _ _ _ _ _ _ _ _ _ _)
   | (with_reducible exact ih7 _ _ _ _ _ _ _ _ _ _ _ _)
   | (with_reducible exact redpenref01_Next.mono _ _)
   | (with_reducible exact redpenref15_Entity.mono _ _)
   | (with_reducible exact redpenref15_Escape.mono _ _ _)
   | (with_reducible exact LeO.refl _)
   | (with_reducible exact LeO.none _)
   | (with_reducible refine LeO.ite ?_ ?_)
   | (with_reducible refine LeO.bind ?_ (fun _ => ?_))
   | exact ih0 _ _ _ _ _ _ _ _
   | exact ih1 _ _ _ _ _ _ _ _ _ _ _ _ _
   | exact ih2 _ _ _ _ _ _ _ _ _ _ _ _
   | exact ih3 _ _ _ _ _ _ _ _ _ _ _ _
   | exact ih4 _ _ _ _ _ _ _ _ _ _ _
   | exact ih5 _ _ _ _ _ _ _ _ _ _ _ _
   | exact ih6 _ _ _ _ _ _ _ _ _ _ _
   | exact ih7 _ _ _ _ _ _ _ _ _ _ _ _
   | exact redpenref01_Next.mono _ _
   | exact redpenref15_Entity.mono _ _
   | exact redpenref15_Escape.mono _ _ _
   | exact LeO.none _
   | refine LeO.ite ?_ ?_
   | refine LeO.bind ?_ (fun _ => ?_)
  ·intro y0 y1 y2 y3 y4 y5 y6 y7 y8 y9 y10 y11
   unfold redpenref15_Units.j3
   repeat' first
   | (with_reducible exact ih0 _ _ _ _ _ _ _ _)
   | (with_reducible exact ih1 _ _ _ _ _ _ _ _ _ _ _ _ _)
   | (with_reducible exact ih2 _ _ _ _ _ _ _ _ _ _ _ _)
   | (with_reducible exact ih3 _ _ _ _ _ _ _ _ _ _ _ _)
   | (with_reducible exact ih4 _ _ _ _ _ _ _ _ _ _ _)
   | (with_reducible exact ih5 _ _ _ _ _ _ _ _ _ _ _ _)
   | (with_reducible exact ih6 _ _ _ _ _ _ _ _ _ _ _)
   | (with_reducible exact ih7 _ _ _ _ _ _ _ _ _ _ _ _)
   | (with_reducible exact redpenref01_Next.mono _ _)
   | (with_reducible exact redpenref15_Entity.mono _ _)
   | (with_reducible exact redpenref15_Escape.mono _ _ _)
   | (with_reducible exact LeO.refl _)
   | (with_reducible exact LeO.none _)
   | (with_reducible refine LeO.ite ?_ ?_)
   | (with_reducible refine LeO.bind ?_ (fun _ => ?_))
   | exact ih0 _ _ _ _ _ _ _ _
   | exact ih1 _ _ _ _ _ _ _ _ _ _ _ _ _
   | exact ih2 _ _ _ _ _ _ _ _ _ _ _ _
   | exact ih3 _ _ _ _ _ _ _ _ _ _ _ _
   | exact ih4 _ _ _ _ _ _ _ _ _ _ _
   | exact ih5 _ _ _ _ _ _ _ _ _ _ _ _
   | exact ih6 _ _ _ _ _ _ _ _ _ _ _
   | exact ih7 _ _ _ _ _ _ _ _ _ _ _ _
   | exact redpenref01_Next.mono _ _
   | exact redpenref15_Entity.mono _ _
   | exact redpenref15_Escape.mono _ _ _
   | exact LeO.none _
   | refine LeO.ite ?_ ?_
   | refine LeO.bind ?_ (fun _ => ?_)
  ·intro y0 y1 y2 y3 y4 y5 y6 y7 y8 y9 y10
   unfold redpenref15_Units.j4
   repeat' first
   | (with_reducible exact ih0 _ _ _ _ _ _ _ _)
   | (with_reducible exact ih1 _ _ _ _ _ _ _ _ _ _ _ _ _)
   | (with_reducible exact ih2 _ _ _ _ _ _ _ _ _ _ _ _)
   | (with_reducible exact ih3 _ _ _ _ _ _ _ _ _ _ _ _)
   | (with_reducible exact ih4 _ _ _ _ _ _ _ _ _ _ _)
   | (with_reducible exact ih5 _ _ _ _ _ _ _ _ _ _ _ _)
   | (with_reducible exact ih6 _ _ _ _ _ _ _ _ _ _ _)
   | (with_reducible exact ih7 _ _ _ _ _ _ _ _ _ _ _ _)
   | (with_reducible exact redpenref01_Next.mono _ _)
   | (with_reducible exact redpenref15_Entity.mono _ _)
   | (with_reducible exact redpenref15_Escape.mono _ _ _)
   | (with_reducible exact LeO.refl _)
   | (with_reducible exact LeO.none _)
   | (with_reducible refine LeO.ite ?_ ?_)
   | (with_reducible refine LeO.bind ?_ (fun _ => ?_))
   | exact ih0 _ _ _ _ _ _ _ _
   | exact ih1 _ _ _ _ _ _ _ _ _ _ _ _ _
   | exact ih2 _ _ _ _ _ _ _ _ _ _ _ _
   | exact ih3 _ _ _ _ _ _ _ _ _ _ _ _
   | exact ih4 _ _ _ _ _ _ _ _ _ _ _
   | exact ih5 _ _ _ _ _ _ _ _ _ _ _ _
   | exact ih6 _ _ _ _ _ _ _ _ _ _ _
   | exact ih7 _ _ _ _ _ _ _ _ _ _ _ _
   | exact redpenref01_Next.mono _ _
   | exact redpenref15_Entity.mono _ _
   | exact redpenref15_Escape.mono _ _ _
   | exact LeO.none _
   | refine LeO.ite ?_ ?_
   | refine LeO.bind ?_ (fun _ => ?_)
  ·intro y0 y1 y2 y3 y4 y5 y6 y7 y8 y9 y10 y11
   unfold redpenref15_Units.j5
   repeat' first
   | (with_reducible exact ih0 _ _ _ _ _ _ _ _)
   | (with_reducible exact ih1 _ _ _ _ _ _ _ _ _ _ _ _ _)
   | (with_reducible exact ih2 _ _ _ _ _ _ _ _ _ _ _ _)
   | (with_reducible exact ih3 _ _ _ _ _ _ _ _ _ _ _ _)
   | (with_reducible exact ih4 _ _ _ _ _ _ _ _ _ _ _)
   | (with_reducible exact ih5 _ _ _ _ _ _ _ _ _ _ _ _)
   | (with_reducible exact ih6 _ _ _ _ _ _ _ _ _ _ _)
   | (with_reducible exact ih7 _ _ _ _ _ _ _ _ _ _ _ _)
   | (with_reducible exact redpenref01_Next.mono _ _)
   | (with_reducible exact redpenref15_Entity.mono _ _)
   | (with_reducible exact redpenref15_Escape.mono _ _ _)
   | (with_reducible exact LeO.refl _)
   | (with_reducible exact LeO.none _)
   | (with_reducible refine LeO.ite ?_ ?_)
   | (with_reducible refine LeO.bind ?_ (fun _ => ?_))
   | exact ih0 _ _ _ _ _ _ _ _
   | exact ih1 _ _ _ _ _ _ _ _ _ _ _ _ _
   | exact ih2 _ _ _ _ _ _ _ _ _ _ _ _
   | exact ih3 _ _ _ _ _ _ _ _ _ _ _ _
   | exact ih4 _ _ _ _ _ _ _ _ _ _ _
   | exact ih5 _ _ _ _ _ _ _ _ _ _ _ _
   | exact ih6 _ _ _ _ _ _ _ _ _ _ _
   | exact ih7 _ _ _ _ _ _ _ _ _ _ _ _
   | exact redpenref01_Next.mono _ _
   | exact redpenref15_Entity.mono _ _
   | exact redpenref15_Escape.mono _ _ _
   | exact LeO.none _
   | refine LeO.ite ?_ ?_
   | refine LeO.bind ?_ (fun _ => ?_)
  ·intro y0 y1 y2 y3 y4 y5 y6 y7 y8 y9 y10
   unfold redpenref15_Units.j6
   repeat' first
   | (with_reducible exact ih0 _ _ _ _ _ _ _ _)
   | (with_reducible exact ih1 _ _ _ _ _ _ _ _ _ _ _ _ _)
   | (with_reducible exact ih2 _ _ _ _ _ _ _ _ _ _ _ _)
   | (with_reducible exact ih3 _ _ _ _ _ _ _ _ _ _ _ _)
   | (with_reducible exact ih4 _ _ _ _ _ _ _ _ _ _ _)
   | (with_reducible exact ih5 _ _ _ _ _ _ _ _ _ _ _ _)
   | (with_reducible exact ih6 _ _ _ _ _ _ _ _ _ _ _)
   | (with_reducible exact ih7 _ _ _ _ _ _ _ _ _ _ _ _)
   | (with_reducible exact redpenref01_Next.mono _ _)
   | (with_reducible exact redpenref15_Entity.mono _ _)
   | (with_reducible exact redpenref15_Escape.mono _ _ _)
   | (with_reducible exact LeO.refl _)
   | (with_reducible exact LeO.none _)
   | (with_reducible refine LeO.ite ?_ ?_)
   | (with_reducible refine LeO.bind ?_ (fun _ => ?_))
   | exact ih0 _ _ _ _ _ _ _ _
   | exact ih1 _ _ _ _ _ _ _ _ _ _ _ _ _
   | exact ih2 _ _ _ _ _ _ _ _ _ _ _ _
   | exact ih3 _ _ _ _ _ _ _ _ _ _ _ _
   | exact ih4 _ _ _ _ _ _ _ _ _ _ _
   | exact ih5 _ _ _ _ _ _ _ _ _ _ _ _
   | exact ih6 _ _ _ _ _ _ _ _ _ _ _
   | exact ih7 _ _ _ _ _ _ _ _ _ _ _ _
   | exact redpenref01_Next.mono _ _
   | exact redpenref15_Entity.mono _ _
   | exact redpenref15_Escape.mono _ _ _
   | exact LeO.none _
   | refine LeO.ite ?_ ?_
   | refine LeO.bind ?_ (fun _ => ?_)
  ·intro y0 y1 y2 y3 y4 y5 y6 y7 y8 y9 y10 y11
   unfold redpenref15_Units.j7
   repeat' first
   | (with_reducible exact ih0 _ _ _ _ _ _ _ _)
   | (with_reducible exact ih1 _ _ _ _ _ _ _ _ _ _ _ _ _)
   | (with_reducible exact ih2 _ _ _ _ _ _ _ _ _ _ _ _)
   | (with_reducible exact ih3 _ _ _ _ _ _ _ _ _ _ _ _)
   | (with_reducible exact ih4 _ _ _ _ _ _ _ _ _ _ _)
   | (with_reducible exact ih5 _ _ _ _ _ _ _ _ _ _ _ _)
   | (with_reducible exact ih6 _ _ _ _ _ _ _ _ _ _ _)
   | (with_reducible exact ih7 _ _ _ _ _ _ _ _ _ _ _ _)
   | (with_reducible exact redpenref01_Next.mono _ _)
   | (with_reducible exact redpenref15_Entity.mono _ _)
   | (with_reducible exact redpenref15_Escape.mono _ _ _)
   | (with_reducible exact LeO.refl _)
   | (with_reducible exact LeO.none _)
   | (with_reducible refine LeO.ite ?_ ?_)
   | (with_reducible refine LeO.bind ?_ (fun _ => ?_))
   | exact ih0 _ _ _ _ _ _ _ _
   | exact ih1 _ _ _ _ _ _ _ _ _ _ _ _ _
   | exact ih2 _ _ _ _ _ _ _ _ _ _ _ _
   | exact ih3 _ _ _ _ _ _ _ _ _ _ _ _
   | exact ih4 _ _ _ _ _ _ _ _ _ _ _
   | exact ih5 _ _ _ _ _ _ _ _ _ _ _ _
   | exact ih6 _ _ _ _ _ _ _ _ _ _ _
   | exact ih7 _ _ _ _ _ _ _ _ _ _ _ _
   | exact redpenref01_Next.mono _ _
   | exact redpenref15_Entity.mono _ _
   | exact redpenref15_Escape.mono _ _ _
   | exact LeO.none _
   | refine LeO.ite ?_ ?_
   | refine LeO.bind ?_ (fun _ => ?_)
theorem redpenref15_Units.mono : ∀ a0 a1 a2 a3 a4 k, LeO (redpenref15_Units.f k a0 a1 a2 a3 a4) (redpenref15_Units.f (k + 1) a0 a1 a2 a3 a4) := by
 intro a0 a1 a2 a3 a4 k
 obtain ⟨ih0, ih1, ih2, ih3, ih4, ih5, ih6, ih7⟩ := redpenref15_Units.mono_l k
 unfold redpenref15_Units.f
 repeat' first
   | (with_reducible exact ih0 _ _ _ _ _ _ _ _)
   | (with_reducible exact ih1 _ _ _ _ _ _ _ _ _ _ _ _ _)
   | (with_reducible exact ih2 _ _ _ _ _ _ _ _ _ _ _ _)
   | (with_reducible exact ih3 _ _ _ _ _ _ _ _ _ _ _ _)
   | (with_reducible exact ih4 _ _ _ _ _ _ _ _ _ _ _)
   | (with_reducible exact ih5 _ _ _ _ _ _ _ _ _ _ _ _)
   | (with_reducible exact ih6 _ _ _ _ _ _ _ _ _ _ _)
   | (with_reducible exact ih7 _ _ _ _ _ _ _ _ _ _ _ _)
   | (with_reducible exact redpenref01_Next.mono _ _)
   | (with_reducible exact redpenref15_Entity.mono _ _)
   | (with_reducible exact redpenref15_Escape.mono _ _ _)
   | (with_reducible exact LeO.refl _)
   | (with_reducible exact LeO.none _)
   | (with_reducible refine LeO.ite ?_ ?_)
   | (with_reducible refine LeO.bind ?_ (fun _ => ?_))
   | exact ih0 _ _ _ _ _ _ _ _
   | exact ih1 _ _ _ _ _ _ _ _ _ _ _ _ _
   | exact ih2 _ _ _ _ _ _ _ _ _ _ _ _
   | exact ih3 _ _ _ _ _ _ _ _ _ _ _ _
   | exact ih4 _ _ _ _ _ _ _ _ _ _ _
   | exact ih5 _ _ _ _ _ _ _ _ _ _ _ _
   | exact ih6 _ _ _ _ _ _ _ _ _ _ _
   | exact ih7 _ _ _ _ _ _ _ _ _ _ _ _
   | exact redpenref01_Next.mono _ _
   | exact redpenref15_Entity.mono _ _
   | exact redpenref15_Escape.mono _ _ _
   | exact LeO.none _
   | refine LeO.ite ?_ ?_
   | refine LeO.bind ?_ (fun _ => ?_)
set_option maxHeartbeats 8000000 in
set_option maxRecDepth 100000 in
theorem redpenref15_Units.calls (k : Nat) (a0 : Int) (A1 : Option Addr) (c1 : Nat) (l1 : List Int) (a2_0 : Int) (a2_1 : Int) (a2_2 : Int) (r1 : List (S45)) (r2 : Bool) (w : World) (hr1 : Kd.C (Kd.int .u8) w A1 l1.length l1) (hc1 : l1.length ≤ c1) (h : redpenref15_Units.f k a0 l1 a2_0 a2_1 a2_2 = some (r1, r2)) :
  Calls Tryd.prog 20 #[.int .u8 a0, .slice A1 l1.length c1, .agg #[.int .u8 a2_0, .int .i64 a2_1, .int .i64 a2_2]] w fun e w' => ∃ v0_ : Value, e = .returned (.tuple #[v0_, .bool r2]) ∧ Kd.R k45 45 w' w.heap.size (fun _ => True) v0_ r1 ∧ Below w.heap.size w w' := by
 have hu42 := Tryd.underlying42
 have hu40 := Tryd.underlying40
 have hu45 := Tryd.underlying45
 have HR1 := Aside0.mk hr1
 have HC1 := Aside0.mk hc1
 clear hr1 hc1
 have HB := Aside0.mk (Below.refl w.heap.size w)
 have H : ((redpenref01_In.f a2_1 a2_2 (l1.length : Int)).bind fun t215 => (if t215 = true then (redpenref15_Units.l0 k a0 l1 ([] : List (S45)) (wrap64 (a2_1 + a2_2)) a2_1 a2_0 a2_1 a2_2) else (some (([] : List (S45)), false)))) = some (r1, r2) := h
 clear h
 replace H := Option.bind_eq_some_iff.mp H
 obtain ⟨t215, A40, H⟩ := H
 replace H : (if t215 = true then (redpenref15_Units.l0 k a0 l1 ([] : List (S45)) (wrap64 (a2_1 + a2_2)) a2_1 a2_0 a2_1 a2_2) else (some (([] : List (S45)), false))) = some (r1, r2) := H
 have A4 := Aside0.mk A40
 clear A40
 by_cases c5 : t215 = true
 ·subst c5
  have H1 : (redpenref15_Units.l0 k a0 l1 ([] : List (S45)) (wrap64 (a2_1 + a2_2)) a2_1 a2_0 a2_1 a2_2) = some (r1, r2) := by rw [if_pos rfl] at H; exact H
  clear H
  have H := H1
  clear H1
  have H' := Aside0.mk H
  clear H
  go_enter Tryd.func20, Tryd.ntmps20
  go_wp2_with (first | ((with_reducible refine gate_dst (N := 5) rfl ?_); (try (refine gate_guard (by rfl) ?_; dsimp only)); refine box_event ?hg (N := 5) ?hd (cs := #[.int .u8 a2_0, .int .i64 a2_1, .int .i64 a2_2]) (t := 42) ?hr ?_; (case hd => rfl); (case hg => rfl); (case hr => first | (go_simp; done) | (go_simp; rfl)); intro gb214 hg w6 hbox hb; have n0_ := Aside0.mk (below_step (by repeat (first | (with_reducible first | exact HB.out | apply below_alloc | apply pw_below_drewN | apply below_drew1) | exact HB.out)) hb); have n1_ := Aside0.mk (hbox); have n2_ := Aside0.mk ((by rw [hg]; exact (below_size (by repeat (first | (with_reducible first | exact HB.out | apply below_alloc | apply pw_below_drewN | apply below_drew1) | exact HB.out))) : w.heap.size ≤ gb214)); have n3_ := Aside0.mk ((by rw [hg]; exact (below_size (by repeat (first | (with_reducible first | exact HB.out | apply below_alloc | apply pw_below_drewN | apply below_drew1) | exact HB.out))) : w.heap.size ≤ gb214)); clear HB; have HB := n0_; have BK214 := n1_; have GW214 := n2_; have GE214 := n3_; clear n0_ n1_ n2_ n3_; clear hb hbox hg; have hcz7_0 : w6.cell? ⟨gb214, 0, none⟩ = some (.int .u8 a2_0) := (blk_cell BK214.out 0).trans rfl; have hcz7_1 : w6.cell? ⟨gb214, 1, none⟩ = some (.int .i64 a2_1) := (blk_cell BK214.out 1).trans rfl; have hcz7_2 : w6.cell? ⟨gb214, 2, none⟩ = some (.int .i64 a2_2) := (blk_cell BK214.out 2).trans rfl; have hfz7_0 := blk_frozen BK214.out 0; have hfz7_1 := blk_frozen BK214.out 1; have hfz7_2 := blk_frozen BK214.out 2) | ((with_reducible refine gate_callee (f := 42) rfl ?_); refine goesL_ (some 25) rfl rfl Tryd.func42 (by kernel_rfl) rfl #[.agg #[.int .i64 a2_1, .int .i64 a2_2], .int .i64 (l1.length : Int)] rfl (by (try simp only [List.map_toArray, List.map_cons, List.map_nil]); first | done | rfl | (simp only [List.length_drop, List.length_take]; rfl)) ?_; (with_reducible refine (redpenref01_In.calls a2_1 a2_2 (l1.length : Int) true _ A4.out).mono ?_); rintro e w8 ⟨rfl, hb⟩; refine ⟨_, rfl, ?_⟩; have n0_ := Aside0.mk (blk_below (g := gb214) (o := .cells #[.int .u8 a2_0, .int .i64 a2_1, .int .i64 a2_2] 42 (0, 0)) (by (with_reducible repeat (first | refine blk_drewN ?_ _ | refine blk_drew ?_ | refine blk_alloc ?_ _)); exact BK214.out) hb); have n1_ := Aside0.mk (below_step (by repeat (first | (with_reducible first | exact HB.out | apply below_alloc | apply pw_below_drewN | apply below_drew1 | refine below_set ?_ GE214.out) | exact HB.out)) hb); clear BK214; clear HB; have BK214 := n0_; have HB := n1_; clear n0_ n1_; (try clear hb); (try clear hb2); (try clear hk); (try clear hi); have hcz9_0 : w8.cell? ⟨gb214, 0, none⟩ = some (.int .u8 a2_0) := (blk_cell BK214.out 0).trans rfl; have hcz9_1 : w8.cell? ⟨gb214, 1, none⟩ = some (.int .i64 a2_1) := (blk_cell BK214.out 1).trans rfl; have hcz9_2 : w8.cell? ⟨gb214, 2, none⟩ = some (.int .i64 a2_2) := (blk_cell BK214.out 2).trans rfl; have hfz9_0 := blk_frozen BK214.out 0; have hfz9_1 := blk_frozen BK214.out 1; have hfz9_2 := blk_frozen BK214.out 2))
  go_loopg [8, 10] k (fun kq v8 v10 w' => ∃ (x8_1 : List (S45)) (x10_1 : Int), v10 = .int .i64 x10_1 ∧ Aside0 (redpenref15_Units.l0 kq a0 l1 x8_1 (wrap64 (a2_1 + a2_2)) x10_1 a2_0 a2_1 a2_2 = some (r1, r2)) ∧ Aside0 (kq ≤ k) ∧ Aside0 (Kd.R k45 45 w' w.heap.size (fun _ => True) v8 x8_1) ∧ Aside0 (w'.heap[gb214]? = some (.cells #[.int .u8 a2_0, .int .i64 a2_1, .int .i64 a2_2] 42 (0, 0))) ∧ Aside0 (Below w.heap.size w w'))
  case atStart => exact ⟨(([] : List (S45))), (a2_1), (by first | rfl | (simp; done) | (simp [*]; done) | (simp [wrap64, wrap32]; done)), H', ⟨Nat.le_refl _⟩, ⟨by first | exact Kd.R_nil _ _ _ _ _ | exact Kd.N_nil _ _ _ _ _ | exact Kd.V_nil _ _ _ _ _ | exact Kd.Q_nil _ _ _ _ _ | exact Kd.S_nil _ _ _ _ _⟩, ⟨by (with_reducible repeat (first | refine blk_drewN ?_ _ | refine blk_drew ?_ | refine blk_alloc ?_ _)); exact BK214.out⟩, ⟨by repeat (first | (with_reducible first | exact HB.out | apply below_alloc | apply pw_below_drewN | apply below_drew1 | refine below_set ?_ GE214.out) | exact HB.out)⟩⟩
  case round =>
   clear H'
   (try clear c1); (try clear c2); (try clear p2); (try clear c4); (try clear c5); (try clear p6); (try clear hcz7_0); (try clear hcz7_1); (try clear hcz7_2); (try clear hcz9_0); (try clear hcz9_1); (try clear hcz9_2); (try clear hfz7_0); (try clear hfz7_1); (try clear hfz7_2); (try clear hfz9_0); (try clear hfz9_1); (try clear hfz9_2)
   obtain ⟨x8_1, x10_1, rfl, HA, HK1, HO_8, BK214, HB⟩ := hrel
   cases gk with
   | zero => exact absurd HA.out (by simp [redpenref15_Units.l0])
   | succ k1 =>
    have H := HA.out
    clear HA
    simp only [redpenref15_Units.l0] at H
    by_cases c10 : x10_1 < (wrap64 (a2_1 + a2_2))
    ·rw [if_pos c10] at H
     have c10b0 : decide (x10_1 < (wrap64 (a2_1 + a2_2))) = true := decide_eq_true c10
     clear c10
     by_cases c11 : 0 ≤ x10_1
     ·rw [if_pos c11] at H
      have c11b0 := eq_true c11
      have c11b1 : decide (0 ≤ x10_1) = true := decide_eq_true c11
      clear c11
      by_cases c12 : x10_1 ≤ (wrap64 (a2_1 + a2_2))
      ·rw [if_pos c12] at H
       have c12b0 := eq_true c12
       have c12b1 : decide (x10_1 ≤ (wrap64 (a2_1 + a2_2))) = true := decide_eq_true c12
       by_cases c13 : (wrap64 (a2_1 + a2_2)) ≤ (l1.length : Int)
       ·rw [if_pos c13] at H
        have c13b0 := eq_true c13
        have c13b1 : decide ((wrap64 (a2_1 + a2_2)) ≤ (l1.length : Int)) = true := decide_eq_true c13
        obtain ⟨y216, hy216⟩ : ∃ y_ : List Int, y_ = ((l1.take ((wrap64 (a2_1 + a2_2)) : Int).toNat).drop (x10_1 : Int).toNat) := ⟨_, rfl⟩
        replace H : ((redpenref01_Next.f k1 y216).bind fun bt220 => (if a2_0 = 1 then (if a0 = 1 then (redpenref15_Units.j1 k1 a0 l1 x8_1 (wrap64 (a2_1 + a2_2)) x10_1 y216 bt220.1 bt220.2 (a2_0 == 1) true a2_0 a2_1 a2_2) else (redpenref15_Units.j1 k1 a0 l1 x8_1 (wrap64 (a2_1 + a2_2)) x10_1 y216 bt220.1 bt220.2 (a2_0 == 1) (a0 == 2) a2_0 a2_1 a2_2)) else (redpenref15_Units.j1 k1 a0 l1 x8_1 (wrap64 (a2_1 + a2_2)) x10_1 y216 bt220.1 bt220.2 (a2_0 == 1) false a2_0 a2_1 a2_2))) = some (r1, r2) := by first | (rw [hy216]; with_reducible exact H) | (have H2_ := (Option.bind_some _ _).symm.trans H; rw [hy216]; with_reducible exact H2_) | (have H2_ := (Option.bind_some _ _).symm.trans H; with_reducible exact H2_) | with_reducible exact H | (rw [hy216]; exact H) | exact H
        have Ny216 := Aside0.mk hy216
        clear hy216
        replace H := Option.bind_eq_some_iff.mp H
        obtain ⟨⟨t220, t221⟩, A140, H⟩ := H
        replace H : (if a2_0 = 1 then (if a0 = 1 then (redpenref15_Units.j1 k1 a0 l1 x8_1 (wrap64 (a2_1 + a2_2)) x10_1 y216 t220 t221 (a2_0 == 1) true a2_0 a2_1 a2_2) else (redpenref15_Units.j1 k1 a0 l1 x8_1 (wrap64 (a2_1 + a2_2)) x10_1 y216 t220 t221 (a2_0 == 1) (a0 == 2) a2_0 a2_1 a2_2)) else (redpenref15_Units.j1 k1 a0 l1 x8_1 (wrap64 (a2_1 + a2_2)) x10_1 y216 t220 t221 (a2_0 == 1) false a2_0 a2_1 a2_2)) = some (r1, r2) := H
        have A14 := Aside0.mk A140
        clear A140
        have HC15 := Aside0.mk H
        clear H
        have q16 : ((wrap64 (a2_1 + a2_2)) : Int) ≤ ((l1.length : Int) : Int) := of_decide_eq_true (by first | (with_reducible assumption) | assumption)
        obtain ⟨i016, hi016, _, hsz16, _⟩ := info_parts info5
        have hroom16 : l1.length ≤ c1 := HC1.out
        have hC16 : Kd.C (Kd.int .u8) _ A1 l1.length l1 := HR1.out
        have ql16 : (x10_1 : Int) ≤ ((wrap64 (a2_1 + a2_2)) : Int) := of_decide_eq_true (by first | (with_reducible assumption) | assumption)
        have q016 : (0 : Int) ≤ (x10_1 : Int) := of_decide_eq_true (by first | (with_reducible assumption) | assumption)
        have hcut16 := cut_mid (P := Tryd.prog) 22 5 .i64 .i64 Tryd.underlying22 hi016 1 hsz16 A1 l1.length c1 x10_1 (wrap64 (a2_1 + a2_2)) q016 ql16 q16 hroom16
        have hr16 := Kd.C_mid (lo := (x10_1 : Int).toNat) (hi := ((wrap64 (a2_1 + a2_2)) : Int).toNat) (c := c1) hC16 (by omega) (by omega) hroom16
        obtain ⟨A16, hA16⟩ : ∃ A1z_, A1z_ = (if c1 = (x10_1 : Int).toNat then A1 else (A1 : Option Addr).map (·.add ((x10_1 : Int).toNat * 1))) := ⟨_, rfl⟩
        obtain ⟨c16, hc16⟩ : ∃ c1z_, c1z_ = c1 - (x10_1 : Int).toNat := ⟨_, rfl⟩
        have hy16 : y216.length = ((wrap64 (a2_1 + a2_2)) : Int).toNat - (x10_1 : Int).toNat := (by rw [Ny216.out, List.length_drop, List.length_take] <;> omega)
        rw [show ((l1).take ((wrap64 (a2_1 + a2_2)) : Int).toNat).drop (x10_1 : Int).toNat = y216 from Ny216.out.symm] at hr16
        replace hr16 : Kd.C (Kd.int .u8) _ A16 y216.length y216 := (by rw [hA16]; exact hr16)
        rw [← hy16, ← hA16, ← hc16] at hcut16
        have HR219 := Aside0.mk hr16
        have HC219 := Aside0.mk (show y216.length ≤ c16 from by rw [hy16, hc16]; exact Nat.sub_le_sub_right (Nat.le_trans (by omega) hroom16) _)
        clear hr16 hC16 hroom16 hi016 hsz16 hc16
        have KY16 := Aside0.mk hy16
        have KA16 := Aside0.mk hA16
        clear hy16 hA16
        replace q16 := eq_true q16
        go_upto_region 10 with (first | ((with_reducible refine gate_callee (f := 43) rfl ?_); refine goesL_ (some 46) rfl rfl Tryd.func43 (by kernel_rfl) rfl #[.slice A16 y216.length c16] rfl (by (try simp only [List.map_toArray, List.map_cons, List.map_nil]); first | done | rfl | (simp only [List.length_drop, List.length_take]; rfl)) ?_; (with_reducible refine (redpenref01_Next.calls k1 _ _ y216 t220 t221 _ ?side1 ?side2 A14.out).mono ?_); (case side1 => repeat (first | exact (Kd.C_below HR219.out HB.out) | (with_reducible refine Kd.C_alloc ?_ _) | (with_reducible refine Kd.C_drewN ?_ _) | (with_reducible refine Kd.C_drew ?_))); (case side2 => exact HC219.out); rintro e w' ⟨rfl, ⟨nd, rfl⟩⟩; refine ⟨_, rfl, ?_⟩; have hcz17_0 : wr.cell? ⟨gb214, 0, none⟩ = some (.int .u8 a2_0) := (blk_cell BK214.out 0).trans rfl; have hcz17_1 : wr.cell? ⟨gb214, 1, none⟩ = some (.int .i64 a2_1) := (blk_cell BK214.out 1).trans rfl; have hcz17_2 : wr.cell? ⟨gb214, 2, none⟩ = some (.int .i64 a2_2) := (blk_cell BK214.out 2).trans rfl; have hfz17_0 := blk_frozen BK214.out 0; have hfz17_1 := blk_frozen BK214.out 1; have hfz17_2 := blk_frozen BK214.out 2))
        (try simp only [Act.put, List.setIfInBounds_toArray, List.set_cons_zero, List.set_cons_succ])
        go_cut [14, 60] (fun v14 v60 wc => v14 = .bool (a2_0 == 1) ∧ ∃ (kq : Nat) (x60_14 : Bool), v60 = .bool x60_14 ∧ Aside0 (redpenref15_Units.j1 kq a0 l1 x8_1 (wrap64 (a2_1 + a2_2)) x10_1 y216 t220 t221 (a2_0 == 1) x60_14 a2_0 a2_1 a2_2 = some (r1, r2)) ∧ Aside0 (kq ≤ k1) ∧ Aside0 (Kd.R k45 45 wc w.heap.size (fun _ => True) u8 x8_1) ∧ Aside0 (wc.heap[gb214]? = some (.cells #[.int .u8 a2_0, .int .i64 a2_1, .int .i64 a2_2] 42 (0, 0))) ∧ Aside0 (Below w.heap.size w wc))
        case first =>
         have H := HC15.out
         clear HC15
         by_cases c18 : a2_0 = 1
         ·rw [if_pos c18] at H
          have c18b0 : (a2_0 == 1) = true := beq_iff_eq.mpr c18
          have c18b1 : (a2_0 != 1) = false := bne_eq_false_iff_eq.mpr c18
          clear c18
          (first | rw [c18b0] | (simp only [i64_w, i32_w]; rw [c18b0]) | skip)
          by_cases c19 : a0 = 1
          ·rw [if_pos c19] at H
           have c19b0 : (a0 == 1) = true := beq_iff_eq.mpr c19
           have c19b1 : (a0 != 1) = false := bne_eq_false_iff_eq.mpr c19
           clear c19
           have H' := Aside0.mk H
           clear H
           go_wp2
           go_meet
           case rel => exact ⟨(by first | rfl | (simp [*]; done)), _, (true), (by first | rfl | (simp; done) | (simp [*]; done) | (simp [wrap64, wrap32]; done)), H', ⟨by have := HK1.out; first | omega | exact Nat.le_refl _⟩, ⟨by (with_reducible repeat (first | apply Kd.R_alloc | apply Kd.R_drewN | apply Kd.R_drew)); exact HO_8.out⟩, ⟨by (with_reducible repeat (first | refine blk_drewN ?_ _ | refine blk_drew ?_ | refine blk_alloc ?_ _)); exact BK214.out⟩, ⟨by repeat (first | (with_reducible first | exact HB.out | apply below_alloc | apply pw_below_drewN | apply below_drew1 | refine below_set ?_ GE214.out) | exact HB.out)⟩⟩
          ·rw [if_neg c19] at H
           have c19b0 : (a0 == 1) = false := beq_eq_false_iff_ne.mpr c19
           have c19b1 : (a0 != 1) = true := bne_iff_ne.mpr c19
           have H' := Aside0.mk H
           clear H
           go_wp2
           go_meet
           case rel => exact ⟨(by first | rfl | (simp [*]; done)), _, ((a0 == 2)), (by first | rfl | (simp; done) | (simp [*]; done) | (simp [wrap64, wrap32]; done)), H', ⟨by have := HK1.out; first | omega | exact Nat.le_refl _⟩, ⟨by (with_reducible repeat (first | apply Kd.R_alloc | apply Kd.R_drewN | apply Kd.R_drew)); exact HO_8.out⟩, ⟨by (with_reducible repeat (first | refine blk_drewN ?_ _ | refine blk_drew ?_ | refine blk_alloc ?_ _)); exact BK214.out⟩, ⟨by repeat (first | (with_reducible first | exact HB.out | apply below_alloc | apply pw_below_drewN | apply below_drew1 | refine below_set ?_ GE214.out) | exact HB.out)⟩⟩
         ·rw [if_neg c18] at H
          have c18b0 : (a2_0 == 1) = false := beq_eq_false_iff_ne.mpr c18
          have c18b1 : (a2_0 != 1) = true := bne_iff_ne.mpr c18
          (first | rw [c18b0] | (simp only [i64_w, i32_w]; rw [c18b0]) | skip)
          have H' := Aside0.mk H
          clear H
          go_wp2
          go_meet
          case rel => exact ⟨(by first | rfl | (simp [*]; done)), _, (false), (by first | rfl | (simp; done) | (simp [*]; done) | (simp [wrap64, wrap32]; done)), H', ⟨by have := HK1.out; first | omega | exact Nat.le_refl _⟩, ⟨by (with_reducible repeat (first | apply Kd.R_alloc | apply Kd.R_drewN | apply Kd.R_drew)); exact HO_8.out⟩, ⟨by (with_reducible repeat (first | refine blk_drewN ?_ _ | refine blk_drew ?_ | refine blk_alloc ?_ _)); exact BK214.out⟩, ⟨by repeat (first | (with_reducible first | exact HB.out | apply below_alloc | apply pw_below_drewN | apply below_drew1 | refine below_set ?_ GE214.out) | exact HB.out)⟩⟩
        case rest =>
         clear HC15
         (try clear c1); (try clear q1); (try clear c2); (try clear p2); (try clear c4); (try clear c5); (try clear p6); (try clear c10); (try clear c10b0); (try clear c11); (try clear c11b0); (try clear c11b1); (try clear c12); (try clear c12b0); (try clear c12b1); (try clear c13); (try clear c13b0); (try clear c13b1); (try clear c16); (try clear q16); (try clear c18); (try clear c18b0); (try clear c18b1); (try clear c19); (try clear c19b0); (try clear c19b1); (try clear hcz17_0); (try clear hcz17_1); (try clear hcz17_2); (try clear hcz7_0); (try clear hcz7_1); (try clear hcz7_2); (try clear hcz9_0); (try clear hcz9_1); (try clear hcz9_2); (try clear hfz17_0); (try clear hfz17_1); (try clear hfz17_2); (try clear hfz7_0); (try clear hfz7_1); (try clear hfz7_2); (try clear hfz9_0); (try clear hfz9_1); (try clear hfz9_2); (try clear p2); (try clear p6); (try clear q016); (try clear q16)
         obtain ⟨rfl, kq, x60_14, rfl, HA, HJ14, HO_8, BK214, HB⟩ := hcut
         cases kq with
         | zero => exact absurd HA.out (by simp [redpenref15_Units.j1])
         | succ kj14 =>
          have H := HA.out
          clear HA
          simp only [redpenref15_Units.j1] at H
          have HC20 := Aside0.mk H
          clear H
          go_upto_if 60 with (fail)
          go_cut [14, 12, 13] (fun v14 v12 v13 wc => v14 = .bool (a2_0 == 1) ∧ ∃ (kq : Nat) (x12_19 : Int) (x13_19 : Int), v12 = .int .i32 x12_19 ∧ v13 = .int .i64 x13_19 ∧ Aside0 (redpenref15_Units.j2 kq a0 l1 x8_1 (wrap64 (a2_1 + a2_2)) x10_1 y216 x12_19 x13_19 (a2_0 == 1) a2_0 a2_1 a2_2 = some (r1, r2)) ∧ Aside0 (kq ≤ kj14) ∧ Aside0 (Kd.R k45 45 wc w.heap.size (fun _ => True) u8 x8_1) ∧ Aside0 (wc.heap[gb214]? = some (.cells #[.int .u8 a2_0, .int .i64 a2_1, .int .i64 a2_2] 42 (0, 0))) ∧ Aside0 (Below w.heap.size w wc))
          case first =>
           have H := HC20.out
           clear HC20
           by_cases c21 : x60_14 = true
           ·subst c21
            have H1 : ((redpenref15_Entity.f kj14 y216).bind fun bt222 => (if bt222.2.2 = true then (redpenref15_Units.j2 kj14 a0 l1 x8_1 (wrap64 (a2_1 + a2_2)) x10_1 y216 bt222.1 bt222.2.1 (a2_0 == 1) a2_0 a2_1 a2_2) else (redpenref15_Units.j2 kj14 a0 l1 x8_1 (wrap64 (a2_1 + a2_2)) x10_1 y216 t220 t221 (a2_0 == 1) a2_0 a2_1 a2_2))) = some (r1, r2) := by rw [if_pos rfl] at H; exact H
            clear H
            have H := H1
            clear H1
            replace H := Option.bind_eq_some_iff.mp H
            obtain ⟨⟨t222, t223, t224⟩, A220, H⟩ := H
            replace H : (if t224 = true then (redpenref15_Units.j2 kj14 a0 l1 x8_1 (wrap64 (a2_1 + a2_2)) x10_1 y216 t222 t223 (a2_0 == 1) a2_0 a2_1 a2_2) else (redpenref15_Units.j2 kj14 a0 l1 x8_1 (wrap64 (a2_1 + a2_2)) x10_1 y216 t220 t221 (a2_0 == 1) a2_0 a2_1 a2_2)) = some (r1, r2) := H
            have A22 := Aside0.mk A220
            clear A220
            by_cases c23 : t224 = true
            ·subst c23
             have H1 : (redpenref15_Units.j2 kj14 a0 l1 x8_1 (wrap64 (a2_1 + a2_2)) x10_1 y216 t222 t223 (a2_0 == 1) a2_0 a2_1 a2_2) = some (r1, r2) := by rw [if_pos rfl] at H; exact H
             clear H
             have H := H1
             clear H1
             have H' := Aside0.mk H
             clear H
             go_wp2_with (first | ((with_reducible refine gate_callee (f := 13) rfl ?_); refine goesL_ (some 63) rfl rfl Tryd.func13 (by kernel_rfl) rfl #[.slice A16 y216.length c16] rfl (by (try simp only [List.map_toArray, List.map_cons, List.map_nil]); first | done | rfl | (simp only [List.length_drop, List.length_take]; rfl)) ?_; (with_reducible refine (redpenref15_Entity.calls kj14 _ _ y216 t222 t223 true _ ?side1 ?side2 A22.out).mono ?_); (case side1 => repeat (first | exact (Kd.C_below HR219.out HB.out) | (with_reducible refine Kd.C_alloc ?_ _) | (with_reducible refine Kd.C_drewN ?_ _) | (with_reducible refine Kd.C_drew ?_))); (case side2 => exact HC219.out); rintro e w' ⟨rfl, ⟨nd, rfl⟩⟩; refine ⟨_, rfl, ?_⟩))
             go_meet
             case rel => exact ⟨(by first | rfl | (simp [*]; done)), _, (t222), (t223), (by first | rfl | (simp; done) | (simp [*]; done) | (simp [wrap64, wrap32]; done)), (by first | rfl | (simp; done) | (simp [*]; done) | (simp [wrap64, wrap32]; done)), H', ⟨by have := HK1.out; have := HJ14.out; first | omega | exact Nat.le_refl _⟩, ⟨by (with_reducible repeat (first | apply Kd.R_alloc | apply Kd.R_drewN | apply Kd.R_drew)); exact HO_8.out⟩, ⟨by (with_reducible repeat (first | refine blk_drewN ?_ _ | refine blk_drew ?_ | refine blk_alloc ?_ _)); exact BK214.out⟩, ⟨by repeat (first | (with_reducible first | exact HB.out | apply below_alloc | apply pw_below_drewN | apply below_drew1 | refine below_set ?_ GE214.out) | exact HB.out)⟩⟩
            ·replace c23 := Bool.eq_false_iff.mpr c23
             subst c23
             have H1 : (redpenref15_Units.j2 kj14 a0 l1 x8_1 (wrap64 (a2_1 + a2_2)) x10_1 y216 t220 t221 (a2_0 == 1) a2_0 a2_1 a2_2) = some (r1, r2) := by rw [if_neg (show ¬ (false = true) by decide)] at H; exact H
             clear H
             have H := H1
             clear H1
             have H' := Aside0.mk H
             clear H
             go_wp2_with (first | ((with_reducible refine gate_callee (f := 13) rfl ?_); refine goesL_ (some 63) rfl rfl Tryd.func13 (by kernel_rfl) rfl #[.slice A16 y216.length c16] rfl (by (try simp only [List.map_toArray, List.map_cons, List.map_nil]); first | done | rfl | (simp only [List.length_drop, List.length_take]; rfl)) ?_; (with_reducible refine (redpenref15_Entity.calls kj14 _ _ y216 t222 t223 false _ ?side1 ?side2 A22.out).mono ?_); (case side1 => repeat (first | exact (Kd.C_below HR219.out HB.out) | (with_reducible refine Kd.C_alloc ?_ _) | (with_reducible refine Kd.C_drewN ?_ _) | (with_reducible refine Kd.C_drew ?_))); (case side2 => exact HC219.out); rintro e w' ⟨rfl, ⟨nd, rfl⟩⟩; refine ⟨_, rfl, ?_⟩))
             go_meet
             case rel => exact ⟨(by first | rfl | (simp [*]; done)), _, (t220), (t221), (by first | rfl | (simp; done) | (simp [*]; done) | (simp [wrap64, wrap32]; done)), (by first | rfl | (simp; done) | (simp [*]; done) | (simp [wrap64, wrap32]; done)), H', ⟨by have := HK1.out; have := HJ14.out; first | omega | exact Nat.le_refl _⟩, ⟨by (with_reducible repeat (first | apply Kd.R_alloc | apply Kd.R_drewN | apply Kd.R_drew)); exact HO_8.out⟩, ⟨by (with_reducible repeat (first | refine blk_drewN ?_ _ | refine blk_drew ?_ | refine blk_alloc ?_ _)); exact BK214.out⟩, ⟨by repeat (first | (with_reducible first | exact HB.out | apply below_alloc | apply pw_below_drewN | apply below_drew1 | refine below_set ?_ GE214.out) | exact HB.out)⟩⟩
           ·replace c21 := Bool.eq_false_iff.mpr c21
            subst c21
            have H1 : (redpenref15_Units.j2 kj14 a0 l1 x8_1 (wrap64 (a2_1 + a2_2)) x10_1 y216 t220 t221 (a2_0 == 1) a2_0 a2_1 a2_2) = some (r1, r2) := by rw [if_neg (show ¬ (false = true) by decide)] at H; exact H
            clear H
            have H := H1
            clear H1
            have H' := Aside0.mk H
            clear H
            go_wp2
            go_meet
            case rel => exact ⟨(by first | rfl | (simp [*]; done)), _, (t220), (t221), (by first | rfl | (simp; done) | (simp [*]; done) | (simp [wrap64, wrap32]; done)), (by first | rfl | (simp; done) | (simp [*]; done) | (simp [wrap64, wrap32]; done)), H', ⟨by have := HK1.out; have := HJ14.out; first | omega | exact Nat.le_refl _⟩, ⟨by (with_reducible repeat (first | apply Kd.R_alloc | apply Kd.R_drewN | apply Kd.R_drew)); exact HO_8.out⟩, ⟨by (with_reducible repeat (first | refine blk_drewN ?_ _ | refine blk_drew ?_ | refine blk_alloc ?_ _)); exact BK214.out⟩, ⟨by repeat (first | (with_reducible first | exact HB.out | apply below_alloc | apply pw_below_drewN | apply below_drew1 | refine below_set ?_ GE214.out) | exact HB.out)⟩⟩
          case rest =>
           clear HC20
           (try clear c1); (try clear q1); (try clear c2); (try clear p2); (try clear c4); (try clear c5); (try clear p6); (try clear c10); (try clear c10b0); (try clear c11); (try clear c11b0); (try clear c11b1); (try clear c12); (try clear c12b0); (try clear c12b1); (try clear c13); (try clear c13b0); (try clear c13b1); (try clear c16); (try clear q16); (try clear c18); (try clear c18b0); (try clear c18b1); (try clear c19); (try clear c19b0); (try clear c19b1); (try clear c20); (try clear c21); (try clear c23); (try clear hcz17_0); (try clear hcz17_1); (try clear hcz17_2); (try clear hcz7_0); (try clear hcz7_1); (try clear hcz7_2); (try clear hcz9_0); (try clear hcz9_1); (try clear hcz9_2); (try clear hfz17_0); (try clear hfz17_1); (try clear hfz17_2); (try clear hfz7_0); (try clear hfz7_1); (try clear hfz7_2); (try clear hfz9_0); (try clear hfz9_1); (try clear hfz9_2); (try clear p2); (try clear p6); (try clear q016); (try clear q1); (try clear q16)
           obtain ⟨rfl, kq, x12_19, x13_19, rfl, rfl, HA, HJ19, HO_8, BK214, HB⟩ := hcut
           cases kq with
           | zero => exact absurd HA.out (by simp [redpenref15_Units.j2])
           | succ kj19 =>
            have H := HA.out
            clear HA
            simp only [redpenref15_Units.j2] at H
            have HC24 := Aside0.mk H
            clear H
            go_upto_region 14 with (fail)
            go_cut [14, 91] (fun v14 v91 wc => v14 = .bool (a2_0 == 1) ∧ ∃ (kq : Nat) (x91_23 : Bool), v91 = .bool x91_23 ∧ Aside0 (redpenref15_Units.j3 kq a0 l1 x8_1 (wrap64 (a2_1 + a2_2)) x10_1 y216 x12_19 x13_19 x91_23 a2_0 a2_1 a2_2 = some (r1, r2)) ∧ Aside0 (kq ≤ kj19) ∧ Aside0 (Kd.R k45 45 wc w.heap.size (fun _ => True) u8 x8_1) ∧ Aside0 (wc.heap[gb214]? = some (.cells #[.int .u8 a2_0, .int .i64 a2_1, .int .i64 a2_2] 42 (0, 0))) ∧ Aside0 (Below w.heap.size w wc))
            case first =>
             have H := HC24.out
             clear HC24
             by_cases c25 : (a2_0 == 1) = true
             ·rw [if_pos c25] at H
              have c25b0 : (a2_0 == 1) = true := c25
              (try (have c25b1 : decide (a2_0 = 1) = true := by simpa using c25))
              (try (have c25b2 : (a2_0 == 1) = true := by simpa using c25))
              clear c25
              (first | rw [c25b0] | (simp only [i64_w, i32_w]; rw [c25b0]) | skip)
              by_cases c26 : a0 = 2
              ·rw [if_pos c26] at H
               have c26b0 : (a0 == 2) = true := beq_iff_eq.mpr c26
               have c26b1 : (a0 != 2) = false := bne_eq_false_iff_eq.mpr c26
               clear c26
               by_cases c27 : 0 < (y216.length : Int)
               ·rw [if_pos c27] at H
                have c27b0 : decide (0 < (y216.length : Int)) = true := decide_eq_true c27
                have c27b1 : decide (0 < y216.length) = true := decide_eq_true (by omega)
                clear c27
                by_cases c28 : (rd y216 0) = 92
                ·rw [if_pos c28] at H
                 have c28b0 : ((rd y216 0) == 92) = true := beq_iff_eq.mpr c28
                 have c28b1 : ((rd y216 0) != 92) = false := bne_eq_false_iff_eq.mpr c28
                 clear c28
                 by_cases c29 : (y216.length : Int) > 1
                 ·rw [if_pos c29] at H
                  have c29b0 : decide (1 < (y216.length : Int)) = true := decide_eq_true c29
                  have c29b1 : decide (1 < y216.length) = true := decide_eq_true (by omega)
                  clear c29
                  by_cases c30 : 1 < (y216.length : Int)
                  ·rw [if_pos c30] at H
                   have c30b0 : decide (1 < (y216.length : Int)) = true := decide_eq_true c30
                   have c30b1 : decide (1 < y216.length) = true := decide_eq_true (by omega)
                   clear c30
                   replace H := Option.bind_eq_some_iff.mp H
                   obtain ⟨t227, A310, H⟩ := H
                   replace H : (redpenref15_Units.j3 kj19 a0 l1 x8_1 (wrap64 (a2_1 + a2_2)) x10_1 y216 x12_19 x13_19 t227 a2_0 a2_1 a2_2) = some (r1, r2) := H
                   have A31 := Aside0.mk A310
                   clear A310
                   have H' := Aside0.mk H
                   clear H
                   have p225 : 0 ≤ (0 : Int) := (by omega)
                   have q225 : 0 < (y216.length : Int) := of_decide_eq_true (by first | (with_reducible assumption) | assumption)
                   obtain ⟨ad225, e225, hx225_0⟩ := Kd.at_int HR219.out 0 p225 q225
                   cases e225
                   have qi225 : (0 < y216.length) = True := eq_true (by omega)
                   (try rw [show ((0 : Int)).toNat = 0 from rfl] at hx225_0)
                   (try rw [Addr.add_zero'] at hx225_0)
                   replace hx225_0 := (HB.out.cell (World.block_lt_of_cell? w _ hx225_0)).trans hx225_0
                   replace p225 := eq_true p225
                   replace q225 := eq_true q225
                   have p226 : 0 ≤ (1 : Int) := (by omega)
                   have q226 : 1 < (y216.length : Int) := of_decide_eq_true (by first | (with_reducible assumption) | assumption)
                   obtain ⟨ad226, e226, hx226_0⟩ := Kd.at_int HR219.out 1 p226 q226
                   obtain rfl : ad225 = ad226 := (by injection e226)
                   (try simp only [show (1 : Int).toNat = 1 from rfl, Nat.reduceMul, Nat.reduceEqDiff, Go.Addr.add, ↓reduceIte] at hx226_0)
                   have qi226 : (1 < y216.length) = True := eq_true (by omega)
                   (try rw [show ((1 : Int)).toNat = 1 from rfl] at hx226_0)
                   replace hx226_0 := (HB.out.cell (World.block_lt_of_cell? w _ hx226_0)).trans hx226_0
                   replace p226 := eq_true p226
                   replace q226 := eq_true q226
                   go_wp2_with (first | (go_at_call 44; (with_reducible refine (redpenref15_sign.calls (rd y216 1) t227 _ A31.out).mono ?_); rintro e w' ⟨rfl, ⟨nd, rfl⟩⟩))
                   go_meet
                   case rel => exact ⟨(by first | rfl | (simp [*]; done)), _, (t227), (by first | rfl | (simp; done) | (simp [*]; done) | (simp [wrap64, wrap32]; done)), H', ⟨by have := HK1.out; have := HJ14.out; have := HJ19.out; first | omega | exact Nat.le_refl _⟩, ⟨by (with_reducible repeat (first | apply Kd.R_alloc | apply Kd.R_drewN | apply Kd.R_drew)); exact HO_8.out⟩, ⟨by (with_reducible repeat (first | refine blk_drewN ?_ _ | refine blk_drew ?_ | refine blk_alloc ?_ _)); exact BK214.out⟩, ⟨by repeat (first | (with_reducible first | exact HB.out | apply below_alloc | apply pw_below_drewN | apply below_drew1 | refine below_set ?_ GE214.out) | exact HB.out)⟩⟩
                  ·rw [if_neg c30] at H
                   exact absurd H (by simp)
                 ·rw [if_neg c29] at H
                  have c29b0 : decide (1 < (y216.length : Int)) = false := decide_eq_false c29
                  have c29b1 : decide (1 < y216.length) = false := decide_eq_false (by omega)
                  clear c29
                  have H' := Aside0.mk H
                  clear H
                  have p225 : 0 ≤ (0 : Int) := (by omega)
                  have q225 : 0 < (y216.length : Int) := of_decide_eq_true (by first | (with_reducible assumption) | assumption)
                  obtain ⟨ad225, e225, hx225_0⟩ := Kd.at_int HR219.out 0 p225 q225
                  cases e225
                  have qi225 : (0 < y216.length) = True := eq_true (by omega)
                  (try rw [show ((0 : Int)).toNat = 0 from rfl] at hx225_0)
                  (try rw [Addr.add_zero'] at hx225_0)
                  replace hx225_0 := (HB.out.cell (World.block_lt_of_cell? w _ hx225_0)).trans hx225_0
                  replace p225 := eq_true p225
                  replace q225 := eq_true q225
                  go_wp2
                  go_meet
                  case rel => exact ⟨(by first | rfl | (simp [*]; done)), _, (false), (by first | rfl | (simp; done) | (simp [*]; done) | (simp [wrap64, wrap32]; done)), H', ⟨by have := HK1.out; have := HJ14.out; have := HJ19.out; first | omega | exact Nat.le_refl _⟩, ⟨by (with_reducible repeat (first | apply Kd.R_alloc | apply Kd.R_drewN | apply Kd.R_drew)); exact HO_8.out⟩, ⟨by (with_reducible repeat (first | refine blk_drewN ?_ _ | refine blk_drew ?_ | refine blk_alloc ?_ _)); exact BK214.out⟩, ⟨by repeat (first | (with_reducible first | exact HB.out | apply below_alloc | apply pw_below_drewN | apply below_drew1 | refine below_set ?_ GE214.out) | exact HB.out)⟩⟩
                ·rw [if_neg c28] at H
                 have c28b0 : ((rd y216 0) == 92) = false := beq_eq_false_iff_ne.mpr c28
                 have c28b1 : ((rd y216 0) != 92) = true := bne_iff_ne.mpr c28
                 have H' := Aside0.mk H
                 clear H
                 have p225 : 0 ≤ (0 : Int) := (by omega)
                 have q225 : 0 < (y216.length : Int) := of_decide_eq_true (by first | (with_reducible assumption) | assumption)
                 obtain ⟨ad225, e225, hx225_0⟩ := Kd.at_int HR219.out 0 p225 q225
                 cases e225
                 have qi225 : (0 < y216.length) = True := eq_true (by omega)
                 (try rw [show ((0 : Int)).toNat = 0 from rfl] at hx225_0)
                 (try rw [Addr.add_zero'] at hx225_0)
                 replace hx225_0 := (HB.out.cell (World.block_lt_of_cell? w _ hx225_0)).trans hx225_0
                 replace p225 := eq_true p225
                 replace q225 := eq_true q225
                 go_wp2
                 go_meet
                 case rel => exact ⟨(by first | rfl | (simp [*]; done)), _, (false), (by first | rfl | (simp; done) | (simp [*]; done) | (simp [wrap64, wrap32]; done)), H', ⟨by have := HK1.out; have := HJ14.out; have := HJ19.out; first | omega | exact Nat.le_refl _⟩, ⟨by (with_reducible repeat (first | apply Kd.R_alloc | apply Kd.R_drewN | apply Kd.R_drew)); exact HO_8.out⟩, ⟨by (with_reducible repeat (first | refine blk_drewN ?_ _ | refine blk_drew ?_ | refine blk_alloc ?_ _)); exact BK214.out⟩, ⟨by repeat (first | (with_reducible first | exact HB.out | apply below_alloc | apply pw_below_drewN | apply below_drew1 | refine below_set ?_ GE214.out) | exact HB.out)⟩⟩
               ·rw [if_neg c27] at H
                exact absurd H (by simp)
              ·rw [if_neg c26] at H
               have c26b0 : (a0 == 2) = false := beq_eq_false_iff_ne.mpr c26
               have c26b1 : (a0 != 2) = true := bne_iff_ne.mpr c26
               have H' := Aside0.mk H
               clear H
               go_wp2
               go_meet
               case rel => exact ⟨(by first | rfl | (simp [*]; done)), _, (false), (by first | rfl | (simp; done) | (simp [*]; done) | (simp [wrap64, wrap32]; done)), H', ⟨by have := HK1.out; have := HJ14.out; have := HJ19.out; first | omega | exact Nat.le_refl _⟩, ⟨by (with_reducible repeat (first | apply Kd.R_alloc | apply Kd.R_drewN | apply Kd.R_drew)); exact HO_8.out⟩, ⟨by (with_reducible repeat (first | refine blk_drewN ?_ _ | refine blk_drew ?_ | refine blk_alloc ?_ _)); exact BK214.out⟩, ⟨by repeat (first | (with_reducible first | exact HB.out | apply below_alloc | apply pw_below_drewN | apply below_drew1 | refine below_set ?_ GE214.out) | exact HB.out)⟩⟩
             ·rw [if_neg c25] at H
              have c25b0 : (a2_0 == 1) = false := by simpa using c25
              (try (have c25b1 : decide (a2_0 = 1) = false := by simpa using c25))
              (try (have c25b2 : (a2_0 == 1) = false := by simpa using c25))
              (try (have c25b3 : ¬ (a2_0 = 1) := by simpa using c25))
              clear c25
              (first | rw [c25b0] | (simp only [i64_w, i32_w]; rw [c25b0]) | skip)
              have H' := Aside0.mk H
              clear H
              go_wp2
              go_meet
              case rel => exact ⟨(by first | rfl | (simp [*]; done)), _, (false), (by first | rfl | (simp; done) | (simp [*]; done) | (simp [wrap64, wrap32]; done)), H', ⟨by have := HK1.out; have := HJ14.out; have := HJ19.out; first | omega | exact Nat.le_refl _⟩, ⟨by (with_reducible repeat (first | apply Kd.R_alloc | apply Kd.R_drewN | apply Kd.R_drew)); exact HO_8.out⟩, ⟨by (with_reducible repeat (first | refine blk_drewN ?_ _ | refine blk_drew ?_ | refine blk_alloc ?_ _)); exact BK214.out⟩, ⟨by repeat (first | (with_reducible first | exact HB.out | apply below_alloc | apply pw_below_drewN | apply below_drew1 | refine below_set ?_ GE214.out) | exact HB.out)⟩⟩
            case rest =>
             clear HC24
             (try clear c1); (try clear q1); (try clear c2); (try clear p2); (try clear q2); (try clear hx2); (try clear qi2); (try clear c3); (try clear c4); (try clear c5); (try clear p6); (try clear c10); (try clear c10b0); (try clear c11); (try clear c11b0); (try clear c11b1); (try clear c12); (try clear c12b0); (try clear c12b1); (try clear c13); (try clear c13b0); (try clear c13b1); (try clear c16); (try clear q16); (try clear c18); (try clear c18b0); (try clear c18b1); (try clear c19); (try clear c19b0); (try clear c19b1); (try clear c20); (try clear c21); (try clear p22); (try clear q22); (try clear hx22); (try clear qi22); (try clear c23); (try clear c25); (try clear c25b0); (try clear c25b1); (try clear c25b2); (try clear c26); (try clear c26b0); (try clear c26b1); (try clear c27); (try clear c27b0); (try clear c27b1); (try clear c28); (try clear c28b0); (try clear c28b1); (try clear c29); (try clear c29b0); (try clear c29b1); (try clear c30); (try clear c30b0); (try clear c30b1); (try clear hcz17_0); (try clear hcz17_1); (try clear hcz17_2); (try clear hcz7_0); (try clear hcz7_1); (try clear hcz7_2); (try clear hcz9_0); (try clear hcz9_1); (try clear hcz9_2); (try clear hfz17_0); (try clear hfz17_1); (try clear hfz17_2); (try clear hfz7_0); (try clear hfz7_1); (try clear hfz7_2); (try clear hfz9_0); (try clear hfz9_1); (try clear hfz9_2); (try clear hx225_0); (try clear hx226_0); (try clear p2); (try clear p225); (try clear p226); (try clear p6); (try clear q016); (try clear q1); (try clear q16); (try clear q225); (try clear q226)
             obtain ⟨rfl, kq, x91_23, rfl, HA, HJ23, HO_8, BK214, HB⟩ := hcut
             cases kq with
             | zero => exact absurd HA.out (by simp [redpenref15_Units.j3])
             | succ kj23 =>
              have H := HA.out
              clear HA
              simp only [redpenref15_Units.j3] at H
              have HC32 := Aside0.mk H
              clear H
              go_upto_if 91 with (fail)
              go_cut [14, 12, 13] (fun v14 v12 v13 wc => v14 = .bool (a2_0 == 1) ∧ ∃ (kq : Nat) (x12_31 : Int) (x13_31 : Int), v12 = .int .i32 x12_31 ∧ v13 = .int .i64 x13_31 ∧ Aside0 (redpenref15_Units.j4 kq a0 l1 x8_1 (wrap64 (a2_1 + a2_2)) x10_1 y216 x12_31 x13_31 a2_0 a2_1 a2_2 = some (r1, r2)) ∧ Aside0 (kq ≤ kj23) ∧ Aside0 (Kd.R k45 45 wc w.heap.size (fun _ => True) u8 x8_1) ∧ Aside0 (wc.heap[gb214]? = some (.cells #[.int .u8 a2_0, .int .i64 a2_1, .int .i64 a2_2] 42 (0, 0))) ∧ Aside0 (Below w.heap.size w wc))
              case first =>
               have H := HC32.out
               clear HC32
               by_cases c33 : x91_23 = true
               ·subst c33
                have H1 : (if 1 < (y216.length : Int) then (redpenref15_Units.j4 kj23 a0 l1 x8_1 (wrap64 (a2_1 + a2_2)) x10_1 y216 (wrap32 (rd y216 1)) 2 a2_0 a2_1 a2_2) else (none)) = some (r1, r2) := by rw [if_pos rfl] at H; exact H
                clear H
                have H := H1
                clear H1
                by_cases c34 : 1 < (y216.length : Int)
                ·rw [if_pos c34] at H
                 have c34b0 : decide (1 < (y216.length : Int)) = true := decide_eq_true c34
                 have c34b1 : decide (1 < y216.length) = true := decide_eq_true (by omega)
                 clear c34
                 (first | rw [c34b0] | (simp only [i64_w, i32_w]; rw [c34b0]) | skip)
                 have H' := Aside0.mk H
                 clear H
                 have p228 : 0 ≤ (1 : Int) := (by omega)
                 have q228 : 1 < (y216.length : Int) := of_decide_eq_true (by first | (with_reducible assumption) | assumption)
                 obtain ⟨ad228, e228, hx228_0⟩ := Kd.at_int HR219.out 1 p228 q228
                 cases e228
                 (try simp only [show (1 : Int).toNat = 1 from rfl, Nat.reduceMul, Nat.reduceEqDiff, Go.Addr.add, ↓reduceIte] at hx228_0)
                 have qi228 : (1 < y216.length) = True := eq_true (by omega)
                 (try rw [show ((1 : Int)).toNat = 1 from rfl] at hx228_0)
                 replace hx228_0 := (HB.out.cell (World.block_lt_of_cell? w _ hx228_0)).trans hx228_0
                 replace p228 := eq_true p228
                 replace q228 := eq_true q228
                 go_wp2
                 go_meet
                 case rel => exact ⟨(by first | rfl | (simp [*]; done)), _, (wrap32 (rd y216 1)), (2), (by first | rfl | (simp; done) | (simp [*]; done) | (simp [wrap64, wrap32]; done)), (by first | rfl | (simp; done) | (simp [*]; done) | (simp [wrap64, wrap32]; done)), H', ⟨by have := HK1.out; have := HJ14.out; have := HJ19.out; have := HJ23.out; first | omega | exact Nat.le_refl _⟩, ⟨by (with_reducible repeat (first | apply Kd.R_alloc | apply Kd.R_drewN | apply Kd.R_drew)); exact HO_8.out⟩, ⟨by (with_reducible repeat (first | refine blk_drewN ?_ _ | refine blk_drew ?_ | refine blk_alloc ?_ _)); exact BK214.out⟩, ⟨by repeat (first | (with_reducible first | exact HB.out | apply below_alloc | apply pw_below_drewN | apply below_drew1 | refine below_set ?_ GE214.out) | exact HB.out)⟩⟩
                ·rw [if_neg c34] at H
                 exact absurd H (by simp)
               ·replace c33 := Bool.eq_false_iff.mpr c33
                subst c33
                have H1 : (redpenref15_Units.j4 kj23 a0 l1 x8_1 (wrap64 (a2_1 + a2_2)) x10_1 y216 x12_19 x13_19 a2_0 a2_1 a2_2) = some (r1, r2) := by rw [if_neg (show ¬ (false = true) by decide)] at H; exact H
                clear H
                have H := H1
                clear H1
                have H' := Aside0.mk H
                clear H
                go_wp2
                go_meet
                case rel => exact ⟨(by first | rfl | (simp [*]; done)), _, (x12_19), (x13_19), (by first | rfl | (simp; done) | (simp [*]; done) | (simp [wrap64, wrap32]; done)), (by first | rfl | (simp; done) | (simp [*]; done) | (simp [wrap64, wrap32]; done)), H', ⟨by have := HK1.out; have := HJ14.out; have := HJ19.out; have := HJ23.out; first | omega | exact Nat.le_refl _⟩, ⟨by (with_reducible repeat (first | apply Kd.R_alloc | apply Kd.R_drewN | apply Kd.R_drew)); exact HO_8.out⟩, ⟨by (with_reducible repeat (first | refine blk_drewN ?_ _ | refine blk_drew ?_ | refine blk_alloc ?_ _)); exact BK214.out⟩, ⟨by repeat (first | (with_reducible first | exact HB.out | apply below_alloc | apply pw_below_drewN | apply below_drew1 | refine below_set ?_ GE214.out) | exact HB.out)⟩⟩
              case rest =>
               clear HC32
               (try clear c1); (try clear q1); (try clear c2); (try clear p2); (try clear q2); (try clear hx2); (try clear qi2); (try clear c3); (try clear p3); (try clear c4); (try clear c5); (try clear p6); (try clear c10); (try clear c10b0); (try clear c11); (try clear c11b0); (try clear c11b1); (try clear c12); (try clear c12b0); (try clear c12b1); (try clear c13); (try clear c13b0); (try clear c13b1); (try clear c16); (try clear q16); (try clear c18); (try clear c18b0); (try clear c18b1); (try clear c19); (try clear c19b0); (try clear c19b1); (try clear c20); (try clear c21); (try clear p22); (try clear q22); (try clear hx22); (try clear qi22); (try clear c23); (try clear c25); (try clear c25b0); (try clear c25b1); (try clear c25b2); (try clear c26); (try clear c26b0); (try clear c26b1); (try clear c27); (try clear c27b0); (try clear c27b1); (try clear c28); (try clear c28b0); (try clear c28b1); (try clear c29); (try clear c29b0); (try clear c29b1); (try clear c30); (try clear c30b0); (try clear c30b1); (try clear p32); (try clear c33); (try clear c34); (try clear c34b0); (try clear c34b1); (try clear hcz17_0); (try clear hcz17_1); (try clear hcz17_2); (try clear hcz7_0); (try clear hcz7_1); (try clear hcz7_2); (try clear hcz9_0); (try clear hcz9_1); (try clear hcz9_2); (try clear hfz17_0); (try clear hfz17_1); (try clear hfz17_2); (try clear hfz7_0); (try clear hfz7_1); (try clear hfz7_2); (try clear hfz9_0); (try clear hfz9_1); (try clear hfz9_2); (try clear hx225_0); (try clear hx226_0); (try clear hx228_0); (try clear p2); (try clear p22); (try clear p225); (try clear p226); (try clear p228); (try clear p6); (try clear q016); (try clear q1); (try clear q16); (try clear q2); (try clear q22); (try clear q225); (try clear q226); (try clear q228)
               obtain ⟨rfl, kq, x12_31, x13_31, rfl, rfl, HA, HJ31, HO_8, BK214, HB⟩ := hcut
               cases kq with
               | zero => exact absurd HA.out (by simp [redpenref15_Units.j4])
               | succ kj31 =>
                have H := HA.out
                clear HA
                simp only [redpenref15_Units.j4] at H
                have HC35 := Aside0.mk H
                clear H
                go_upto_region 16 with (fail)
                go_cut [14, 119] (fun v14 v119 wc => v14 = .bool (a2_0 == 1) ∧ ∃ (kq : Nat) (x119_34 : Bool), v119 = .bool x119_34 ∧ Aside0 (redpenref15_Units.j5 kq a0 l1 x8_1 (wrap64 (a2_1 + a2_2)) x10_1 y216 x12_31 x13_31 x119_34 a2_0 a2_1 a2_2 = some (r1, r2)) ∧ Aside0 (kq ≤ kj31) ∧ Aside0 (Kd.R k45 45 wc w.heap.size (fun _ => True) u8 x8_1) ∧ Aside0 (wc.heap[gb214]? = some (.cells #[.int .u8 a2_0, .int .i64 a2_1, .int .i64 a2_2] 42 (0, 0))) ∧ Aside0 (Below w.heap.size w wc))
                case first =>
                 have H := HC35.out
                 clear HC35
                 by_cases c36 : a2_0 = 5
                 ·rw [if_pos c36] at H
                  have c36b0 : (a2_0 == 5) = true := beq_iff_eq.mpr c36
                  have c36b1 : (a2_0 != 5) = false := bne_eq_false_iff_eq.mpr c36
                  clear c36
                  (first | rw [c36b0] | (simp only [i64_w, i32_w]; rw [c36b0]) | skip)
                  by_cases c37 : a0 = 8
                  ·rw [if_pos c37] at H
                   have c37b0 : (a0 == 8) = true := beq_iff_eq.mpr c37
                   have c37b1 : (a0 != 8) = false := bne_eq_false_iff_eq.mpr c37
                   clear c37
                   by_cases c38 : (y216.length : Int) > 1
                   ·rw [if_pos c38] at H
                    have c38b0 : decide (1 < (y216.length : Int)) = true := decide_eq_true c38
                    have c38b1 : decide (1 < y216.length) = true := decide_eq_true (by omega)
                    clear c38
                    by_cases c39 : 0 < (y216.length : Int)
                    ·rw [if_pos c39] at H
                     have c39b0 : decide (0 < (y216.length : Int)) = true := decide_eq_true c39
                     have c39b1 : decide (0 < y216.length) = true := decide_eq_true (by omega)
                     clear c39
                     by_cases c40 : (rd y216 0) = 39
                     ·rw [if_pos c40] at H
                      have c40b0 : ((rd y216 0) == 39) = true := beq_iff_eq.mpr c40
                      have c40b1 : ((rd y216 0) != 39) = false := bne_eq_false_iff_eq.mpr c40
                      clear c40
                      by_cases c41 : 1 < (y216.length : Int)
                      ·rw [if_pos c41] at H
                       have c41b0 : decide (1 < (y216.length : Int)) = true := decide_eq_true c41
                       have c41b1 : decide (1 < y216.length) = true := decide_eq_true (by omega)
                       clear c41
                       have H' := Aside0.mk H
                       clear H
                       have hcz42_0 : wc.cell? ⟨gb214, 0, none⟩ = some (.int .u8 a2_0) := (blk_cell BK214.out 0).trans rfl
                       have hcz42_1 : wc.cell? ⟨gb214, 1, none⟩ = some (.int .i64 a2_1) := (blk_cell BK214.out 1).trans rfl
                       have hcz42_2 : wc.cell? ⟨gb214, 2, none⟩ = some (.int .i64 a2_2) := (blk_cell BK214.out 2).trans rfl
                       have hfz42_0 := blk_frozen BK214.out 0
                       have hfz42_1 := blk_frozen BK214.out 1
                       have hfz42_2 := blk_frozen BK214.out 2
                       have p229 : 0 ≤ (0 : Int) := (by omega)
                       have q229 : 0 < (y216.length : Int) := of_decide_eq_true (by first | (with_reducible assumption) | assumption)
                       obtain ⟨ad229, e229, hx229_0⟩ := Kd.at_int HR219.out 0 p229 q229
                       cases e229
                       have qi229 : (0 < y216.length) = True := eq_true (by omega)
                       (try rw [show ((0 : Int)).toNat = 0 from rfl] at hx229_0)
                       (try rw [Addr.add_zero'] at hx229_0)
                       replace hx229_0 := (HB.out.cell (World.block_lt_of_cell? w _ hx229_0)).trans hx229_0
                       replace p229 := eq_true p229
                       replace q229 := eq_true q229
                       have p230 : 0 ≤ (1 : Int) := (by omega)
                       have q230 : 1 < (y216.length : Int) := of_decide_eq_true (by first | (with_reducible assumption) | assumption)
                       obtain ⟨ad230, e230, hx230_0⟩ := Kd.at_int HR219.out 1 p230 q230
                       obtain rfl : ad229 = ad230 := (by injection e230)
                       (try simp only [show (1 : Int).toNat = 1 from rfl, Nat.reduceMul, Nat.reduceEqDiff, Go.Addr.add, ↓reduceIte] at hx230_0)
                       have qi230 : (1 < y216.length) = True := eq_true (by omega)
                       (try rw [show ((1 : Int)).toNat = 1 from rfl] at hx230_0)
                       replace hx230_0 := (HB.out.cell (World.block_lt_of_cell? w _ hx230_0)).trans hx230_0
                       replace p230 := eq_true p230
                       replace q230 := eq_true q230
                       go_wp2
                       go_meet
                       case rel => exact ⟨(by first | rfl | (simp [*]; done)), _, (((rd y216 1) == 39)), (by first | rfl | (simp; done) | (simp [*]; done) | (simp [wrap64, wrap32]; done)), H', ⟨by have := HK1.out; have := HJ14.out; have := HJ19.out; have := HJ23.out; have := HJ31.out; first | omega | exact Nat.le_refl _⟩, ⟨by (with_reducible repeat (first | apply Kd.R_alloc | apply Kd.R_drewN | apply Kd.R_drew)); exact HO_8.out⟩, ⟨by (with_reducible repeat (first | refine blk_drewN ?_ _ | refine blk_drew ?_ | refine blk_alloc ?_ _)); exact BK214.out⟩, ⟨by repeat (first | (with_reducible first | exact HB.out | apply below_alloc | apply pw_below_drewN | apply below_drew1 | refine below_set ?_ GE214.out) | exact HB.out)⟩⟩
                      ·rw [if_neg c41] at H
                       exact absurd H (by simp)
                     ·rw [if_neg c40] at H
                      have c40b0 : ((rd y216 0) == 39) = false := beq_eq_false_iff_ne.mpr c40
                      have c40b1 : ((rd y216 0) != 39) = true := bne_iff_ne.mpr c40
                      have H' := Aside0.mk H
                      clear H
                      have hcz43_0 : wc.cell? ⟨gb214, 0, none⟩ = some (.int .u8 a2_0) := (blk_cell BK214.out 0).trans rfl
                      have hcz43_1 : wc.cell? ⟨gb214, 1, none⟩ = some (.int .i64 a2_1) := (blk_cell BK214.out 1).trans rfl
                      have hcz43_2 : wc.cell? ⟨gb214, 2, none⟩ = some (.int .i64 a2_2) := (blk_cell BK214.out 2).trans rfl
                      have hfz43_0 := blk_frozen BK214.out 0
                      have hfz43_1 := blk_frozen BK214.out 1
                      have hfz43_2 := blk_frozen BK214.out 2
                      have p229 : 0 ≤ (0 : Int) := (by omega)
                      have q229 : 0 < (y216.length : Int) := of_decide_eq_true (by first | (with_reducible assumption) | assumption)
                      obtain ⟨ad229, e229, hx229_0⟩ := Kd.at_int HR219.out 0 p229 q229
                      cases e229
                      have qi229 : (0 < y216.length) = True := eq_true (by omega)
                      (try rw [show ((0 : Int)).toNat = 0 from rfl] at hx229_0)
                      (try rw [Addr.add_zero'] at hx229_0)
                      replace hx229_0 := (HB.out.cell (World.block_lt_of_cell? w _ hx229_0)).trans hx229_0
                      replace p229 := eq_true p229
                      replace q229 := eq_true q229
                      go_wp2
                      go_meet
                      case rel => exact ⟨(by first | rfl | (simp [*]; done)), _, (false), (by first | rfl | (simp; done) | (simp [*]; done) | (simp [wrap64, wrap32]; done)), H', ⟨by have := HK1.out; have := HJ14.out; have := HJ19.out; have := HJ23.out; have := HJ31.out; first | omega | exact Nat.le_refl _⟩, ⟨by (with_reducible repeat (first | apply Kd.R_alloc | apply Kd.R_drewN | apply Kd.R_drew)); exact HO_8.out⟩, ⟨by (with_reducible repeat (first | refine blk_drewN ?_ _ | refine blk_drew ?_ | refine blk_alloc ?_ _)); exact BK214.out⟩, ⟨by repeat (first | (with_reducible first | exact HB.out | apply below_alloc | apply pw_below_drewN | apply below_drew1 | refine below_set ?_ GE214.out) | exact HB.out)⟩⟩
                    ·rw [if_neg c39] at H
                     exact absurd H (by simp)
                   ·rw [if_neg c38] at H
                    have c38b0 : decide (1 < (y216.length : Int)) = false := decide_eq_false c38
                    have c38b1 : decide (1 < y216.length) = false := decide_eq_false (by omega)
                    clear c38
                    have H' := Aside0.mk H
                    clear H
                    have hcz44_0 : wc.cell? ⟨gb214, 0, none⟩ = some (.int .u8 a2_0) := (blk_cell BK214.out 0).trans rfl
                    have hcz44_1 : wc.cell? ⟨gb214, 1, none⟩ = some (.int .i64 a2_1) := (blk_cell BK214.out 1).trans rfl
                    have hcz44_2 : wc.cell? ⟨gb214, 2, none⟩ = some (.int .i64 a2_2) := (blk_cell BK214.out 2).trans rfl
                    have hfz44_0 := blk_frozen BK214.out 0
                    have hfz44_1 := blk_frozen BK214.out 1
                    have hfz44_2 := blk_frozen BK214.out 2
                    go_wp2
                    go_meet
                    case rel => exact ⟨(by first | rfl | (simp [*]; done)), _, (false), (by first | rfl | (simp; done) | (simp [*]; done) | (simp [wrap64, wrap32]; done)), H', ⟨by have := HK1.out; have := HJ14.out; have := HJ19.out; have := HJ23.out; have := HJ31.out; first | omega | exact Nat.le_refl _⟩, ⟨by (with_reducible repeat (first | apply Kd.R_alloc | apply Kd.R_drewN | apply Kd.R_drew)); exact HO_8.out⟩, ⟨by (with_reducible repeat (first | refine blk_drewN ?_ _ | refine blk_drew ?_ | refine blk_alloc ?_ _)); exact BK214.out⟩, ⟨by repeat (first | (with_reducible first | exact HB.out | apply below_alloc | apply pw_below_drewN | apply below_drew1 | refine below_set ?_ GE214.out) | exact HB.out)⟩⟩
                  ·rw [if_neg c37] at H
                   have c37b0 : (a0 == 8) = false := beq_eq_false_iff_ne.mpr c37
                   have c37b1 : (a0 != 8) = true := bne_iff_ne.mpr c37
                   have H' := Aside0.mk H
                   clear H
                   have hcz45_0 : wc.cell? ⟨gb214, 0, none⟩ = some (.int .u8 a2_0) := (blk_cell BK214.out 0).trans rfl
                   have hcz45_1 : wc.cell? ⟨gb214, 1, none⟩ = some (.int .i64 a2_1) := (blk_cell BK214.out 1).trans rfl
                   have hcz45_2 : wc.cell? ⟨gb214, 2, none⟩ = some (.int .i64 a2_2) := (blk_cell BK214.out 2).trans rfl
                   have hfz45_0 := blk_frozen BK214.out 0
                   have hfz45_1 := blk_frozen BK214.out 1
                   have hfz45_2 := blk_frozen BK214.out 2
                   go_wp2
                   go_meet
                   case rel => exact ⟨(by first | rfl | (simp [*]; done)), _, (false), (by first | rfl | (simp; done) | (simp [*]; done) | (simp [wrap64, wrap32]; done)), H', ⟨by have := HK1.out; have := HJ14.out; have := HJ19.out; have := HJ23.out; have := HJ31.out; first | omega | exact Nat.le_refl _⟩, ⟨by (with_reducible repeat (first | apply Kd.R_alloc | apply Kd.R_drewN | apply Kd.R_drew)); exact HO_8.out⟩, ⟨by (with_reducible repeat (first | refine blk_drewN ?_ _ | refine blk_drew ?_ | refine blk_alloc ?_ _)); exact BK214.out⟩, ⟨by repeat (first | (with_reducible first | exact HB.out | apply below_alloc | apply pw_below_drewN | apply below_drew1 | refine below_set ?_ GE214.out) | exact HB.out)⟩⟩
                 ·rw [if_neg c36] at H
                  have c36b0 : (a2_0 == 5) = false := beq_eq_false_iff_ne.mpr c36
                  have c36b1 : (a2_0 != 5) = true := bne_iff_ne.mpr c36
                  (first | rw [c36b0] | (simp only [i64_w, i32_w]; rw [c36b0]) | skip)
                  have H' := Aside0.mk H
                  clear H
                  have hcz46_0 : wc.cell? ⟨gb214, 0, none⟩ = some (.int .u8 a2_0) := (blk_cell BK214.out 0).trans rfl
                  have hcz46_1 : wc.cell? ⟨gb214, 1, none⟩ = some (.int .i64 a2_1) := (blk_cell BK214.out 1).trans rfl
                  have hcz46_2 : wc.cell? ⟨gb214, 2, none⟩ = some (.int .i64 a2_2) := (blk_cell BK214.out 2).trans rfl
                  have hfz46_0 := blk_frozen BK214.out 0
                  have hfz46_1 := blk_frozen BK214.out 1
                  have hfz46_2 := blk_frozen BK214.out 2
                  go_wp2
                  go_meet
                  case rel => exact ⟨(by first | rfl | (simp [*]; done)), _, (false), (by first | rfl | (simp; done) | (simp [*]; done) | (simp [wrap64, wrap32]; done)), H', ⟨by have := HK1.out; have := HJ14.out; have := HJ19.out; have := HJ23.out; have := HJ31.out; first | omega | exact Nat.le_refl _⟩, ⟨by (with_reducible repeat (first | apply Kd.R_alloc | apply Kd.R_drewN | apply Kd.R_drew)); exact HO_8.out⟩, ⟨by (with_reducible repeat (first | refine blk_drewN ?_ _ | refine blk_drew ?_ | refine blk_alloc ?_ _)); exact BK214.out⟩, ⟨by repeat (first | (with_reducible first | exact HB.out | apply below_alloc | apply pw_below_drewN | apply below_drew1 | refine below_set ?_ GE214.out) | exact HB.out)⟩⟩
                case rest =>
                 clear HC35
                 (try clear c1); (try clear q1); (try clear c2); (try clear p2); (try clear q2); (try clear hx2); (try clear qi2); (try clear c3); (try clear p3); (try clear c4); (try clear c5); (try clear p6); (try clear c10); (try clear c10b0); (try clear c11); (try clear c11b0); (try clear c11b1); (try clear c12); (try clear c12b0); (try clear c12b1); (try clear c13); (try clear c13b0); (try clear c13b1); (try clear c16); (try clear q16); (try clear c18); (try clear c18b0); (try clear c18b1); (try clear c19); (try clear c19b0); (try clear c19b1); (try clear c20); (try clear c21); (try clear p22); (try clear q22); (try clear hx22); (try clear qi22); (try clear c23); (try clear p23); (try clear q23); (try clear hx23); (try clear qi23); (try clear c25); (try clear c25b0); (try clear c25b1); (try clear c25b2); (try clear c26); (try clear c26b0); (try clear c26b1); (try clear c27); (try clear c27b0); (try clear c27b1); (try clear c28); (try clear c28b0); (try clear c28b1); (try clear c29); (try clear c29b0); (try clear c29b1); (try clear c30); (try clear c30b0); (try clear c30b1); (try clear p32); (try clear c33); (try clear c34); (try clear c34b0); (try clear c34b1); (try clear c36); (try clear c36b0); (try clear c36b1); (try clear c37); (try clear c37b0); (try clear c37b1); (try clear c38); (try clear c38b0); (try clear c38b1); (try clear c39); (try clear c39b0); (try clear c39b1); (try clear c40); (try clear c40b0); (try clear c40b1); (try clear c41); (try clear c41b0); (try clear c41b1); (try clear hcz17_0); (try clear hcz17_1); (try clear hcz17_2); (try clear hcz42_0); (try clear hcz42_1); (try clear hcz42_2); (try clear hcz43_0); (try clear hcz43_1); (try clear hcz43_2); (try clear hcz44_0); (try clear hcz44_1); (try clear hcz44_2); (try clear hcz45_0); (try clear hcz45_1); (try clear hcz45_2); (try clear hcz46_0); (try clear hcz46_1); (try clear hcz46_2); (try clear hcz7_0); (try clear hcz7_1); (try clear hcz7_2); (try clear hcz9_0); (try clear hcz9_1); (try clear hcz9_2); (try clear hfz17_0); (try clear hfz17_1); (try clear hfz17_2); (try clear hfz42_0); (try clear hfz42_1); (try clear hfz42_2); (try clear hfz43_0); (try clear hfz43_1); (try clear hfz43_2); (try clear hfz44_0); (try clear hfz44_1); (try clear hfz44_2); (try clear hfz45_0); (try clear hfz45_1); (try clear hfz45_2); (try clear hfz46_0); (try clear hfz46_1); (try clear hfz46_2); (try clear hfz7_0); (try clear hfz7_1); (try clear hfz7_2); (try clear hfz9_0); (try clear hfz9_1); (try clear hfz9_2); (try clear hx225_0); (try clear hx226_0); (try clear hx228_0); (try clear hx229_0); (try clear hx230_0); (try clear p2); (try clear p22); (try clear p225); (try clear p226); (try clear p228); (try clear p229); (try clear p230); (try clear p3); (try clear p32); (try clear p6); (try clear q016); (try clear q1); (try clear q16); (try clear q2); (try clear q22); (try clear q225); (try clear q226); (try clear q228); (try clear q229); (try clear q230)
                 obtain ⟨rfl, kq, x119_34, rfl, HA, HJ34, HO_8, BK214, HB⟩ := hcut
                 cases kq with
                 | zero => exact absurd HA.out (by simp [redpenref15_Units.j5])
                 | succ kj34 =>
                  have H := HA.out
                  clear HA
                  simp only [redpenref15_Units.j5] at H
                  have HC47 := Aside0.mk H
                  clear H
                  go_upto_if 119 with (fail)
                  go_cut [14, 12, 13] (fun v14 v12 v13 wc => v14 = .bool (a2_0 == 1) ∧ ∃ (kq : Nat) (x12_46 : Int) (x13_46 : Int), v12 = .int .i32 x12_46 ∧ v13 = .int .i64 x13_46 ∧ Aside0 (redpenref15_Units.j6 kq a0 l1 x8_1 (wrap64 (a2_1 + a2_2)) x10_1 y216 x12_46 x13_46 a2_0 a2_1 a2_2 = some (r1, r2)) ∧ Aside0 (kq ≤ kj34) ∧ Aside0 (Kd.R k45 45 wc w.heap.size (fun _ => True) u8 x8_1) ∧ Aside0 (wc.heap[gb214]? = some (.cells #[.int .u8 a2_0, .int .i64 a2_1, .int .i64 a2_2] 42 (0, 0))) ∧ Aside0 (Below w.heap.size w wc))
                  case first =>
                   have H := HC47.out
                   clear HC47
                   by_cases c48 : x119_34 = true
                   ·subst c48
                    have H1 : (redpenref15_Units.j6 kj34 a0 l1 x8_1 (wrap64 (a2_1 + a2_2)) x10_1 y216 39 2 a2_0 a2_1 a2_2) = some (r1, r2) := by rw [if_pos rfl] at H; exact H
                    clear H
                    have H := H1
                    clear H1
                    have H' := Aside0.mk H
                    clear H
                    go_wp2
                    go_meet
                    case rel => exact ⟨(by first | rfl | (simp [*]; done)), _, (39), (2), (by first | rfl | (simp; done) | (simp [*]; done) | (simp [wrap64, wrap32]; done)), (by first | rfl | (simp; done) | (simp [*]; done) | (simp [wrap64, wrap32]; done)), H', ⟨by have := HK1.out; have := HJ14.out; have := HJ19.out; have := HJ23.out; have := HJ31.out; have := HJ34.out; first | omega | exact Nat.le_refl _⟩, ⟨by (with_reducible repeat (first | apply Kd.R_alloc | apply Kd.R_drewN | apply Kd.R_drew)); exact HO_8.out⟩, ⟨by (with_reducible repeat (first | refine blk_drewN ?_ _ | refine blk_drew ?_ | refine blk_alloc ?_ _)); exact BK214.out⟩, ⟨by repeat (first | (with_reducible first | exact HB.out | apply below_alloc | apply pw_below_drewN | apply below_drew1 | refine below_set ?_ GE214.out) | exact HB.out)⟩⟩
                   ·replace c48 := Bool.eq_false_iff.mpr c48
                    subst c48
                    have H1 : (redpenref15_Units.j6 kj34 a0 l1 x8_1 (wrap64 (a2_1 + a2_2)) x10_1 y216 x12_31 x13_31 a2_0 a2_1 a2_2) = some (r1, r2) := by rw [if_neg (show ¬ (false = true) by decide)] at H; exact H
                    clear H
                    have H := H1
                    clear H1
                    have H' := Aside0.mk H
                    clear H
                    go_wp2
                    go_meet
                    case rel => exact ⟨(by first | rfl | (simp [*]; done)), _, (x12_31), (x13_31), (by first | rfl | (simp; done) | (simp [*]; done) | (simp [wrap64, wrap32]; done)), (by first | rfl | (simp; done) | (simp [*]; done) | (simp [wrap64, wrap32]; done)), H', ⟨by have := HK1.out; have := HJ14.out; have := HJ19.out; have := HJ23.out; have := HJ31.out; have := HJ34.out; first | omega | exact Nat.le_refl _⟩, ⟨by (with_reducible repeat (first | apply Kd.R_alloc | apply Kd.R_drewN | apply Kd.R_drew)); exact HO_8.out⟩, ⟨by (with_reducible repeat (first | refine blk_drewN ?_ _ | refine blk_drew ?_ | refine blk_alloc ?_ _)); exact BK214.out⟩, ⟨by repeat (first | (with_reducible first | exact HB.out | apply below_alloc | apply pw_below_drewN | apply below_drew1 | refine below_set ?_ GE214.out) | exact HB.out)⟩⟩
                  case rest =>
                   clear HC47
                   (try clear c1); (try clear q1); (try clear c2); (try clear p2); (try clear q2); (try clear hx2); (try clear qi2); (try clear c3); (try clear p3); (try clear c4); (try clear c5); (try clear p6); (try clear c10); (try clear c10b0); (try clear c11); (try clear c11b0); (try clear c11b1); (try clear c12); (try clear c12b0); (try clear c12b1); (try clear c13); (try clear c13b0); (try clear c13b1); (try clear c16); (try clear q16); (try clear c18); (try clear c18b0); (try clear c18b1); (try clear c19); (try clear c19b0); (try clear c19b1); (try clear c20); (try clear c21); (try clear p22); (try clear q22); (try clear hx22); (try clear qi22); (try clear c23); (try clear p23); (try clear q23); (try clear hx23); (try clear qi23); (try clear c25); (try clear c25b0); (try clear c25b1); (try clear c25b2); (try clear c26); (try clear c26b0); (try clear c26b1); (try clear c27); (try clear c27b0); (try clear c27b1); (try clear c28); (try clear c28b0); (try clear c28b1); (try clear c29); (try clear c29b0); (try clear c29b1); (try clear c30); (try clear c30b0); (try clear c30b1); (try clear p32); (try clear c33); (try clear c34); (try clear c34b0); (try clear c34b1); (try clear c36); (try clear c36b0); (try clear c36b1); (try clear c37); (try clear c37b0); (try clear c37b1); (try clear c38); (try clear c38b0); (try clear c38b1); (try clear c39); (try clear c39b0); (try clear c39b1); (try clear c40); (try clear c40b0); (try clear c40b1); (try clear c41); (try clear c41b0); (try clear c41b1); (try clear c48); (try clear hcz17_0); (try clear hcz17_1); (try clear hcz17_2); (try clear hcz42_0); (try clear hcz42_1); (try clear hcz42_2); (try clear hcz43_0); (try clear hcz43_1); (try clear hcz43_2); (try clear hcz44_0); (try clear hcz44_1); (try clear hcz44_2); (try clear hcz45_0); (try clear hcz45_1); (try clear hcz45_2); (try clear hcz46_0); (try clear hcz46_1); (try clear hcz46_2); (try clear hcz7_0); (try clear hcz7_1); (try clear hcz7_2); (try clear hcz9_0); (try clear hcz9_1); (try clear hcz9_2); (try clear hfz17_0); (try clear hfz17_1); (try clear hfz17_2); (try clear hfz42_0); (try clear hfz42_1); (try clear hfz42_2); (try clear hfz43_0); (try clear hfz43_1); (try clear hfz43_2); (try clear hfz44_0); (try clear hfz44_1); (try clear hfz44_2); (try clear hfz45_0); (try clear hfz45_1); (try clear hfz45_2); (try clear hfz46_0); (try clear hfz46_1); (try clear hfz46_2); (try clear hfz7_0); (try clear hfz7_1); (try clear hfz7_2); (try clear hfz9_0); (try clear hfz9_1); (try clear hfz9_2); (try clear hx225_0); (try clear hx226_0); (try clear hx228_0); (try clear hx229_0); (try clear hx230_0); (try clear p2); (try clear p22); (try clear p225); (try clear p226); (try clear p228); (try clear p229); (try clear p23); (try clear p230); (try clear p3); (try clear p32); (try clear p6); (try clear q016); (try clear q1); (try clear q16); (try clear q2); (try clear q22); (try clear q225); (try clear q226); (try clear q228); (try clear q229); (try clear q23); (try clear q230)
                   obtain ⟨rfl, kq, x12_46, x13_46, rfl, rfl, HA, HJ46, HO_8, BK214, HB⟩ := hcut
                   cases kq with
                   | zero => exact absurd HA.out (by simp [redpenref15_Units.j6])
                   | succ kj46 =>
                    have H := HA.out
                    clear HA
                    simp only [redpenref15_Units.j6] at H
                    have HC49 := Aside0.mk H
                    clear H
                    go_upto_region 18 with (fail)
                    go_cut [14, 130] (fun v14 v130 wc => v14 = .bool (a2_0 == 1) ∧ ∃ (kq : Nat) (x130_48 : Bool), v130 = .bool x130_48 ∧ Aside0 (redpenref15_Units.j7 kq a0 l1 x8_1 (wrap64 (a2_1 + a2_2)) x10_1 y216 x12_46 x13_46 x130_48 a2_0 a2_1 a2_2 = some (r1, r2)) ∧ Aside0 (kq ≤ kj46) ∧ Aside0 (Kd.R k45 45 wc w.heap.size (fun _ => True) u8 x8_1) ∧ Aside0 (wc.heap[gb214]? = some (.cells #[.int .u8 a2_0, .int .i64 a2_1, .int .i64 a2_2] 42 (0, 0))) ∧ Aside0 (Below w.heap.size w wc))
                    case first =>
                     have H := HC49.out
                     clear HC49
                     by_cases c50 : a2_0 = 5
                     ·rw [if_pos c50] at H
                      have c50b0 : (a2_0 == 5) = true := beq_iff_eq.mpr c50
                      have c50b1 : (a2_0 != 5) = false := bne_eq_false_iff_eq.mpr c50
                      clear c50
                      (first | rw [c50b0] | (simp only [i64_w, i32_w]; rw [c50b0]) | skip)
                      by_cases c51 : a0 ≥ 4
                      ·rw [if_pos c51] at H
                       have c51b0 : decide (4 ≤ a0) = true := decide_eq_true c51
                       clear c51
                       have H' := Aside0.mk H
                       clear H
                       have hcz52_0 : wc.cell? ⟨gb214, 0, none⟩ = some (.int .u8 a2_0) := (blk_cell BK214.out 0).trans rfl
                       have hcz52_1 : wc.cell? ⟨gb214, 1, none⟩ = some (.int .i64 a2_1) := (blk_cell BK214.out 1).trans rfl
                       have hcz52_2 : wc.cell? ⟨gb214, 2, none⟩ = some (.int .i64 a2_2) := (blk_cell BK214.out 2).trans rfl
                       have hfz52_0 := blk_frozen BK214.out 0
                       have hfz52_1 := blk_frozen BK214.out 1
                       have hfz52_2 := blk_frozen BK214.out 2
                       go_wp2
                       go_meet
                       case rel => exact ⟨(by first | rfl | (simp [*]; done)), _, (decide (a0 ≤ 7)), (by first | rfl | (simp; done) | (simp [*]; done) | (simp [wrap64, wrap32]; done)), H', ⟨by have := HK1.out; have := HJ14.out; have := HJ19.out; have := HJ23.out; have := HJ31.out; have := HJ34.out; have := HJ46.out; first | omega | exact Nat.le_refl _⟩, ⟨by (with_reducible repeat (first | apply Kd.R_alloc | apply Kd.R_drewN | apply Kd.R_drew)); exact HO_8.out⟩, ⟨by (with_reducible repeat (first | refine blk_drewN ?_ _ | refine blk_drew ?_ | refine blk_alloc ?_ _)); exact BK214.out⟩, ⟨by repeat (first | (with_reducible first | exact HB.out | apply below_alloc | apply pw_below_drewN | apply below_drew1 | refine below_set ?_ GE214.out) | exact HB.out)⟩⟩
                      ·rw [if_neg c51] at H
                       have c51b0 : decide (4 ≤ a0) = false := decide_eq_false c51
                       clear c51
                       have H' := Aside0.mk H
                       clear H
                       have hcz53_0 : wc.cell? ⟨gb214, 0, none⟩ = some (.int .u8 a2_0) := (blk_cell BK214.out 0).trans rfl
                       have hcz53_1 : wc.cell? ⟨gb214, 1, none⟩ = some (.int .i64 a2_1) := (blk_cell BK214.out 1).trans rfl
                       have hcz53_2 : wc.cell? ⟨gb214, 2, none⟩ = some (.int .i64 a2_2) := (blk_cell BK214.out 2).trans rfl
                       have hfz53_0 := blk_frozen BK214.out 0
                       have hfz53_1 := blk_frozen BK214.out 1
                       have hfz53_2 := blk_frozen BK214.out 2
                       go_wp2
                       go_meet
                       case rel => exact ⟨(by first | rfl | (simp [*]; done)), _, (false), (by first | rfl | (simp; done) | (simp [*]; done) | (simp [wrap64, wrap32]; done)), H', ⟨by have := HK1.out; have := HJ14.out; have := HJ19.out; have := HJ23.out; have := HJ31.out; have := HJ34.out; have := HJ46.out; first | omega | exact Nat.le_refl _⟩, ⟨by (with_reducible repeat (first | apply Kd.R_alloc | apply Kd.R_drewN | apply Kd.R_drew)); exact HO_8.out⟩, ⟨by (with_reducible repeat (first | refine blk_drewN ?_ _ | refine blk_drew ?_ | refine blk_alloc ?_ _)); exact BK214.out⟩, ⟨by repeat (first | (with_reducible first | exact HB.out | apply below_alloc | apply pw_below_drewN | apply below_drew1 | refine below_set ?_ GE214.out) | exact HB.out)⟩⟩
                     ·rw [if_neg c50] at H
                      have c50b0 : (a2_0 == 5) = false := beq_eq_false_iff_ne.mpr c50
                      have c50b1 : (a2_0 != 5) = true := bne_iff_ne.mpr c50
                      (first | rw [c50b0] | (simp only [i64_w, i32_w]; rw [c50b0]) | skip)
                      have H' := Aside0.mk H
                      clear H
                      have hcz54_0 : wc.cell? ⟨gb214, 0, none⟩ = some (.int .u8 a2_0) := (blk_cell BK214.out 0).trans rfl
                      have hcz54_1 : wc.cell? ⟨gb214, 1, none⟩ = some (.int .i64 a2_1) := (blk_cell BK214.out 1).trans rfl
                      have hcz54_2 : wc.cell? ⟨gb214, 2, none⟩ = some (.int .i64 a2_2) := (blk_cell BK214.out 2).trans rfl
                      have hfz54_0 := blk_frozen BK214.out 0
                      have hfz54_1 := blk_frozen BK214.out 1
                      have hfz54_2 := blk_frozen BK214.out 2
                      go_wp2
                      go_meet
                      case rel => exact ⟨(by first | rfl | (simp [*]; done)), _, (false), (by first | rfl | (simp; done) | (simp [*]; done) | (simp [wrap64, wrap32]; done)), H', ⟨by have := HK1.out; have := HJ14.out; have := HJ19.out; have := HJ23.out; have := HJ31.out; have := HJ34.out; have := HJ46.out; first | omega | exact Nat.le_refl _⟩, ⟨by (with_reducible repeat (first | apply Kd.R_alloc | apply Kd.R_drewN | apply Kd.R_drew)); exact HO_8.out⟩, ⟨by (with_reducible repeat (first | refine blk_drewN ?_ _ | refine blk_drew ?_ | refine blk_alloc ?_ _)); exact BK214.out⟩, ⟨by repeat (first | (with_reducible first | exact HB.out | apply below_alloc | apply pw_below_drewN | apply below_drew1 | refine below_set ?_ GE214.out) | exact HB.out)⟩⟩
                    case rest =>
                     clear HC49
                     (try clear c1); (try clear q1); (try clear c2); (try clear p2); (try clear q2); (try clear hx2); (try clear qi2); (try clear c3); (try clear p3); (try clear c4); (try clear c5); (try clear p6); (try clear c10); (try clear c10b0); (try clear c11); (try clear c11b0); (try clear c11b1); (try clear c12); (try clear c12b0); (try clear c12b1); (try clear c13); (try clear c13b0); (try clear c13b1); (try clear c16); (try clear q16); (try clear c18); (try clear c18b0); (try clear c18b1); (try clear c19); (try clear c19b0); (try clear c19b1); (try clear c20); (try clear c21); (try clear p22); (try clear q22); (try clear hx22); (try clear qi22); (try clear c23); (try clear p23); (try clear q23); (try clear hx23); (try clear qi23); (try clear c25); (try clear c25b0); (try clear c25b1); (try clear c25b2); (try clear c26); (try clear c26b0); (try clear c26b1); (try clear c27); (try clear c27b0); (try clear c27b1); (try clear c28); (try clear c28b0); (try clear c28b1); (try clear c29); (try clear c29b0); (try clear c29b1); (try clear c30); (try clear c30b0); (try clear c30b1); (try clear p32); (try clear c33); (try clear c34); (try clear c34b0); (try clear c34b1); (try clear c36); (try clear c36b0); (try clear c36b1); (try clear c37); (try clear c37b0); (try clear c37b1); (try clear c38); (try clear c38b0); (try clear c38b1); (try clear c39); (try clear c39b0); (try clear c39b1); (try clear c40); (try clear c40b0); (try clear c40b1); (try clear c41); (try clear c41b0); (try clear c41b1); (try clear c48); (try clear c50); (try clear c50b0); (try clear c50b1); (try clear c51); (try clear c51b0); (try clear hcz17_0); (try clear hcz17_1); (try clear hcz17_2); (try clear hcz42_0); (try clear hcz42_1); (try clear hcz42_2); (try clear hcz43_0); (try clear hcz43_1); (try clear hcz43_2); (try clear hcz44_0); (try clear hcz44_1); (try clear hcz44_2); (try clear hcz45_0); (try clear hcz45_1); (try clear hcz45_2); (try clear hcz46_0); (try clear hcz46_1); (try clear hcz46_2); (try clear hcz52_0); (try clear hcz52_1); (try clear hcz52_2); (try clear hcz53_0); (try clear hcz53_1); (try clear hcz53_2); (try clear hcz54_0); (try clear hcz54_1); (try clear hcz54_2); (try clear hcz7_0); (try clear hcz7_1); (try clear hcz7_2); (try clear hcz9_0); (try clear hcz9_1); (try clear hcz9_2); (try clear hfz17_0); (try clear hfz17_1); (try clear hfz17_2); (try clear hfz42_0); (try clear hfz42_1); (try clear hfz42_2); (try clear hfz43_0); (try clear hfz43_1); (try clear hfz43_2); (try clear hfz44_0); (try clear hfz44_1); (try clear hfz44_2); (try clear hfz45_0); (try clear hfz45_1); (try clear hfz45_2); (try clear hfz46_0); (try clear hfz46_1); (try clear hfz46_2); (try clear hfz52_0); (try clear hfz52_1); (try clear hfz52_2); (try clear hfz53_0); (try clear hfz53_1); (try clear hfz53_2); (try clear hfz54_0); (try clear hfz54_1); (try clear hfz54_2); (try clear hfz7_0); (try clear hfz7_1); (try clear hfz7_2); (try clear hfz9_0); (try clear hfz9_1); (try clear hfz9_2); (try clear hx225_0); (try clear hx226_0); (try clear hx228_0); (try clear hx229_0); (try clear hx230_0); (try clear p2); (try clear p22); (try clear p225); (try clear p226); (try clear p228); (try clear p229); (try clear p23); (try clear p230); (try clear p3); (try clear p32); (try clear p6); (try clear q016); (try clear q1); (try clear q16); (try clear q2); (try clear q22); (try clear q225); (try clear q226); (try clear q228); (try clear q229); (try clear q23); (try clear q230)
                     obtain ⟨rfl, kq, x130_48, rfl, HA, HJ48, HO_8, BK214, HB⟩ := hcut
                     cases kq with
                     | zero => exact absurd HA.out (by simp [redpenref15_Units.j7])
                     | succ kj48 =>
                      have H := HA.out
                      clear HA
                      simp only [redpenref15_Units.j7] at H
                      by_cases c55 : x130_48 = true
                      ·subst c55
                       have H1 : ((redpenref15_Escape.f kj48 a0 y216).bind fun bt231 => (if bt231.2.2 = true then (if x8_1.length < 5864062014805 then (redpenref15_Units.l0 kj48 a0 l1 (x8_1 ++ [(⟨bt231.1, (⟨x10_1, bt231.2.1⟩ : S40)⟩ : S45)]) (wrap64 (a2_1 + a2_2)) (wrap64 (x10_1 + bt231.2.1)) a2_0 a2_1 a2_2) else (none)) else (if x8_1.length < 5864062014805 then (redpenref15_Units.l0 kj48 a0 l1 (x8_1 ++ [(⟨x12_46, (⟨x10_1, x13_46⟩ : S40)⟩ : S45)]) (wrap64 (a2_1 + a2_2)) (wrap64 (x10_1 + x13_46)) a2_0 a2_1 a2_2) else (none)))) = some (r1, r2) := by rw [if_pos rfl] at H; exact H
                       clear H
                       have H := H1
                       clear H1
                       replace H := Option.bind_eq_some_iff.mp H
                       obtain ⟨⟨t231, t232, t233⟩, A560, H⟩ := H
                       replace H : (if t233 = true then (if x8_1.length < 5864062014805 then (redpenref15_Units.l0 kj48 a0 l1 (x8_1 ++ [(⟨t231, (⟨x10_1, t232⟩ : S40)⟩ : S45)]) (wrap64 (a2_1 + a2_2)) (wrap64 (x10_1 + t232)) a2_0 a2_1 a2_2) else (none)) else (if x8_1.length < 5864062014805 then (redpenref15_Units.l0 kj48 a0 l1 (x8_1 ++ [(⟨x12_46, (⟨x10_1, x13_46⟩ : S40)⟩ : S45)]) (wrap64 (a2_1 + a2_2)) (wrap64 (x10_1 + x13_46)) a2_0 a2_1 a2_2) else (none))) = some (r1, r2) := H
                       have A56 := Aside0.mk A560
                       clear A560
                       by_cases c57 : t233 = true
                       ·subst c57
                        have H1 : (if x8_1.length < 5864062014805 then (redpenref15_Units.l0 kj48 a0 l1 (x8_1 ++ [(⟨t231, (⟨x10_1, t232⟩ : S40)⟩ : S45)]) (wrap64 (a2_1 + a2_2)) (wrap64 (x10_1 + t232)) a2_0 a2_1 a2_2) else (none)) = some (r1, r2) := by rw [if_pos rfl] at H; exact H
                        clear H
                        have H := H1
                        clear H1
                        by_cases c58 : x8_1.length < 5864062014805
                        ·rw [if_pos c58] at H
                         have LMc58 := Aside0.mk c58
                         clear c58
                         obtain ⟨y234, hy234⟩ : ∃ y_ : List (S45), y_ = (x8_1 ++ [(⟨t231, (⟨x10_1, t232⟩ : S40)⟩ : S45)]) := ⟨_, rfl⟩
                         replace H : (redpenref15_Units.l0 kj48 a0 l1 y234 (wrap64 (a2_1 + a2_2)) (wrap64 (x10_1 + t232)) a2_0 a2_1 a2_2) = some (r1, r2) := by first | (rw [hy234]; with_reducible exact H) | (have H2_ := (Option.bind_some _ _).symm.trans H; rw [hy234]; with_reducible exact H2_) | (have H2_ := (Option.bind_some _ _).symm.trans H; with_reducible exact H2_) | with_reducible exact H | (rw [hy234]; exact H) | exact H
                         have Ny234 := Aside0.mk hy234
                         clear hy234
                         have H' := Aside0.mk H
                         clear H
                         go_wp2_with (first | ((with_reducible refine gate_callee (f := 15) rfl ?_); refine goesL_ (some 134) rfl rfl Tryd.func15 (by kernel_rfl) rfl #[.int .u8 a0, .slice A16 y216.length c16] rfl (by (try simp only [List.map_toArray, List.map_cons, List.map_nil]); first | done | rfl | (simp only [List.length_drop, List.length_take]; rfl)) ?_; (with_reducible refine (redpenref15_Escape.calls kj48 a0 _ _ y216 t231 t232 true _ ?side1 ?side2 A56.out).mono ?_); (case side1 => repeat (first | exact (Kd.C_below HR219.out HB.out) | (with_reducible refine Kd.C_alloc ?_ _) | (with_reducible refine Kd.C_drewN ?_ _) | (with_reducible refine Kd.C_drew ?_))); (case side2 => exact HC219.out); rintro e w' ⟨rfl, ⟨nd, rfl⟩⟩; refine ⟨_, rfl, ?_⟩) | ((with_reducible refine gate_builtin (b := .append) (xs := #[.tmp 141, .tmp 147]) rfl ?_); (try (refine gate_guard (by rfl) ?_; dsimp only)); at_builtin; refine Kd.R_append k45 (w0 := w) w.heap.size rfl (.tmp 141) (.tmp 147) 34 45 (.agg #[(.int .i32 0), (.int .i64 0), (.int .i64 0)]) 24 rfl Tryd.underlying34 info45 rfl (by decide) (by omega) u8 x8_1 (⟨t231, (⟨x10_1, t232⟩ : S40)⟩ : S45) [.int .i32 t231, .int .i64 x10_1, .int .i64 t232] (fun _ => True) (fun _ => False) rfl rfl ?aP (fun _ hk => hk.elim) ?aF ?aO ?aB ?aS ?aL ?_; (case aP => exact k45_mkM _ _ _ (⟨t231, (⟨x10_1, t232⟩ : S40)⟩ : S45)); (case aB => exact (by repeat (first | (with_reducible first | exact HB.out | apply below_alloc | apply pw_below_drewN | apply below_drew1 | refine below_set ?_ GE214.out) | exact HB.out))); (case aF => exact (fun _ _ => trivial)); (case aO => exact (by (with_reducible repeat (first | apply Kd.R_alloc | apply Kd.R_drewN | apply Kd.R_drew)); exact HO_8.out)); (case aS => exact (below_size (by repeat (first | (with_reducible first | exact HB.out | apply below_alloc | apply pw_below_drewN | apply below_drew1 | refine below_set ?_ GE214.out) | exact HB.out)))); (case aL => have := LMc58.out; omega); intro v235 w59 ho hb hg hat; rw [← Ny234.out] at ho; have n0_ := Aside0.mk (blk_grown (g := gb214) (o := .cells #[.int .u8 a2_0, .int .i64 a2_1, .int .i64 a2_2] 42 (0, 0)) (by (with_reducible repeat (first | refine blk_drewN ?_ _ | refine blk_drew ?_ | refine blk_alloc ?_ _)); exact BK214.out) hg (Kd.R_ne HO_8.out BK214.out (by decide))); have n1_ := Aside0.mk (hb); have n2_ := Aside0.mk (ho); clear BK214; clear HB; clear HO_8; have BK214 := n0_; have HB := n1_; have HO236 := n2_; clear n0_ n1_ n2_; clear ho hb hg hat))
                         go_roundg kj48
                         case measure => have := HK1.out; have := HJ14.out; have := HJ19.out; have := HJ23.out; have := HJ31.out; have := HJ34.out; have := HJ46.out; have := HJ48.out; omega
                         case rel => exact ⟨(y234), (wrap64 (x10_1 + t232)), (by first | rfl | (simp; done) | (simp [*]; done) | (simp [wrap64, wrap32]; done)), H', ⟨by have := HK1.out; have := HJ14.out; have := HJ19.out; have := HJ23.out; have := HJ31.out; have := HJ34.out; have := HJ46.out; have := HJ48.out; omega⟩, ⟨by (with_reducible repeat (first | apply Kd.R_alloc | apply Kd.R_drewN | apply Kd.R_drew)); exact HO236.out⟩, ⟨by (with_reducible repeat (first | refine blk_drewN ?_ _ | refine blk_drew ?_ | refine blk_alloc ?_ _)); exact BK214.out⟩, ⟨by repeat (first | (with_reducible first | exact HB.out | apply below_alloc | apply pw_below_drewN | apply below_drew1 | refine below_set ?_ GE214.out) | exact HB.out)⟩⟩
                        ·rw [if_neg c58] at H
                         exact absurd H (by simp)
                       ·replace c57 := Bool.eq_false_iff.mpr c57
                        subst c57
                        have H1 : (if x8_1.length < 5864062014805 then (redpenref15_Units.l0 kj48 a0 l1 (x8_1 ++ [(⟨x12_46, (⟨x10_1, x13_46⟩ : S40)⟩ : S45)]) (wrap64 (a2_1 + a2_2)) (wrap64 (x10_1 + x13_46)) a2_0 a2_1 a2_2) else (none)) = some (r1, r2) := by rw [if_neg (show ¬ (false = true) by decide)] at H; exact H
                        clear H
                        have H := H1
                        clear H1
                        by_cases c60 : x8_1.length < 5864062014805
                        ·rw [if_pos c60] at H
                         have LMc60 := Aside0.mk c60
                         clear c60
                         obtain ⟨y237, hy237⟩ : ∃ y_ : List (S45), y_ = (x8_1 ++ [(⟨x12_46, (⟨x10_1, x13_46⟩ : S40)⟩ : S45)]) := ⟨_, rfl⟩
                         replace H : (redpenref15_Units.l0 kj48 a0 l1 y237 (wrap64 (a2_1 + a2_2)) (wrap64 (x10_1 + x13_46)) a2_0 a2_1 a2_2) = some (r1, r2) := by first | (rw [hy237]; with_reducible exact H) | (have H2_ := (Option.bind_some _ _).symm.trans H; rw [hy237]; with_reducible exact H2_) | (have H2_ := (Option.bind_some _ _).symm.trans H; with_reducible exact H2_) | with_reducible exact H | (rw [hy237]; exact H) | exact H
                         have Ny237 := Aside0.mk hy237
                         clear hy237
                         have H' := Aside0.mk H
                         clear H
                         go_wp2_with (first | ((with_reducible refine gate_callee (f := 15) rfl ?_); refine goesL_ (some 134) rfl rfl Tryd.func15 (by kernel_rfl) rfl #[.int .u8 a0, .slice A16 y216.length c16] rfl (by (try simp only [List.map_toArray, List.map_cons, List.map_nil]); first | done | rfl | (simp only [List.length_drop, List.length_take]; rfl)) ?_; (with_reducible refine (redpenref15_Escape.calls kj48 a0 _ _ y216 t231 t232 false _ ?side1 ?side2 A56.out).mono ?_); (case side1 => repeat (first | exact (Kd.C_below HR219.out HB.out) | (with_reducible refine Kd.C_alloc ?_ _) | (with_reducible refine Kd.C_drewN ?_ _) | (with_reducible refine Kd.C_drew ?_))); (case side2 => exact HC219.out); rintro e w' ⟨rfl, ⟨nd, rfl⟩⟩; refine ⟨_, rfl, ?_⟩) | ((with_reducible refine gate_builtin (b := .append) (xs := #[.tmp 141, .tmp 147]) rfl ?_); (try (refine gate_guard (by rfl) ?_; dsimp only)); at_builtin; refine Kd.R_append k45 (w0 := w) w.heap.size rfl (.tmp 141) (.tmp 147) 34 45 (.agg #[(.int .i32 0), (.int .i64 0), (.int .i64 0)]) 24 rfl Tryd.underlying34 info45 rfl (by decide) (by omega) u8 x8_1 (⟨x12_46, (⟨x10_1, x13_46⟩ : S40)⟩ : S45) [.int .i32 x12_46, .int .i64 x10_1, .int .i64 x13_46] (fun _ => True) (fun _ => False) rfl rfl ?aP (fun _ hk => hk.elim) ?aF ?aO ?aB ?aS ?aL ?_; (case aP => exact k45_mkM _ _ _ (⟨x12_46, (⟨x10_1, x13_46⟩ : S40)⟩ : S45)); (case aB => exact (by repeat (first | (with_reducible first | exact HB.out | apply below_alloc | apply pw_below_drewN | apply below_drew1 | refine below_set ?_ GE214.out) | exact HB.out))); (case aF => exact (fun _ _ => trivial)); (case aO => exact (by (with_reducible repeat (first | apply Kd.R_alloc | apply Kd.R_drewN | apply Kd.R_drew)); exact HO_8.out)); (case aS => exact (below_size (by repeat (first | (with_reducible first | exact HB.out | apply below_alloc | apply pw_below_drewN | apply below_drew1 | refine below_set ?_ GE214.out) | exact HB.out)))); (case aL => have := LMc60.out; omega); intro v238 w61 ho hb hg hat; rw [← Ny237.out] at ho; have n0_ := Aside0.mk (blk_grown (g := gb214) (o := .cells #[.int .u8 a2_0, .int .i64 a2_1, .int .i64 a2_2] 42 (0, 0)) (by (with_reducible repeat (first | refine blk_drewN ?_ _ | refine blk_drew ?_ | refine blk_alloc ?_ _)); exact BK214.out) hg (Kd.R_ne HO_8.out BK214.out (by decide))); have n1_ := Aside0.mk (hb); have n2_ := Aside0.mk (ho); clear BK214; clear HB; clear HO_8; have BK214 := n0_; have HB := n1_; have HO239 := n2_; clear n0_ n1_ n2_; clear ho hb hg hat))
                         go_roundg kj48
                         case measure => have := HK1.out; have := HJ14.out; have := HJ19.out; have := HJ23.out; have := HJ31.out; have := HJ34.out; have := HJ46.out; have := HJ48.out; omega
                         case rel => exact ⟨(y237), (wrap64 (x10_1 + x13_46)), (by first | rfl | (simp; done) | (simp [*]; done) | (simp [wrap64, wrap32]; done)), H', ⟨by have := HK1.out; have := HJ14.out; have := HJ19.out; have := HJ23.out; have := HJ31.out; have := HJ34.out; have := HJ46.out; have := HJ48.out; omega⟩, ⟨by (with_reducible repeat (first | apply Kd.R_alloc | apply Kd.R_drewN | apply Kd.R_drew)); exact HO239.out⟩, ⟨by (with_reducible repeat (first | refine blk_drewN ?_ _ | refine blk_drew ?_ | refine blk_alloc ?_ _)); exact BK214.out⟩, ⟨by repeat (first | (with_reducible first | exact HB.out | apply below_alloc | apply pw_below_drewN | apply below_drew1 | refine below_set ?_ GE214.out) | exact HB.out)⟩⟩
                        ·rw [if_neg c60] at H
                         exact absurd H (by simp)
                      ·replace c55 := Bool.eq_false_iff.mpr c55
                       subst c55
                       have H1 : (if x8_1.length < 5864062014805 then (redpenref15_Units.l0 kj48 a0 l1 (x8_1 ++ [(⟨x12_46, (⟨x10_1, x13_46⟩ : S40)⟩ : S45)]) (wrap64 (a2_1 + a2_2)) (wrap64 (x10_1 + x13_46)) a2_0 a2_1 a2_2) else (none)) = some (r1, r2) := by rw [if_neg (show ¬ (false = true) by decide)] at H; exact H
                       clear H
                       have H := H1
                       clear H1
                       by_cases c62 : x8_1.length < 5864062014805
                       ·rw [if_pos c62] at H
                        have LMc62 := Aside0.mk c62
                        clear c62
                        obtain ⟨y240, hy240⟩ : ∃ y_ : List (S45), y_ = (x8_1 ++ [(⟨x12_46, (⟨x10_1, x13_46⟩ : S40)⟩ : S45)]) := ⟨_, rfl⟩
                        replace H : (redpenref15_Units.l0 kj48 a0 l1 y240 (wrap64 (a2_1 + a2_2)) (wrap64 (x10_1 + x13_46)) a2_0 a2_1 a2_2) = some (r1, r2) := by first | (rw [hy240]; with_reducible exact H) | (have H2_ := (Option.bind_some _ _).symm.trans H; rw [hy240]; with_reducible exact H2_) | (have H2_ := (Option.bind_some _ _).symm.trans H; with_reducible exact H2_) | with_reducible exact H | (rw [hy240]; exact H) | exact H
                        have Ny240 := Aside0.mk hy240
                        clear hy240
                        have H' := Aside0.mk H
                        clear H
                        go_wp2_with (first | ((with_reducible refine gate_builtin (b := .append) (xs := #[.tmp 141, .tmp 147]) rfl ?_); (try (refine gate_guard (by rfl) ?_; dsimp only)); at_builtin; refine Kd.R_append k45 (w0 := w) w.heap.size rfl (.tmp 141) (.tmp 147) 34 45 (.agg #[(.int .i32 0), (.int .i64 0), (.int .i64 0)]) 24 rfl Tryd.underlying34 info45 rfl (by decide) (by omega) u8 x8_1 (⟨x12_46, (⟨x10_1, x13_46⟩ : S40)⟩ : S45) [.int .i32 x12_46, .int .i64 x10_1, .int .i64 x13_46] (fun _ => True) (fun _ => False) rfl rfl ?aP (fun _ hk => hk.elim) ?aF ?aO ?aB ?aS ?aL ?_; (case aP => exact k45_mkM _ _ _ (⟨x12_46, (⟨x10_1, x13_46⟩ : S40)⟩ : S45)); (case aB => exact (by repeat (first | (with_reducible first | exact HB.out | apply below_alloc | apply pw_below_drewN | apply below_drew1 | refine below_set ?_ GE214.out) | exact HB.out))); (case aF => exact (fun _ _ => trivial)); (case aO => exact (by (with_reducible repeat (first | apply Kd.R_alloc | apply Kd.R_drewN | apply Kd.R_drew)); exact HO_8.out)); (case aS => exact (below_size (by repeat (first | (with_reducible first | exact HB.out | apply below_alloc | apply pw_below_drewN | apply below_drew1 | refine below_set ?_ GE214.out) | exact HB.out)))); (case aL => have := LMc62.out; omega); intro v241 w63 ho hb hg hat; rw [← Ny240.out] at ho; have n0_ := Aside0.mk (blk_grown (g := gb214) (o := .cells #[.int .u8 a2_0, .int .i64 a2_1, .int .i64 a2_2] 42 (0, 0)) (by (with_reducible repeat (first | refine blk_drewN ?_ _ | refine blk_drew ?_ | refine blk_alloc ?_ _)); exact BK214.out) hg (Kd.R_ne HO_8.out BK214.out (by decide))); have n1_ := Aside0.mk (hb); have n2_ := Aside0.mk (ho); clear BK214; clear HB; clear HO_8; have BK214 := n0_; have HB := n1_; have HO242 := n2_; clear n0_ n1_ n2_; clear ho hb hg hat))
                        go_roundg kj48
                        case measure => have := HK1.out; have := HJ14.out; have := HJ19.out; have := HJ23.out; have := HJ31.out; have := HJ34.out; have := HJ46.out; have := HJ48.out; omega
                        case rel => exact ⟨(y240), (wrap64 (x10_1 + x13_46)), (by first | rfl | (simp; done) | (simp [*]; done) | (simp [wrap64, wrap32]; done)), H', ⟨by have := HK1.out; have := HJ14.out; have := HJ19.out; have := HJ23.out; have := HJ31.out; have := HJ34.out; have := HJ46.out; have := HJ48.out; omega⟩, ⟨by (with_reducible repeat (first | apply Kd.R_alloc | apply Kd.R_drewN | apply Kd.R_drew)); exact HO242.out⟩, ⟨by (with_reducible repeat (first | refine blk_drewN ?_ _ | refine blk_drew ?_ | refine blk_alloc ?_ _)); exact BK214.out⟩, ⟨by repeat (first | (with_reducible first | exact HB.out | apply below_alloc | apply pw_below_drewN | apply below_drew1 | refine below_set ?_ GE214.out) | exact HB.out)⟩⟩
                       ·rw [if_neg c62] at H
                        exact absurd H (by simp)
       ·rw [if_neg c13] at H
        exact absurd H (by simp)
      ·rw [if_neg c12] at H
       exact absurd H (by simp)
     ·rw [if_neg c11] at H
      exact absurd H (by simp)
    ·rw [if_neg c10] at H
     have c10b0 : decide (x10_1 < (wrap64 (a2_1 + a2_2))) = false := decide_eq_false c10
     clear c10
     simp only [Option.some.injEq, Prod.mk.injEq] at H
     obtain ⟨rfl, rfl⟩ := H
     go_wp2
     go_ret2
     exact ⟨_, by first | rfl | (simp [errW_none, errW_some] <;> rfl) | (simp [*, errW_none, errW_some] <;> rfl), by (with_reducible repeat (first | apply Kd.R_alloc | apply Kd.R_drewN | apply Kd.R_drew)); exact HO_8.out, by repeat (first | (with_reducible first | exact HB.out | apply below_alloc | apply pw_below_drewN | apply below_drew1 | refine below_set ?_ GE214.out) | exact HB.out)⟩
 ·replace c5 := Bool.eq_false_iff.mpr c5
  subst c5
  have H1 : (some (([] : List (S45)), false)) = some (r1, r2) := by rw [if_neg (show ¬ (false = true) by decide)] at H; exact H
  clear H
  have H := H1
  clear H1
  simp only [Option.some.injEq, Prod.mk.injEq] at H
  obtain ⟨rfl, rfl⟩ := H
  go_enter Tryd.func20, Tryd.ntmps20
  go_wp2_with (first | ((with_reducible refine gate_dst (N := 5) rfl ?_); (try (refine gate_guard (by rfl) ?_; dsimp only)); refine box_event ?hg (N := 5) ?hd (cs := #[.int .u8 a2_0, .int .i64 a2_1, .int .i64 a2_2]) (t := 42) ?hr ?_; (case hd => rfl); (case hg => rfl); (case hr => first | (go_simp; done) | (go_simp; rfl)); intro gb214 hg w64 hbox hb; have n0_ := Aside0.mk (below_step (by repeat (first | (with_reducible first | exact HB.out | apply below_alloc | apply pw_below_drewN | apply below_drew1) | exact HB.out)) hb); have n1_ := Aside0.mk (hbox); have n2_ := Aside0.mk ((by rw [hg]; exact (below_size (by repeat (first | (with_reducible first | exact HB.out | apply below_alloc | apply pw_below_drewN | apply below_drew1) | exact HB.out))) : w.heap.size ≤ gb214)); have n3_ := Aside0.mk ((by rw [hg]; exact (below_size (by repeat (first | (with_reducible first | exact HB.out | apply below_alloc | apply pw_below_drewN | apply below_drew1) | exact HB.out))) : w.heap.size ≤ gb214)); clear HB; have HB := n0_; have BK214 := n1_; have GW214 := n2_; have GE214 := n3_; clear n0_ n1_ n2_ n3_; clear hb hbox hg; have hcz65_0 : w64.cell? ⟨gb214, 0, none⟩ = some (.int .u8 a2_0) := (blk_cell BK214.out 0).trans rfl; have hcz65_1 : w64.cell? ⟨gb214, 1, none⟩ = some (.int .i64 a2_1) := (blk_cell BK214.out 1).trans rfl; have hcz65_2 : w64.cell? ⟨gb214, 2, none⟩ = some (.int .i64 a2_2) := (blk_cell BK214.out 2).trans rfl; have hfz65_0 := blk_frozen BK214.out 0; have hfz65_1 := blk_frozen BK214.out 1; have hfz65_2 := blk_frozen BK214.out 2) | ((with_reducible refine gate_callee (f := 42) rfl ?_); refine goesL_ (some 25) rfl rfl Tryd.func42 (by kernel_rfl) rfl #[.agg #[.int .i64 a2_1, .int .i64 a2_2], .int .i64 (l1.length : Int)] rfl (by (try simp only [List.map_toArray, List.map_cons, List.map_nil]); first | done | rfl | (simp only [List.length_drop, List.length_take]; rfl)) ?_; (with_reducible refine (redpenref01_In.calls a2_1 a2_2 (l1.length : Int) false _ A4.out).mono ?_); rintro e w66 ⟨rfl, hb⟩; refine ⟨_, rfl, ?_⟩; have n0_ := Aside0.mk (blk_below (g := gb214) (o := .cells #[.int .u8 a2_0, .int .i64 a2_1, .int .i64 a2_2] 42 (0, 0)) (by (with_reducible repeat (first | refine blk_drewN ?_ _ | refine blk_drew ?_ | refine blk_alloc ?_ _)); exact BK214.out) hb); have n1_ := Aside0.mk (below_step (by repeat (first | (with_reducible first | exact HB.out | apply below_alloc | apply pw_below_drewN | apply below_drew1 | refine below_set ?_ GE214.out) | exact HB.out)) hb); clear BK214; clear HB; have BK214 := n0_; have HB := n1_; clear n0_ n1_; (try clear hb); (try clear hb2); (try clear hk); (try clear hi)))
  go_ret2
  exact ⟨_, by first | rfl | (simp [errW_none, errW_some] <;> rfl) | (simp [*, errW_none, errW_some] <;> rfl), by first | exact Kd.R_nil _ _ _ _ _ | exact Kd.N_nil _ _ _ _ _ | exact Kd.V_nil _ _ _ _ _ | exact Kd.Q_nil _ _ _ _ _ | exact Kd.S_nil _ _ _ _ _, by repeat (first | (with_reducible first | exact HB.out | apply below_alloc | apply pw_below_drewN | apply below_drew1 | refine below_set ?_ GE214.out) | exact HB.out)⟩

end Go.Proofs.YtekalnhackjldaaDoor.PDecodeUnits
