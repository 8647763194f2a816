-- x
import Derived.Test.YtokgkhndhlcfpaaPHunksLeastx0
import Derived.Test.YtokgkhndhlcfpaaPHunksLeastx4
import Derived.Test.YtokgkhndhlcfpaaPHunksLeastx7
import Derived.Test.YtokgkhndhlcfpaaPHunksLeastx8
namespace Go.Proofs.Ytokgkhndhlcfpaa.PHunksLeast
open Go.RowKit Go.Proofs.Ytokgkhndhlcfpaa.X Go.Proofs.YtokgkhndhlcfpaaW.PrintWords Go.Proofs.YtokgkhndhlcfpaaW.PrintLast Go.Proofs.YtokgkhndhlcfpaaW.PrintMore
attribute [local go_sem] max2_int min2_int max_two min_two max_three min_three max_four min_four   -- for this text's walks alone
set_option linter.unusedVariables false
set_option linter.unusedSimpArgs false

/-! ### redpenlaw19_HunksLeast: function 6 -/
mutual
def redpenlaw19_HunksLeast.l0 : Nat → List ByteArray → List ByteArray → Int → Int → Int → List (S39) → Int → Int → Option (Bool)
 | 0, _, _, _, _, _, _, _, _ => none
 | k + 1, x9, x10, x11, x12, x13, x28, x29, x30 => if x30 < x29 then (if 0 ≤ x30 then (if x30 < (x28.length : Int) then (if (wrap64 (((rd_T39 x28 x30).f0) - x11)) = (wrap64 (((rd_T39 x28 x30).f2) - x12)) then (if ((rd_T39 x28 x30).f0) < x11 then (redpenlaw19_HunksLeast.j1 k x9 x10 x11 x12 x13 x28 x29 x30 true ((rd_T39 x28 x30).f0) ((rd_T39 x28 x30).f1) ((rd_T39 x28 x30).f2) ((rd_T39 x28 x30).f3)) else (if x30 > 0 then (if ((rd_T39 x28 x30).f0) = x11 then (redpenlaw19_HunksLeast.j1 k x9 x10 x11 x12 x13 x28 x29 x30 true ((rd_T39 x28 x30).f0) ((rd_T39 x28 x30).f1) ((rd_T39 x28 x30).f2) ((rd_T39 x28 x30).f3)) else (if ((rd_T39 x28 x30).f1) < 0 then (redpenlaw19_HunksLeast.j1 k x9 x10 x11 x12 x13 x28 x29 x30 true ((rd_T39 x28 x30).f0) ((rd_T39 x28 x30).f1) ((rd_T39 x28 x30).f2) ((rd_T39 x28 x30).f3)) else (if ((rd_T39 x28 x30).f3) < 0 then (redpenlaw19_HunksLeast.j1 k x9 x10 x11 x12 x13 x28 x29 x30 true ((rd_T39 x28 x30).f0) ((rd_T39 x28 x30).f1) ((rd_T39 x28 x30).f2) ((rd_T39 x28 x30).f3)) else (if (wrap64 (((rd_T39 x28 x30).f1) + ((rd_T39 x28 x30).f3))) = 0 then (redpenlaw19_HunksLeast.j1 k x9 x10 x11 x12 x13 x28 x29 x30 true ((rd_T39 x28 x30).f0) ((rd_T39 x28 x30).f1) ((rd_T39 x28 x30).f2) ((rd_T39 x28 x30).f3)) else (if (wrap64 (((rd_T39 x28 x30).f0) + ((rd_T39 x28 x30).f1))) > (x9.length : Int) then (redpenlaw19_HunksLeast.j1 k x9 x10 x11 x12 x13 x28 x29 x30 true ((rd_T39 x28 x30).f0) ((rd_T39 x28 x30).f1) ((rd_T39 x28 x30).f2) ((rd_T39 x28 x30).f3)) else (redpenlaw19_HunksLeast.j1 k x9 x10 x11 x12 x13 x28 x29 x30 (decide ((wrap64 (((rd_T39 x28 x30).f2) + ((rd_T39 x28 x30).f3))) > (x10.length : Int))) ((rd_T39 x28 x30).f0) ((rd_T39 x28 x30).f1) ((rd_T39 x28 x30).f2) ((rd_T39 x28 x30).f3))))))) else (if ((rd_T39 x28 x30).f1) < 0 then (redpenlaw19_HunksLeast.j1 k x9 x10 x11 x12 x13 x28 x29 x30 true ((rd_T39 x28 x30).f0) ((rd_T39 x28 x30).f1) ((rd_T39 x28 x30).f2) ((rd_T39 x28 x30).f3)) else (if ((rd_T39 x28 x30).f3) < 0 then (redpenlaw19_HunksLeast.j1 k x9 x10 x11 x12 x13 x28 x29 x30 true ((rd_T39 x28 x30).f0) ((rd_T39 x28 x30).f1) ((rd_T39 x28 x30).f2) ((rd_T39 x28 x30).f3)) else (if (wrap64 (((rd_T39 x28 x30).f1) + ((rd_T39 x28 x30).f3))) = 0 then (redpenlaw19_HunksLeast.j1 k x9 x10 x11 x12 x13 x28 x29 x30 true ((rd_T39 x28 x30).f0) ((rd_T39 x28 x30).f1) ((rd_T39 x28 x30).f2) ((rd_T39 x28 x30).f3)) else (if (wrap64 (((rd_T39 x28 x30).f0) + ((rd_T39 x28 x30).f1))) > (x9.length : Int) then (redpenlaw19_HunksLeast.j1 k x9 x10 x11 x12 x13 x28 x29 x30 true ((rd_T39 x28 x30).f0) ((rd_T39 x28 x30).f1) ((rd_T39 x28 x30).f2) ((rd_T39 x28 x30).f3)) else (redpenlaw19_HunksLeast.j1 k x9 x10 x11 x12 x13 x28 x29 x30 (decide ((wrap64 (((rd_T39 x28 x30).f2) + ((rd_T39 x28 x30).f3))) > (x10.length : Int))) ((rd_T39 x28 x30).f0) ((rd_T39 x28 x30).f1) ((rd_T39 x28 x30).f2) ((rd_T39 x28 x30).f3)))))))) else (redpenlaw19_HunksLeast.j1 k x9 x10 x11 x12 x13 x28 x29 x30 true ((rd_T39 x28 x30).f0) ((rd_T39 x28 x30).f1) ((rd_T39 x28 x30).f2) ((rd_T39 x28 x30).f3))) else (none)) else (none)) else (if (wrap64 ((x9.length : Int) - x11)) = (wrap64 ((x10.length : Int) - x12)) then (redpenlaw19_HunksLeast.l2 k x9 x10 x11 x12 x13) else (some false))
def redpenlaw19_HunksLeast.j1 : Nat → List ByteArray → List ByteArray → Int → Int → Int → List (S39) → Int → Int → Bool → Int → Int → Int → Int → Option (Bool)
 | 0, _, _, _, _, _, _, _, _, _, _, _, _, _ => none
 | k + 1, x9, x10, x11, x12, x13, x28, x29, x30, x97, x371000, x371001, x371002, x371003 => if x97 = true then (some false) else (redpenlaw19_HunksLeast.l1 k x9 x10 x11 x12 x13 x28 x29 x30 x371000 x371001 x371002 x371003)
def redpenlaw19_HunksLeast.l1 : Nat → List ByteArray → List ByteArray → Int → Int → Int → List (S39) → Int → Int → Int → Int → Int → Int → Option (Bool)
 | 0, _, _, _, _, _, _, _, _, _, _, _, _ => none
 | k + 1, x9, x10, x11, x12, x13, x28, x29, x30, x371000, x371001, x371002, x371003 => if x11 < x371000 then (if 0 ≤ x11 then (if x11 < (x9.length : Int) then (if 0 ≤ x12 then (if x12 < (x10.length : Int) then (if (rdOf ByteArray.empty x9 x11).toList = (rdOf ByteArray.empty x10 x12).toList then (redpenlaw19_HunksLeast.l1 k x9 x10 (wrap64 (x11 + 1)) (wrap64 (x12 + 1)) x13 x28 x29 x30 x371000 x371001 x371002 x371003) else (some false)) else (none)) else (none)) else (none)) else (none)) else (redpenlaw19_HunksLeast.l0 k x9 x10 (wrap64 (x371000 + x371001)) (wrap64 (x371002 + x371003)) (wrap64 (x13 + (wrap64 (x371001 + x371003)))) x28 x29 (wrap64 (x30 + 1)))
def redpenlaw19_HunksLeast.l2 : Nat → List ByteArray → List ByteArray → Int → Int → Int → Option (Bool)
 | 0, _, _, _, _, _ => none
 | k + 1, x9, x10, x11, x12, x13 => if x11 < (x9.length : Int) then (if 0 ≤ x11 then (if 0 ≤ x12 then (if x12 < (x10.length : Int) then (if (rdOf ByteArray.empty x9 x11).toList = (rdOf ByteArray.empty x10 x12).toList then (redpenlaw19_HunksLeast.l2 k x9 x10 (wrap64 (x11 + 1)) (wrap64 (x12 + 1)) x13) else (some false)) else (none)) else (none)) else (none)) else ((redpenref18_Common.f k x9 x10).bind fun t375 => (some (x13 == (wrap64 ((wrap64 ((x9.length : Int) + (x10.length : Int))) - (wrap64 (2 * t375)))))))
end
def redpenlaw19_HunksLeast.f (k : Nat) (l0 : List Int) (l1 : List Int) (a2 : Bool) (a3 : Bool) : Option (Bool) := (redpenlaw19_Awake.f k).bind fun t353 => (if t353 = true then ((redpenlaw19_Text.f k l0 a2).bind fun t354 => ((redpenref01_Lines.f k t354).bind fun t357 => ((redpenlaw19_Text.f k l1 a3).bind fun t360 => ((redpenref01_Lines.f k t360).bind fun t363 => ((hunks_Changes.f k t357 t363).bind fun t366 => (redpenlaw19_HunksLeast.l0 k t357 t363 0 0 0 t366 (t366.length : Int) 0)))))) else (some false))
theorem redpenlaw19_HunksLeast.mono_l : ∀ k, (∀ y0 y1 y2 y3 y4 y5 y6 y7, LeO (redpenlaw19_HunksLeast.l0 k y0 y1 y2 y3 y4 y5 y6 y7) (redpenlaw19_HunksLeast.l0 (k + 1) y0 y1 y2 y3 y4 y5 y6 y7)) ∧ (∀ y0 y1 y2 y3 y4 y5 y6 y7 y8 y9 y10 y11 y12, LeO (redpenlaw19_HunksLeast.j1 k y0 y1 y2 y3 y4 y5 y6 y7 y8 y9 y10 y11 y12) (redpenlaw19_HunksLeast.j1 (k + 1) y0 y1 y2 y3 y4 y5 y6 y7 y8 y9 y10 y11 y12)) ∧ (∀ y0 y1 y2 y3 y4 y5 y6 y7 y8 y9 y10 y11, LeO (redpenlaw19_HunksLeast.l1 k y0 y1 y2 y3 y4 y5 y6 y7 y8 y9 y10 y11) (redpenlaw19_HunksLeast.l1 (k + 1) y0 y1 y2 y3 y4 y5 y6 y7 y8 y9 y10 y11)) ∧ (∀ y0 y1 y2 y3 y4, LeO (redpenlaw19_HunksLeast.l2 k y0 y1 y2 y3 y4) (redpenlaw19_HunksLeast.l2 (k + 1) y0 y1 y2 y3 y4))
 | 0 => ⟨fun _ _ _ _ _ _ _ _ r h => by simp [redpenlaw19_HunksLeast.l0] at h, fun _ _ _ _ _ _ _ _ _ _ _ _ _ r h => by simp [redpenlaw19_HunksLeast.j1] at h, fun _ _ _ _ _ _ _ _ _ _ _ _ r h => by simp [redpenlaw19_HunksLeast.l1] at h, fun _ _ _ _ _ r h => by simp [redpenlaw19_HunksLeast.l2] at h⟩
 | k + 1 => by
  obtain ⟨ih0, ih1, ih2, ih3⟩ := redpenlaw19_HunksLeast.mono_l k
  refine ⟨?_, ?_, ?_, ?_⟩
  ·intro y0 y1 y2 y3 y4 y5 y6 y7
   unfold redpenlaw19_HunksLeast.l0
   repeat' first
   | (with_reducible exact ih0 _ _ _ _ _ _ _ _)
   | (with_reducible exact ih1 _ _ _ _ _ _ _ _ _ _ _ _ _)
   | (with_reducible exact ih2 _ _ _ _ _ _ _ _ _ _ _ _)
   | (with_reducible exact ih3 _ _ _ _ _)
   | (with_reducible exact hunks_Changes.mono _ _ _)
   | (with_reducible exact redpenlaw19_Awake.mono _)
   | (with_reducible exact redpenlaw19_Text.mono _ _ _)
   | (with_reducible exact redpenref01_Lines.mono _ _)
   | (with_reducible exact redpenref18_Common.mono _ _ _)
   | (with_reducible exact LeO.refl _)
   | (with_reducible exact LeO.none _)
   | (with_reducible refine LeO.ite ?_ ?_)
   | (with_reducible refine LeO.bind ?_ (fun _ => ?_))
   | exact ih0 _ _ _ _ _ _ _ _
   | exact ih1 _ _ _ _ _ _ _ _ _ _ _ _ _
   | exact ih2 _ _ _ _ _ _ _ _ _ _ _ _
   | exact ih3 _ _ _ _ _
   | exact hunks_Changes.mono _ _ _
   | exact redpenlaw19_Awake.mono _
   | exact redpenlaw19_Text.mono _ _ _
   | exact redpenref01_Lines.mono _ _
   | exact redpenref18_Common.mono _ _ _
   | exact LeO.none _
   | refine LeO.ite ?_ ?_
   | refine LeO.bind ?_ (fun _ => ?_)
  ·intro y0 y1 y2 y3 y4 y5 y6 y7 y8 y9 y10 y11 y12
   unfold redpenlaw19_HunksLeast.j1
   repeat' first
   | (with_reducible exact ih0 _ _ _ _ _ _ _ _)
   | (with_reducible exact ih1 _ _ _ _ _ _ _ _ _ _ _ _ _)
   | (with_reducible exact ih2 _ _ _ _ _ _ _ _ _ _ _ _)
   | (with_reducible exact ih3 _ _ _ _ _)
   | (with_reducible exact hunks_Changes.mono _ _ _)
   | (with_reducible exact redpenlaw19_Awake.mono _)
   | (with_reducible exact redpenlaw19_Text.mono _ _ _)
   | (with_reducible exact redpenref01_Lines.mono _ _)
   | (with_reducible exact redpenref18_Common.mono _ _ _)
   | (with_reducible exact LeO.refl _)
   | (with_reducible exact LeO.none _)
   | (with_reducible refine LeO.ite ?_ ?_)
   | (with_reducible refine LeO.bind ?_ (fun _ => ?_))
   | exact ih0 _ _ _ _ _ _ _ _
   | exact ih1 _ _ _ _ _ _ _ _ _ _ _ _ _
   | exact ih2 _ _ _ _ _ _ _ _ _ _ _ _
   | exact ih3 _ _ _ _ _
   | exact hunks_Changes.mono _ _ _
   | exact redpenlaw19_Awake.mono _
   | exact redpenlaw19_Text.mono _ _ _
   | exact redpenref01_Lines.mono _ _
   | exact redpenref18_Common.mono _ _ _
   | exact LeO.none _
   | refine LeO.ite ?_ ?_
   | refine LeO.bind ?_ (fun _ => ?_)
  ·intro y0 y1 y2 y3 y4 y5 y6 y7 y8 y9 y10 y11
   unfold redpenlaw19_HunksLeast.l1
   repeat' first
   | (with_reducible exact ih0 _ _ _ _ _ _ _ _)
   | (with_reducible exact ih1 _ _ _ _ _ _ _ _ _ _ _ _ _)
   | (with_reducible exact ih2 _ _ _ _ _ _ _ _ _ _ _ _)
   | (with_reducible exact ih3 _ _ _ _ _)
   | (with_reducible exact hunks_Changes.mono _ _ _)
   | (with_reducible exact redpenlaw19_Awake.mono _)
   | (with_reducible exact redpenlaw19_Text.mono _ _ _)
   | (with_reducible exact redpenref01_Lines.mono _ _)
   | (with_reducible exact redpenref18_Common.mono _ _ _)
   | (with_reducible exact LeO.refl _)
   | (with_reducible exact LeO.none _)
   | (with_reducible refine LeO.ite ?_ ?_)
   | (with_reducible refine LeO.bind ?_ (fun _ => ?_))
   | exact ih0 _ _ _ _ _ _ _ _
   | exact ih1 _ _ _ _ _ _ _ _ _ _ _ _ _
   | exact ih2 _ _ _ _ _ _ _ _ _ _ _ _
   | exact ih3 _ _ _ _ _
   | exact hunks_Changes.mono _ _ _
   | exact redpenlaw19_Awake.mono _
   | exact redpenlaw19_Text.mono _ _ _
   | exact redpenref01_Lines.mono _ _
   | exact redpenref18_Common.mono _ _ _
   | exact LeO.none _
   | refine LeO.ite ?_ ?_
   | refine LeO.bind ?_ (fun _ => ?_)
  ·intro y0 y1 y2 y3 y4
   unfold redpenlaw19_HunksLeast.l2
   repeat' first
   | (with_reducible exact ih0 _ _ _ _ _ _ _ _)
   | (with_reducible exact ih1 _ _ _ _ _ _ _ _ _ _ _ _ _)
   | (with_reducible exact ih2 _ _ _ _ _ _ _ _ _ _ _ _)
   | (with_reducible exact ih3 _ _ _ _ _)
   | (with_reducible exact hunks_Changes.mono _ _ _)
   | (with_reducible exact redpenlaw19_Awake.mono _)
   | (with_reducible exact redpenlaw19_Text.mono _ _ _)
   | (with_reducible exact redpenref01_Lines.mono _ _)
   | (with_reducible exact redpenref18_Common.mono _ _ _)
   | (with_reducible exact LeO.refl _)
   | (with_reducible exact LeO.none _)
   | (with_reducible refine LeO.ite ?_ ?_)
   | (with_reducible refine LeO.bind ?_ (fun _ => ?_))
   | exact ih0 _ _ _ _ _ _ _ _
   | exact ih1 _ _ _ _ _ _ _ _ _ _ _ _ _
   | exact ih2 _ _ _ _ _ _ _ _ _ _ _ _
   | exact ih3 _ _ _ _ _
   | exact hunks_Changes.mono _ _ _
   | exact redpenlaw19_Awake.mono _
   | exact redpenlaw19_Text.mono _ _ _
   | exact redpenref01_Lines.mono _ _
   | exact redpenref18_Common.mono _ _ _
   | exact LeO.none _
   | refine LeO.ite ?_ ?_
   | refine LeO.bind ?_ (fun _ => ?_)
theorem redpenlaw19_HunksLeast.mono : ∀ a0 a1 a2 a3 k, LeO (redpenlaw19_HunksLeast.f k a0 a1 a2 a3) (redpenlaw19_HunksLeast.f (k + 1) a0 a1 a2 a3) := by
 intro a0 a1 a2 a3 k
 obtain ⟨ih0, ih1, ih2, ih3⟩ := redpenlaw19_HunksLeast.mono_l k
 unfold redpenlaw19_HunksLeast.f
 repeat' first
   | (with_reducible exact ih0 _ _ _ _ _ _ _ _)
   | (with_reducible exact ih1 _ _ _ _ _ _ _ _ _ _ _ _ _)
   | (with_reducible exact ih2 _ _ _ _ _ _ _ _ _ _ _ _)
   | (with_reducible exact ih3 _ _ _ _ _)
   | (with_reducible exact hunks_Changes.mono _ _ _)
   | (with_reducible exact redpenlaw19_Awake.mono _)
   | (with_reducible exact redpenlaw19_Text.mono _ _ _)
   | (with_reducible exact redpenref01_Lines.mono _ _)
   | (with_reducible exact redpenref18_Common.mono _ _ _)
   | (with_reducible exact LeO.refl _)
   | (with_reducible exact LeO.none _)
   | (with_reducible refine LeO.ite ?_ ?_)
   | (with_reducible refine LeO.bind ?_ (fun _ => ?_))
   | exact ih0 _ _ _ _ _ _ _ _
   | exact ih1 _ _ _ _ _ _ _ _ _ _ _ _ _
   | exact ih2 _ _ _ _ _ _ _ _ _ _ _ _
   | exact ih3 _ _ _ _ _
   | exact hunks_Changes.mono _ _ _
   | exact redpenlaw19_Awake.mono _
   | exact redpenlaw19_Text.mono _ _ _
   | exact redpenref01_Lines.mono _ _
   | exact redpenref18_Common.mono _ _ _
   | exact LeO.none _
   | refine LeO.ite ?_ ?_
   | refine LeO.bind ?_ (fun _ => ?_)
set_option maxHeartbeats 8000000 in
set_option maxRecDepth 100000 in
theorem redpenlaw19_HunksLeast.calls (k : Nat) (A0 : Option Addr) (c0 : Nat) (l0 : List Int) (A1 : Option Addr) (c1 : Nat) (l1 : List Int) (a2 : Bool) (a3 : Bool) (r : Bool) (w : World) (hr0 : Kd.C (Kd.int .u8) w A0 l0.length l0) (hc0 : l0.length ≤ c0) (hr1 : Kd.C (Kd.int .u8) w A1 l1.length l1) (hc1 : l1.length ≤ c1) (h : redpenlaw19_HunksLeast.f k l0 l1 a2 a3 = some r) (hr_ : r = true) :
  Calls Try.prog 6 #[.slice A0 l0.length c0, .slice A1 l1.length c1, .bool a2, .bool a3] w fun e w' => e = .returned (.bool r) ∧ Below w.heap.size w w' := by
 have hu39 := Try.underlying39
 have HR0 := Aside0.mk hr0
 have HC0 := Aside0.mk hc0
 clear hr0 hc0
 have HR1 := Aside0.mk hr1
 have HC1 := Aside0.mk hc1
 clear hr1 hc1
 have HB := Aside0.mk (Below.refl w.heap.size w)
 have H : ((redpenlaw19_Awake.f k).bind fun t353 => (if t353 = true then ((redpenlaw19_Text.f k l0 a2).bind fun t354 => ((redpenref01_Lines.f k t354).bind fun t357 => ((redpenlaw19_Text.f k l1 a3).bind fun t360 => ((redpenref01_Lines.f k t360).bind fun t363 => ((hunks_Changes.f k t357 t363).bind fun t366 => (redpenlaw19_HunksLeast.l0 k t357 t363 0 0 0 t366 (t366.length : Int) 0)))))) else (some false))) = some r := h
 clear h
 replace H := Option.bind_eq_some_iff.mp H
 obtain ⟨t353, A50, H⟩ := H
 replace H : (if t353 = true then ((redpenlaw19_Text.f k l0 a2).bind fun t354 => ((redpenref01_Lines.f k t354).bind fun t357 => ((redpenlaw19_Text.f k l1 a3).bind fun t360 => ((redpenref01_Lines.f k t360).bind fun t363 => ((hunks_Changes.f k t357 t363).bind fun t366 => (redpenlaw19_HunksLeast.l0 k t357 t363 0 0 0 t366 (t366.length : Int) 0)))))) else (some false)) = some r := H
 have A5 := Aside0.mk A50
 clear A50
 by_cases c6 : t353 = true
 ·subst c6
  have H1 : ((redpenlaw19_Text.f k l0 a2).bind fun t354 => ((redpenref01_Lines.f k t354).bind fun t357 => ((redpenlaw19_Text.f k l1 a3).bind fun t360 => ((redpenref01_Lines.f k t360).bind fun t363 => ((hunks_Changes.f k t357 t363).bind fun t366 => (redpenlaw19_HunksLeast.l0 k t357 t363 0 0 0 t366 (t366.length : Int) 0)))))) = some r := by rw [if_pos rfl] at H; exact H
  clear H
  have H := H1
  clear H1
  replace H := Option.bind_eq_some_iff.mp H
  obtain ⟨t354, A70, H⟩ := H
  replace H : ((redpenref01_Lines.f k t354).bind fun t357 => ((redpenlaw19_Text.f k l1 a3).bind fun t360 => ((redpenref01_Lines.f k t360).bind fun t363 => ((hunks_Changes.f k t357 t363).bind fun t366 => (redpenlaw19_HunksLeast.l0 k t357 t363 0 0 0 t366 (t366.length : Int) 0))))) = some r := H
  have A7 := Aside0.mk A70
  clear A70
  replace H := Option.bind_eq_some_iff.mp H
  obtain ⟨t357, A80, H⟩ := H
  replace H : ((redpenlaw19_Text.f k l1 a3).bind fun t360 => ((redpenref01_Lines.f k t360).bind fun t363 => ((hunks_Changes.f k t357 t363).bind fun t366 => (redpenlaw19_HunksLeast.l0 k t357 t363 0 0 0 t366 (t366.length : Int) 0)))) = some r := H
  have A8 := Aside0.mk A80
  clear A80
  replace H := Option.bind_eq_some_iff.mp H
  obtain ⟨t360, A90, H⟩ := H
  replace H : ((redpenref01_Lines.f k t360).bind fun t363 => ((hunks_Changes.f k t357 t363).bind fun t366 => (redpenlaw19_HunksLeast.l0 k t357 t363 0 0 0 t366 (t366.length : Int) 0))) = some r := H
  have A9 := Aside0.mk A90
  clear A90
  replace H := Option.bind_eq_some_iff.mp H
  obtain ⟨t363, A100, H⟩ := H
  replace H : ((hunks_Changes.f k t357 t363).bind fun t366 => (redpenlaw19_HunksLeast.l0 k t357 t363 0 0 0 t366 (t366.length : Int) 0)) = some r := H
  have A10 := Aside0.mk A100
  clear A100
  replace H := Option.bind_eq_some_iff.mp H
  obtain ⟨t366, A110, H⟩ := H
  replace H : (redpenlaw19_HunksLeast.l0 k t357 t363 0 0 0 t366 (t366.length : Int) 0) = some r := H
  have A11 := Aside0.mk A110
  clear A110
  have H' := Aside0.mk H
  clear H
  go_enter Try.func6, Try.ntmps6
  go_wp2_with (first | (go_at_call 17; (with_reducible refine (redpenlaw19_Awake.calls k  true _ A5.out).mono ?_); rintro e w12 ⟨rfl, hb⟩; have n0_ := Aside0.mk (below_step (by repeat (first | (with_reducible first | exact HB.out | apply below_alloc | apply pw_below_drewN | apply below_drew1) | exact HB.out)) hb); clear HB; have HB := n0_; clear n0_; (try clear hb); (try clear hb2); (try clear hk); (try clear hi)) | (go_at_call 19; (with_reducible refine (redpenlaw19_Text.calls k _ _ l0 a2 t354 _ ?side1 ?side2 A7.out).mono ?_); (case side1 => repeat (first | exact (Kd.C_below HR0.out HB.out) | (with_reducible refine Kd.C_alloc ?_ _) | (with_reducible refine Kd.C_drewN ?_ _) | (with_reducible refine Kd.C_drew ?_))); (case side2 => exact HC0.out); rintro e w13 ⟨v355, rfl, ho0, hb⟩; have n0_ := Aside0.mk (Kd.R_lower ho0 (below_size (by repeat (first | (with_reducible first | exact HB.out | apply below_alloc | apply pw_below_drewN | apply below_drew1) | exact HB.out)))); have n1_ := Aside0.mk (below_step (by repeat (first | (with_reducible first | exact HB.out | apply below_alloc | apply pw_below_drewN | apply below_drew1) | exact HB.out)) hb); clear HB; have HO356 := n0_; have HB := n1_; clear n0_ n1_; (try clear hb); (try clear hb2); (try clear hk); (try clear hi); (try clear ho0); obtain ⟨Ao14, co14, eo14⟩ := Kd.R_slice HO356.out; subst eo14) | (go_at_call 18; (with_reducible refine (redpenref01_Lines.calls k _ _ t354 t357 _ ?side1 ?side2 A8.out).mono ?_); (case side1 => repeat (first | exact (Kd.R_reads' HO356.out).2.2 | (with_reducible refine Kd.C_alloc ?_ _) | (with_reducible refine Kd.C_drewN ?_ _) | (with_reducible refine Kd.C_drew ?_))); (case side2 => exact (Kd.R_reads' HO356.out).2.1); rintro e w15 ⟨v358, rfl, ho0, hb⟩; have n0_ := Aside0.mk (Kd.R_below (by (with_reducible repeat (first | apply Kd.R_alloc | apply Kd.R_drewN | apply Kd.R_drew)); exact HO356.out) hb); have n1_ := Aside0.mk (Kd.R_lower ho0 (below_size (by repeat (first | (with_reducible first | exact HB.out | apply below_alloc | apply pw_below_drewN | apply below_drew1) | exact HB.out)))); have n2_ := Aside0.mk (below_step (by repeat (first | (with_reducible first | exact HB.out | apply below_alloc | apply pw_below_drewN | apply below_drew1) | exact HB.out)) hb); clear HO356; clear HB; have HO356 := n0_; have HO359 := n1_; have HB := n2_; clear n0_ n1_ n2_; (try clear hb); (try clear hb2); (try clear hk); (try clear hi); (try clear ho0)) | (go_at_call 19; (with_reducible refine (redpenlaw19_Text.calls k _ _ l1 a3 t360 _ ?side1 ?side2 A9.out).mono ?_); (case side1 => repeat (first | exact (Kd.C_below HR1.out HB.out) | (with_reducible refine Kd.C_alloc ?_ _) | (with_reducible refine Kd.C_drewN ?_ _) | (with_reducible refine Kd.C_drew ?_))); (case side2 => exact HC1.out); rintro e w16 ⟨v361, rfl, ho0, hb⟩; have n0_ := Aside0.mk (Kd.R_elder' (by (with_reducible repeat (first | apply Kd.R_alloc | apply Kd.R_drewN | apply Kd.R_drew)); exact HO356.out) (Kd.R_base ho0) hb); have n1_ := Aside0.mk (Kd.R_below (by (with_reducible repeat (first | apply Kd.R_alloc | apply Kd.R_drewN | apply Kd.R_drew)); exact HO359.out) hb); have n2_ := Aside0.mk (Kd.R_lower (Kd.R_new' ho0 (Kd.R_lt (by (with_reducible repeat (first | apply Kd.R_alloc | apply Kd.R_drewN | apply Kd.R_drew)); exact HO356.out))) (below_size (by repeat (first | (with_reducible first | exact HB.out | apply below_alloc | apply pw_below_drewN | apply below_drew1) | exact HB.out)))); have n3_ := Aside0.mk (below_step (by repeat (first | (with_reducible first | exact HB.out | apply below_alloc | apply pw_below_drewN | apply below_drew1) | exact HB.out)) hb); clear HO356; clear HO359; clear HB; have HO356 := n0_; have HO359 := n1_; have HO362 := n2_; have HB := n3_; clear n0_ n1_ n2_ n3_; (try clear hb); (try clear hb2); (try clear hk); (try clear hi); (try clear ho0); obtain ⟨Ao17, co17, eo17⟩ := Kd.R_slice HO362.out; subst eo17) | (go_at_call 18; (with_reducible refine (redpenref01_Lines.calls k _ _ t360 t363 _ ?side1 ?side2 A10.out).mono ?_); (case side1 => repeat (first | exact (Kd.R_reads' HO362.out).2.2 | (with_reducible refine Kd.C_alloc ?_ _) | (with_reducible refine Kd.C_drewN ?_ _) | (with_reducible refine Kd.C_drew ?_))); (case side2 => exact (Kd.R_reads' HO362.out).2.1); rintro e w18 ⟨v364, rfl, ho0, hb⟩; have n0_ := Aside0.mk (Kd.R_below (by (with_reducible repeat (first | apply Kd.R_alloc | apply Kd.R_drewN | apply Kd.R_drew)); exact HO356.out) hb); have n1_ := Aside0.mk (Kd.R_elder' (by (with_reducible repeat (first | apply Kd.R_alloc | apply Kd.R_drewN | apply Kd.R_drew)); exact HO359.out) (Kd.R_base ho0) hb); have n2_ := Aside0.mk (Kd.R_below (by (with_reducible repeat (first | apply Kd.R_alloc | apply Kd.R_drewN | apply Kd.R_drew)); exact HO362.out) hb); have n3_ := Aside0.mk (Kd.R_lower (Kd.R_new' ho0 (Kd.R_lt (by (with_reducible repeat (first | apply Kd.R_alloc | apply Kd.R_drewN | apply Kd.R_drew)); exact HO359.out))) (below_size (by repeat (first | (with_reducible first | exact HB.out | apply below_alloc | apply pw_below_drewN | apply below_drew1) | exact HB.out)))); have n4_ := Aside0.mk (below_step (by repeat (first | (with_reducible first | exact HB.out | apply below_alloc | apply pw_below_drewN | apply below_drew1) | exact HB.out)) hb); clear HO356; clear HO359; clear HO362; clear HB; have HO356 := n0_; have HO359 := n1_; have HO362 := n2_; have HO365 := n3_; have HB := n4_; clear n0_ n1_ n2_ n3_ n4_; (try clear hb); (try clear hb2); (try clear hk); (try clear hi); (try clear ho0); obtain ⟨Ao19, co19, eo19⟩ := Kd.R_slice HO359.out; subst eo19; obtain ⟨Ao20, co20, eo20⟩ := Kd.R_slice HO365.out; subst eo20) | (go_at_call 20; (with_reducible refine (hunks_Changes.calls k (fun k_ => some k_ = (.slice Ao19 t357.length co19 : Value).ownBlock) _ _ t357 (fun k_ => some k_ = (.slice Ao20 t363.length co20 : Value).ownBlock) _ _ t363 t366 _ ?side1 ?side2 A11.out).mono ?_); (case side1 => exact Kd.R_V (Kd.R_tight rfl (Kd.R_apart' (Kd.R_apart' (HO359.out) (Kd.R_typed HO356.out) (by decide)) (Kd.R_typed HO362.out) (by decide)))); (case side2 => exact Kd.R_V (Kd.R_tight rfl (Kd.R_apart' (Kd.R_apart' (HO365.out) (Kd.R_typed HO356.out) (by decide)) (Kd.R_typed HO362.out) (by decide)))); rintro e w21 ⟨v367, rfl, ho0, hb⟩; have n0_ := Aside0.mk (Kd.R_below (by (with_reducible repeat (first | apply Kd.R_alloc | apply Kd.R_drewN | apply Kd.R_drew)); exact HO356.out) hb); have n1_ := Aside0.mk (Kd.R_below (by (with_reducible repeat (first | apply Kd.R_alloc | apply Kd.R_drewN | apply Kd.R_drew)); exact HO359.out) hb); have n2_ := Aside0.mk (Kd.R_below (by (with_reducible repeat (first | apply Kd.R_alloc | apply Kd.R_drewN | apply Kd.R_drew)); exact HO362.out) hb); have n3_ := Aside0.mk (Kd.R_below (by (with_reducible repeat (first | apply Kd.R_alloc | apply Kd.R_drewN | apply Kd.R_drew)); exact HO365.out) hb); have n4_ := Aside0.mk (Kd.R_lower (Kd.R_mono (ok' := fun k_ => True) ho0 (fun _ hk_ => trivial)) (below_size (by repeat (first | (with_reducible first | exact HB.out | apply below_alloc | apply pw_below_drewN | apply below_drew1) | exact HB.out)))); have n5_ := Aside0.mk (below_step (by repeat (first | (with_reducible first | exact HB.out | apply below_alloc | apply pw_below_drewN | apply below_drew1) | exact HB.out)) hb); clear HO356; clear HO359; clear HO362; clear HO365; clear HB; have HO356 := n0_; have HO359 := n1_; have HO362 := n2_; have HO365 := n3_; have HO368 := n4_; have HB := n5_; clear n0_ n1_ n2_ n3_ n4_ n5_; (try clear hb); (try clear hb2); (try clear hk); (try clear hi); (try clear ho0); obtain ⟨Ao22, co22, eo22⟩ := Kd.R_slice HO368.out; subst eo22))
  repeat (go_quiet (first | (go_at_call 17; (with_reducible refine (redpenlaw19_Awake.calls k  true _ A5.out).mono ?_); rintro e w12 ⟨rfl, hb⟩; have n0_ := Aside0.mk (below_step (by repeat (first | (with_reducible first | exact HB.out | apply below_alloc | apply pw_below_drewN | apply below_drew1) | exact HB.out)) hb); clear HB; have HB := n0_; clear n0_; (try clear hb); (try clear hb2); (try clear hk); (try clear hi)) | (go_at_call 19; (with_reducible refine (redpenlaw19_Text.calls k _ _ l0 a2 t354 _ ?side1 ?side2 A7.out).mono ?_); (case side1 => repeat (first | exact (Kd.C_below HR0.out HB.out) | (with_reducible refine Kd.C_alloc ?_ _) | (with_reducible refine Kd.C_drewN ?_ _) | (with_reducible refine Kd.C_drew ?_))); (case side2 => exact HC0.out); rintro e w13 ⟨v355, rfl, ho0, hb⟩; have n0_ := Aside0.mk (Kd.R_lower ho0 (below_size (by repeat (first | (with_reducible first | exact HB.out | apply below_alloc | apply pw_below_drewN | apply below_drew1) | exact HB.out)))); have n1_ := Aside0.mk (below_step (by repeat (first | (with_reducible first | exact HB.out | apply below_alloc | apply pw_below_drewN | apply below_drew1) | exact HB.out)) hb); clear HB; have HO356 := n0_; have HB := n1_; clear n0_ n1_; (try clear hb); (try clear hb2); (try clear hk); (try clear hi); (try clear ho0); obtain ⟨Ao14, co14, eo14⟩ := Kd.R_slice HO356.out; subst eo14) | (go_at_call 18; (with_reducible refine (redpenref01_Lines.calls k _ _ t354 t357 _ ?side1 ?side2 A8.out).mono ?_); (case side1 => repeat (first | exact (Kd.R_reads' HO356.out).2.2 | (with_reducible refine Kd.C_alloc ?_ _) | (with_reducible refine Kd.C_drewN ?_ _) | (with_reducible refine Kd.C_drew ?_))); (case side2 => exact (Kd.R_reads' HO356.out).2.1); rintro e w15 ⟨v358, rfl, ho0, hb⟩; have n0_ := Aside0.mk (Kd.R_below (by (with_reducible repeat (first | apply Kd.R_alloc | apply Kd.R_drewN | apply Kd.R_drew)); exact HO356.out) hb); have n1_ := Aside0.mk (Kd.R_lower ho0 (below_size (by repeat (first | (with_reducible first | exact HB.out | apply below_alloc | apply pw_below_drewN | apply below_drew1) | exact HB.out)))); have n2_ := Aside0.mk (below_step (by repeat (first | (with_reducible first | exact HB.out | apply below_alloc | apply pw_below_drewN | apply below_drew1) | exact HB.out)) hb); clear HO356; clear HB; have HO356 := n0_; have HO359 := n1_; have HB := n2_; clear n0_ n1_ n2_; (try clear hb); (try clear hb2); (try clear hk); (try clear hi); (try clear ho0)) | (go_at_call 19; (with_reducible refine (redpenlaw19_Text.calls k _ _ l1 a3 t360 _ ?side1 ?side2 A9.out).mono ?_); (case side1 => repeat (first | exact (Kd.C_below HR1.out HB.out) | (with_reducible refine Kd.C_alloc ?_ _) | (with_reducible refine Kd.C_drewN ?_ _) | (with_reducible refine Kd.C_drew ?_))); (case side2 => exact HC1.out); rintro e w16 ⟨v361, rfl, ho0, hb⟩; have n0_ := Aside0.mk (Kd.R_elder' (by (with_reducible repeat (first | apply Kd.R_alloc | apply Kd.R_drewN | apply Kd.R_drew)); exact HO356.out) (Kd.R_base ho0) hb); have n1_ := Aside0.mk (Kd.R_below (by (with_reducible repeat (first | apply Kd.R_alloc | apply Kd.R_drewN | apply Kd.R_drew)); exact HO359.out) hb); have n2_ := Aside0.mk (Kd.R_lower (Kd.R_new' ho0 (Kd.R_lt (by (with_reducible repeat (first | apply Kd.R_alloc | apply Kd.R_drewN | apply Kd.R_drew)); exact HO356.out))) (below_size (by repeat (first | (with_reducible first | exact HB.out | apply below_alloc | apply pw_below_drewN | apply below_drew1) | exact HB.out)))); have n3_ := Aside0.mk (below_step (by repeat (first | (with_reducible first | exact HB.out | apply below_alloc | apply pw_below_drewN | apply below_drew1) | exact HB.out)) hb); clear HO356; clear HO359; clear HB; have HO356 := n0_; have HO359 := n1_; have HO362 := n2_; have HB := n3_; clear n0_ n1_ n2_ n3_; (try clear hb); (try clear hb2); (try clear hk); (try clear hi); (try clear ho0); obtain ⟨Ao17, co17, eo17⟩ := Kd.R_slice HO362.out; subst eo17) | (go_at_call 18; (with_reducible refine (redpenref01_Lines.calls k _ _ t360 t363 _ ?side1 ?side2 A10.out).mono ?_); (case side1 => repeat (first | exact (Kd.R_reads' HO362.out).2.2 | (with_reducible refine Kd.C_alloc ?_ _) | (with_reducible refine Kd.C_drewN ?_ _) | (with_reducible refine Kd.C_drew ?_))); (case side2 => exact (Kd.R_reads' HO362.out).2.1); rintro e w18 ⟨v364, rfl, ho0, hb⟩; have n0_ := Aside0.mk (Kd.R_below (by (with_reducible repeat (first | apply Kd.R_alloc | apply Kd.R_drewN | apply Kd.R_drew)); exact HO356.out) hb); have n1_ := Aside0.mk (Kd.R_elder' (by (with_reducible repeat (first | apply Kd.R_alloc | apply Kd.R_drewN | apply Kd.R_drew)); exact HO359.out) (Kd.R_base ho0) hb); have n2_ := Aside0.mk (Kd.R_below (by (with_reducible repeat (first | apply Kd.R_alloc | apply Kd.R_drewN | apply Kd.R_drew)); exact HO362.out) hb); have n3_ := Aside0.mk (Kd.R_lower (Kd.R_new' ho0 (Kd.R_lt (by (with_reducible repeat (first | apply Kd.R_alloc | apply Kd.R_drewN | apply Kd.R_drew)); exact HO359.out))) (below_size (by repeat (first | (with_reducible first | exact HB.out | apply below_alloc | apply pw_below_drewN | apply below_drew1) | exact HB.out)))); have n4_ := Aside0.mk (below_step (by repeat (first | (with_reducible first | exact HB.out | apply below_alloc | apply pw_below_drewN | apply below_drew1) | exact HB.out)) hb); clear HO356; clear HO359; clear HO362; clear HB; have HO356 := n0_; have HO359 := n1_; have HO362 := n2_; have HO365 := n3_; have HB := n4_; clear n0_ n1_ n2_ n3_ n4_; (try clear hb); (try clear hb2); (try clear hk); (try clear hi); (try clear ho0); obtain ⟨Ao19, co19, eo19⟩ := Kd.R_slice HO359.out; subst eo19; obtain ⟨Ao20, co20, eo20⟩ := Kd.R_slice HO365.out; subst eo20) | (go_at_call 20; (with_reducible refine (hunks_Changes.calls k (fun k_ => some k_ = (.slice Ao19 t357.length co19 : Value).ownBlock) _ _ t357 (fun k_ => some k_ = (.slice Ao20 t363.length co20 : Value).ownBlock) _ _ t363 t366 _ ?side1 ?side2 A11.out).mono ?_); (case side1 => exact Kd.R_V (Kd.R_tight rfl (Kd.R_apart' (Kd.R_apart' (HO359.out) (Kd.R_typed HO356.out) (by decide)) (Kd.R_typed HO362.out) (by decide)))); (case side2 => exact Kd.R_V (Kd.R_tight rfl (Kd.R_apart' (Kd.R_apart' (HO365.out) (Kd.R_typed HO356.out) (by decide)) (Kd.R_typed HO362.out) (by decide)))); rintro e w21 ⟨v367, rfl, ho0, hb⟩; have n0_ := Aside0.mk (Kd.R_below (by (with_reducible repeat (first | apply Kd.R_alloc | apply Kd.R_drewN | apply Kd.R_drew)); exact HO356.out) hb); have n1_ := Aside0.mk (Kd.R_below (by (with_reducible repeat (first | apply Kd.R_alloc | apply Kd.R_drewN | apply Kd.R_drew)); exact HO359.out) hb); have n2_ := Aside0.mk (Kd.R_below (by (with_reducible repeat (first | apply Kd.R_alloc | apply Kd.R_drewN | apply Kd.R_drew)); exact HO362.out) hb); have n3_ := Aside0.mk (Kd.R_below (by (with_reducible repeat (first | apply Kd.R_alloc | apply Kd.R_drewN | apply Kd.R_drew)); exact HO365.out) hb); have n4_ := Aside0.mk (Kd.R_lower (Kd.R_mono (ok' := fun k_ => True) ho0 (fun _ hk_ => trivial)) (below_size (by repeat (first | (with_reducible first | exact HB.out | apply below_alloc | apply pw_below_drewN | apply below_drew1) | exact HB.out)))); have n5_ := Aside0.mk (below_step (by repeat (first | (with_reducible first | exact HB.out | apply below_alloc | apply pw_below_drewN | apply below_drew1) | exact HB.out)) hb); clear HO356; clear HO359; clear HO362; clear HO365; clear HB; have HO356 := n0_; have HO359 := n1_; have HO362 := n2_; have HO365 := n3_; have HO368 := n4_; have HB := n5_; clear n0_ n1_ n2_ n3_ n4_ n5_; (try clear hb); (try clear hb2); (try clear hk); (try clear hi); (try clear ho0); obtain ⟨Ao22, co22, eo22⟩ := Kd.R_slice HO368.out; subst eo22)); try go_wp2_with (first | (go_at_call 17; (with_reducible refine (redpenlaw19_Awake.calls k  true _ A5.out).mono ?_); rintro e w12 ⟨rfl, hb⟩; have n0_ := Aside0.mk (below_step (by repeat (first | (with_reducible first | exact HB.out | apply below_alloc | apply pw_below_drewN | apply below_drew1) | exact HB.out)) hb); clear HB; have HB := n0_; clear n0_; (try clear hb); (try clear hb2); (try clear hk); (try clear hi)) | (go_at_call 19; (with_reducible refine (redpenlaw19_Text.calls k _ _ l0 a2 t354 _ ?side1 ?side2 A7.out).mono ?_); (case side1 => repeat (first | exact (Kd.C_below HR0.out HB.out) | (with_reducible refine Kd.C_alloc ?_ _) | (with_reducible refine Kd.C_drewN ?_ _) | (with_reducible refine Kd.C_drew ?_))); (case side2 => exact HC0.out); rintro e w13 ⟨v355, rfl, ho0, hb⟩; have n0_ := Aside0.mk (Kd.R_lower ho0 (below_size (by repeat (first | (with_reducible first | exact HB.out | apply below_alloc | apply pw_below_drewN | apply below_drew1) | exact HB.out)))); have n1_ := Aside0.mk (below_step (by repeat (first | (with_reducible first | exact HB.out | apply below_alloc | apply pw_below_drewN | apply below_drew1) | exact HB.out)) hb); clear HB; have HO356 := n0_; have HB := n1_; clear n0_ n1_; (try clear hb); (try clear hb2); (try clear hk); (try clear hi); (try clear ho0); obtain ⟨Ao14, co14, eo14⟩ := Kd.R_slice HO356.out; subst eo14) | (go_at_call 18; (with_reducible refine (redpenref01_Lines.calls k _ _ t354 t357 _ ?side1 ?side2 A8.out).mono ?_); (case side1 => repeat (first | exact (Kd.R_reads' HO356.out).2.2 | (with_reducible refine Kd.C_alloc ?_ _) | (with_reducible refine Kd.C_drewN ?_ _) | (with_reducible refine Kd.C_drew ?_))); (case side2 => exact (Kd.R_reads' HO356.out).2.1); rintro e w15 ⟨v358, rfl, ho0, hb⟩; have n0_ := Aside0.mk (Kd.R_below (by (with_reducible repeat (first | apply Kd.R_alloc | apply Kd.R_drewN | apply Kd.R_drew)); exact HO356.out) hb); have n1_ := Aside0.mk (Kd.R_lower ho0 (below_size (by repeat (first | (with_reducible first | exact HB.out | apply below_alloc | apply pw_below_drewN | apply below_drew1) | exact HB.out)))); have n2_ := Aside0.mk (below_step (by repeat (first | (with_reducible first | exact HB.out | apply below_alloc | apply pw_below_drewN | apply below_drew1) | exact HB.out)) hb); clear HO356; clear HB; have HO356 := n0_; have HO359 := n1_; have HB := n2_; clear n0_ n1_ n2_; (try clear hb); (try clear hb2); (try clear hk); (try clear hi); (try clear ho0)) | (go_at_call 19; (with_reducible refine (redpenlaw19_Text.calls k _ _ l1 a3 t360 _ ?side1 ?side2 A9.out).mono ?_); (case side1 => repeat (first | exact (Kd.C_below HR1.out HB.out) | (with_reducible refine Kd.C_alloc ?_ _) | (with_reducible refine Kd.C_drewN ?_ _) | (with_reducible refine Kd.C_drew ?_))); (case side2 => exact HC1.out); rintro e w16 ⟨v361, rfl, ho0, hb⟩; have n0_ := Aside0.mk (Kd.R_elder' (by (with_reducible repeat (first | apply Kd.R_alloc | apply Kd.R_drewN | apply Kd.R_drew)); exact HO356.out) (Kd.R_base ho0) hb); have n1_ := Aside0.mk (Kd.R_below (by (with_reducible repeat (first | apply Kd.R_alloc | apply Kd.R_drewN | apply Kd.R_drew)); exact HO359.out) hb); have n2_ := Aside0.mk (Kd.R_lower (Kd.R_new' ho0 (Kd.R_lt (by (with_reducible repeat (first | apply Kd.R_alloc | apply Kd.R_drewN | apply Kd.R_drew)); exact HO356.out))) (below_size (by repeat (first | (with_reducible first | exact HB.out | apply below_alloc | apply pw_below_drewN | apply below_drew1) | exact HB.out)))); have n3_ := Aside0.mk (below_step (by repeat (first | (with_reducible first | exact HB.out | apply below_alloc | apply pw_below_drewN | apply below_drew1) | exact HB.out)) hb); clear HO356; clear HO359; clear HB; have HO356 := n0_; have HO359 := n1_; have HO362 := n2_; have HB := n3_; clear n0_ n1_ n2_ n3_; (try clear hb); (try clear hb2); (try clear hk); (try clear hi); (try clear ho0); obtain ⟨Ao17, co17, eo17⟩ := Kd.R_slice HO362.out; subst eo17) | (go_at_call 18; (with_reducible refine (redpenref01_Lines.calls k _ _ t360 t363 _ ?side1 ?side2 A10.out).mono ?_); (case side1 => repeat (first | exact (Kd.R_reads' HO362.out).2.2 | (with_reducible refine Kd.C_alloc ?_ _) | (with_reducible refine Kd.C_drewN ?_ _) | (with_reducible refine Kd.C_drew ?_))); (case side2 => exact (Kd.R_reads' HO362.out).2.1); rintro e w18 ⟨v364, rfl, ho0, hb⟩; have n0_ := Aside0.mk (Kd.R_below (by (with_reducible repeat (first | apply Kd.R_alloc | apply Kd.R_drewN | apply Kd.R_drew)); exact HO356.out) hb); have n1_ := Aside0.mk (Kd.R_elder' (by (with_reducible repeat (first | apply Kd.R_alloc | apply Kd.R_drewN | apply Kd.R_drew)); exact HO359.out) (Kd.R_base ho0) hb); have n2_ := Aside0.mk (Kd.R_below (by (with_reducible repeat (first | apply Kd.R_alloc | apply Kd.R_drewN | apply Kd.R_drew)); exact HO362.out) hb); have n3_ := Aside0.mk (Kd.R_lower (Kd.R_new' ho0 (Kd.R_lt (by (with_reducible repeat (first | apply Kd.R_alloc | apply Kd.R_drewN | apply Kd.R_drew)); exact HO359.out))) (below_size (by repeat (first | (with_reducible first | exact HB.out | apply below_alloc | apply pw_below_drewN | apply below_drew1) | exact HB.out)))); have n4_ := Aside0.mk (below_step (by repeat (first | (with_reducible first | exact HB.out | apply below_alloc | apply pw_below_drewN | apply below_drew1) | exact HB.out)) hb); clear HO356; clear HO359; clear HO362; clear HB; have HO356 := n0_; have HO359 := n1_; have HO362 := n2_; have HO365 := n3_; have HB := n4_; clear n0_ n1_ n2_ n3_ n4_; (try clear hb); (try clear hb2); (try clear hk); (try clear hi); (try clear ho0); obtain ⟨Ao19, co19, eo19⟩ := Kd.R_slice HO359.out; subst eo19; obtain ⟨Ao20, co20, eo20⟩ := Kd.R_slice HO365.out; subst eo20) | (go_at_call 20; (with_reducible refine (hunks_Changes.calls k (fun k_ => some k_ = (.slice Ao19 t357.length co19 : Value).ownBlock) _ _ t357 (fun k_ => some k_ = (.slice Ao20 t363.length co20 : Value).ownBlock) _ _ t363 t366 _ ?side1 ?side2 A11.out).mono ?_); (case side1 => exact Kd.R_V (Kd.R_tight rfl (Kd.R_apart' (Kd.R_apart' (HO359.out) (Kd.R_typed HO356.out) (by decide)) (Kd.R_typed HO362.out) (by decide)))); (case side2 => exact Kd.R_V (Kd.R_tight rfl (Kd.R_apart' (Kd.R_apart' (HO365.out) (Kd.R_typed HO356.out) (by decide)) (Kd.R_typed HO362.out) (by decide)))); rintro e w21 ⟨v367, rfl, ho0, hb⟩; have n0_ := Aside0.mk (Kd.R_below (by (with_reducible repeat (first | apply Kd.R_alloc | apply Kd.R_drewN | apply Kd.R_drew)); exact HO356.out) hb); have n1_ := Aside0.mk (Kd.R_below (by (with_reducible repeat (first | apply Kd.R_alloc | apply Kd.R_drewN | apply Kd.R_drew)); exact HO359.out) hb); have n2_ := Aside0.mk (Kd.R_below (by (with_reducible repeat (first | apply Kd.R_alloc | apply Kd.R_drewN | apply Kd.R_drew)); exact HO362.out) hb); have n3_ := Aside0.mk (Kd.R_below (by (with_reducible repeat (first | apply Kd.R_alloc | apply Kd.R_drewN | apply Kd.R_drew)); exact HO365.out) hb); have n4_ := Aside0.mk (Kd.R_lower (Kd.R_mono (ok' := fun k_ => True) ho0 (fun _ hk_ => trivial)) (below_size (by repeat (first | (with_reducible first | exact HB.out | apply below_alloc | apply pw_below_drewN | apply below_drew1) | exact HB.out)))); have n5_ := Aside0.mk (below_step (by repeat (first | (with_reducible first | exact HB.out | apply below_alloc | apply pw_below_drewN | apply below_drew1) | exact HB.out)) hb); clear HO356; clear HO359; clear HO362; clear HO365; clear HB; have HO356 := n0_; have HO359 := n1_; have HO362 := n2_; have HO365 := n3_; have HO368 := n4_; have HB := n5_; clear n0_ n1_ n2_ n3_ n4_ n5_; (try clear hb); (try clear hb2); (try clear hk); (try clear hi); (try clear ho0); obtain ⟨Ao22, co22, eo22⟩ := Kd.R_slice HO368.out; subst eo22)))
  go_loopg [11, 12, 13, 30] k (fun kq v11 v12 v13 v30 w' => ∃ (x11_1 : Int) (x12_1 : Int) (x13_1 : Int) (x30_1 : Int), v11 = .int .i64 x11_1 ∧ v12 = .int .i64 x12_1 ∧ v13 = .int .i64 x13_1 ∧ v30 = .int .i64 x30_1 ∧ Aside0 (redpenlaw19_HunksLeast.l0 kq t357 t363 x11_1 x12_1 x13_1 t366 (t366.length : Int) x30_1 = some r) ∧ Aside0 (kq ≤ k) ∧ Aside0 (Kd.R Kd.string 9 w' w.heap.size (fun k_ => some k_ ≠ ((.slice Ao20 t363.length co20) : Value).ownBlock) (.slice Ao19 t357.length co19) t357) ∧ Aside0 (Kd.R Kd.string 9 w' w.heap.size (fun k_ => some k_ ≠ ((.slice Ao19 t357.length co19) : Value).ownBlock) (.slice Ao20 t363.length co20) t363) ∧ Aside0 (Kd.R k39 39 w' w.heap.size (fun _ => True) (.slice Ao22 t366.length co22) t366) ∧ Aside0 (Below w.heap.size w w'))
  case atStart => exact ⟨(0), (0), (0), (0), (by first | rfl | (simp; done) | (simp [*]; done)), (by first | rfl | (simp; done) | (simp [*]; done)), (by first | rfl | (simp; done) | (simp [*]; done)), (by first | rfl | (simp; done) | (simp [*]; done)), H', ⟨Nat.le_refl _⟩, ⟨by (with_reducible repeat (first | apply Kd.R_alloc | apply Kd.R_drewN | apply Kd.R_drew)); exact Kd.R_mono HO359.out (fun _ hk => hk.2)⟩, ⟨by (with_reducible repeat (first | apply Kd.R_alloc | apply Kd.R_drewN | apply Kd.R_drew)); exact Kd.R_mono HO365.out (fun _ hk => hk.2)⟩, ⟨by (with_reducible repeat (first | apply Kd.R_alloc | apply Kd.R_drewN | apply Kd.R_drew)); exact HO368.out⟩, ⟨by repeat (first | (with_reducible first | exact HB.out | apply below_alloc | apply pw_below_drewN | apply below_drew1) | exact HB.out)⟩⟩
  case round =>
   clear H'
   try clear c1
   try clear p2
   try clear c6
   obtain ⟨x11_1, x12_1, x13_1, x30_1, rfl, rfl, rfl, rfl, HA, HK1, HO_9, HO_10, HO_28, HB⟩ := hrel
   cases gk with
   | zero => exact absurd HA.out (by simp [redpenlaw19_HunksLeast.l0])
   | succ k1 =>
    have H := HA.out
    clear HA
    simp only [redpenlaw19_HunksLeast.l0] at H
    by_cases c23 : x30_1 < (t366.length : Int)
    ·rw [if_pos c23] at H
     have c23b0 : decide (x30_1 < (t366.length : Int)) = true := decide_eq_true c23
     clear c23
     by_cases c24 : 0 ≤ x30_1
     ·rw [if_pos c24] at H
      have c24b0 : decide (0 ≤ x30_1) = true := decide_eq_true c24
      clear c24
      by_cases c25 : x30_1 < (t366.length : Int)
      ·rw [if_pos c25] at H
       have c25b0 : decide (x30_1 < (t366.length : Int)) = true := decide_eq_true c25
       clear c25
       have HC26 := Aside0.mk H
       clear H
       have p369 : 0 ≤ (x30_1 : Int) := of_decide_eq_true (by first | (with_reducible assumption) | assumption)
       have q369 : x30_1 < (t366.length : Int) := of_decide_eq_true (by first | (with_reducible assumption) | assumption)
       obtain ⟨ad369, e369, hx369_0, hx369_1, hx369_2, hx369_3⟩ := at_T39 (Kd.R_reads' HO_28.out).2.2 x30_1 p369 q369
       cases e369
       replace p369 := eq_true p369
       replace q369 := eq_true q369
       go_upto_region 8 with (first | ((with_reducible refine gate_dst (N := 15) rfl ?_); (try (refine gate_guard (by rfl) ?_; dsimp only)); refine box_event ?hg (N := 15) ?hd (cs := #[.int .i64 0, .int .i64 0, .int .i64 0, .int .i64 0]) (t := 39) ?hr ?_; (case hd => rfl); (case hg => rfl); (case hr => first | (go_simp; done) | (go_simp; rfl)); intro gb370 hg w27 hbox hb; have n0_ := Aside0.mk (Kd.R_below (by (with_reducible repeat (first | apply Kd.R_alloc | apply Kd.R_drewN | apply Kd.R_drew)); exact HO_9.out) hb); have n1_ := Aside0.mk (Kd.R_below (by (with_reducible repeat (first | apply Kd.R_alloc | apply Kd.R_drewN | apply Kd.R_drew)); exact HO_10.out) hb); have n2_ := Aside0.mk (Kd.R_below (Kd.R_elderB (by (with_reducible repeat (first | apply Kd.R_alloc | apply Kd.R_drewN | apply Kd.R_drew)); exact HO_28.out) gb370 (Nat.le_of_eq hg.symm)) hb); have n3_ := Aside0.mk (below_step (by repeat (first | (with_reducible first | exact HB.out | apply below_alloc | apply pw_below_drewN | apply below_drew1) | exact HB.out)) hb); have n4_ := Aside0.mk (hbox); have n5_ := Aside0.mk ((by rw [hg]; exact (below_size (by repeat (first | (with_reducible first | exact HB.out | apply below_alloc | apply pw_below_drewN | apply below_drew1) | exact HB.out))) : w.heap.size ≤ gb370)); have n6_ := Aside0.mk ((by rw [hg]; exact (below_size (by repeat (first | (with_reducible first | exact HB.out | apply below_alloc | apply pw_below_drewN | apply below_drew1) | exact HB.out))) : w.heap.size ≤ gb370)); clear HO_9; clear HO_10; clear HO_28; clear HB; have HO_9 := n0_; have HO_10 := n1_; have HO_28 := n2_; have HB := n3_; have BK370 := n4_; have GW370 := n5_; have GE370 := n6_; clear n0_ n1_ n2_ n3_ n4_ n5_ n6_; clear hb hbox hg; have hcz28_0 : w27.cell? ⟨gb370, 0, none⟩ = some (.int .i64 0) := (blk_cell BK370.out 0).trans rfl; have hcz28_1 : w27.cell? ⟨gb370, 1, none⟩ = some (.int .i64 0) := (blk_cell BK370.out 1).trans rfl; have hcz28_2 : w27.cell? ⟨gb370, 2, none⟩ = some (.int .i64 0) := (blk_cell BK370.out 2).trans rfl; have hcz28_3 : w27.cell? ⟨gb370, 3, none⟩ = some (.int .i64 0) := (blk_cell BK370.out 3).trans rfl; have hfz28_0 := blk_frozen BK370.out 0; have hfz28_1 := blk_frozen BK370.out 1; have hfz28_2 := blk_frozen BK370.out 2; have hfz28_3 := blk_frozen BK370.out 3))
       repeat (go_quiet (first | ((with_reducible refine gate_dst (N := 15) rfl ?_); (try (refine gate_guard (by rfl) ?_; dsimp only)); refine box_event ?hg (N := 15) ?hd (cs := #[.int .i64 0, .int .i64 0, .int .i64 0, .int .i64 0]) (t := 39) ?hr ?_; (case hd => rfl); (case hg => rfl); (case hr => first | (go_simp; done) | (go_simp; rfl)); intro gb370 hg w27 hbox hb; have n0_ := Aside0.mk (Kd.R_below (by (with_reducible repeat (first | apply Kd.R_alloc | apply Kd.R_drewN | apply Kd.R_drew)); exact HO_9.out) hb); have n1_ := Aside0.mk (Kd.R_below (by (with_reducible repeat (first | apply Kd.R_alloc | apply Kd.R_drewN | apply Kd.R_drew)); exact HO_10.out) hb); have n2_ := Aside0.mk (Kd.R_below (Kd.R_elderB (by (with_reducible repeat (first | apply Kd.R_alloc | apply Kd.R_drewN | apply Kd.R_drew)); exact HO_28.out) gb370 (Nat.le_of_eq hg.symm)) hb); have n3_ := Aside0.mk (below_step (by repeat (first | (with_reducible first | exact HB.out | apply below_alloc | apply pw_below_drewN | apply below_drew1) | exact HB.out)) hb); have n4_ := Aside0.mk (hbox); have n5_ := Aside0.mk ((by rw [hg]; exact (below_size (by repeat (first | (with_reducible first | exact HB.out | apply below_alloc | apply pw_below_drewN | apply below_drew1) | exact HB.out))) : w.heap.size ≤ gb370)); have n6_ := Aside0.mk ((by rw [hg]; exact (below_size (by repeat (first | (with_reducible first | exact HB.out | apply below_alloc | apply pw_below_drewN | apply below_drew1) | exact HB.out))) : w.heap.size ≤ gb370)); clear HO_9; clear HO_10; clear HO_28; clear HB; have HO_9 := n0_; have HO_10 := n1_; have HO_28 := n2_; have HB := n3_; have BK370 := n4_; have GW370 := n5_; have GE370 := n6_; clear n0_ n1_ n2_ n3_ n4_ n5_ n6_; clear hb hbox hg; have hcz28_0 : w27.cell? ⟨gb370, 0, none⟩ = some (.int .i64 0) := (blk_cell BK370.out 0).trans rfl; have hcz28_1 : w27.cell? ⟨gb370, 1, none⟩ = some (.int .i64 0) := (blk_cell BK370.out 1).trans rfl; have hcz28_2 : w27.cell? ⟨gb370, 2, none⟩ = some (.int .i64 0) := (blk_cell BK370.out 2).trans rfl; have hcz28_3 : w27.cell? ⟨gb370, 3, none⟩ = some (.int .i64 0) := (blk_cell BK370.out 3).trans rfl; have hfz28_0 := blk_frozen BK370.out 0; have hfz28_1 := blk_frozen BK370.out 1; have hfz28_2 := blk_frozen BK370.out 2; have hfz28_3 := blk_frozen BK370.out 3)); go_upto_region 8 with (first | ((with_reducible refine gate_dst (N := 15) rfl ?_); (try (refine gate_guard (by rfl) ?_; dsimp only)); refine box_event ?hg (N := 15) ?hd (cs := #[.int .i64 0, .int .i64 0, .int .i64 0, .int .i64 0]) (t := 39) ?hr ?_; (case hd => rfl); (case hg => rfl); (case hr => first | (go_simp; done) | (go_simp; rfl)); intro gb370 hg w27 hbox hb; have n0_ := Aside0.mk (Kd.R_below (by (with_reducible repeat (first | apply Kd.R_alloc | apply Kd.R_drewN | apply Kd.R_drew)); exact HO_9.out) hb); have n1_ := Aside0.mk (Kd.R_below (by (with_reducible repeat (first | apply Kd.R_alloc | apply Kd.R_drewN | apply Kd.R_drew)); exact HO_10.out) hb); have n2_ := Aside0.mk (Kd.R_below (Kd.R_elderB (by (with_reducible repeat (first | apply Kd.R_alloc | apply Kd.R_drewN | apply Kd.R_drew)); exact HO_28.out) gb370 (Nat.le_of_eq hg.symm)) hb); have n3_ := Aside0.mk (below_step (by repeat (first | (with_reducible first | exact HB.out | apply below_alloc | apply pw_below_drewN | apply below_drew1) | exact HB.out)) hb); have n4_ := Aside0.mk (hbox); have n5_ := Aside0.mk ((by rw [hg]; exact (below_size (by repeat (first | (with_reducible first | exact HB.out | apply below_alloc | apply pw_below_drewN | apply below_drew1) | exact HB.out))) : w.heap.size ≤ gb370)); have n6_ := Aside0.mk ((by rw [hg]; exact (below_size (by repeat (first | (with_reducible first | exact HB.out | apply below_alloc | apply pw_below_drewN | apply below_drew1) | exact HB.out))) : w.heap.size ≤ gb370)); clear HO_9; clear HO_10; clear HO_28; clear HB; have HO_9 := n0_; have HO_10 := n1_; have HO_28 := n2_; have HB := n3_; have BK370 := n4_; have GW370 := n5_; have GE370 := n6_; clear n0_ n1_ n2_ n3_ n4_ n5_ n6_; clear hb hbox hg; have hcz28_0 : w27.cell? ⟨gb370, 0, none⟩ = some (.int .i64 0) := (blk_cell BK370.out 0).trans rfl; have hcz28_1 : w27.cell? ⟨gb370, 1, none⟩ = some (.int .i64 0) := (blk_cell BK370.out 1).trans rfl; have hcz28_2 : w27.cell? ⟨gb370, 2, none⟩ = some (.int .i64 0) := (blk_cell BK370.out 2).trans rfl; have hcz28_3 : w27.cell? ⟨gb370, 3, none⟩ = some (.int .i64 0) := (blk_cell BK370.out 3).trans rfl; have hfz28_0 := blk_frozen BK370.out 0; have hfz28_1 := blk_frozen BK370.out 1; have hfz28_2 := blk_frozen BK370.out 2; have hfz28_3 := blk_frozen BK370.out 3)))
       (try simp only [Act.put, List.setIfInBounds_toArray, List.set_cons_zero, List.set_cons_succ])
       go_cut [97] (fun v97 wc => ∃ (kq : Nat) (x97_25 : Bool), v97 = .bool x97_25 ∧ Aside0 (redpenlaw19_HunksLeast.j1 kq t357 t363 x11_1 x12_1 x13_1 t366 (t366.length : Int) x30_1 x97_25 ((rd_T39 t366 x30_1).f0) ((rd_T39 t366 x30_1).f1) ((rd_T39 t366 x30_1).f2) ((rd_T39 t366 x30_1).f3) = some r) ∧ Aside0 (kq ≤ k1) ∧ Aside0 (Kd.R Kd.string 9 wc w.heap.size (fun k_ => some k_ ≠ ((.slice Ao20 t363.length co20) : Value).ownBlock) (.slice Ao19 t357.length co19) t357) ∧ Aside0 (Kd.R Kd.string 9 wc w.heap.size (fun k_ => some k_ ≠ ((.slice Ao19 t357.length co19) : Value).ownBlock) (.slice Ao20 t363.length co20) t363) ∧ Aside0 (Kd.R k39 39 wc w.heap.size (fun k_ => k_ ≠ gb370) (.slice (some ad369) t366.length co22) t366) ∧ Aside0 (wc.heap[gb370]? = some (.cells #[.int .i64 ((rd_T39 t366 x30_1).f0), .int .i64 ((rd_T39 t366 x30_1).f1), .int .i64 ((rd_T39 t366 x30_1).f2), .int .i64 ((rd_T39 t366 x30_1).f3)] 39 (0, 0))) ∧ Aside0 (Below w.heap.size w wc))
       case first =>
        have H := HC26.out
        clear HC26
        by_cases c29 : (wrap64 (((rd_T39 t366 x30_1).f0) - x11_1)) = (wrap64 (((rd_T39 t366 x30_1).f2) - x12_1))
        ·rw [if_pos c29] at H
         have c29b0 : ((wrap64 (((rd_T39 t366 x30_1).f0) - x11_1)) == (wrap64 (((rd_T39 t366 x30_1).f2) - x12_1))) = true := beq_iff_eq.mpr c29
         have c29b1 : ((wrap64 (((rd_T39 t366 x30_1).f0) - x11_1)) != (wrap64 (((rd_T39 t366 x30_1).f2) - x12_1))) = false := bne_eq_false_iff_eq.mpr c29
         clear c29
         (first | rw [c29b0] | (simp only [i64_w, i32_w]; rw [c29b0]) | skip)
         by_cases c30 : ((rd_T39 t366 x30_1).f0) < x11_1
         ·rw [if_pos c30] at H
          have c30b0 : decide (((rd_T39 t366 x30_1).f0) < x11_1) = true := decide_eq_true c30
          clear c30
          have H' := Aside0.mk H
          clear H
          have hcz31_0 : w27.cell? ⟨gb370, 0, none⟩ = some (.int .i64 0) := (blk_cell BK370.out 0).trans rfl
          have hcz31_1 : w27.cell? ⟨gb370, 1, none⟩ = some (.int .i64 0) := (blk_cell BK370.out 1).trans rfl
          have hcz31_2 : w27.cell? ⟨gb370, 2, none⟩ = some (.int .i64 0) := (blk_cell BK370.out 2).trans rfl
          have hcz31_3 : w27.cell? ⟨gb370, 3, none⟩ = some (.int .i64 0) := (blk_cell BK370.out 3).trans rfl
          have hfz31_0 := blk_frozen BK370.out 0
          have hfz31_1 := blk_frozen BK370.out 1
          have hfz31_2 := blk_frozen BK370.out 2
          have hfz31_3 := blk_frozen BK370.out 3
          go_wp2
          repeat (go_quiet (fail); try go_wp2)
          go_meet
          case rel => exact ⟨_, (true), (by first | rfl | (simp; done) | (simp [*]; done)), H', ⟨by have := HK1.out; first | omega | exact Nat.le_refl _⟩, ⟨by (with_reducible repeat (first | apply Kd.R_alloc | apply Kd.R_drewN | apply Kd.R_drew)); exact Kd.R_mono (Kd.R_far (p := ⟨gb370, 3, none⟩) (Kd.R_far (p := ⟨gb370, 2, none⟩) (Kd.R_far (p := ⟨gb370, 1, none⟩) (Kd.R_far (p := ⟨gb370, 0, none⟩) (Kd.R_types HO_9.out BK370.out (by decide)) (fun _ hk => hk.2) (.int .i64 ((rd_T39 t366 x30_1).f0))) (fun _ hk => hk.2) (.int .i64 ((rd_T39 t366 x30_1).f1))) (fun _ hk => hk.2) (.int .i64 ((rd_T39 t366 x30_1).f2))) (fun _ hk => hk.2) (.int .i64 ((rd_T39 t366 x30_1).f3))) (fun _ hk => hk.1)⟩, ⟨by (with_reducible repeat (first | apply Kd.R_alloc | apply Kd.R_drewN | apply Kd.R_drew)); exact Kd.R_mono (Kd.R_far (p := ⟨gb370, 3, none⟩) (Kd.R_far (p := ⟨gb370, 2, none⟩) (Kd.R_far (p := ⟨gb370, 1, none⟩) (Kd.R_far (p := ⟨gb370, 0, none⟩) (Kd.R_types HO_10.out BK370.out (by decide)) (fun _ hk => hk.2) (.int .i64 ((rd_T39 t366 x30_1).f0))) (fun _ hk => hk.2) (.int .i64 ((rd_T39 t366 x30_1).f1))) (fun _ hk => hk.2) (.int .i64 ((rd_T39 t366 x30_1).f2))) (fun _ hk => hk.2) (.int .i64 ((rd_T39 t366 x30_1).f3))) (fun _ hk => hk.1)⟩, ⟨by (with_reducible repeat (first | apply Kd.R_alloc | apply Kd.R_drewN | apply Kd.R_drew)); exact Kd.R_mono (Kd.R_far (p := ⟨gb370, 3, none⟩) (Kd.R_far (p := ⟨gb370, 2, none⟩) (Kd.R_far (p := ⟨gb370, 1, none⟩) (Kd.R_far (p := ⟨gb370, 0, none⟩) (Kd.R_mono HO_28.out (fun k_ hk => (⟨hk, hk.2⟩ : _ ∧ k_ ≠ gb370))) (fun _ hk => hk.2) (.int .i64 ((rd_T39 t366 x30_1).f0))) (fun _ hk => hk.2) (.int .i64 ((rd_T39 t366 x30_1).f1))) (fun _ hk => hk.2) (.int .i64 ((rd_T39 t366 x30_1).f2))) (fun _ hk => hk.2) (.int .i64 ((rd_T39 t366 x30_1).f3))) (fun _ hk => hk.1.2)⟩, ⟨by (with_reducible repeat (first | refine blk_drewN ?_ _ | refine blk_drew ?_ | refine blk_alloc ?_ _)); refine blk_put (cs := #[.int .i64 ((rd_T39 t366 x30_1).f0), .int .i64 ((rd_T39 t366 x30_1).f1), .int .i64 ((rd_T39 t366 x30_1).f2), .int .i64 0]) ?_ 3 _ rfl; (with_reducible repeat (first | refine blk_drewN ?_ _ | refine blk_drew ?_ | refine blk_alloc ?_ _)); refine blk_put (cs := #[.int .i64 ((rd_T39 t366 x30_1).f0), .int .i64 ((rd_T39 t366 x30_1).f1), .int .i64 0, .int .i64 0]) ?_ 2 _ rfl; (with_reducible repeat (first | refine blk_drewN ?_ _ | refine blk_drew ?_ | refine blk_alloc ?_ _)); refine blk_put (cs := #[.int .i64 ((rd_T39 t366 x30_1).f0), .int .i64 0, .int .i64 0, .int .i64 0]) ?_ 1 _ rfl; (with_reducible repeat (first | refine blk_drewN ?_ _ | refine blk_drew ?_ | refine blk_alloc ?_ _)); refine blk_put (cs := #[.int .i64 0, .int .i64 0, .int .i64 0, .int .i64 0]) ?_ 0 _ rfl; (with_reducible repeat (first | refine blk_drewN ?_ _ | refine blk_drew ?_ | refine blk_alloc ?_ _)); exact BK370.out⟩, ⟨by repeat (first | (with_reducible first | exact HB.out | apply below_alloc | apply pw_below_drewN | apply below_drew1 | refine below_set ?_ GE370.out) | exact HB.out)⟩⟩
         ·rw [if_neg c30] at H
          have c30b0 : decide (((rd_T39 t366 x30_1).f0) < x11_1) = false := decide_eq_false c30
          clear c30
          by_cases c32 : x30_1 > 0
          ·rw [if_pos c32] at H
           have c32b0 : decide (0 < x30_1) = true := decide_eq_true c32
           clear c32
           by_cases c33 : ((rd_T39 t366 x30_1).f0) = x11_1
           ·rw [if_pos c33] at H
            have c33b0 : (((rd_T39 t366 x30_1).f0) == x11_1) = true := beq_iff_eq.mpr c33
            have c33b1 : (((rd_T39 t366 x30_1).f0) != x11_1) = false := bne_eq_false_iff_eq.mpr c33
            clear c33
            have H' := Aside0.mk H
            clear H
            have hcz34_0 : w27.cell? ⟨gb370, 0, none⟩ = some (.int .i64 0) := (blk_cell BK370.out 0).trans rfl
            have hcz34_1 : w27.cell? ⟨gb370, 1, none⟩ = some (.int .i64 0) := (blk_cell BK370.out 1).trans rfl
            have hcz34_2 : w27.cell? ⟨gb370, 2, none⟩ = some (.int .i64 0) := (blk_cell BK370.out 2).trans rfl
            have hcz34_3 : w27.cell? ⟨gb370, 3, none⟩ = some (.int .i64 0) := (blk_cell BK370.out 3).trans rfl
            have hfz34_0 := blk_frozen BK370.out 0
            have hfz34_1 := blk_frozen BK370.out 1
            have hfz34_2 := blk_frozen BK370.out 2
            have hfz34_3 := blk_frozen BK370.out 3
            go_wp2
            repeat (go_quiet (fail); try go_wp2)
            go_meet
            case rel => exact ⟨_, (true), (by first | rfl | (simp; done) | (simp [*]; done)), H', ⟨by have := HK1.out; first | omega | exact Nat.le_refl _⟩, ⟨by (with_reducible repeat (first | apply Kd.R_alloc | apply Kd.R_drewN | apply Kd.R_drew)); exact Kd.R_mono (Kd.R_far (p := ⟨gb370, 3, none⟩) (Kd.R_far (p := ⟨gb370, 2, none⟩) (Kd.R_far (p := ⟨gb370, 1, none⟩) (Kd.R_far (p := ⟨gb370, 0, none⟩) (Kd.R_types HO_9.out BK370.out (by decide)) (fun _ hk => hk.2) (.int .i64 ((rd_T39 t366 x30_1).f0))) (fun _ hk => hk.2) (.int .i64 ((rd_T39 t366 x30_1).f1))) (fun _ hk => hk.2) (.int .i64 ((rd_T39 t366 x30_1).f2))) (fun _ hk => hk.2) (.int .i64 ((rd_T39 t366 x30_1).f3))) (fun _ hk => hk.1)⟩, ⟨by (with_reducible repeat (first | apply Kd.R_alloc | apply Kd.R_drewN | apply Kd.R_drew)); exact Kd.R_mono (Kd.R_far (p := ⟨gb370, 3, none⟩) (Kd.R_far (p := ⟨gb370, 2, none⟩) (Kd.R_far (p := ⟨gb370, 1, none⟩) (Kd.R_far (p := ⟨gb370, 0, none⟩) (Kd.R_types HO_10.out BK370.out (by decide)) (fun _ hk => hk.2) (.int .i64 ((rd_T39 t366 x30_1).f0))) (fun _ hk => hk.2) (.int .i64 ((rd_T39 t366 x30_1).f1))) (fun _ hk => hk.2) (.int .i64 ((rd_T39 t366 x30_1).f2))) (fun _ hk => hk.2) (.int .i64 ((rd_T39 t366 x30_1).f3))) (fun _ hk => hk.1)⟩, ⟨by (with_reducible repeat (first | apply Kd.R_alloc | apply Kd.R_drewN | apply Kd.R_drew)); exact Kd.R_mono (Kd.R_far (p := ⟨gb370, 3, none⟩) (Kd.R_far (p := ⟨gb370, 2, none⟩) (Kd.R_far (p := ⟨gb370, 1, none⟩) (Kd.R_far (p := ⟨gb370, 0, none⟩) (Kd.R_mono HO_28.out (fun k_ hk => (⟨hk, hk.2⟩ : _ ∧ k_ ≠ gb370))) (fun _ hk => hk.2) (.int .i64 ((rd_T39 t366 x30_1).f0))) (fun _ hk => hk.2) (.int .i64 ((rd_T39 t366 x30_1).f1))) (fun _ hk => hk.2) (.int .i64 ((rd_T39 t366 x30_1).f2))) (fun _ hk => hk.2) (.int .i64 ((rd_T39 t366 x30_1).f3))) (fun _ hk => hk.1.2)⟩, ⟨by (with_reducible repeat (first | refine blk_drewN ?_ _ | refine blk_drew ?_ | refine blk_alloc ?_ _)); refine blk_put (cs := #[.int .i64 ((rd_T39 t366 x30_1).f0), .int .i64 ((rd_T39 t366 x30_1).f1), .int .i64 ((rd_T39 t366 x30_1).f2), .int .i64 0]) ?_ 3 _ rfl; (with_reducible repeat (first | refine blk_drewN ?_ _ | refine blk_drew ?_ | refine blk_alloc ?_ _)); refine blk_put (cs := #[.int .i64 ((rd_T39 t366 x30_1).f0), .int .i64 ((rd_T39 t366 x30_1).f1), .int .i64 0, .int .i64 0]) ?_ 2 _ rfl; (with_reducible repeat (first | refine blk_drewN ?_ _ | refine blk_drew ?_ | refine blk_alloc ?_ _)); refine blk_put (cs := #[.int .i64 ((rd_T39 t366 x30_1).f0), .int .i64 0, .int .i64 0, .int .i64 0]) ?_ 1 _ rfl; (with_reducible repeat (first | refine blk_drewN ?_ _ | refine blk_drew ?_ | refine blk_alloc ?_ _)); refine blk_put (cs := #[.int .i64 0, .int .i64 0, .int .i64 0, .int .i64 0]) ?_ 0 _ rfl; (with_reducible repeat (first | refine blk_drewN ?_ _ | refine blk_drew ?_ | refine blk_alloc ?_ _)); exact BK370.out⟩, ⟨by repeat (first | (with_reducible first | exact HB.out | apply below_alloc | apply pw_below_drewN | apply below_drew1 | refine below_set ?_ GE370.out) | exact HB.out)⟩⟩
           ·rw [if_neg c33] at H
            have c33b0 : (((rd_T39 t366 x30_1).f0) == x11_1) = false := beq_eq_false_iff_ne.mpr c33
            have c33b1 : (((rd_T39 t366 x30_1).f0) != x11_1) = true := bne_iff_ne.mpr c33
            by_cases c35 : ((rd_T39 t366 x30_1).f1) < 0
            ·rw [if_pos c35] at H
             have c35b0 : decide (((rd_T39 t366 x30_1).f1) < 0) = true := decide_eq_true c35
             clear c35
             have H' := Aside0.mk H
             clear H
             have hcz36_0 : w27.cell? ⟨gb370, 0, none⟩ = some (.int .i64 0) := (blk_cell BK370.out 0).trans rfl
             have hcz36_1 : w27.cell? ⟨gb370, 1, none⟩ = some (.int .i64 0) := (blk_cell BK370.out 1).trans rfl
             have hcz36_2 : w27.cell? ⟨gb370, 2, none⟩ = some (.int .i64 0) := (blk_cell BK370.out 2).trans rfl
             have hcz36_3 : w27.cell? ⟨gb370, 3, none⟩ = some (.int .i64 0) := (blk_cell BK370.out 3).trans rfl
             have hfz36_0 := blk_frozen BK370.out 0
             have hfz36_1 := blk_frozen BK370.out 1
             have hfz36_2 := blk_frozen BK370.out 2
             have hfz36_3 := blk_frozen BK370.out 3
             go_wp2
             repeat (go_quiet (fail); try go_wp2)
             go_meet
             case rel => exact ⟨_, (true), (by first | rfl | (simp; done) | (simp [*]; done)), H', ⟨by have := HK1.out; first | omega | exact Nat.le_refl _⟩, ⟨by (with_reducible repeat (first | apply Kd.R_alloc | apply Kd.R_drewN | apply Kd.R_drew)); exact Kd.R_mono (Kd.R_far (p := ⟨gb370, 3, none⟩) (Kd.R_far (p := ⟨gb370, 2, none⟩) (Kd.R_far (p := ⟨gb370, 1, none⟩) (Kd.R_far (p := ⟨gb370, 0, none⟩) (Kd.R_types HO_9.out BK370.out (by decide)) (fun _ hk => hk.2) (.int .i64 ((rd_T39 t366 x30_1).f0))) (fun _ hk => hk.2) (.int .i64 ((rd_T39 t366 x30_1).f1))) (fun _ hk => hk.2) (.int .i64 ((rd_T39 t366 x30_1).f2))) (fun _ hk => hk.2) (.int .i64 ((rd_T39 t366 x30_1).f3))) (fun _ hk => hk.1)⟩, ⟨by (with_reducible repeat (first | apply Kd.R_alloc | apply Kd.R_drewN | apply Kd.R_drew)); exact Kd.R_mono (Kd.R_far (p := ⟨gb370, 3, none⟩) (Kd.R_far (p := ⟨gb370, 2, none⟩) (Kd.R_far (p := ⟨gb370, 1, none⟩) (Kd.R_far (p := ⟨gb370, 0, none⟩) (Kd.R_types HO_10.out BK370.out (by decide)) (fun _ hk => hk.2) (.int .i64 ((rd_T39 t366 x30_1).f0))) (fun _ hk => hk.2) (.int .i64 ((rd_T39 t366 x30_1).f1))) (fun _ hk => hk.2) (.int .i64 ((rd_T39 t366 x30_1).f2))) (fun _ hk => hk.2) (.int .i64 ((rd_T39 t366 x30_1).f3))) (fun _ hk => hk.1)⟩, ⟨by (with_reducible repeat (first | apply Kd.R_alloc | apply Kd.R_drewN | apply Kd.R_drew)); exact Kd.R_mono (Kd.R_far (p := ⟨gb370, 3, none⟩) (Kd.R_far (p := ⟨gb370, 2, none⟩) (Kd.R_far (p := ⟨gb370, 1, none⟩) (Kd.R_far (p := ⟨gb370, 0, none⟩) (Kd.R_mono HO_28.out (fun k_ hk => (⟨hk, hk.2⟩ : _ ∧ k_ ≠ gb370))) (fun _ hk => hk.2) (.int .i64 ((rd_T39 t366 x30_1).f0))) (fun _ hk => hk.2) (.int .i64 ((rd_T39 t366 x30_1).f1))) (fun _ hk => hk.2) (.int .i64 ((rd_T39 t366 x30_1).f2))) (fun _ hk => hk.2) (.int .i64 ((rd_T39 t366 x30_1).f3))) (fun _ hk => hk.1.2)⟩, ⟨by (with_reducible repeat (first | refine blk_drewN ?_ _ | refine blk_drew ?_ | refine blk_alloc ?_ _)); refine blk_put (cs := #[.int .i64 ((rd_T39 t366 x30_1).f0), .int .i64 ((rd_T39 t366 x30_1).f1), .int .i64 ((rd_T39 t366 x30_1).f2), .int .i64 0]) ?_ 3 _ rfl; (with_reducible repeat (first | refine blk_drewN ?_ _ | refine blk_drew ?_ | refine blk_alloc ?_ _)); refine blk_put (cs := #[.int .i64 ((rd_T39 t366 x30_1).f0), .int .i64 ((rd_T39 t366 x30_1).f1), .int .i64 0, .int .i64 0]) ?_ 2 _ rfl; (with_reducible repeat (first | refine blk_drewN ?_ _ | refine blk_drew ?_ | refine blk_alloc ?_ _)); refine blk_put (cs := #[.int .i64 ((rd_T39 t366 x30_1).f0), .int .i64 0, .int .i64 0, .int .i64 0]) ?_ 1 _ rfl; (with_reducible repeat (first | refine blk_drewN ?_ _ | refine blk_drew ?_ | refine blk_alloc ?_ _)); refine blk_put (cs := #[.int .i64 0, .int .i64 0, .int .i64 0, .int .i64 0]) ?_ 0 _ rfl; (with_reducible repeat (first | refine blk_drewN ?_ _ | refine blk_drew ?_ | refine blk_alloc ?_ _)); exact BK370.out⟩, ⟨by repeat (first | (with_reducible first | exact HB.out | apply below_alloc | apply pw_below_drewN | apply below_drew1 | refine below_set ?_ GE370.out) | exact HB.out)⟩⟩
            ·rw [if_neg c35] at H
             have c35b0 : decide (((rd_T39 t366 x30_1).f1) < 0) = false := decide_eq_false c35
             clear c35
             by_cases c37 : ((rd_T39 t366 x30_1).f3) < 0
             ·rw [if_pos c37] at H
              have c37b0 : decide (((rd_T39 t366 x30_1).f3) < 0) = true := decide_eq_true c37
              clear c37
              have H' := Aside0.mk H
              clear H
              have hcz38_0 : w27.cell? ⟨gb370, 0, none⟩ = some (.int .i64 0) := (blk_cell BK370.out 0).trans rfl
              have hcz38_1 : w27.cell? ⟨gb370, 1, none⟩ = some (.int .i64 0) := (blk_cell BK370.out 1).trans rfl
              have hcz38_2 : w27.cell? ⟨gb370, 2, none⟩ = some (.int .i64 0) := (blk_cell BK370.out 2).trans rfl
              have hcz38_3 : w27.cell? ⟨gb370, 3, none⟩ = some (.int .i64 0) := (blk_cell BK370.out 3).trans rfl
              have hfz38_0 := blk_frozen BK370.out 0
              have hfz38_1 := blk_frozen BK370.out 1
              have hfz38_2 := blk_frozen BK370.out 2
              have hfz38_3 := blk_frozen BK370.out 3
              go_wp2
              repeat (go_quiet (fail); try go_wp2)
              go_meet
              case rel => exact ⟨_, (true), (by first | rfl | (simp; done) | (simp [*]; done)), H', ⟨by have := HK1.out; first | omega | exact Nat.le_refl _⟩, ⟨by (with_reducible repeat (first | apply Kd.R_alloc | apply Kd.R_drewN | apply Kd.R_drew)); exact Kd.R_mono (Kd.R_far (p := ⟨gb370, 3, none⟩) (Kd.R_far (p := ⟨gb370, 2, none⟩) (Kd.R_far (p := ⟨gb370, 1, none⟩) (Kd.R_far (p := ⟨gb370, 0, none⟩) (Kd.R_types HO_9.out BK370.out (by decide)) (fun _ hk => hk.2) (.int .i64 ((rd_T39 t366 x30_1).f0))) (fun _ hk => hk.2) (.int .i64 ((rd_T39 t366 x30_1).f1))) (fun _ hk => hk.2) (.int .i64 ((rd_T39 t366 x30_1).f2))) (fun _ hk => hk.2) (.int .i64 ((rd_T39 t366 x30_1).f3))) (fun _ hk => hk.1)⟩, ⟨by (with_reducible repeat (first | apply Kd.R_alloc | apply Kd.R_drewN | apply Kd.R_drew)); exact Kd.R_mono (Kd.R_far (p := ⟨gb370, 3, none⟩) (Kd.R_far (p := ⟨gb370, 2, none⟩) (Kd.R_far (p := ⟨gb370, 1, none⟩) (Kd.R_far (p := ⟨gb370, 0, none⟩) (Kd.R_types HO_10.out BK370.out (by decide)) (fun _ hk => hk.2) (.int .i64 ((rd_T39 t366 x30_1).f0))) (fun _ hk => hk.2) (.int .i64 ((rd_T39 t366 x30_1).f1))) (fun _ hk => hk.2) (.int .i64 ((rd_T39 t366 x30_1).f2))) (fun _ hk => hk.2) (.int .i64 ((rd_T39 t366 x30_1).f3))) (fun _ hk => hk.1)⟩, ⟨by (with_reducible repeat (first | apply Kd.R_alloc | apply Kd.R_drewN | apply Kd.R_drew)); exact Kd.R_mono (Kd.R_far (p := ⟨gb370, 3, none⟩) (Kd.R_far (p := ⟨gb370, 2, none⟩) (Kd.R_far (p := ⟨gb370, 1, none⟩) (Kd.R_far (p := ⟨gb370, 0, none⟩) (Kd.R_mono HO_28.out (fun k_ hk => (⟨hk, hk.2⟩ : _ ∧ k_ ≠ gb370))) (fun _ hk => hk.2) (.int .i64 ((rd_T39 t366 x30_1).f0))) (fun _ hk => hk.2) (.int .i64 ((rd_T39 t366 x30_1).f1))) (fun _ hk => hk.2) (.int .i64 ((rd_T39 t366 x30_1).f2))) (fun _ hk => hk.2) (.int .i64 ((rd_T39 t366 x30_1).f3))) (fun _ hk => hk.1.2)⟩, ⟨by (with_reducible repeat (first | refine blk_drewN ?_ _ | refine blk_drew ?_ | refine blk_alloc ?_ _)); refine blk_put (cs := #[.int .i64 ((rd_T39 t366 x30_1).f0), .int .i64 ((rd_T39 t366 x30_1).f1), .int .i64 ((rd_T39 t366 x30_1).f2), .int .i64 0]) ?_ 3 _ rfl; (with_reducible repeat (first | refine blk_drewN ?_ _ | refine blk_drew ?_ | refine blk_alloc ?_ _)); refine blk_put (cs := #[.int .i64 ((rd_T39 t366 x30_1).f0), .int .i64 ((rd_T39 t366 x30_1).f1), .int .i64 0, .int .i64 0]) ?_ 2 _ rfl; (with_reducible repeat (first | refine blk_drewN ?_ _ | refine blk_drew ?_ | refine blk_alloc ?_ _)); refine blk_put (cs := #[.int .i64 ((rd_T39 t366 x30_1).f0), .int .i64 0, .int .i64 0, .int .i64 0]) ?_ 1 _ rfl; (with_reducible repeat (first | refine blk_drewN ?_ _ | refine blk_drew ?_ | refine blk_alloc ?_ _)); refine blk_put (cs := #[.int .i64 0, .int .i64 0, .int .i64 0, .int .i64 0]) ?_ 0 _ rfl; (with_reducible repeat (first | refine blk_drewN ?_ _ | refine blk_drew ?_ | refine blk_alloc ?_ _)); exact BK370.out⟩, ⟨by repeat (first | (with_reducible first | exact HB.out | apply below_alloc | apply pw_below_drewN | apply below_drew1 | refine below_set ?_ GE370.out) | exact HB.out)⟩⟩
             ·rw [if_neg c37] at H
              have c37b0 : decide (((rd_T39 t366 x30_1).f3) < 0) = false := decide_eq_false c37
              clear c37
              by_cases c39 : (wrap64 (((rd_T39 t366 x30_1).f1) + ((rd_T39 t366 x30_1).f3))) = 0
              ·rw [if_pos c39] at H
               have c39b0 : ((wrap64 (((rd_T39 t366 x30_1).f1) + ((rd_T39 t366 x30_1).f3))) == 0) = true := beq_iff_eq.mpr c39
               have c39b1 : ((wrap64 (((rd_T39 t366 x30_1).f1) + ((rd_T39 t366 x30_1).f3))) != 0) = false := bne_eq_false_iff_eq.mpr c39
               clear c39
               have H' := Aside0.mk H
               clear H
               have hcz40_0 : w27.cell? ⟨gb370, 0, none⟩ = some (.int .i64 0) := (blk_cell BK370.out 0).trans rfl
               have hcz40_1 : w27.cell? ⟨gb370, 1, none⟩ = some (.int .i64 0) := (blk_cell BK370.out 1).trans rfl
               have hcz40_2 : w27.cell? ⟨gb370, 2, none⟩ = some (.int .i64 0) := (blk_cell BK370.out 2).trans rfl
               have hcz40_3 : w27.cell? ⟨gb370, 3, none⟩ = some (.int .i64 0) := (blk_cell BK370.out 3).trans rfl
               have hfz40_0 := blk_frozen BK370.out 0
               have hfz40_1 := blk_frozen BK370.out 1
               have hfz40_2 := blk_frozen BK370.out 2
               have hfz40_3 := blk_frozen BK370.out 3
               go_wp2
               repeat (go_quiet (fail); try go_wp2)
               go_meet
               case rel => exact ⟨_, (true), (by first | rfl | (simp; done) | (simp [*]; done)), H', ⟨by have := HK1.out; first | omega | exact Nat.le_refl _⟩, ⟨by (with_reducible repeat (first | apply Kd.R_alloc | apply Kd.R_drewN | apply Kd.R_drew)); exact Kd.R_mono (Kd.R_far (p := ⟨gb370, 3, none⟩) (Kd.R_far (p := ⟨gb370, 2, none⟩) (Kd.R_far (p := ⟨gb370, 1, none⟩) (Kd.R_far (p := ⟨gb370, 0, none⟩) (Kd.R_types HO_9.out BK370.out (by decide)) (fun _ hk => hk.2) (.int .i64 ((rd_T39 t366 x30_1).f0))) (fun _ hk => hk.2) (.int .i64 ((rd_T39 t366 x30_1).f1))) (fun _ hk => hk.2) (.int .i64 ((rd_T39 t366 x30_1).f2))) (fun _ hk => hk.2) (.int .i64 ((rd_T39 t366 x30_1).f3))) (fun _ hk => hk.1)⟩, ⟨by (with_reducible repeat (first | apply Kd.R_alloc | apply Kd.R_drewN | apply Kd.R_drew)); exact Kd.R_mono (Kd.R_far (p := ⟨gb370, 3, none⟩) (Kd.R_far (p := ⟨gb370, 2, none⟩) (Kd.R_far (p := ⟨gb370, 1, none⟩) (Kd.R_far (p := ⟨gb370, 0, none⟩) (Kd.R_types HO_10.out BK370.out (by decide)) (fun _ hk => hk.2) (.int .i64 ((rd_T39 t366 x30_1).f0))) (fun _ hk => hk.2) (.int .i64 ((rd_T39 t366 x30_1).f1))) (fun _ hk => hk.2) (.int .i64 ((rd_T39 t366 x30_1).f2))) (fun _ hk => hk.2) (.int .i64 ((rd_T39 t366 x30_1).f3))) (fun _ hk => hk.1)⟩, ⟨by (with_reducible repeat (first | apply Kd.R_alloc | apply Kd.R_drewN | apply Kd.R_drew)); exact Kd.R_mono (Kd.R_far (p := ⟨gb370, 3, none⟩) (Kd.R_far (p := ⟨gb370, 2, none⟩) (Kd.R_far (p := ⟨gb370, 1, none⟩) (Kd.R_far (p := ⟨gb370, 0, none⟩) (Kd.R_mono HO_28.out (fun k_ hk => (⟨hk, hk.2⟩ : _ ∧ k_ ≠ gb370))) (fun _ hk => hk.2) (.int .i64 ((rd_T39 t366 x30_1).f0))) (fun _ hk => hk.2) (.int .i64 ((rd_T39 t366 x30_1).f1))) (fun _ hk => hk.2) (.int .i64 ((rd_T39 t366 x30_1).f2))) (fun _ hk => hk.2) (.int .i64 ((rd_T39 t366 x30_1).f3))) (fun _ hk => hk.1.2)⟩, ⟨by (with_reducible repeat (first | refine blk_drewN ?_ _ | refine blk_drew ?_ | refine blk_alloc ?_ _)); refine blk_put (cs := #[.int .i64 ((rd_T39 t366 x30_1).f0), .int .i64 ((rd_T39 t366 x30_1).f1), .int .i64 ((rd_T39 t366 x30_1).f2), .int .i64 0]) ?_ 3 _ rfl; (with_reducible repeat (first | refine blk_drewN ?_ _ | refine blk_drew ?_ | refine blk_alloc ?_ _)); refine blk_put (cs := #[.int .i64 ((rd_T39 t366 x30_1).f0), .int .i64 ((rd_T39 t366 x30_1).f1), .int .i64 0, .int .i64 0]) ?_ 2 _ rfl; (with_reducible repeat (first | refine blk_drewN ?_ _ | refine blk_drew ?_ | refine blk_alloc ?_ _)); refine blk_put (cs := #[.int .i64 ((rd_T39 t366 x30_1).f0), .int .i64 0, .int .i64 0, .int .i64 0]) ?_ 1 _ rfl; (with_reducible repeat (first | refine blk_drewN ?_ _ | refine blk_drew ?_ | refine blk_alloc ?_ _)); refine blk_put (cs := #[.int .i64 0, .int .i64 0, .int .i64 0, .int .i64 0]) ?_ 0 _ rfl; (with_reducible repeat (first | refine blk_drewN ?_ _ | refine blk_drew ?_ | refine blk_alloc ?_ _)); exact BK370.out⟩, ⟨by repeat (first | (with_reducible first | exact HB.out | apply below_alloc | apply pw_below_drewN | apply below_drew1 | refine below_set ?_ GE370.out) | exact HB.out)⟩⟩
              ·rw [if_neg c39] at H
               have c39b0 : ((wrap64 (((rd_T39 t366 x30_1).f1) + ((rd_T39 t366 x30_1).f3))) == 0) = false := beq_eq_false_iff_ne.mpr c39
               have c39b1 : ((wrap64 (((rd_T39 t366 x30_1).f1) + ((rd_T39 t366 x30_1).f3))) != 0) = true := bne_iff_ne.mpr c39
               by_cases c41 : (wrap64 (((rd_T39 t366 x30_1).f0) + ((rd_T39 t366 x30_1).f1))) > (t357.length : Int)
               ·rw [if_pos c41] at H
                have c41b0 : decide ((t357.length : Int) < (wrap64 (((rd_T39 t366 x30_1).f0) + ((rd_T39 t366 x30_1).f1)))) = true := decide_eq_true c41
                clear c41
                have H' := Aside0.mk H
                clear H
                have hcz42_0 : w27.cell? ⟨gb370, 0, none⟩ = some (.int .i64 0) := (blk_cell BK370.out 0).trans rfl
                have hcz42_1 : w27.cell? ⟨gb370, 1, none⟩ = some (.int .i64 0) := (blk_cell BK370.out 1).trans rfl
                have hcz42_2 : w27.cell? ⟨gb370, 2, none⟩ = some (.int .i64 0) := (blk_cell BK370.out 2).trans rfl
                have hcz42_3 : w27.cell? ⟨gb370, 3, none⟩ = some (.int .i64 0) := (blk_cell BK370.out 3).trans rfl
                have hfz42_0 := blk_frozen BK370.out 0
                have hfz42_1 := blk_frozen BK370.out 1
                have hfz42_2 := blk_frozen BK370.out 2
                have hfz42_3 := blk_frozen BK370.out 3
                go_wp2
                repeat (go_quiet (fail); try go_wp2)
                go_meet
                case rel => exact ⟨_, (true), (by first | rfl | (simp; done) | (simp [*]; done)), H', ⟨by have := HK1.out; first | omega | exact Nat.le_refl _⟩, ⟨by (with_reducible repeat (first | apply Kd.R_alloc | apply Kd.R_drewN | apply Kd.R_drew)); exact Kd.R_mono (Kd.R_far (p := ⟨gb370, 3, none⟩) (Kd.R_far (p := ⟨gb370, 2, none⟩) (Kd.R_far (p := ⟨gb370, 1, none⟩) (Kd.R_far (p := ⟨gb370, 0, none⟩) (Kd.R_types HO_9.out BK370.out (by decide)) (fun _ hk => hk.2) (.int .i64 ((rd_T39 t366 x30_1).f0))) (fun _ hk => hk.2) (.int .i64 ((rd_T39 t366 x30_1).f1))) (fun _ hk => hk.2) (.int .i64 ((rd_T39 t366 x30_1).f2))) (fun _ hk => hk.2) (.int .i64 ((rd_T39 t366 x30_1).f3))) (fun _ hk => hk.1)⟩, ⟨by (with_reducible repeat (first | apply Kd.R_alloc | apply Kd.R_drewN | apply Kd.R_drew)); exact Kd.R_mono (Kd.R_far (p := ⟨gb370, 3, none⟩) (Kd.R_far (p := ⟨gb370, 2, none⟩) (Kd.R_far (p := ⟨gb370, 1, none⟩) (Kd.R_far (p := ⟨gb370, 0, none⟩) (Kd.R_types HO_10.out BK370.out (by decide)) (fun _ hk => hk.2) (.int .i64 ((rd_T39 t366 x30_1).f0))) (fun _ hk => hk.2) (.int .i64 ((rd_T39 t366 x30_1).f1))) (fun _ hk => hk.2) (.int .i64 ((rd_T39 t366 x30_1).f2))) (fun _ hk => hk.2) (.int .i64 ((rd_T39 t366 x30_1).f3))) (fun _ hk => hk.1)⟩, ⟨by (with_reducible repeat (first | apply Kd.R_alloc | apply Kd.R_drewN | apply Kd.R_drew)); exact Kd.R_mono (Kd.R_far (p := ⟨gb370, 3, none⟩) (Kd.R_far (p := ⟨gb370, 2, none⟩) (Kd.R_far (p := ⟨gb370, 1, none⟩) (Kd.R_far (p := ⟨gb370, 0, none⟩) (Kd.R_mono HO_28.out (fun k_ hk => (⟨hk, hk.2⟩ : _ ∧ k_ ≠ gb370))) (fun _ hk => hk.2) (.int .i64 ((rd_T39 t366 x30_1).f0))) (fun _ hk => hk.2) (.int .i64 ((rd_T39 t366 x30_1).f1))) (fun _ hk => hk.2) (.int .i64 ((rd_T39 t366 x30_1).f2))) (fun _ hk => hk.2) (.int .i64 ((rd_T39 t366 x30_1).f3))) (fun _ hk => hk.1.2)⟩, ⟨by (with_reducible repeat (first | refine blk_drewN ?_ _ | refine blk_drew ?_ | refine blk_alloc ?_ _)); refine blk_put (cs := #[.int .i64 ((rd_T39 t366 x30_1).f0), .int .i64 ((rd_T39 t366 x30_1).f1), .int .i64 ((rd_T39 t366 x30_1).f2), .int .i64 0]) ?_ 3 _ rfl; (with_reducible repeat (first | refine blk_drewN ?_ _ | refine blk_drew ?_ | refine blk_alloc ?_ _)); refine blk_put (cs := #[.int .i64 ((rd_T39 t366 x30_1).f0), .int .i64 ((rd_T39 t366 x30_1).f1), .int .i64 0, .int .i64 0]) ?_ 2 _ rfl; (with_reducible repeat (first | refine blk_drewN ?_ _ | refine blk_drew ?_ | refine blk_alloc ?_ _)); refine blk_put (cs := #[.int .i64 ((rd_T39 t366 x30_1).f0), .int .i64 0, .int .i64 0, .int .i64 0]) ?_ 1 _ rfl; (with_reducible repeat (first | refine blk_drewN ?_ _ | refine blk_drew ?_ | refine blk_alloc ?_ _)); refine blk_put (cs := #[.int .i64 0, .int .i64 0, .int .i64 0, .int .i64 0]) ?_ 0 _ rfl; (with_reducible repeat (first | refine blk_drewN ?_ _ | refine blk_drew ?_ | refine blk_alloc ?_ _)); exact BK370.out⟩, ⟨by repeat (first | (with_reducible first | exact HB.out | apply below_alloc | apply pw_below_drewN | apply below_drew1 | refine below_set ?_ GE370.out) | exact HB.out)⟩⟩
               ·rw [if_neg c41] at H
                have c41b0 : decide ((t357.length : Int) < (wrap64 (((rd_T39 t366 x30_1).f0) + ((rd_T39 t366 x30_1).f1)))) = false := decide_eq_false c41
                clear c41
                have H' := Aside0.mk H
                clear H
                have hcz43_0 : w27.cell? ⟨gb370, 0, none⟩ = some (.int .i64 0) := (blk_cell BK370.out 0).trans rfl
                have hcz43_1 : w27.cell? ⟨gb370, 1, none⟩ = some (.int .i64 0) := (blk_cell BK370.out 1).trans rfl
                have hcz43_2 : w27.cell? ⟨gb370, 2, none⟩ = some (.int .i64 0) := (blk_cell BK370.out 2).trans rfl
                have hcz43_3 : w27.cell? ⟨gb370, 3, none⟩ = some (.int .i64 0) := (blk_cell BK370.out 3).trans rfl
                have hfz43_0 := blk_frozen BK370.out 0
                have hfz43_1 := blk_frozen BK370.out 1
                have hfz43_2 := blk_frozen BK370.out 2
                have hfz43_3 := blk_frozen BK370.out 3
                go_wp2
                repeat (go_quiet (fail); try go_wp2)
                go_meet
                case rel => exact ⟨_, (decide ((wrap64 (((rd_T39 t366 x30_1).f2) + ((rd_T39 t366 x30_1).f3))) > (t363.length : Int))), (by first | rfl | (simp; done) | (simp [*]; done)), H', ⟨by have := HK1.out; first | omega | exact Nat.le_refl _⟩, ⟨by (with_reducible repeat (first | apply Kd.R_alloc | apply Kd.R_drewN | apply Kd.R_drew)); exact Kd.R_mono (Kd.R_far (p := ⟨gb370, 3, none⟩) (Kd.R_far (p := ⟨gb370, 2, none⟩) (Kd.R_far (p := ⟨gb370, 1, none⟩) (Kd.R_far (p := ⟨gb370, 0, none⟩) (Kd.R_types HO_9.out BK370.out (by decide)) (fun _ hk => hk.2) (.int .i64 ((rd_T39 t366 x30_1).f0))) (fun _ hk => hk.2) (.int .i64 ((rd_T39 t366 x30_1).f1))) (fun _ hk => hk.2) (.int .i64 ((rd_T39 t366 x30_1).f2))) (fun _ hk => hk.2) (.int .i64 ((rd_T39 t366 x30_1).f3))) (fun _ hk => hk.1)⟩, ⟨by (with_reducible repeat (first | apply Kd.R_alloc | apply Kd.R_drewN | apply Kd.R_drew)); exact Kd.R_mono (Kd.R_far (p := ⟨gb370, 3, none⟩) (Kd.R_far (p := ⟨gb370, 2, none⟩) (Kd.R_far (p := ⟨gb370, 1, none⟩) (Kd.R_far (p := ⟨gb370, 0, none⟩) (Kd.R_types HO_10.out BK370.out (by decide)) (fun _ hk => hk.2) (.int .i64 ((rd_T39 t366 x30_1).f0))) (fun _ hk => hk.2) (.int .i64 ((rd_T39 t366 x30_1).f1))) (fun _ hk => hk.2) (.int .i64 ((rd_T39 t366 x30_1).f2))) (fun _ hk => hk.2) (.int .i64 ((rd_T39 t366 x30_1).f3))) (fun _ hk => hk.1)⟩, ⟨by (with_reducible repeat (first | apply Kd.R_alloc | apply Kd.R_drewN | apply Kd.R_drew)); exact Kd.R_mono (Kd.R_far (p := ⟨gb370, 3, none⟩) (Kd.R_far (p := ⟨gb370, 2, none⟩) (Kd.R_far (p := ⟨gb370, 1, none⟩) (Kd.R_far (p := ⟨gb370, 0, none⟩) (Kd.R_mono HO_28.out (fun k_ hk => (⟨hk, hk.2⟩ : _ ∧ k_ ≠ gb370))) (fun _ hk => hk.2) (.int .i64 ((rd_T39 t366 x30_1).f0))) (fun _ hk => hk.2) (.int .i64 ((rd_T39 t366 x30_1).f1))) (fun _ hk => hk.2) (.int .i64 ((rd_T39 t366 x30_1).f2))) (fun _ hk => hk.2) (.int .i64 ((rd_T39 t366 x30_1).f3))) (fun _ hk => hk.1.2)⟩, ⟨by (with_reducible repeat (first | refine blk_drewN ?_ _ | refine blk_drew ?_ | refine blk_alloc ?_ _)); refine blk_put (cs := #[.int .i64 ((rd_T39 t366 x30_1).f0), .int .i64 ((rd_T39 t366 x30_1).f1), .int .i64 ((rd_T39 t366 x30_1).f2), .int .i64 0]) ?_ 3 _ rfl; (with_reducible repeat (first | refine blk_drewN ?_ _ | refine blk_drew ?_ | refine blk_alloc ?_ _)); refine blk_put (cs := #[.int .i64 ((rd_T39 t366 x30_1).f0), .int .i64 ((rd_T39 t366 x30_1).f1), .int .i64 0, .int .i64 0]) ?_ 2 _ rfl; (with_reducible repeat (first | refine blk_drewN ?_ _ | refine blk_drew ?_ | refine blk_alloc ?_ _)); refine blk_put (cs := #[.int .i64 ((rd_T39 t366 x30_1).f0), .int .i64 0, .int .i64 0, .int .i64 0]) ?_ 1 _ rfl; (with_reducible repeat (first | refine blk_drewN ?_ _ | refine blk_drew ?_ | refine blk_alloc ?_ _)); refine blk_put (cs := #[.int .i64 0, .int .i64 0, .int .i64 0, .int .i64 0]) ?_ 0 _ rfl; (with_reducible repeat (first | refine blk_drewN ?_ _ | refine blk_drew ?_ | refine blk_alloc ?_ _)); exact BK370.out⟩, ⟨by repeat (first | (with_reducible first | exact HB.out | apply below_alloc | apply pw_below_drewN | apply below_drew1 | refine below_set ?_ GE370.out) | exact HB.out)⟩⟩
          ·rw [if_neg c32] at H
           have c32b0 : decide (0 < x30_1) = false := decide_eq_false c32
           clear c32
           by_cases c44 : ((rd_T39 t366 x30_1).f1) < 0
           ·rw [if_pos c44] at H
            have c44b0 : decide (((rd_T39 t366 x30_1).f1) < 0) = true := decide_eq_true c44
            clear c44
            have H' := Aside0.mk H
            clear H
            have hcz45_0 : w27.cell? ⟨gb370, 0, none⟩ = some (.int .i64 0) := (blk_cell BK370.out 0).trans rfl
            have hcz45_1 : w27.cell? ⟨gb370, 1, none⟩ = some (.int .i64 0) := (blk_cell BK370.out 1).trans rfl
            have hcz45_2 : w27.cell? ⟨gb370, 2, none⟩ = some (.int .i64 0) := (blk_cell BK370.out 2).trans rfl
            have hcz45_3 : w27.cell? ⟨gb370, 3, none⟩ = some (.int .i64 0) := (blk_cell BK370.out 3).trans rfl
            have hfz45_0 := blk_frozen BK370.out 0
            have hfz45_1 := blk_frozen BK370.out 1
            have hfz45_2 := blk_frozen BK370.out 2
            have hfz45_3 := blk_frozen BK370.out 3
            go_wp2
            repeat (go_quiet (fail); try go_wp2)
            go_meet
            case rel => exact ⟨_, (true), (by first | rfl | (simp; done) | (simp [*]; done)), H', ⟨by have := HK1.out; first | omega | exact Nat.le_refl _⟩, ⟨by (with_reducible repeat (first | apply Kd.R_alloc | apply Kd.R_drewN | apply Kd.R_drew)); exact Kd.R_mono (Kd.R_far (p := ⟨gb370, 3, none⟩) (Kd.R_far (p := ⟨gb370, 2, none⟩) (Kd.R_far (p := ⟨gb370, 1, none⟩) (Kd.R_far (p := ⟨gb370, 0, none⟩) (Kd.R_types HO_9.out BK370.out (by decide)) (fun _ hk => hk.2) (.int .i64 ((rd_T39 t366 x30_1).f0))) (fun _ hk => hk.2) (.int .i64 ((rd_T39 t366 x30_1).f1))) (fun _ hk => hk.2) (.int .i64 ((rd_T39 t366 x30_1).f2))) (fun _ hk => hk.2) (.int .i64 ((rd_T39 t366 x30_1).f3))) (fun _ hk => hk.1)⟩, ⟨by (with_reducible repeat (first | apply Kd.R_alloc | apply Kd.R_drewN | apply Kd.R_drew)); exact Kd.R_mono (Kd.R_far (p := ⟨gb370, 3, none⟩) (Kd.R_far (p := ⟨gb370, 2, none⟩) (Kd.R_far (p := ⟨gb370, 1, none⟩) (Kd.R_far (p := ⟨gb370, 0, none⟩) (Kd.R_types HO_10.out BK370.out (by decide)) (fun _ hk => hk.2) (.int .i64 ((rd_T39 t366 x30_1).f0))) (fun _ hk => hk.2) (.int .i64 ((rd_T39 t366 x30_1).f1))) (fun _ hk => hk.2) (.int .i64 ((rd_T39 t366 x30_1).f2))) (fun _ hk => hk.2) (.int .i64 ((rd_T39 t366 x30_1).f3))) (fun _ hk => hk.1)⟩, ⟨by (with_reducible repeat (first | apply Kd.R_alloc | apply Kd.R_drewN | apply Kd.R_drew)); exact Kd.R_mono (Kd.R_far (p := ⟨gb370, 3, none⟩) (Kd.R_far (p := ⟨gb370, 2, none⟩) (Kd.R_far (p := ⟨gb370, 1, none⟩) (Kd.R_far (p := ⟨gb370, 0, none⟩) (Kd.R_mono HO_28.out (fun k_ hk => (⟨hk, hk.2⟩ : _ ∧ k_ ≠ gb370))) (fun _ hk => hk.2) (.int .i64 ((rd_T39 t366 x30_1).f0))) (fun _ hk => hk.2) (.int .i64 ((rd_T39 t366 x30_1).f1))) (fun _ hk => hk.2) (.int .i64 ((rd_T39 t366 x30_1).f2))) (fun _ hk => hk.2) (.int .i64 ((rd_T39 t366 x30_1).f3))) (fun _ hk => hk.1.2)⟩, ⟨by (with_reducible repeat (first | refine blk_drewN ?_ _ | refine blk_drew ?_ | refine blk_alloc ?_ _)); refine blk_put (cs := #[.int .i64 ((rd_T39 t366 x30_1).f0), .int .i64 ((rd_T39 t366 x30_1).f1), .int .i64 ((rd_T39 t366 x30_1).f2), .int .i64 0]) ?_ 3 _ rfl; (with_reducible repeat (first | refine blk_drewN ?_ _ | refine blk_drew ?_ | refine blk_alloc ?_ _)); refine blk_put (cs := #[.int .i64 ((rd_T39 t366 x30_1).f0), .int .i64 ((rd_T39 t366 x30_1).f1), .int .i64 0, .int .i64 0]) ?_ 2 _ rfl; (with_reducible repeat (first | refine blk_drewN ?_ _ | refine blk_drew ?_ | refine blk_alloc ?_ _)); refine blk_put (cs := #[.int .i64 ((rd_T39 t366 x30_1).f0), .int .i64 0, .int .i64 0, .int .i64 0]) ?_ 1 _ rfl; (with_reducible repeat (first | refine blk_drewN ?_ _ | refine blk_drew ?_ | refine blk_alloc ?_ _)); refine blk_put (cs := #[.int .i64 0, .int .i64 0, .int .i64 0, .int .i64 0]) ?_ 0 _ rfl; (with_reducible repeat (first | refine blk_drewN ?_ _ | refine blk_drew ?_ | refine blk_alloc ?_ _)); exact BK370.out⟩, ⟨by repeat (first | (with_reducible first | exact HB.out | apply below_alloc | apply pw_below_drewN | apply below_drew1 | refine below_set ?_ GE370.out) | exact HB.out)⟩⟩
           ·rw [if_neg c44] at H
            have c44b0 : decide (((rd_T39 t366 x30_1).f1) < 0) = false := decide_eq_false c44
            clear c44
            by_cases c46 : ((rd_T39 t366 x30_1).f3) < 0
            ·rw [if_pos c46] at H
             have c46b0 : decide (((rd_T39 t366 x30_1).f3) < 0) = true := decide_eq_true c46
             clear c46
             have H' := Aside0.mk H
             clear H
             have hcz47_0 : w27.cell? ⟨gb370, 0, none⟩ = some (.int .i64 0) := (blk_cell BK370.out 0).trans rfl
             have hcz47_1 : w27.cell? ⟨gb370, 1, none⟩ = some (.int .i64 0) := (blk_cell BK370.out 1).trans rfl
             have hcz47_2 : w27.cell? ⟨gb370, 2, none⟩ = some (.int .i64 0) := (blk_cell BK370.out 2).trans rfl
             have hcz47_3 : w27.cell? ⟨gb370, 3, none⟩ = some (.int .i64 0) := (blk_cell BK370.out 3).trans rfl
             have hfz47_0 := blk_frozen BK370.out 0
             have hfz47_1 := blk_frozen BK370.out 1
             have hfz47_2 := blk_frozen BK370.out 2
             have hfz47_3 := blk_frozen BK370.out 3
             go_wp2
             repeat (go_quiet (fail); try go_wp2)
             go_meet
             case rel => exact ⟨_, (true), (by first | rfl | (simp; done) | (simp [*]; done)), H', ⟨by have := HK1.out; first | omega | exact Nat.le_refl _⟩, ⟨by (with_reducible repeat (first | apply Kd.R_alloc | apply Kd.R_drewN | apply Kd.R_drew)); exact Kd.R_mono (Kd.R_far (p := ⟨gb370, 3, none⟩) (Kd.R_far (p := ⟨gb370, 2, none⟩) (Kd.R_far (p := ⟨gb370, 1, none⟩) (Kd.R_far (p := ⟨gb370, 0, none⟩) (Kd.R_types HO_9.out BK370.out (by decide)) (fun _ hk => hk.2) (.int .i64 ((rd_T39 t366 x30_1).f0))) (fun _ hk => hk.2) (.int .i64 ((rd_T39 t366 x30_1).f1))) (fun _ hk => hk.2) (.int .i64 ((rd_T39 t366 x30_1).f2))) (fun _ hk => hk.2) (.int .i64 ((rd_T39 t366 x30_1).f3))) (fun _ hk => hk.1)⟩, ⟨by (with_reducible repeat (first | apply Kd.R_alloc | apply Kd.R_drewN | apply Kd.R_drew)); exact Kd.R_mono (Kd.R_far (p := ⟨gb370, 3, none⟩) (Kd.R_far (p := ⟨gb370, 2, none⟩) (Kd.R_far (p := ⟨gb370, 1, none⟩) (Kd.R_far (p := ⟨gb370, 0, none⟩) (Kd.R_types HO_10.out BK370.out (by decide)) (fun _ hk => hk.2) (.int .i64 ((rd_T39 t366 x30_1).f0))) (fun _ hk => hk.2) (.int .i64 ((rd_T39 t366 x30_1).f1))) (fun _ hk => hk.2) (.int .i64 ((rd_T39 t366 x30_1).f2))) (fun _ hk => hk.2) (.int .i64 ((rd_T39 t366 x30_1).f3))) (fun _ hk => hk.1)⟩, ⟨by (with_reducible repeat (first | apply Kd.R_alloc | apply Kd.R_drewN | apply Kd.R_drew)); exact Kd.R_mono (Kd.R_far (p := ⟨gb370, 3, none⟩) (Kd.R_far (p := ⟨gb370, 2, none⟩) (Kd.R_far (p := ⟨gb370, 1, none⟩) (Kd.R_far (p := ⟨gb370, 0, none⟩) (Kd.R_mono HO_28.out (fun k_ hk => (⟨hk, hk.2⟩ : _ ∧ k_ ≠ gb370))) (fun _ hk => hk.2) (.int .i64 ((rd_T39 t366 x30_1).f0))) (fun _ hk => hk.2) (.int .i64 ((rd_T39 t366 x30_1).f1))) (fun _ hk => hk.2) (.int .i64 ((rd_T39 t366 x30_1).f2))) (fun _ hk => hk.2) (.int .i64 ((rd_T39 t366 x30_1).f3))) (fun _ hk => hk.1.2)⟩, ⟨by (with_reducible repeat (first | refine blk_drewN ?_ _ | refine blk_drew ?_ | refine blk_alloc ?_ _)); refine blk_put (cs := #[.int .i64 ((rd_T39 t366 x30_1).f0), .int .i64 ((rd_T39 t366 x30_1).f1), .int .i64 ((rd_T39 t366 x30_1).f2), .int .i64 0]) ?_ 3 _ rfl; (with_reducible repeat (first | refine blk_drewN ?_ _ | refine blk_drew ?_ | refine blk_alloc ?_ _)); refine blk_put (cs := #[.int .i64 ((rd_T39 t366 x30_1).f0), .int .i64 ((rd_T39 t366 x30_1).f1), .int .i64 0, .int .i64 0]) ?_ 2 _ rfl; (with_reducible repeat (first | refine blk_drewN ?_ _ | refine blk_drew ?_ | refine blk_alloc ?_ _)); refine blk_put (cs := #[.int .i64 ((rd_T39 t366 x30_1).f0), .int .i64 0, .int .i64 0, .int .i64 0]) ?_ 1 _ rfl; (with_reducible repeat (first | refine blk_drewN ?_ _ | refine blk_drew ?_ | refine blk_alloc ?_ _)); refine blk_put (cs := #[.int .i64 0, .int .i64 0, .int .i64 0, .int .i64 0]) ?_ 0 _ rfl; (with_reducible repeat (first | refine blk_drewN ?_ _ | refine blk_drew ?_ | refine blk_alloc ?_ _)); exact BK370.out⟩, ⟨by repeat (first | (with_reducible first | exact HB.out | apply below_alloc | apply pw_below_drewN | apply below_drew1 | refine below_set ?_ GE370.out) | exact HB.out)⟩⟩
            ·rw [if_neg c46] at H
             have c46b0 : decide (((rd_T39 t366 x30_1).f3) < 0) = false := decide_eq_false c46
             clear c46
             by_cases c48 : (wrap64 (((rd_T39 t366 x30_1).f1) + ((rd_T39 t366 x30_1).f3))) = 0
             ·rw [if_pos c48] at H
              have c48b0 : ((wrap64 (((rd_T39 t366 x30_1).f1) + ((rd_T39 t366 x30_1).f3))) == 0) = true := beq_iff_eq.mpr c48
              have c48b1 : ((wrap64 (((rd_T39 t366 x30_1).f1) + ((rd_T39 t366 x30_1).f3))) != 0) = false := bne_eq_false_iff_eq.mpr c48
              clear c48
              have H' := Aside0.mk H
              clear H
              have hcz49_0 : w27.cell? ⟨gb370, 0, none⟩ = some (.int .i64 0) := (blk_cell BK370.out 0).trans rfl
              have hcz49_1 : w27.cell? ⟨gb370, 1, none⟩ = some (.int .i64 0) := (blk_cell BK370.out 1).trans rfl
              have hcz49_2 : w27.cell? ⟨gb370, 2, none⟩ = some (.int .i64 0) := (blk_cell BK370.out 2).trans rfl
              have hcz49_3 : w27.cell? ⟨gb370, 3, none⟩ = some (.int .i64 0) := (blk_cell BK370.out 3).trans rfl
              have hfz49_0 := blk_frozen BK370.out 0
              have hfz49_1 := blk_frozen BK370.out 1
              have hfz49_2 := blk_frozen BK370.out 2
              have hfz49_3 := blk_frozen BK370.out 3
              go_wp2
              repeat (go_quiet (fail); try go_wp2)
              go_meet
              case rel => exact ⟨_, (true), (by first | rfl | (simp; done) | (simp [*]; done)), H', ⟨by have := HK1.out; first | omega | exact Nat.le_refl _⟩, ⟨by (with_reducible repeat (first | apply Kd.R_alloc | apply Kd.R_drewN | apply Kd.R_drew)); exact Kd.R_mono (Kd.R_far (p := ⟨gb370, 3, none⟩) (Kd.R_far (p := ⟨gb370, 2, none⟩) (Kd.R_far (p := ⟨gb370, 1, none⟩) (Kd.R_far (p := ⟨gb370, 0, none⟩) (Kd.R_types HO_9.out BK370.out (by decide)) (fun _ hk => hk.2) (.int .i64 ((rd_T39 t366 x30_1).f0))) (fun _ hk => hk.2) (.int .i64 ((rd_T39 t366 x30_1).f1))) (fun _ hk => hk.2) (.int .i64 ((rd_T39 t366 x30_1).f2))) (fun _ hk => hk.2) (.int .i64 ((rd_T39 t366 x30_1).f3))) (fun _ hk => hk.1)⟩, ⟨by (with_reducible repeat (first | apply Kd.R_alloc | apply Kd.R_drewN | apply Kd.R_drew)); exact Kd.R_mono (Kd.R_far (p := ⟨gb370, 3, none⟩) (Kd.R_far (p := ⟨gb370, 2, none⟩) (Kd.R_far (p := ⟨gb370, 1, none⟩) (Kd.R_far (p := ⟨gb370, 0, none⟩) (Kd.R_types HO_10.out BK370.out (by decide)) (fun _ hk => hk.2) (.int .i64 ((rd_T39 t366 x30_1).f0))) (fun _ hk => hk.2) (.int .i64 ((rd_T39 t366 x30_1).f1))) (fun _ hk => hk.2) (.int .i64 ((rd_T39 t366 x30_1).f2))) (fun _ hk => hk.2) (.int .i64 ((rd_T39 t366 x30_1).f3))) (fun _ hk => hk.1)⟩, ⟨by (with_reducible repeat (first | apply Kd.R_alloc | apply Kd.R_drewN | apply Kd.R_drew)); exact Kd.R_mono (Kd.R_far (p := ⟨gb370, 3, none⟩) (Kd.R_far (p := ⟨gb370, 2, none⟩) (Kd.R_far (p := ⟨gb370, 1, none⟩) (Kd.R_far (p := ⟨gb370, 0, none⟩) (Kd.R_mono HO_28.out (fun k_ hk => (⟨hk, hk.2⟩ : _ ∧ k_ ≠ gb370))) (fun _ hk => hk.2) (.int .i64 ((rd_T39 t366 x30_1).f0))) (fun _ hk => hk.2) (.int .i64 ((rd_T39 t366 x30_1).f1))) (fun _ hk => hk.2) (.int .i64 ((rd_T39 t366 x30_1).f2))) (fun _ hk => hk.2) (.int .i64 ((rd_T39 t366 x30_1).f3))) (fun _ hk => hk.1.2)⟩, ⟨by (with_reducible repeat (first | refine blk_drewN ?_ _ | refine blk_drew ?_ | refine blk_alloc ?_ _)); refine blk_put (cs := #[.int .i64 ((rd_T39 t366 x30_1).f0), .int .i64 ((rd_T39 t366 x30_1).f1), .int .i64 ((rd_T39 t366 x30_1).f2), .int .i64 0]) ?_ 3 _ rfl; (with_reducible repeat (first | refine blk_drewN ?_ _ | refine blk_drew ?_ | refine blk_alloc ?_ _)); refine blk_put (cs := #[.int .i64 ((rd_T39 t366 x30_1).f0), .int .i64 ((rd_T39 t366 x30_1).f1), .int .i64 0, .int .i64 0]) ?_ 2 _ rfl; (with_reducible repeat (first | refine blk_drewN ?_ _ | refine blk_drew ?_ | refine blk_alloc ?_ _)); refine blk_put (cs := #[.int .i64 ((rd_T39 t366 x30_1).f0), .int .i64 0, .int .i64 0, .int .i64 0]) ?_ 1 _ rfl; (with_reducible repeat (first | refine blk_drewN ?_ _ | refine blk_drew ?_ | refine blk_alloc ?_ _)); refine blk_put (cs := #[.int .i64 0, .int .i64 0, .int .i64 0, .int .i64 0]) ?_ 0 _ rfl; (with_reducible repeat (first | refine blk_drewN ?_ _ | refine blk_drew ?_ | refine blk_alloc ?_ _)); exact BK370.out⟩, ⟨by repeat (first | (with_reducible first | exact HB.out | apply below_alloc | apply pw_below_drewN | apply below_drew1 | refine below_set ?_ GE370.out) | exact HB.out)⟩⟩
             ·rw [if_neg c48] at H
              have c48b0 : ((wrap64 (((rd_T39 t366 x30_1).f1) + ((rd_T39 t366 x30_1).f3))) == 0) = false := beq_eq_false_iff_ne.mpr c48
              have c48b1 : ((wrap64 (((rd_T39 t366 x30_1).f1) + ((rd_T39 t366 x30_1).f3))) != 0) = true := bne_iff_ne.mpr c48
              by_cases c50 : (wrap64 (((rd_T39 t366 x30_1).f0) + ((rd_T39 t366 x30_1).f1))) > (t357.length : Int)
              ·rw [if_pos c50] at H
               have c50b0 : decide ((t357.length : Int) < (wrap64 (((rd_T39 t366 x30_1).f0) + ((rd_T39 t366 x30_1).f1)))) = true := decide_eq_true c50
               clear c50
               have H' := Aside0.mk H
               clear H
               have hcz51_0 : w27.cell? ⟨gb370, 0, none⟩ = some (.int .i64 0) := (blk_cell BK370.out 0).trans rfl
               have hcz51_1 : w27.cell? ⟨gb370, 1, none⟩ = some (.int .i64 0) := (blk_cell BK370.out 1).trans rfl
               have hcz51_2 : w27.cell? ⟨gb370, 2, none⟩ = some (.int .i64 0) := (blk_cell BK370.out 2).trans rfl
               have hcz51_3 : w27.cell? ⟨gb370, 3, none⟩ = some (.int .i64 0) := (blk_cell BK370.out 3).trans rfl
               have hfz51_0 := blk_frozen BK370.out 0
               have hfz51_1 := blk_frozen BK370.out 1
               have hfz51_2 := blk_frozen BK370.out 2
               have hfz51_3 := blk_frozen BK370.out 3
               go_wp2
               repeat (go_quiet (fail); try go_wp2)
               go_meet
               case rel => exact ⟨_, (true), (by first | rfl | (simp; done) | (simp [*]; done)), H', ⟨by have := HK1.out; first | omega | exact Nat.le_refl _⟩, ⟨by (with_reducible repeat (first | apply Kd.R_alloc | apply Kd.R_drewN | apply Kd.R_drew)); exact Kd.R_mono (Kd.R_far (p := ⟨gb370, 3, none⟩) (Kd.R_far (p := ⟨gb370, 2, none⟩) (Kd.R_far (p := ⟨gb370, 1, none⟩) (Kd.R_far (p := ⟨gb370, 0, none⟩) (Kd.R_types HO_9.out BK370.out (by decide)) (fun _ hk => hk.2) (.int .i64 ((rd_T39 t366 x30_1).f0))) (fun _ hk => hk.2) (.int .i64 ((rd_T39 t366 x30_1).f1))) (fun _ hk => hk.2) (.int .i64 ((rd_T39 t366 x30_1).f2))) (fun _ hk => hk.2) (.int .i64 ((rd_T39 t366 x30_1).f3))) (fun _ hk => hk.1)⟩, ⟨by (with_reducible repeat (first | apply Kd.R_alloc | apply Kd.R_drewN | apply Kd.R_drew)); exact Kd.R_mono (Kd.R_far (p := ⟨gb370, 3, none⟩) (Kd.R_far (p := ⟨gb370, 2, none⟩) (Kd.R_far (p := ⟨gb370, 1, none⟩) (Kd.R_far (p := ⟨gb370, 0, none⟩) (Kd.R_types HO_10.out BK370.out (by decide)) (fun _ hk => hk.2) (.int .i64 ((rd_T39 t366 x30_1).f0))) (fun _ hk => hk.2) (.int .i64 ((rd_T39 t366 x30_1).f1))) (fun _ hk => hk.2) (.int .i64 ((rd_T39 t366 x30_1).f2))) (fun _ hk => hk.2) (.int .i64 ((rd_T39 t366 x30_1).f3))) (fun _ hk => hk.1)⟩, ⟨by (with_reducible repeat (first | apply Kd.R_alloc | apply Kd.R_drewN | apply Kd.R_drew)); exact Kd.R_mono (Kd.R_far (p := ⟨gb370, 3, none⟩) (Kd.R_far (p := ⟨gb370, 2, none⟩) (Kd.R_far (p := ⟨gb370, 1, none⟩) (Kd.R_far (p := ⟨gb370, 0, none⟩) (Kd.R_mono HO_28.out (fun k_ hk => (⟨hk, hk.2⟩ : _ ∧ k_ ≠ gb370))) (fun _ hk => hk.2) (.int .i64 ((rd_T39 t366 x30_1).f0))) (fun _ hk => hk.2) (.int .i64 ((rd_T39 t366 x30_1).f1))) (fun _ hk => hk.2) (.int .i64 ((rd_T39 t366 x30_1).f2))) (fun _ hk => hk.2) (.int .i64 ((rd_T39 t366 x30_1).f3))) (fun _ hk => hk.1.2)⟩, ⟨by (with_reducible repeat (first | refine blk_drewN ?_ _ | refine blk_drew ?_ | refine blk_alloc ?_ _)); refine blk_put (cs := #[.int .i64 ((rd_T39 t366 x30_1).f0), .int .i64 ((rd_T39 t366 x30_1).f1), .int .i64 ((rd_T39 t366 x30_1).f2), .int .i64 0]) ?_ 3 _ rfl; (with_reducible repeat (first | refine blk_drewN ?_ _ | refine blk_drew ?_ | refine blk_alloc ?_ _)); refine blk_put (cs := #[.int .i64 ((rd_T39 t366 x30_1).f0), .int .i64 ((rd_T39 t366 x30_1).f1), .int .i64 0, .int .i64 0]) ?_ 2 _ rfl; (with_reducible repeat (first | refine blk_drewN ?_ _ | refine blk_drew ?_ | refine blk_alloc ?_ _)); refine blk_put (cs := #[.int .i64 ((rd_T39 t366 x30_1).f0), .int .i64 0, .int .i64 0, .int .i64 0]) ?_ 1 _ rfl; (with_reducible repeat (first | refine blk_drewN ?_ _ | refine blk_drew ?_ | refine blk_alloc ?_ _)); refine blk_put (cs := #[.int .i64 0, .int .i64 0, .int .i64 0, .int .i64 0]) ?_ 0 _ rfl; (with_reducible repeat (first | refine blk_drewN ?_ _ | refine blk_drew ?_ | refine blk_alloc ?_ _)); exact BK370.out⟩, ⟨by repeat (first | (with_reducible first | exact HB.out | apply below_alloc | apply pw_below_drewN | apply below_drew1 | refine below_set ?_ GE370.out) | exact HB.out)⟩⟩
              ·rw [if_neg c50] at H
               have c50b0 : decide ((t357.length : Int) < (wrap64 (((rd_T39 t366 x30_1).f0) + ((rd_T39 t366 x30_1).f1)))) = false := decide_eq_false c50
               clear c50
               have H' := Aside0.mk H
               clear H
               have hcz52_0 : w27.cell? ⟨gb370, 0, none⟩ = some (.int .i64 0) := (blk_cell BK370.out 0).trans rfl
               have hcz52_1 : w27.cell? ⟨gb370, 1, none⟩ = some (.int .i64 0) := (blk_cell BK370.out 1).trans rfl
               have hcz52_2 : w27.cell? ⟨gb370, 2, none⟩ = some (.int .i64 0) := (blk_cell BK370.out 2).trans rfl
               have hcz52_3 : w27.cell? ⟨gb370, 3, none⟩ = some (.int .i64 0) := (blk_cell BK370.out 3).trans rfl
               have hfz52_0 := blk_frozen BK370.out 0
               have hfz52_1 := blk_frozen BK370.out 1
               have hfz52_2 := blk_frozen BK370.out 2
               have hfz52_3 := blk_frozen BK370.out 3
               go_wp2
               repeat (go_quiet (fail); try go_wp2)
               go_meet
               case rel => exact ⟨_, (decide ((wrap64 (((rd_T39 t366 x30_1).f2) + ((rd_T39 t366 x30_1).f3))) > (t363.length : Int))), (by first | rfl | (simp; done) | (simp [*]; done)), H', ⟨by have := HK1.out; first | omega | exact Nat.le_refl _⟩, ⟨by (with_reducible repeat (first | apply Kd.R_alloc | apply Kd.R_drewN | apply Kd.R_drew)); exact Kd.R_mono (Kd.R_far (p := ⟨gb370, 3, none⟩) (Kd.R_far (p := ⟨gb370, 2, none⟩) (Kd.R_far (p := ⟨gb370, 1, none⟩) (Kd.R_far (p := ⟨gb370, 0, none⟩) (Kd.R_types HO_9.out BK370.out (by decide)) (fun _ hk => hk.2) (.int .i64 ((rd_T39 t366 x30_1).f0))) (fun _ hk => hk.2) (.int .i64 ((rd_T39 t366 x30_1).f1))) (fun _ hk => hk.2) (.int .i64 ((rd_T39 t366 x30_1).f2))) (fun _ hk => hk.2) (.int .i64 ((rd_T39 t366 x30_1).f3))) (fun _ hk => hk.1)⟩, ⟨by (with_reducible repeat (first | apply Kd.R_alloc | apply Kd.R_drewN | apply Kd.R_drew)); exact Kd.R_mono (Kd.R_far (p := ⟨gb370, 3, none⟩) (Kd.R_far (p := ⟨gb370, 2, none⟩) (Kd.R_far (p := ⟨gb370, 1, none⟩) (Kd.R_far (p := ⟨gb370, 0, none⟩) (Kd.R_types HO_10.out BK370.out (by decide)) (fun _ hk => hk.2) (.int .i64 ((rd_T39 t366 x30_1).f0))) (fun _ hk => hk.2) (.int .i64 ((rd_T39 t366 x30_1).f1))) (fun _ hk => hk.2) (.int .i64 ((rd_T39 t366 x30_1).f2))) (fun _ hk => hk.2) (.int .i64 ((rd_T39 t366 x30_1).f3))) (fun _ hk => hk.1)⟩, ⟨by (with_reducible repeat (first | apply Kd.R_alloc | apply Kd.R_drewN | apply Kd.R_drew)); exact Kd.R_mono (Kd.R_far (p := ⟨gb370, 3, none⟩) (Kd.R_far (p := ⟨gb370, 2, none⟩) (Kd.R_far (p := ⟨gb370, 1, none⟩) (Kd.R_far (p := ⟨gb370, 0, none⟩) (Kd.R_mono HO_28.out (fun k_ hk => (⟨hk, hk.2⟩ : _ ∧ k_ ≠ gb370))) (fun _ hk => hk.2) (.int .i64 ((rd_T39 t366 x30_1).f0))) (fun _ hk => hk.2) (.int .i64 ((rd_T39 t366 x30_1).f1))) (fun _ hk => hk.2) (.int .i64 ((rd_T39 t366 x30_1).f2))) (fun _ hk => hk.2) (.int .i64 ((rd_T39 t366 x30_1).f3))) (fun _ hk => hk.1.2)⟩, ⟨by (with_reducible repeat (first | refine blk_drewN ?_ _ | refine blk_drew ?_ | refine blk_alloc ?_ _)); refine blk_put (cs := #[.int .i64 ((rd_T39 t366 x30_1).f0), .int .i64 ((rd_T39 t366 x30_1).f1), .int .i64 ((rd_T39 t366 x30_1).f2), .int .i64 0]) ?_ 3 _ rfl; (with_reducible repeat (first | refine blk_drewN ?_ _ | refine blk_drew ?_ | refine blk_alloc ?_ _)); refine blk_put (cs := #[.int .i64 ((rd_T39 t366 x30_1).f0), .int .i64 ((rd_T39 t366 x30_1).f1), .int .i64 0, .int .i64 0]) ?_ 2 _ rfl; (with_reducible repeat (first | refine blk_drewN ?_ _ | refine blk_drew ?_ | refine blk_alloc ?_ _)); refine blk_put (cs := #[.int .i64 ((rd_T39 t366 x30_1).f0), .int .i64 0, .int .i64 0, .int .i64 0]) ?_ 1 _ rfl; (with_reducible repeat (first | refine blk_drewN ?_ _ | refine blk_drew ?_ | refine blk_alloc ?_ _)); refine blk_put (cs := #[.int .i64 0, .int .i64 0, .int .i64 0, .int .i64 0]) ?_ 0 _ rfl; (with_reducible repeat (first | refine blk_drewN ?_ _ | refine blk_drew ?_ | refine blk_alloc ?_ _)); exact BK370.out⟩, ⟨by repeat (first | (with_reducible first | exact HB.out | apply below_alloc | apply pw_below_drewN | apply below_drew1 | refine below_set ?_ GE370.out) | exact HB.out)⟩⟩
        ·rw [if_neg c29] at H
         have c29b0 : ((wrap64 (((rd_T39 t366 x30_1).f0) - x11_1)) == (wrap64 (((rd_T39 t366 x30_1).f2) - x12_1))) = false := beq_eq_false_iff_ne.mpr c29
         have c29b1 : ((wrap64 (((rd_T39 t366 x30_1).f0) - x11_1)) != (wrap64 (((rd_T39 t366 x30_1).f2) - x12_1))) = true := bne_iff_ne.mpr c29
         (first | rw [c29b0] | (simp only [i64_w, i32_w]; rw [c29b0]) | skip)
         have H' := Aside0.mk H
         clear H
         have hcz53_0 : w27.cell? ⟨gb370, 0, none⟩ = some (.int .i64 0) := (blk_cell BK370.out 0).trans rfl
         have hcz53_1 : w27.cell? ⟨gb370, 1, none⟩ = some (.int .i64 0) := (blk_cell BK370.out 1).trans rfl
         have hcz53_2 : w27.cell? ⟨gb370, 2, none⟩ = some (.int .i64 0) := (blk_cell BK370.out 2).trans rfl
         have hcz53_3 : w27.cell? ⟨gb370, 3, none⟩ = some (.int .i64 0) := (blk_cell BK370.out 3).trans rfl
         have hfz53_0 := blk_frozen BK370.out 0
         have hfz53_1 := blk_frozen BK370.out 1
         have hfz53_2 := blk_frozen BK370.out 2
         have hfz53_3 := blk_frozen BK370.out 3
         go_wp2
         repeat (go_quiet (fail); try go_wp2)
         go_meet
         case rel => exact ⟨_, (true), (by first | rfl | (simp; done) | (simp [*]; done)), H', ⟨by have := HK1.out; first | omega | exact Nat.le_refl _⟩, ⟨by (with_reducible repeat (first | apply Kd.R_alloc | apply Kd.R_drewN | apply Kd.R_drew)); exact Kd.R_mono (Kd.R_far (p := ⟨gb370, 3, none⟩) (Kd.R_far (p := ⟨gb370, 2, none⟩) (Kd.R_far (p := ⟨gb370, 1, none⟩) (Kd.R_far (p := ⟨gb370, 0, none⟩) (Kd.R_types HO_9.out BK370.out (by decide)) (fun _ hk => hk.2) (.int .i64 ((rd_T39 t366 x30_1).f0))) (fun _ hk => hk.2) (.int .i64 ((rd_T39 t366 x30_1).f1))) (fun _ hk => hk.2) (.int .i64 ((rd_T39 t366 x30_1).f2))) (fun _ hk => hk.2) (.int .i64 ((rd_T39 t366 x30_1).f3))) (fun _ hk => hk.1)⟩, ⟨by (with_reducible repeat (first | apply Kd.R_alloc | apply Kd.R_drewN | apply Kd.R_drew)); exact Kd.R_mono (Kd.R_far (p := ⟨gb370, 3, none⟩) (Kd.R_far (p := ⟨gb370, 2, none⟩) (Kd.R_far (p := ⟨gb370, 1, none⟩) (Kd.R_far (p := ⟨gb370, 0, none⟩) (Kd.R_types HO_10.out BK370.out (by decide)) (fun _ hk => hk.2) (.int .i64 ((rd_T39 t366 x30_1).f0))) (fun _ hk => hk.2) (.int .i64 ((rd_T39 t366 x30_1).f1))) (fun _ hk => hk.2) (.int .i64 ((rd_T39 t366 x30_1).f2))) (fun _ hk => hk.2) (.int .i64 ((rd_T39 t366 x30_1).f3))) (fun _ hk => hk.1)⟩, ⟨by (with_reducible repeat (first | apply Kd.R_alloc | apply Kd.R_drewN | apply Kd.R_drew)); exact Kd.R_mono (Kd.R_far (p := ⟨gb370, 3, none⟩) (Kd.R_far (p := ⟨gb370, 2, none⟩) (Kd.R_far (p := ⟨gb370, 1, none⟩) (Kd.R_far (p := ⟨gb370, 0, none⟩) (Kd.R_mono HO_28.out (fun k_ hk => (⟨hk, hk.2⟩ : _ ∧ k_ ≠ gb370))) (fun _ hk => hk.2) (.int .i64 ((rd_T39 t366 x30_1).f0))) (fun _ hk => hk.2) (.int .i64 ((rd_T39 t366 x30_1).f1))) (fun _ hk => hk.2) (.int .i64 ((rd_T39 t366 x30_1).f2))) (fun _ hk => hk.2) (.int .i64 ((rd_T39 t366 x30_1).f3))) (fun _ hk => hk.1.2)⟩, ⟨by (with_reducible repeat (first | refine blk_drewN ?_ _ | refine blk_drew ?_ | refine blk_alloc ?_ _)); refine blk_put (cs := #[.int .i64 ((rd_T39 t366 x30_1).f0), .int .i64 ((rd_T39 t366 x30_1).f1), .int .i64 ((rd_T39 t366 x30_1).f2), .int .i64 0]) ?_ 3 _ rfl; (with_reducible repeat (first | refine blk_drewN ?_ _ | refine blk_drew ?_ | refine blk_alloc ?_ _)); refine blk_put (cs := #[.int .i64 ((rd_T39 t366 x30_1).f0), .int .i64 ((rd_T39 t366 x30_1).f1), .int .i64 0, .int .i64 0]) ?_ 2 _ rfl; (with_reducible repeat (first | refine blk_drewN ?_ _ | refine blk_drew ?_ | refine blk_alloc ?_ _)); refine blk_put (cs := #[.int .i64 ((rd_T39 t366 x30_1).f0), .int .i64 0, .int .i64 0, .int .i64 0]) ?_ 1 _ rfl; (with_reducible repeat (first | refine blk_drewN ?_ _ | refine blk_drew ?_ | refine blk_alloc ?_ _)); refine blk_put (cs := #[.int .i64 0, .int .i64 0, .int .i64 0, .int .i64 0]) ?_ 0 _ rfl; (with_reducible repeat (first | refine blk_drewN ?_ _ | refine blk_drew ?_ | refine blk_alloc ?_ _)); exact BK370.out⟩, ⟨by repeat (first | (with_reducible first | exact HB.out | apply below_alloc | apply pw_below_drewN | apply below_drew1 | refine below_set ?_ GE370.out) | exact HB.out)⟩⟩
       case rest =>
        clear HC26
        try clear c1
        try clear c2
        try clear p2
        try clear c3
        try clear p3
        try clear q3
        try clear hx3
        try clear c4
        try clear c5
        try clear c6
        try clear p6
        try clear c23
        try clear c23b0
        try clear c24
        try clear c24b0
        try clear c25
        try clear c25b0
        try clear c29
        try clear c29b0
        try clear c29b1
        try clear c30
        try clear c30b0
        try clear c32
        try clear c32b0
        try clear c33
        try clear c33b0
        try clear c33b1
        try clear c35
        try clear c35b0
        try clear p36
        try clear q36
        try clear hx36
        try clear c37
        try clear c37b0
        try clear c39
        try clear c39b0
        try clear c39b1
        try clear c41
        try clear c41b0
        try clear c44
        try clear c44b0
        try clear c46
        try clear c46b0
        try clear c48
        try clear c48b0
        try clear c48b1
        try clear c50
        try clear c50b0
        try clear hcz28_0
        try clear hcz28_1
        try clear hcz28_2
        try clear hcz28_3
        try clear hcz31_0
        try clear hcz31_1
        try clear hcz31_2
        try clear hcz31_3
        try clear hcz34_0
        try clear hcz34_1
        try clear hcz34_2
        try clear hcz34_3
        try clear hcz36_0
        try clear hcz36_1
        try clear hcz36_2
        try clear hcz36_3
        try clear hcz38_0
        try clear hcz38_1
        try clear hcz38_2
        try clear hcz38_3
        try clear hcz40_0
        try clear hcz40_1
        try clear hcz40_2
        try clear hcz40_3
        try clear hcz42_0
        try clear hcz42_1
        try clear hcz42_2
        try clear hcz42_3
        try clear hcz43_0
        try clear hcz43_1
        try clear hcz43_2
        try clear hcz43_3
        try clear hcz45_0
        try clear hcz45_1
        try clear hcz45_2
        try clear hcz45_3
        try clear hcz47_0
        try clear hcz47_1
        try clear hcz47_2
        try clear hcz47_3
        try clear hcz49_0
        try clear hcz49_1
        try clear hcz49_2
        try clear hcz49_3
        try clear hcz51_0
        try clear hcz51_1
        try clear hcz51_2
        try clear hcz51_3
        try clear hcz52_0
        try clear hcz52_1
        try clear hcz52_2
        try clear hcz52_3
        try clear hcz53_0
        try clear hcz53_1
        try clear hcz53_2
        try clear hcz53_3
        try clear hfz28_0
        try clear hfz28_1
        try clear hfz28_2
        try clear hfz28_3
        try clear hfz31_0
        try clear hfz31_1
        try clear hfz31_2
        try clear hfz31_3
        try clear hfz34_0
        try clear hfz34_1
        try clear hfz34_2
        try clear hfz34_3
        try clear hfz36_0
        try clear hfz36_1
        try clear hfz36_2
        try clear hfz36_3
        try clear hfz38_0
        try clear hfz38_1
        try clear hfz38_2
        try clear hfz38_3
        try clear hfz40_0
        try clear hfz40_1
        try clear hfz40_2
        try clear hfz40_3
        try clear hfz42_0
        try clear hfz42_1
        try clear hfz42_2
        try clear hfz42_3
        try clear hfz43_0
        try clear hfz43_1
        try clear hfz43_2
        try clear hfz43_3
        try clear hfz45_0
        try clear hfz45_1
        try clear hfz45_2
        try clear hfz45_3
        try clear hfz47_0
        try clear hfz47_1
        try clear hfz47_2
        try clear hfz47_3
        try clear hfz49_0
        try clear hfz49_1
        try clear hfz49_2
        try clear hfz49_3
        try clear hfz51_0
        try clear hfz51_1
        try clear hfz51_2
        try clear hfz51_3
        try clear hfz52_0
        try clear hfz52_1
        try clear hfz52_2
        try clear hfz52_3
        try clear hfz53_0
        try clear hfz53_1
        try clear hfz53_2
        try clear hfz53_3
        try clear hx369_0
        try clear hx369_1
        try clear hx369_2
        try clear hx369_3
        try clear p2
        try clear p369
        try clear q369
        obtain ⟨kq, x97_25, rfl, HA, HJ25, HO_9, HO_10, HO_28, BK370, HB⟩ := hcut
        cases kq with
        | zero => exact absurd HA.out (by simp [redpenlaw19_HunksLeast.j1])
        | succ kj25 =>
         have H := HA.out
         clear HA
         simp only [redpenlaw19_HunksLeast.j1] at H
         by_cases c54 : x97_25 = true
         ·subst c54
          have H1 : (some false) = some r := by rw [if_pos rfl] at H; exact H
          clear H
          have H := H1
          clear H1
          have hf_ := Option.some.inj H
          rw [hr_] at hf_
          cases hf_
         ·replace c54 := Bool.eq_false_iff.mpr c54
          subst c54
          have H1 : (redpenlaw19_HunksLeast.l1 kj25 t357 t363 x11_1 x12_1 x13_1 t366 (t366.length : Int) x30_1 ((rd_T39 t366 x30_1).f0) ((rd_T39 t366 x30_1).f1) ((rd_T39 t366 x30_1).f2) ((rd_T39 t366 x30_1).f3)) = some r := by rw [if_neg (show ¬ (false = true) by decide)] at H; exact H
          clear H
          have H := H1
          clear H1
          have H' := Aside0.mk H
          clear H
          go_wp2
          repeat (go_quiet (fail); try go_wp2)
          go_loopg [11, 12] kj25 (fun kq v11 v12 w' => ∃ (x11_3 : Int) (x12_3 : Int), v11 = .int .i64 x11_3 ∧ v12 = .int .i64 x12_3 ∧ Aside0 (redpenlaw19_HunksLeast.l1 kq t357 t363 x11_3 x12_3 x13_1 t366 (t366.length : Int) x30_1 ((rd_T39 t366 x30_1).f0) ((rd_T39 t366 x30_1).f1) ((rd_T39 t366 x30_1).f2) ((rd_T39 t366 x30_1).f3) = some r) ∧ Aside0 (kq ≤ kj25) ∧ Aside0 (Kd.R Kd.string 9 w' w.heap.size (fun k_ => some k_ ≠ ((.slice Ao20 t363.length co20) : Value).ownBlock) (.slice Ao19 t357.length co19) t357) ∧ Aside0 (Kd.R Kd.string 9 w' w.heap.size (fun k_ => some k_ ≠ ((.slice Ao19 t357.length co19) : Value).ownBlock) (.slice Ao20 t363.length co20) t363) ∧ Aside0 (Kd.R k39 39 w' w.heap.size (fun k_ => k_ ≠ gb370) (.slice (some ad369) t366.length co22) t366) ∧ Aside0 (w'.heap[gb370]? = some (.cells #[.int .i64 ((rd_T39 t366 x30_1).f0), .int .i64 ((rd_T39 t366 x30_1).f1), .int .i64 ((rd_T39 t366 x30_1).f2), .int .i64 ((rd_T39 t366 x30_1).f3)] 39 (0, 0))) ∧ Aside0 (Below w.heap.size w w'))
          case atStart => exact ⟨(x11_1), (x12_1), (by first | rfl | (simp; done) | (simp [*]; done)), (by first | rfl | (simp; done) | (simp [*]; done)), H', ⟨Nat.le_refl _⟩, ⟨by (with_reducible repeat (first | apply Kd.R_alloc | apply Kd.R_drewN | apply Kd.R_drew)); exact HO_9.out⟩, ⟨by (with_reducible repeat (first | apply Kd.R_alloc | apply Kd.R_drewN | apply Kd.R_drew)); exact HO_10.out⟩, ⟨by (with_reducible repeat (first | apply Kd.R_alloc | apply Kd.R_drewN | apply Kd.R_drew)); exact HO_28.out⟩, ⟨by (with_reducible repeat (first | refine blk_drewN ?_ _ | refine blk_drew ?_ | refine blk_alloc ?_ _)); exact BK370.out⟩, ⟨by repeat (first | (with_reducible first | exact HB.out | apply below_alloc | apply pw_below_drewN | apply below_drew1 | refine below_set ?_ GE370.out) | exact HB.out)⟩⟩
          case round =>
           clear H'
           try clear c1
           try clear c2
           try clear p2
           try clear c3
           try clear p3
           try clear q3
           try clear hx3
           try clear c4
           try clear c5
           try clear c6
           try clear p6
           try clear c23
           try clear c23b0
           try clear c24
           try clear c24b0
           try clear c25
           try clear c25b0
           try clear c29
           try clear c29b0
           try clear c29b1
           try clear c30
           try clear c30b0
           try clear c32
           try clear c32b0
           try clear c33
           try clear c33b0
           try clear c33b1
           try clear c35
           try clear c35b0
           try clear p36
           try clear q36
           try clear hx36
           try clear c37
           try clear c37b0
           try clear c39
           try clear c39b0
           try clear c39b1
           try clear c41
           try clear c41b0
           try clear c44
           try clear c44b0
           try clear c46
           try clear c46b0
           try clear c48
           try clear c48b0
           try clear c48b1
           try clear c50
           try clear c50b0
           try clear c54
           try clear hcz28_0
           try clear hcz28_1
           try clear hcz28_2
           try clear hcz28_3
           try clear hcz31_0
           try clear hcz31_1
           try clear hcz31_2
           try clear hcz31_3
           try clear hcz34_0
           try clear hcz34_1
           try clear hcz34_2
           try clear hcz34_3
           try clear hcz36_0
           try clear hcz36_1
           try clear hcz36_2
           try clear hcz36_3
           try clear hcz38_0
           try clear hcz38_1
           try clear hcz38_2
           try clear hcz38_3
           try clear hcz40_0
           try clear hcz40_1
           try clear hcz40_2
           try clear hcz40_3
           try clear hcz42_0
           try clear hcz42_1
           try clear hcz42_2
           try clear hcz42_3
           try clear hcz43_0
           try clear hcz43_1
           try clear hcz43_2
           try clear hcz43_3
           try clear hcz45_0
           try clear hcz45_1
           try clear hcz45_2
           try clear hcz45_3
           try clear hcz47_0
           try clear hcz47_1
           try clear hcz47_2
           try clear hcz47_3
           try clear hcz49_0
           try clear hcz49_1
           try clear hcz49_2
           try clear hcz49_3
           try clear hcz51_0
           try clear hcz51_1
           try clear hcz51_2
           try clear hcz51_3
           try clear hcz52_0
           try clear hcz52_1
           try clear hcz52_2
           try clear hcz52_3
           try clear hcz53_0
           try clear hcz53_1
           try clear hcz53_2
           try clear hcz53_3
           try clear hfz28_0
           try clear hfz28_1
           try clear hfz28_2
           try clear hfz28_3
           try clear hfz31_0
           try clear hfz31_1
           try clear hfz31_2
           try clear hfz31_3
           try clear hfz34_0
           try clear hfz34_1
           try clear hfz34_2
           try clear hfz34_3
           try clear hfz36_0
           try clear hfz36_1
           try clear hfz36_2
           try clear hfz36_3
           try clear hfz38_0
           try clear hfz38_1
           try clear hfz38_2
           try clear hfz38_3
           try clear hfz40_0
           try clear hfz40_1
           try clear hfz40_2
           try clear hfz40_3
           try clear hfz42_0
           try clear hfz42_1
           try clear hfz42_2
           try clear hfz42_3
           try clear hfz43_0
           try clear hfz43_1
           try clear hfz43_2
           try clear hfz43_3
           try clear hfz45_0
           try clear hfz45_1
           try clear hfz45_2
           try clear hfz45_3
           try clear hfz47_0
           try clear hfz47_1
           try clear hfz47_2
           try clear hfz47_3
           try clear hfz49_0
           try clear hfz49_1
           try clear hfz49_2
           try clear hfz49_3
           try clear hfz51_0
           try clear hfz51_1
           try clear hfz51_2
           try clear hfz51_3
           try clear hfz52_0
           try clear hfz52_1
           try clear hfz52_2
           try clear hfz52_3
           try clear hfz53_0
           try clear hfz53_1
           try clear hfz53_2
           try clear hfz53_3
           try clear hx369_0
           try clear hx369_1
           try clear hx369_2
           try clear hx369_3
           try clear p2
           try clear p3
           try clear p36
           try clear p369
           try clear p6
           try clear q3
           try clear q36
           try clear q369
           obtain ⟨x11_3, x12_3, rfl, rfl, HA, HK3, HO_9, HO_10, HO_28, BK370, HB⟩ := hrel
           cases gk with
           | zero => exact absurd HA.out (by simp [redpenlaw19_HunksLeast.l1])
           | succ k3 =>
            have H := HA.out
            clear HA
            simp only [redpenlaw19_HunksLeast.l1] at H
            by_cases c55 : x11_3 < ((rd_T39 t366 x30_1).f0)
            ·rw [if_pos c55] at H
             have c55b0 : decide (x11_3 < ((rd_T39 t366 x30_1).f0)) = true := decide_eq_true c55
             clear c55
             by_cases c56 : 0 ≤ x11_3
             ·rw [if_pos c56] at H
              have c56b0 : decide (0 ≤ x11_3) = true := decide_eq_true c56
              clear c56
              by_cases c57 : x11_3 < (t357.length : Int)
              ·rw [if_pos c57] at H
               have c57b0 : decide (x11_3 < (t357.length : Int)) = true := decide_eq_true c57
               clear c57
               by_cases c58 : 0 ≤ x12_3
               ·rw [if_pos c58] at H
                have c58b0 : decide (0 ≤ x12_3) = true := decide_eq_true c58
                clear c58
                by_cases c59 : x12_3 < (t363.length : Int)
                ·rw [if_pos c59] at H
                 have c59b0 : decide (x12_3 < (t363.length : Int)) = true := decide_eq_true c59
                 clear c59
                 by_cases c60 : (rdOf ByteArray.empty t357 x11_3).toList = (rdOf ByteArray.empty t363 x12_3).toList
                 ·rw [if_pos c60] at H
                  have c60b0 : ((rdOf ByteArray.empty t357 x11_3).toList == (rdOf ByteArray.empty t363 x12_3).toList) = true := beq_iff_eq.mpr c60
                  have c60b1 : ((rdOf ByteArray.empty t357 x11_3).toList != (rdOf ByteArray.empty t363 x12_3).toList) = false := bne_eq_false_iff_eq.mpr c60
                  clear c60
                  have H' := Aside0.mk H
                  clear H
                  have hcz61_0 : wr.cell? ⟨gb370, 0, none⟩ = some (.int .i64 ((rd_T39 t366 x30_1).f0)) := (blk_cell BK370.out 0).trans rfl
                  have hcz61_1 : wr.cell? ⟨gb370, 1, none⟩ = some (.int .i64 ((rd_T39 t366 x30_1).f1)) := (blk_cell BK370.out 1).trans rfl
                  have hcz61_2 : wr.cell? ⟨gb370, 2, none⟩ = some (.int .i64 ((rd_T39 t366 x30_1).f2)) := (blk_cell BK370.out 2).trans rfl
                  have hcz61_3 : wr.cell? ⟨gb370, 3, none⟩ = some (.int .i64 ((rd_T39 t366 x30_1).f3)) := (blk_cell BK370.out 3).trans rfl
                  have hfz61_0 := blk_frozen BK370.out 0
                  have hfz61_1 := blk_frozen BK370.out 1
                  have hfz61_2 := blk_frozen BK370.out 2
                  have hfz61_3 := blk_frozen BK370.out 3
                  have p371 : 0 ≤ (x11_3 : Int) := of_decide_eq_true (by first | (with_reducible assumption) | assumption)
                  have q371 : x11_3 < (t357.length : Int) := of_decide_eq_true (by first | (with_reducible assumption) | assumption)
                  obtain ⟨ad371, e371, hx371_0⟩ := Kd.at_string (Kd.R_reads' HO_9.out).2.2 x11_3 p371 q371
                  cases e371
                  replace p371 := eq_true p371
                  replace q371 := eq_true q371
                  have p372 : 0 ≤ (x12_3 : Int) := of_decide_eq_true (by first | (with_reducible assumption) | assumption)
                  have q372 : x12_3 < (t363.length : Int) := of_decide_eq_true (by first | (with_reducible assumption) | assumption)
                  obtain ⟨ad372, e372, hx372_0⟩ := Kd.at_string (Kd.R_reads' HO_10.out).2.2 x12_3 p372 q372
                  cases e372
                  replace p372 := eq_true p372
                  replace q372 := eq_true q372
                  go_wp2
                  repeat (go_quiet (fail); try go_wp2)
                  go_roundg k3
                  case measure => have := HK1.out; have := HJ25.out; have := HK3.out; omega
                  case rel => exact ⟨(wrap64 (x11_3 + 1)), (wrap64 (x12_3 + 1)), (by first | rfl | (simp; done) | (simp [*]; done)), (by first | rfl | (simp; done) | (simp [*]; done)), H', ⟨by have := HK1.out; have := HJ25.out; have := HK3.out; omega⟩, ⟨by (with_reducible repeat (first | apply Kd.R_alloc | apply Kd.R_drewN | apply Kd.R_drew)); exact HO_9.out⟩, ⟨by (with_reducible repeat (first | apply Kd.R_alloc | apply Kd.R_drewN | apply Kd.R_drew)); exact HO_10.out⟩, ⟨by (with_reducible repeat (first | apply Kd.R_alloc | apply Kd.R_drewN | apply Kd.R_drew)); exact HO_28.out⟩, ⟨by (with_reducible repeat (first | refine blk_drewN ?_ _ | refine blk_drew ?_ | refine blk_alloc ?_ _)); exact BK370.out⟩, ⟨by repeat (first | (with_reducible first | exact HB.out | apply below_alloc | apply pw_below_drewN | apply below_drew1 | refine below_set ?_ GE370.out) | exact HB.out)⟩⟩
                 ·rw [if_neg c60] at H
                  have c60b0 : ((rdOf ByteArray.empty t357 x11_3).toList == (rdOf ByteArray.empty t363 x12_3).toList) = false := beq_eq_false_iff_ne.mpr c60
                  have c60b1 : ((rdOf ByteArray.empty t357 x11_3).toList != (rdOf ByteArray.empty t363 x12_3).toList) = true := bne_iff_ne.mpr c60
                  have hf_ := Option.some.inj H
                  rw [hr_] at hf_
                  cases hf_
                ·rw [if_neg c59] at H
                 exact absurd H (by simp)
               ·rw [if_neg c58] at H
                exact absurd H (by simp)
              ·rw [if_neg c57] at H
               exact absurd H (by simp)
             ·rw [if_neg c56] at H
              exact absurd H (by simp)
            ·rw [if_neg c55] at H
             have c55b0 : decide (x11_3 < ((rd_T39 t366 x30_1).f0)) = false := decide_eq_false c55
             clear c55
             have H' := Aside0.mk H
             clear H
             have hcz62_0 : wr.cell? ⟨gb370, 0, none⟩ = some (.int .i64 ((rd_T39 t366 x30_1).f0)) := (blk_cell BK370.out 0).trans rfl
             have hcz62_1 : wr.cell? ⟨gb370, 1, none⟩ = some (.int .i64 ((rd_T39 t366 x30_1).f1)) := (blk_cell BK370.out 1).trans rfl
             have hcz62_2 : wr.cell? ⟨gb370, 2, none⟩ = some (.int .i64 ((rd_T39 t366 x30_1).f2)) := (blk_cell BK370.out 2).trans rfl
             have hcz62_3 : wr.cell? ⟨gb370, 3, none⟩ = some (.int .i64 ((rd_T39 t366 x30_1).f3)) := (blk_cell BK370.out 3).trans rfl
             have hfz62_0 := blk_frozen BK370.out 0
             have hfz62_1 := blk_frozen BK370.out 1
             have hfz62_2 := blk_frozen BK370.out 2
             have hfz62_3 := blk_frozen BK370.out 3
             go_wp2
             repeat (go_quiet (fail); try go_wp2)
             go_roundg k3
             case measure => have := HK1.out; have := HJ25.out; have := HK3.out; omega
             case rel => exact ⟨(wrap64 (((rd_T39 t366 x30_1).f0) + ((rd_T39 t366 x30_1).f1))), (wrap64 (((rd_T39 t366 x30_1).f2) + ((rd_T39 t366 x30_1).f3))), (wrap64 (x13_1 + (wrap64 (((rd_T39 t366 x30_1).f1) + ((rd_T39 t366 x30_1).f3))))), (wrap64 (x30_1 + 1)), (by first | rfl | (simp; done) | (simp [*]; done)), (by first | rfl | (simp; done) | (simp [*]; done)), (by first | rfl | (simp; done) | (simp [*]; done)), (by first | rfl | (simp; done) | (simp [*]; done)), H', ⟨by have := HK1.out; have := HJ25.out; have := HK3.out; omega⟩, ⟨by (with_reducible repeat (first | apply Kd.R_alloc | apply Kd.R_drewN | apply Kd.R_drew)); exact HO_9.out⟩, ⟨by (with_reducible repeat (first | apply Kd.R_alloc | apply Kd.R_drewN | apply Kd.R_drew)); exact HO_10.out⟩, ⟨by (with_reducible repeat (first | apply Kd.R_alloc | apply Kd.R_drewN | apply Kd.R_drew)); exact Kd.R_mono HO_28.out (fun _ hk => trivial)⟩, ⟨by repeat (first | (with_reducible first | exact HB.out | apply below_alloc | apply pw_below_drewN | apply below_drew1 | refine below_set ?_ GE370.out) | exact HB.out)⟩⟩
      ·rw [if_neg c25] at H
       exact absurd H (by simp)
     ·rw [if_neg c24] at H
      exact absurd H (by simp)
    ·rw [if_neg c23] at H
     have c23b0 : decide (x30_1 < (t366.length : Int)) = false := decide_eq_false c23
     clear c23
     by_cases c63 : (wrap64 ((t357.length : Int) - x11_1)) = (wrap64 ((t363.length : Int) - x12_1))
     ·rw [if_pos c63] at H
      have c63b0 : ((wrap64 ((t357.length : Int) - x11_1)) == (wrap64 ((t363.length : Int) - x12_1))) = true := beq_iff_eq.mpr c63
      have c63b1 : ((wrap64 ((t357.length : Int) - x11_1)) != (wrap64 ((t363.length : Int) - x12_1))) = false := bne_eq_false_iff_eq.mpr c63
      clear c63
      have H' := Aside0.mk H
      clear H
      go_wp2
      repeat (go_quiet (fail); try go_wp2)
      go_loopg [11, 12] k1 (fun kq v11 v12 w' => ∃ (x11_2 : Int) (x12_2 : Int), v11 = .int .i64 x11_2 ∧ v12 = .int .i64 x12_2 ∧ Aside0 (redpenlaw19_HunksLeast.l2 kq t357 t363 x11_2 x12_2 x13_1 = some r) ∧ Aside0 (kq ≤ k1) ∧ Aside0 (Kd.R Kd.string 9 w' w.heap.size (fun k_ => some k_ ≠ ((.slice Ao20 t363.length co20) : Value).ownBlock) (.slice Ao19 t357.length co19) t357) ∧ Aside0 (Kd.R Kd.string 9 w' w.heap.size (fun k_ => some k_ ≠ ((.slice Ao19 t357.length co19) : Value).ownBlock) (.slice Ao20 t363.length co20) t363) ∧ Aside0 (Below w.heap.size w w'))
      case atStart => exact ⟨(x11_1), (x12_1), (by first | rfl | (simp; done) | (simp [*]; done)), (by first | rfl | (simp; done) | (simp [*]; done)), H', ⟨Nat.le_refl _⟩, ⟨by (with_reducible repeat (first | apply Kd.R_alloc | apply Kd.R_drewN | apply Kd.R_drew)); exact HO_9.out⟩, ⟨by (with_reducible repeat (first | apply Kd.R_alloc | apply Kd.R_drewN | apply Kd.R_drew)); exact HO_10.out⟩, ⟨by repeat (first | (with_reducible first | exact HB.out | apply below_alloc | apply pw_below_drewN | apply below_drew1) | exact HB.out)⟩⟩
      case round =>
       clear H'
       try clear c1
       try clear c2
       try clear p2
       try clear c3
       try clear p3
       try clear q3
       try clear hx3
       try clear c4
       try clear c5
       try clear c6
       try clear p6
       try clear c23
       try clear c23b0
       try clear c24
       try clear c24b0
       try clear c25
       try clear c25b0
       try clear c29
       try clear c29b0
       try clear c29b1
       try clear c30
       try clear c30b0
       try clear c32
       try clear c32b0
       try clear c33
       try clear c33b0
       try clear c33b1
       try clear c35
       try clear c35b0
       try clear p36
       try clear q36
       try clear hx36
       try clear c37
       try clear c37b0
       try clear p37
       try clear q37
       try clear hx37
       try clear c39
       try clear c39b0
       try clear c39b1
       try clear c41
       try clear c41b0
       try clear c44
       try clear c44b0
       try clear c46
       try clear c46b0
       try clear c48
       try clear c48b0
       try clear c48b1
       try clear c50
       try clear c50b0
       try clear c54
       try clear c55
       try clear c55b0
       try clear c56
       try clear c56b0
       try clear c57
       try clear c57b0
       try clear c58
       try clear c58b0
       try clear c59
       try clear c59b0
       try clear c60
       try clear c60b0
       try clear c60b1
       try clear c63
       try clear c63b0
       try clear c63b1
       try clear hcz28_0
       try clear hcz28_1
       try clear hcz28_2
       try clear hcz28_3
       try clear hcz31_0
       try clear hcz31_1
       try clear hcz31_2
       try clear hcz31_3
       try clear hcz34_0
       try clear hcz34_1
       try clear hcz34_2
       try clear hcz34_3
       try clear hcz36_0
       try clear hcz36_1
       try clear hcz36_2
       try clear hcz36_3
       try clear hcz38_0
       try clear hcz38_1
       try clear hcz38_2
       try clear hcz38_3
       try clear hcz40_0
       try clear hcz40_1
       try clear hcz40_2
       try clear hcz40_3
       try clear hcz42_0
       try clear hcz42_1
       try clear hcz42_2
       try clear hcz42_3
       try clear hcz43_0
       try clear hcz43_1
       try clear hcz43_2
       try clear hcz43_3
       try clear hcz45_0
       try clear hcz45_1
       try clear hcz45_2
       try clear hcz45_3
       try clear hcz47_0
       try clear hcz47_1
       try clear hcz47_2
       try clear hcz47_3
       try clear hcz49_0
       try clear hcz49_1
       try clear hcz49_2
       try clear hcz49_3
       try clear hcz51_0
       try clear hcz51_1
       try clear hcz51_2
       try clear hcz51_3
       try clear hcz52_0
       try clear hcz52_1
       try clear hcz52_2
       try clear hcz52_3
       try clear hcz53_0
       try clear hcz53_1
       try clear hcz53_2
       try clear hcz53_3
       try clear hcz61_0
       try clear hcz61_1
       try clear hcz61_2
       try clear hcz61_3
       try clear hcz62_0
       try clear hcz62_1
       try clear hcz62_2
       try clear hcz62_3
       try clear hfz28_0
       try clear hfz28_1
       try clear hfz28_2
       try clear hfz28_3
       try clear hfz31_0
       try clear hfz31_1
       try clear hfz31_2
       try clear hfz31_3
       try clear hfz34_0
       try clear hfz34_1
       try clear hfz34_2
       try clear hfz34_3
       try clear hfz36_0
       try clear hfz36_1
       try clear hfz36_2
       try clear hfz36_3
       try clear hfz38_0
       try clear hfz38_1
       try clear hfz38_2
       try clear hfz38_3
       try clear hfz40_0
       try clear hfz40_1
       try clear hfz40_2
       try clear hfz40_3
       try clear hfz42_0
       try clear hfz42_1
       try clear hfz42_2
       try clear hfz42_3
       try clear hfz43_0
       try clear hfz43_1
       try clear hfz43_2
       try clear hfz43_3
       try clear hfz45_0
       try clear hfz45_1
       try clear hfz45_2
       try clear hfz45_3
       try clear hfz47_0
       try clear hfz47_1
       try clear hfz47_2
       try clear hfz47_3
       try clear hfz49_0
       try clear hfz49_1
       try clear hfz49_2
       try clear hfz49_3
       try clear hfz51_0
       try clear hfz51_1
       try clear hfz51_2
       try clear hfz51_3
       try clear hfz52_0
       try clear hfz52_1
       try clear hfz52_2
       try clear hfz52_3
       try clear hfz53_0
       try clear hfz53_1
       try clear hfz53_2
       try clear hfz53_3
       try clear hfz61_0
       try clear hfz61_1
       try clear hfz61_2
       try clear hfz61_3
       try clear hfz62_0
       try clear hfz62_1
       try clear hfz62_2
       try clear hfz62_3
       try clear hx369_0
       try clear hx369_1
       try clear hx369_2
       try clear hx369_3
       try clear hx371_0
       try clear hx372_0
       try clear p2
       try clear p3
       try clear p36
       try clear p369
       try clear p371
       try clear p372
       try clear p6
       try clear q3
       try clear q36
       try clear q369
       try clear q371
       try clear q372
       obtain ⟨x11_2, x12_2, rfl, rfl, HA, HK2, HO_9, HO_10, HB⟩ := hrel
       cases gk with
       | zero => exact absurd HA.out (by simp [redpenlaw19_HunksLeast.l2])
       | succ k2 =>
        have H := HA.out
        clear HA
        simp only [redpenlaw19_HunksLeast.l2] at H
        by_cases c64 : x11_2 < (t357.length : Int)
        ·rw [if_pos c64] at H
         have c64b0 : decide (x11_2 < (t357.length : Int)) = true := decide_eq_true c64
         clear c64
         by_cases c65 : 0 ≤ x11_2
         ·rw [if_pos c65] at H
          have c65b0 : decide (0 ≤ x11_2) = true := decide_eq_true c65
          clear c65
          by_cases c66 : 0 ≤ x12_2
          ·rw [if_pos c66] at H
           have c66b0 : decide (0 ≤ x12_2) = true := decide_eq_true c66
           clear c66
           by_cases c67 : x12_2 < (t363.length : Int)
           ·rw [if_pos c67] at H
            have c67b0 : decide (x12_2 < (t363.length : Int)) = true := decide_eq_true c67
            clear c67
            by_cases c68 : (rdOf ByteArray.empty t357 x11_2).toList = (rdOf ByteArray.empty t363 x12_2).toList
            ·rw [if_pos c68] at H
             have c68b0 : ((rdOf ByteArray.empty t357 x11_2).toList == (rdOf ByteArray.empty t363 x12_2).toList) = true := beq_iff_eq.mpr c68
             have c68b1 : ((rdOf ByteArray.empty t357 x11_2).toList != (rdOf ByteArray.empty t363 x12_2).toList) = false := bne_eq_false_iff_eq.mpr c68
             clear c68
             have H' := Aside0.mk H
             clear H
             have p373 : 0 ≤ (x11_2 : Int) := of_decide_eq_true (by first | (with_reducible assumption) | assumption)
             have q373 : x11_2 < (t357.length : Int) := of_decide_eq_true (by first | (with_reducible assumption) | assumption)
             obtain ⟨ad373, e373, hx373_0⟩ := Kd.at_string (Kd.R_reads' HO_9.out).2.2 x11_2 p373 q373
             cases e373
             replace p373 := eq_true p373
             replace q373 := eq_true q373
             have p374 : 0 ≤ (x12_2 : Int) := of_decide_eq_true (by first | (with_reducible assumption) | assumption)
             have q374 : x12_2 < (t363.length : Int) := of_decide_eq_true (by first | (with_reducible assumption) | assumption)
             obtain ⟨ad374, e374, hx374_0⟩ := Kd.at_string (Kd.R_reads' HO_10.out).2.2 x12_2 p374 q374
             cases e374
             replace p374 := eq_true p374
             replace q374 := eq_true q374
             go_wp2
             repeat (go_quiet (fail); try go_wp2)
             go_roundg k2
             case measure => have := HK1.out; have := HK2.out; omega
             case rel => exact ⟨(wrap64 (x11_2 + 1)), (wrap64 (x12_2 + 1)), (by first | rfl | (simp; done) | (simp [*]; done)), (by first | rfl | (simp; done) | (simp [*]; done)), H', ⟨by have := HK1.out; have := HK2.out; omega⟩, ⟨by (with_reducible repeat (first | apply Kd.R_alloc | apply Kd.R_drewN | apply Kd.R_drew)); exact HO_9.out⟩, ⟨by (with_reducible repeat (first | apply Kd.R_alloc | apply Kd.R_drewN | apply Kd.R_drew)); exact HO_10.out⟩, ⟨by repeat (first | (with_reducible first | exact HB.out | apply below_alloc | apply pw_below_drewN | apply below_drew1) | exact HB.out)⟩⟩
            ·rw [if_neg c68] at H
             have c68b0 : ((rdOf ByteArray.empty t357 x11_2).toList == (rdOf ByteArray.empty t363 x12_2).toList) = false := beq_eq_false_iff_ne.mpr c68
             have c68b1 : ((rdOf ByteArray.empty t357 x11_2).toList != (rdOf ByteArray.empty t363 x12_2).toList) = true := bne_iff_ne.mpr c68
             have hf_ := Option.some.inj H
             rw [hr_] at hf_
             cases hf_
           ·rw [if_neg c67] at H
            exact absurd H (by simp)
          ·rw [if_neg c66] at H
           exact absurd H (by simp)
         ·rw [if_neg c65] at H
          exact absurd H (by simp)
        ·rw [if_neg c64] at H
         have c64b0 : decide (x11_2 < (t357.length : Int)) = false := decide_eq_false c64
         clear c64
         replace H := Option.bind_eq_some_iff.mp H
         obtain ⟨t375, A690, H⟩ := H
         replace H : (some (x13_1 == (wrap64 ((wrap64 ((t357.length : Int) + (t363.length : Int))) - (wrap64 (2 * t375)))))) = some r := H
         have A69 := Aside0.mk A690
         clear A690
         obtain rfl := Option.some.inj H
         go_wp2_with (first | (go_at_call 25; (with_reducible refine (redpenref18_Common.calls k2 _ _ t357 _ _ t363 t375 _ ?side1 ?side2 ?side3 ?side4 A69.out).mono ?_); (case side1 => repeat (first | exact (Kd.R_reads' HO_9.out).2.2 | (with_reducible refine Kd.C_alloc ?_ _) | (with_reducible refine Kd.C_drewN ?_ _) | (with_reducible refine Kd.C_drew ?_))); (case side2 => exact (Kd.R_reads' HO_9.out).2.1); (case side3 => repeat (first | exact (Kd.R_reads' HO_10.out).2.2 | (with_reducible refine Kd.C_alloc ?_ _) | (with_reducible refine Kd.C_drewN ?_ _) | (with_reducible refine Kd.C_drew ?_))); (case side4 => exact (Kd.R_reads' HO_10.out).2.1); rintro e w70 ⟨rfl, hb⟩; have n0_ := Aside0.mk (Kd.R_below (by (with_reducible repeat (first | apply Kd.R_alloc | apply Kd.R_drewN | apply Kd.R_drew)); exact HO_9.out) hb); have n1_ := Aside0.mk (Kd.R_below (by (with_reducible repeat (first | apply Kd.R_alloc | apply Kd.R_drewN | apply Kd.R_drew)); exact HO_10.out) hb); have n2_ := Aside0.mk (below_step (by repeat (first | (with_reducible first | exact HB.out | apply below_alloc | apply pw_below_drewN | apply below_drew1) | exact HB.out)) hb); clear HO_9; clear HO_10; clear HB; have HO_9 := n0_; have HO_10 := n1_; have HB := n2_; clear n0_ n1_ n2_; (try clear hb); (try clear hb2); (try clear hk); (try clear hi)))
         repeat (go_quiet (first | (go_at_call 25; (with_reducible refine (redpenref18_Common.calls k2 _ _ t357 _ _ t363 t375 _ ?side1 ?side2 ?side3 ?side4 A69.out).mono ?_); (case side1 => repeat (first | exact (Kd.R_reads' HO_9.out).2.2 | (with_reducible refine Kd.C_alloc ?_ _) | (with_reducible refine Kd.C_drewN ?_ _) | (with_reducible refine Kd.C_drew ?_))); (case side2 => exact (Kd.R_reads' HO_9.out).2.1); (case side3 => repeat (first | exact (Kd.R_reads' HO_10.out).2.2 | (with_reducible refine Kd.C_alloc ?_ _) | (with_reducible refine Kd.C_drewN ?_ _) | (with_reducible refine Kd.C_drew ?_))); (case side4 => exact (Kd.R_reads' HO_10.out).2.1); rintro e w70 ⟨rfl, hb⟩; have n0_ := Aside0.mk (Kd.R_below (by (with_reducible repeat (first | apply Kd.R_alloc | apply Kd.R_drewN | apply Kd.R_drew)); exact HO_9.out) hb); have n1_ := Aside0.mk (Kd.R_below (by (with_reducible repeat (first | apply Kd.R_alloc | apply Kd.R_drewN | apply Kd.R_drew)); exact HO_10.out) hb); have n2_ := Aside0.mk (below_step (by repeat (first | (with_reducible first | exact HB.out | apply below_alloc | apply pw_below_drewN | apply below_drew1) | exact HB.out)) hb); clear HO_9; clear HO_10; clear HB; have HO_9 := n0_; have HO_10 := n1_; have HB := n2_; clear n0_ n1_ n2_; (try clear hb); (try clear hb2); (try clear hk); (try clear hi))); try go_wp2_with (first | (go_at_call 25; (with_reducible refine (redpenref18_Common.calls k2 _ _ t357 _ _ t363 t375 _ ?side1 ?side2 ?side3 ?side4 A69.out).mono ?_); (case side1 => repeat (first | exact (Kd.R_reads' HO_9.out).2.2 | (with_reducible refine Kd.C_alloc ?_ _) | (with_reducible refine Kd.C_drewN ?_ _) | (with_reducible refine Kd.C_drew ?_))); (case side2 => exact (Kd.R_reads' HO_9.out).2.1); (case side3 => repeat (first | exact (Kd.R_reads' HO_10.out).2.2 | (with_reducible refine Kd.C_alloc ?_ _) | (with_reducible refine Kd.C_drewN ?_ _) | (with_reducible refine Kd.C_drew ?_))); (case side4 => exact (Kd.R_reads' HO_10.out).2.1); rintro e w70 ⟨rfl, hb⟩; have n0_ := Aside0.mk (Kd.R_below (by (with_reducible repeat (first | apply Kd.R_alloc | apply Kd.R_drewN | apply Kd.R_drew)); exact HO_9.out) hb); have n1_ := Aside0.mk (Kd.R_below (by (with_reducible repeat (first | apply Kd.R_alloc | apply Kd.R_drewN | apply Kd.R_drew)); exact HO_10.out) hb); have n2_ := Aside0.mk (below_step (by repeat (first | (with_reducible first | exact HB.out | apply below_alloc | apply pw_below_drewN | apply below_drew1) | exact HB.out)) hb); clear HO_9; clear HO_10; clear HB; have HO_9 := n0_; have HO_10 := n1_; have HB := n2_; clear n0_ n1_ n2_; (try clear hb); (try clear hb2); (try clear hk); (try clear hi))))
         go_ret
         exact ⟨by first | rfl | (simp [errW_none, errW_some] <;> rfl) | (simp [*, errW_none, errW_some] <;> rfl), by repeat (first | (with_reducible first | exact HB.out | apply below_alloc | apply pw_below_drewN | apply below_drew1) | exact HB.out)⟩
     ·rw [if_neg c63] at H
      have c63b0 : ((wrap64 ((t357.length : Int) - x11_1)) == (wrap64 ((t363.length : Int) - x12_1))) = false := beq_eq_false_iff_ne.mpr c63
      have c63b1 : ((wrap64 ((t357.length : Int) - x11_1)) != (wrap64 ((t363.length : Int) - x12_1))) = true := bne_iff_ne.mpr c63
      have hf_ := Option.some.inj H
      rw [hr_] at hf_
      cases hf_
 ·replace c6 := Bool.eq_false_iff.mpr c6
  subst c6
  have H1 : (some false) = some r := by rw [if_neg (show ¬ (false = true) by decide)] at H; exact H
  clear H
  have H := H1
  clear H1
  have hf_ := Option.some.inj H
  rw [hr_] at hf_
  cases hf_

/-- THE ONE PURE STATEMENT of redpenlaw19_HunksLeast: yours. -/
def redpenlaw19_HunksLeast.Pure : Prop := ∀ (l0 : List Int) (l1 : List Int) (a2 : Bool) (a3 : Bool), l0.length ≤ maxLen → l0.length * 1 ≤ 140737488351232 → (∀ x ∈ l0, (Lit.int .u8 x).wf = true) → l1.length ≤ maxLen → l1.length * 1 ≤ 140737488351232 → (∀ x ∈ l1, (Lit.int .u8 x).wf = true) → ∃ k, redpenlaw19_HunksLeast.f k l0 l1 a2 a3 = some true
theorem redpenlaw19_HunksLeast.walk (P : redpenlaw19_HunksLeast.Pure) (a0 : Option Addr) (len0 cap0 : Nat) (z0 : List Int) (a1 : Option Addr) (len1 cap1 : Nat) (z1 : List Int) (a2 : Bool) (a3 : Bool) (w : World) (w0 : (a0 = none ∧ len0 = 0 ∧ cap0 = 0 ∧ z0 = []) ∨ ∃ x, a0 = some x ∧ len0 ≤ cap0 ∧ cap0 ≤ maxLen ∧ z0.length = cap0 ∧ (∀ i, i < z0.length → w.cell? (x.add i) = some (.int .u8 (z0.getD i 0))) ∧ ∀ n ∈ z0, (Lit.int .u8 n).wf = true) (y0 : len0 * 1 ≤ 140737488351232) (w1 : (a1 = none ∧ len1 = 0 ∧ cap1 = 0 ∧ z1 = []) ∨ ∃ x, a1 = some x ∧ len1 ≤ cap1 ∧ cap1 ≤ maxLen ∧ z1.length = cap1 ∧ (∀ i, i < z1.length → w.cell? (x.add i) = some (.int .u8 (z1.getD i 0))) ∧ ∀ n ∈ z1, (Lit.int .u8 n).wf = true) (y1 : len1 * 1 ≤ 140737488351232) :
  Calls Try.prog 6 #[.slice a0 len0 cap0, .slice a1 len1 cap1, .bool a2, .bool a3] w fun e w' => e = .returned (.bool true) ∧ Below w.heap.size w w' := by
 obtain ⟨l0, rfl, hr0, hm0, hw0, hc0⟩ := ReadsInt.ofRowC w0
 obtain ⟨l1, rfl, hr1, hm1, hw1, hc1⟩ := ReadsInt.ofRowC w1
 obtain ⟨k, h⟩ := P l0 l1 a2 a3 hm0 y0 hw0 hm1 y1 hw1
 refine (redpenlaw19_HunksLeast.calls k _ _ l0 _ _ l1 a2 a3 true w (Kd.C_of_reads (d := (0 : Int)) (h1 := fun _ => rfl) hr0) hc0 (Kd.C_of_reads (d := (0 : Int)) (h1 := fun _ => rfl) hr1) hc1 h rfl).mono ?_
 rintro e w' ⟨rfl, hd⟩
 exact ⟨rfl, hd⟩

end Go.Proofs.Ytokgkhndhlcfpaa.PHunksLeast
