-- x
import Derived.Test.YtkflgnhcfhmkdaaDoorPPragmaReadsx0
import Derived.Test.YtkflgnhcfhmkdaaDoorXSq
import Derived.Test.YtkflgnhcfhmkdaaDoorXRow
import Derived.LoopN
import Derived.Test.YtkflgnhcfhmkdaaDoorPPragmaReadsx1
import Derived.Test.YtkflgnhcfhmkdaaDoorPPragmaReadsx6
import Derived.Test.YtkflgnhcfhmkdaaDoorPPragmaReadsx7
import Derived.Test.YtkflgnhcfhmkdaaDoorPPragmaReadsx12
import Derived.Test.YtkflgnhcfhmkdaaDoorPPragmaReadsx13
namespace Go.Proofs.YtkflgnhcfhmkdaaDoor.PPragmaReads
open Go.RowKit Go.Proofs.YtkflgnhcfhmkdaaDoor.X Go.Proofs.YtkflgnhcfhmkdaaDoorW.PrintWords Go.Proofs.YtkflgnhcfhmkdaaDoorW.PrintLast Go.Proofs.YtkflgnhcfhmkdaaDoorW.PrintMore
attribute [local go_sem] max2_int min2_int max_two min_two max_three min_three max_four min_four   -- for this text's walks alone
set_option linter.unusedVariables false
set_option linter.unusedSimpArgs false
attribute [local go_sem high] eqA40
mutual
def redpenlaw17_PragmaReads.j0 : Nat → List Int → List Int → ByteArray → Bool → Option (Bool)
 | 0, _, _, _, _ => none
 | k + 1, x0, x1, x2, x25 => if x25 = true then (some true) else ((redpenlaw17_pieces.f).bind fun t356 => ((redpenlaw11_Bits.f k t356 x1 x0).bind fun t359 => ((pragma_Read.f k x0).bind fun t363 => ((redpenref15_Read.f k x0).bind fun bt366 => ((pragma_Rules_Spans.f t363).bind fun t373 => (if (t373.length : Int) = (bt366.1.length : Int) then (redpenlaw17_PragmaReads.l0 k x2 x0 t363 t373 t359 (t373.length : Int) 0 bt366.1 bt366.2) else (some false)))))))
def redpenlaw17_PragmaReads.l0 : Nat → ByteArray → List Int → List (Go.Proofs.YtkflgnhcfhmkdaaDoor.H.RlT) → List (S40) → List Int → Int → Int → List (S40) → List ByteArray → Option (Bool)
 | 0, _, _, _, _, _, _, _, _, _ => none
 | k + 1, x2, x8, x9, x11, x30, x50, x51, x373000, x373001 => if x51 < x50 then (if 0 ≤ x51 then (if x51 < (x11.length : Int) then (if x51 < (x373000.length : Int) then (if (!(((rd_T40 x11 x51).f0) == ((rd_T40 x373000 x51).f0)) || (!(((rd_T40 x11 x51).f1) == ((rd_T40 x373000 x51).f1)))) = true then (some false) else (redpenlaw17_PragmaReads.l0 k x2 x8 x9 x11 x30 x50 (wrap64 (x51 + 1)) x373000 x373001)) else (none)) else (none)) else (none)) else (redpenlaw17_PragmaReads.l1 k x2 x8 x9 (-1) x30 x373000 x373001)
def redpenlaw17_PragmaReads.l1 : Nat → ByteArray → List Int → List (Go.Proofs.YtkflgnhcfhmkdaaDoor.H.RlT) → Int → List Int → List (S40) → List ByteArray → Option (Bool)
 | 0, _, _, _, _, _, _, _ => none
 | k + 1, x2, x8, x9, x13, x30, x373000, x373001 => if x13 ≤ (x8.length : Int) then ((pragma_Rules_Off.f x9 x13).bind fun t378 => ((redpenref15_Rules_Alone.f k x373000 x373001 x13).bind fun t379 => (if (t378 != t379) = true then (some false) else (redpenlaw17_PragmaReads.l1 k x2 x8 x9 (wrap64 (x13 + 1)) x30 x373000 x373001)))) else ((some (([x2, (⟨#[119, 111, 114, 100]⟩ : ByteArray), (⟨#[84, 69, 72]⟩ : ByteArray), (⟨#[100, 111, 110, 39, 116]⟩ : ByteArray), (⟨#[97]⟩ : ByteArray), (⟨#[98]⟩ : ByteArray), (⟨#[97, 98, 99]⟩ : ByteArray), (⟨#[68, 69, 70]⟩ : ByteArray), (⟨#[120]⟩ : ByteArray), (⟨#[]⟩ : ByteArray)] : List ByteArray) : List ByteArray)).bind fun y380 => (redpenlaw17_PragmaReads.l2 k x2 x9 x30 y380 (y380.length : Int) 0 x373000 x373001))
def redpenlaw17_PragmaReads.l2 : Nat → ByteArray → List (Go.Proofs.YtkflgnhcfhmkdaaDoor.H.RlT) → List Int → List ByteArray → Int → Int → List (S40) → List ByteArray → Option (Bool)
 | 0, _, _, _, _, _, _, _, _ => none
 | k + 1, x2, x9, x30, x79, x80, x81, x373000, x373001 => if x81 < x80 then (if 0 ≤ x81 then (if x81 < (x79.length : Int) then ((pragma_Rules_Knows.f k x9 (rdOf ByteArray.empty x79 x81)).bind fun t384 => ((redpenref15_Rules_Knows.f k x373000 x373001 (rdOf ByteArray.empty x79 x81)).bind fun t385 => (if (t384 != t385) = true then (some false) else (redpenlaw17_PragmaReads.l2 k x2 x9 x30 x79 x80 (wrap64 (x81 + 1)) x373000 x373001)))) else (none)) else (none)) else ((pragma_Read.f k x30).bind fun t386 => ((redpenref15_Read.f k x30).bind fun bt389 => ((pragma_Rules_Spans.f t386).bind fun t396 => (if (t396.length : Int) = (bt389.1.length : Int) then (redpenlaw17_PragmaReads.l3 k x2 x30 t386 t396 (t396.length : Int) 0 bt389.1 bt389.2) else (some false)))))
def redpenlaw17_PragmaReads.l3 : Nat → ByteArray → List Int → List (Go.Proofs.YtkflgnhcfhmkdaaDoor.H.RlT) → List (S40) → Int → Int → List (S40) → List ByteArray → Option (Bool)
 | 0, _, _, _, _, _, _, _, _ => none
 | k + 1, x2, x108, x109, x111, x150, x151, x396000, x396001 => if x151 < x150 then (if 0 ≤ x151 then (if x151 < (x111.length : Int) then (if x151 < (x396000.length : Int) then (if (!(((rd_T40 x111 x151).f0) == ((rd_T40 x396000 x151).f0)) || (!(((rd_T40 x111 x151).f1) == ((rd_T40 x396000 x151).f1)))) = true then (some false) else (redpenlaw17_PragmaReads.l3 k x2 x108 x109 x111 x150 (wrap64 (x151 + 1)) x396000 x396001)) else (none)) else (none)) else (none)) else (redpenlaw17_PragmaReads.l4 k x2 x108 x109 (-1) x396000 x396001)
def redpenlaw17_PragmaReads.l4 : Nat → ByteArray → List Int → List (Go.Proofs.YtkflgnhcfhmkdaaDoor.H.RlT) → Int → List (S40) → List ByteArray → Option (Bool)
 | 0, _, _, _, _, _, _ => none
 | k + 1, x2, x108, x109, x113, x396000, x396001 => if x113 ≤ (x108.length : Int) then ((pragma_Rules_Off.f x109 x113).bind fun t401 => ((redpenref15_Rules_Alone.f k x396000 x396001 x113).bind fun t402 => (if (t401 != t402) = true then (some false) else (redpenlaw17_PragmaReads.l4 k x2 x108 x109 (wrap64 (x113 + 1)) x396000 x396001)))) else ((some (([x2, (⟨#[119, 111, 114, 100]⟩ : ByteArray), (⟨#[84, 69, 72]⟩ : ByteArray), (⟨#[100, 111, 110, 39, 116]⟩ : ByteArray), (⟨#[97]⟩ : ByteArray), (⟨#[98]⟩ : ByteArray), (⟨#[97, 98, 99]⟩ : ByteArray), (⟨#[68, 69, 70]⟩ : ByteArray), (⟨#[120]⟩ : ByteArray), (⟨#[]⟩ : ByteArray)] : List ByteArray) : List ByteArray)).bind fun y403 => (redpenlaw17_PragmaReads.l5 k x109 y403 (y403.length : Int) 0 x396000 x396001))
def redpenlaw17_PragmaReads.l5 : Nat → List (Go.Proofs.YtkflgnhcfhmkdaaDoor.H.RlT) → List ByteArray → Int → Int → List (S40) → List ByteArray → Option (Bool)
 | 0, _, _, _, _, _, _ => none
 | k + 1, x109, x179, x180, x181, x396000, x396001 => if x181 < x180 then (if 0 ≤ x181 then (if x181 < (x179.length : Int) then ((pragma_Rules_Knows.f k x109 (rdOf ByteArray.empty x179 x181)).bind fun t407 => ((redpenref15_Rules_Knows.f k x396000 x396001 (rdOf ByteArray.empty x179 x181)).bind fun t408 => (if (t407 != t408) = true then (some false) else (redpenlaw17_PragmaReads.l5 k x109 x179 x180 (wrap64 (x181 + 1)) x396000 x396001)))) else (none)) else (none)) else (some true)
end
def redpenlaw17_PragmaReads.f (k : Nat) (l0 : List Int) (l1 : List Int) (a2 : ByteArray) : Option (Bool) := (redpenlaw17_Awake.f k).bind fun t355 => (if t355 = true then (if (l0.length : Int) > 1000 then (redpenlaw17_PragmaReads.j0 k l0 l1 a2 true) else (redpenlaw17_PragmaReads.j0 k l0 l1 a2 (decide ((a2.size : Int) > 300)))) else (some false))
theorem redpenlaw17_PragmaReads.mono_l : ∀ k, (∀ y0 y1 y2 y3, LeO (redpenlaw17_PragmaReads.j0 k y0 y1 y2 y3) (redpenlaw17_PragmaReads.j0 (k + 1) y0 y1 y2 y3)) ∧ (∀ y0 y1 y2 y3 y4 y5 y6 y7 y8, LeO (redpenlaw17_PragmaReads.l0 k y0 y1 y2 y3 y4 y5 y6 y7 y8) (redpenlaw17_PragmaReads.l0 (k + 1) y0 y1 y2 y3 y4 y5 y6 y7 y8)) ∧ (∀ y0 y1 y2 y3 y4 y5 y6, LeO (redpenlaw17_PragmaReads.l1 k y0 y1 y2 y3 y4 y5 y6) (redpenlaw17_PragmaReads.l1 (k + 1) y0 y1 y2 y3 y4 y5 y6)) ∧ (∀ y0 y1 y2 y3 y4 y5 y6 y7, LeO (redpenlaw17_PragmaReads.l2 k y0 y1 y2 y3 y4 y5 y6 y7) (redpenlaw17_PragmaReads.l2 (k + 1) y0 y1 y2 y3 y4 y5 y6 y7)) ∧ (∀ y0 y1 y2 y3 y4 y5 y6 y7, LeO (redpenlaw17_PragmaReads.l3 k y0 y1 y2 y3 y4 y5 y6 y7) (redpenlaw17_PragmaReads.l3 (k + 1) y0 y1 y2 y3 y4 y5 y6 y7)) ∧ (∀ y0 y1 y2 y3 y4 y5, LeO (redpenlaw17_PragmaReads.l4 k y0 y1 y2 y3 y4 y5) (redpenlaw17_PragmaReads.l4 (k + 1) y0 y1 y2 y3 y4 y5)) ∧ (∀ y0 y1 y2 y3 y4 y5, LeO (redpenlaw17_PragmaReads.l5 k y0 y1 y2 y3 y4 y5) (redpenlaw17_PragmaReads.l5 (k + 1) y0 y1 y2 y3 y4 y5))
 | 0 => ⟨fun _ _ _ _ r h => by simp [redpenlaw17_PragmaReads.j0] at h, fun _ _ _ _ _ _ _ _ _ r h => by simp [redpenlaw17_PragmaReads.l0] at h, fun _ _ _ _ _ _ _ r h => by simp [redpenlaw17_PragmaReads.l1] at h, fun _ _ _ _ _ _ _ _ r h => by simp [redpenlaw17_PragmaReads.l2] at h, fun _ _ _ _ _ _ _ _ r h => by simp [redpenlaw17_PragmaReads.l3] at h, fun _ _ _ _ _ _ r h => by simp [redpenlaw17_PragmaReads.l4] at h, fun _ _ _ _ _ _ r h => by simp [redpenlaw17_PragmaReads.l5] at h⟩
 | k + 1 => by
  obtain ⟨ih0, ih1, ih2, ih3, ih4, ih5, ih6⟩ := redpenlaw17_PragmaReads.mono_l k
  refine ⟨?_, ?_, ?_, ?_, ?_, ?_, ?_⟩
  ·intro y0 y1 y2 y3
   unfold redpenlaw17_PragmaReads.j0
   repeat' first
   | (with_reducible exact ih0 _ _ _ _)
   | (with_reducible exact ih1 _ _ _ _ _ _ _ _ _)
   | (with_reducible exact ih2 _ _ _ _ _ _ _)
   | (with_reducible exact ih3 _ _ _ _ _ _ _ _)
   | (with_reducible exact ih4 _ _ _ _ _ _ _ _)
   | (with_reducible exact ih5 _ _ _ _ _ _)
   | (with_reducible exact ih6 _ _ _ _ _ _)
   | (with_reducible exact pragma_Read.mono _ _)
   | (with_reducible exact pragma_Rules_Knows.mono _ _ _)
   | (with_reducible exact redpenlaw11_Bits.mono _ _ _ _)
   | (with_reducible exact redpenlaw17_Awake.mono _)
   | (with_reducible exact redpenref15_Read.mono _ _)
   | (with_reducible exact redpenref15_Rules_Alone.mono _ _ _ _)
   | (with_reducible exact redpenref15_Rules_Knows.mono _ _ _ _)
   | (with_reducible exact LeO.refl _)
   | (with_reducible exact LeO.none _)
   | (with_reducible refine LeO.ite ?_ ?_)
   | (with_reducible refine LeO.bind ?_ (fun _ => ?_))
  ·intro y0 y1 y2 y3 y4 y5 y6 y7 y8
   unfold redpenlaw17_PragmaReads.l0
   repeat' first
   | (with_reducible exact ih0 _ _ _ _)
   | (with_reducible exact ih1 _ _ _ _ _ _ _ _ _)
   | (with_reducible exact ih2 _ _ _ _ _ _ _)
   | (with_reducible exact ih3 _ _ _ _ _ _ _ _)
   | (with_reducible exact ih4 _ _ _ _ _ _ _ _)
   | (with_reducible exact ih5 _ _ _ _ _ _)
   | (with_reducible exact ih6 _ _ _ _ _ _)
   | (with_reducible exact pragma_Read.mono _ _)
   | (with_reducible exact pragma_Rules_Knows.mono _ _ _)
   | (with_reducible exact redpenlaw11_Bits.mono _ _ _ _)
   | (with_reducible exact redpenlaw17_Awake.mono _)
   | (with_reducible exact redpenref15_Read.mono _ _)
   | (with_reducible exact redpenref15_Rules_Alone.mono _ _ _ _)
   | (with_reducible exact redpenref15_Rules_Knows.mono _ _ _ _)
   | (with_reducible exact LeO.refl _)
   | (with_reducible exact LeO.none _)
   | (with_reducible refine LeO.ite ?_ ?_)
   | (with_reducible refine LeO.bind ?_ (fun _ => ?_))
  ·intro y0 y1 y2 y3 y4 y5 y6
   unfold redpenlaw17_PragmaReads.l1
   repeat' first
   | (with_reducible exact ih0 _ _ _ _)
   | (with_reducible exact ih1 _ _ _ _ _ _ _ _ _)
   | (with_reducible exact ih2 _ _ _ _ _ _ _)
   | (with_reducible exact ih3 _ _ _ _ _ _ _ _)
   | (with_reducible exact ih4 _ _ _ _ _ _ _ _)
   | (with_reducible exact ih5 _ _ _ _ _ _)
   | (with_reducible exact ih6 _ _ _ _ _ _)
   | (with_reducible exact pragma_Read.mono _ _)
   | (with_reducible exact pragma_Rules_Knows.mono _ _ _)
   | (with_reducible exact redpenlaw11_Bits.mono _ _ _ _)
   | (with_reducible exact redpenlaw17_Awake.mono _)
   | (with_reducible exact redpenref15_Read.mono _ _)
   | (with_reducible exact redpenref15_Rules_Alone.mono _ _ _ _)
   | (with_reducible exact redpenref15_Rules_Knows.mono _ _ _ _)
   | (with_reducible exact LeO.refl _)
   | (with_reducible exact LeO.none _)
   | (with_reducible refine LeO.ite ?_ ?_)
   | (with_reducible refine LeO.bind ?_ (fun _ => ?_))
  ·intro y0 y1 y2 y3 y4 y5 y6 y7
   unfold redpenlaw17_PragmaReads.l2
   repeat' first
   | (with_reducible exact ih0 _ _ _ _)
   | (with_reducible exact ih1 _ _ _ _ _ _ _ _ _)
   | (with_reducible exact ih2 _ _ _ _ _ _ _)
   | (with_reducible exact ih3 _ _ _ _ _ _ _ _)
   | (with_reducible exact ih4 _ _ _ _ _ _ _ _)
   | (with_reducible exact ih5 _ _ _ _ _ _)
   | (with_reducible exact ih6 _ _ _ _ _ _)
   | (with_reducible exact pragma_Read.mono _ _)
   | (with_reducible exact pragma_Rules_Knows.mono _ _ _)
   | (with_reducible exact redpenlaw11_Bits.mono _ _ _ _)
   | (with_reducible exact redpenlaw17_Awake.mono _)
   | (with_reducible exact redpenref15_Read.mono _ _)
   | (with_reducible exact redpenref15_Rules_Alone.mono _ _ _ _)
   | (with_reducible exact redpenref15_Rules_Knows.mono _ _ _ _)
   | (with_reducible exact LeO.refl _)
   | (with_reducible exact LeO.none _)
   | (with_reducible refine LeO.ite ?_ ?_)
   | (with_reducible refine LeO.bind ?_ (fun _ => ?_))
  ·intro y0 y1 y2 y3 y4 y5 y6 y7
   unfold redpenlaw17_PragmaReads.l3
   repeat' first
   | (with_reducible exact ih0 _ _ _ _)
   | (with_reducible exact ih1 _ _ _ _ _ _ _ _ _)
   | (with_reducible exact ih2 _ _ _ _ _ _ _)
   | (with_reducible exact ih3 _ _ _ _ _ _ _ _)
   | (with_reducible exact ih4 _ _ _ _ _ _ _ _)
   | (with_reducible exact ih5 _ _ _ _ _ _)
   | (with_reducible exact ih6 _ _ _ _ _ _)
   | (with_reducible exact pragma_Read.mono _ _)
   | (with_reducible exact pragma_Rules_Knows.mono _ _ _)
   | (with_reducible exact redpenlaw11_Bits.mono _ _ _ _)
   | (with_reducible exact redpenlaw17_Awake.mono _)
   | (with_reducible exact redpenref15_Read.mono _ _)
   | (with_reducible exact redpenref15_Rules_Alone.mono _ _ _ _)
   | (with_reducible exact redpenref15_Rules_Knows.mono _ _ _ _)
   | (with_reducible exact LeO.refl _)
   | (with_reducible exact LeO.none _)
   | (with_reducible refine LeO.ite ?_ ?_)
   | (with_reducible refine LeO.bind ?_ (fun _ => ?_))
  ·intro y0 y1 y2 y3 y4 y5
   unfold redpenlaw17_PragmaReads.l4
   repeat' first
   | (with_reducible exact ih0 _ _ _ _)
   | (with_reducible exact ih1 _ _ _ _ _ _ _ _ _)
   | (with_reducible exact ih2 _ _ _ _ _ _ _)
   | (with_reducible exact ih3 _ _ _ _ _ _ _ _)
   | (with_reducible exact ih4 _ _ _ _ _ _ _ _)
   | (with_reducible exact ih5 _ _ _ _ _ _)
   | (with_reducible exact ih6 _ _ _ _ _ _)
   | (with_reducible exact pragma_Read.mono _ _)
   | (with_reducible exact pragma_Rules_Knows.mono _ _ _)
   | (with_reducible exact redpenlaw11_Bits.mono _ _ _ _)
   | (with_reducible exact redpenlaw17_Awake.mono _)
   | (with_reducible exact redpenref15_Read.mono _ _)
   | (with_reducible exact redpenref15_Rules_Alone.mono _ _ _ _)
   | (with_reducible exact redpenref15_Rules_Knows.mono _ _ _ _)
   | (with_reducible exact LeO.refl _)
   | (with_reducible exact LeO.none _)
   | (with_reducible refine LeO.ite ?_ ?_)
   | (with_reducible refine LeO.bind ?_ (fun _ => ?_))
  ·intro y0 y1 y2 y3 y4 y5
   unfold redpenlaw17_PragmaReads.l5
   repeat' first
   | (with_reducible exact ih0 _ _ _ _)
   | (with_reducible exact ih1 _ _ _ _ _ _ _ _ _)
   | (with_reducible exact ih2 _ _ _ _ _ _ _)
   | (with_reducible exact ih3 _ _ _ _ _ _ _ _)
   | (with_reducible exact ih4 _ _ _ _ _ _ _ _)
   | (with_reducible exact ih5 _ _ _ _ _ _)
   | (with_reducible exact ih6 _ _ _ _ _ _)
   | (with_reducible exact pragma_Read.mono _ _)
   | (with_reducible exact pragma_Rules_Knows.mono _ _ _)
   | (with_reducible exact redpenlaw11_Bits.mono _ _ _ _)
   | (with_reducible exact redpenlaw17_Awake.mono _)
   | (with_reducible exact redpenref15_Read.mono _ _)
   | (with_reducible exact redpenref15_Rules_Alone.mono _ _ _ _)
   | (with_reducible exact redpenref15_Rules_Knows.mono _ _ _ _)
   | (with_reducible exact LeO.refl _)
   | (with_reducible exact LeO.none _)
   | (with_reducible refine LeO.ite ?_ ?_)
   | (with_reducible refine LeO.bind ?_ (fun _ => ?_))
theorem redpenlaw17_PragmaReads.mono : ∀ a0 a1 a2 k, LeO (redpenlaw17_PragmaReads.f k a0 a1 a2) (redpenlaw17_PragmaReads.f (k + 1) a0 a1 a2) := by
 intro a0 a1 a2 k
 obtain ⟨ih0, ih1, ih2, ih3, ih4, ih5, ih6⟩ := redpenlaw17_PragmaReads.mono_l k
 unfold redpenlaw17_PragmaReads.f
 repeat' first
   | (with_reducible exact ih0 _ _ _ _)
   | (with_reducible exact ih1 _ _ _ _ _ _ _ _ _)
   | (with_reducible exact ih2 _ _ _ _ _ _ _)
   | (with_reducible exact ih3 _ _ _ _ _ _ _ _)
   | (with_reducible exact ih4 _ _ _ _ _ _ _ _)
   | (with_reducible exact ih5 _ _ _ _ _ _)
   | (with_reducible exact ih6 _ _ _ _ _ _)
   | (with_reducible exact pragma_Read.mono _ _)
   | (with_reducible exact pragma_Rules_Knows.mono _ _ _)
   | (with_reducible exact redpenlaw11_Bits.mono _ _ _ _)
   | (with_reducible exact redpenlaw17_Awake.mono _)
   | (with_reducible exact redpenref15_Read.mono _ _)
   | (with_reducible exact redpenref15_Rules_Alone.mono _ _ _ _)
   | (with_reducible exact redpenref15_Rules_Knows.mono _ _ _ _)
   | (with_reducible exact LeO.refl _)
   | (with_reducible exact LeO.none _)
   | (with_reducible refine LeO.ite ?_ ?_)
   | (with_reducible refine LeO.bind ?_ (fun _ => ?_))
def redpenlaw17_PragmaReads.T15 : Bool × List (List Nat × List Nat) := (true, [([], []), ([], []), ([0, 1], [0, 1]), ([2], [2]), ([], []), ([4], [4]), ([], []), ([5, 6], [5, 6]), ([7], [7]), ([3, 8], [3, 8])])
def redpenlaw17_PragmaReads.B15 : List Nat := [0, 0, 3, 7, 0, 16, 0, 112, 240, 511]
theorem redpenlaw17_PragmaReads.tab15 : rtab .any (opsOf Tryd.f4 15) = redpenlaw17_PragmaReads.T15 := by kernel_rfl
theorem redpenlaw17_PragmaReads.bits15 : waitsOk redpenlaw17_PragmaReads.T15.2 redpenlaw17_PragmaReads.B15 = true := by kernel_rfl
set_option maxHeartbeats 8000000 in
set_option maxRecDepth 100000 in
theorem redpenlaw17_PragmaReads.calls (k : Nat) (A0 : Option Addr) (c0 : Nat) (l0 : List Int) (A1 : Option Addr) (c1 : Nat) (l1 : List Int) (a2 : ByteArray) (r : Bool) (w : World) (hr0 : Kd.C (Kd.int .u8) w A0 l0.length l0) (hc0 : l0.length ≤ c0) (hr1 : Kd.C (Kd.int .u8) w A1 l1.length l1) (hc1 : l1.length ≤ c1) (h : redpenlaw17_PragmaReads.f k l0 l1 a2 = some r) (hr_ : r = true) (hL : Go.Proofs.YtkflgnhcfhmkdaaDoor.H.Laid w) :
  Calls Tryd.prog 4 #[.slice A0 l0.length c0, .slice A1 l1.length c1, .string a2] w fun e w' => e = .returned (.bool r) ∧ Below w.heap.size w w' := by
 have HL := Aside0.mk hL
 clear hL
 have hu37 := Tryd.underlying37
 have hu40 := Tryd.underlying40
 have HR0 := Aside0.mk hr0
 have HC0 := Aside0.mk hc0
 clear hr0 hc0
 have HR1 := Aside0.mk hr1
 have HC1 := Aside0.mk hc1
 clear hr1 hc1
 have HB := Aside0.mk (Below.refl w.heap.size w)
 have H : ((redpenlaw17_Awake.f k).bind fun t355 => (if t355 = true then (if (l0.length : Int) > 1000 then (redpenlaw17_PragmaReads.j0 k l0 l1 a2 true) else (redpenlaw17_PragmaReads.j0 k l0 l1 a2 (decide ((a2.size : Int) > 300)))) else (some false))) = some r := h
 clear h
 replace H := Option.bind_eq_some_iff.mp H
 obtain ⟨t355, A40, H⟩ := H
 replace H : (if t355 = true then (if (l0.length : Int) > 1000 then (redpenlaw17_PragmaReads.j0 k l0 l1 a2 true) else (redpenlaw17_PragmaReads.j0 k l0 l1 a2 (decide ((a2.size : Int) > 300)))) else (some false)) = some r := H
 have A4 := Aside0.mk A40
 clear A40
 by_cases c5 : t355 = true
 ·subst c5
  have H1 : (if (l0.length : Int) > 1000 then (redpenlaw17_PragmaReads.j0 k l0 l1 a2 true) else (redpenlaw17_PragmaReads.j0 k l0 l1 a2 (decide ((a2.size : Int) > 300)))) = some r := by rw [if_pos rfl] at H; exact H
  clear H
  have H := H1
  clear H1
  have HC6 := Aside0.mk H
  clear H
  go_enter Tryd.func4, Tryd.ntmps4
  go_upto_region 3 with (first | ((with_reducible refine gate_callee (f := 8) rfl ?_); refine goesL_ (some 16) rfl rfl Tryd.func8 (by kernel_rfl) rfl #[] rfl (by (try simp only [List.map_toArray, List.map_cons, List.map_nil]); first | done | rfl | (simp only [List.length_drop, List.length_take]; rfl)) ?_; (with_reducible refine (redpenlaw17_Awake.calls k  true _ A4.out ?sideL).mono ?_); (case sideL => first | exact HL.out | exact HL.out.below HB.out | exact HL.out.below (by repeat (first | (with_reducible first | exact HB.out | apply below_alloc | apply pw_below_drewN | apply below_drew1 | refine below_set ?_ (Aside0.out (by assumption))) | exact HB.out))); rintro e w7 ⟨rfl, hb⟩; refine ⟨_, rfl, ?_⟩; have n0_ := Aside0.mk (below_step (by repeat (first | (with_reducible first | exact HB.out | apply below_alloc | apply pw_below_drewN | apply below_drew1) | exact HB.out)) hb); clear HB; have HB := n0_; clear n0_; (try clear hb); (try clear hb2); (try clear hk); (try clear hi)))
  (try simp only [Act.put, List.setIfInBounds_toArray, List.set_cons_zero, List.set_cons_succ])
  go_cut [25] (fun v25 wc => ∃ (kq : Nat) (x25_5 : Bool), v25 = .bool x25_5 ∧ Aside0 (redpenlaw17_PragmaReads.j0 kq l0 l1 a2 x25_5 = some r) ∧ Aside0 (kq ≤ k) ∧ Aside0 (Below w.heap.size w wc))
  case first =>
   have H := HC6.out
   clear HC6
   by_cases c8 : (l0.length : Int) > 1000
   ·rw [if_pos c8] at H
    have c8b0 : decide (1000 < (l0.length : Int)) = true := decide_eq_true c8
    have c8b1 : decide (1000 < l0.length) = true := decide_eq_true (by omega)
    clear c8
    (first | rw [c8b0] | (simp only [i64_w, i32_w]; rw [c8b0]) | skip)
    have H' := Aside0.mk H
    clear H
    go_wp2
    go_meet
    case rel => exact ⟨_, (true), (by first | rfl | (simp; done) | (simp [*]; done) | (simp [wrap64, wrap32]; done)), H', ⟨by first | omega | exact Nat.le_refl _⟩, ⟨by repeat (first | (with_reducible first | exact HB.out | apply below_alloc | apply pw_below_drewN | apply below_drew1) | exact HB.out)⟩⟩
   ·rw [if_neg c8] at H
    have c8b0 : decide (1000 < (l0.length : Int)) = false := decide_eq_false c8
    have c8b1 : decide (1000 < l0.length) = false := decide_eq_false (by omega)
    clear c8
    (first | rw [c8b0] | (simp only [i64_w, i32_w]; rw [c8b0]) | skip)
    have H' := Aside0.mk H
    clear H
    go_wp2
    go_meet
    case rel => exact ⟨_, (decide ((a2.size : Int) > 300)), (by first | rfl | (simp; done) | (simp [*]; done) | (simp [wrap64, wrap32]; done)), H', ⟨by first | omega | exact Nat.le_refl _⟩, ⟨by repeat (first | (with_reducible first | exact HB.out | apply below_alloc | apply pw_below_drewN | apply below_drew1) | exact HB.out)⟩⟩
  case rest =>
   clear HC6
   (try clear c1); (try clear p2); (try clear c4); (try clear c5); (try clear c8); (try clear c8b0); (try clear c8b1)
   obtain ⟨kq, x25_5, rfl, HA, HJ5, HB⟩ := hcut
   cases kq with
   | zero => exact absurd HA.out (by simp [redpenlaw17_PragmaReads.j0])
   | succ kj5 =>
    have H := HA.out
    clear HA
    simp only [redpenlaw17_PragmaReads.j0] at H
    by_cases c9 : x25_5 = true
    ·subst c9
     have H1 : (some true) = some r := by rw [if_pos rfl] at H; exact H
     clear H
     have H := H1
     clear H1
     obtain rfl := Option.some.inj H
     go_wp2
     go_ret
     exact ⟨by first | rfl | (simp [errW_none, errW_some] <;> rfl) | (simp [*, errW_none, errW_some] <;> rfl), by repeat (first | (with_reducible first | exact HB.out | apply below_alloc | apply pw_below_drewN | apply below_drew1) | exact HB.out)⟩
    ·replace c9 := Bool.eq_false_iff.mpr c9
     subst c9
     have H1 : ((redpenlaw17_pieces.f).bind fun t356 => ((redpenlaw11_Bits.f kj5 t356 l1 l0).bind fun t359 => ((pragma_Read.f kj5 l0).bind fun t363 => ((redpenref15_Read.f kj5 l0).bind fun bt366 => ((pragma_Rules_Spans.f t363).bind fun t373 => (if (t373.length : Int) = (bt366.1.length : Int) then (redpenlaw17_PragmaReads.l0 kj5 a2 l0 t363 t373 t359 (t373.length : Int) 0 bt366.1 bt366.2) else (some false))))))) = some r := by rw [if_neg (show ¬ (false = true) by decide)] at H; exact H
     clear H
     have H := H1
     clear H1
     replace H := Option.bind_eq_some_iff.mp H
     obtain ⟨t356, A100, H⟩ := H
     replace H : ((redpenlaw11_Bits.f kj5 t356 l1 l0).bind fun t359 => ((pragma_Read.f kj5 l0).bind fun t363 => ((redpenref15_Read.f kj5 l0).bind fun bt366 => ((pragma_Rules_Spans.f t363).bind fun t373 => (if (t373.length : Int) = (bt366.1.length : Int) then (redpenlaw17_PragmaReads.l0 kj5 a2 l0 t363 t373 t359 (t373.length : Int) 0 bt366.1 bt366.2) else (some false)))))) = some r := H
     have A10 := Aside0.mk A100
     clear A100
     replace H := Option.bind_eq_some_iff.mp H
     obtain ⟨t359, A110, H⟩ := H
     replace H : ((pragma_Read.f kj5 l0).bind fun t363 => ((redpenref15_Read.f kj5 l0).bind fun bt366 => ((pragma_Rules_Spans.f t363).bind fun t373 => (if (t373.length : Int) = (bt366.1.length : Int) then (redpenlaw17_PragmaReads.l0 kj5 a2 l0 t363 t373 t359 (t373.length : Int) 0 bt366.1 bt366.2) else (some false))))) = some r := H
     have A11 := Aside0.mk A110
     clear A110
     replace H := Option.bind_eq_some_iff.mp H
     obtain ⟨t363, A120, H⟩ := H
     replace H : ((redpenref15_Read.f kj5 l0).bind fun bt366 => ((pragma_Rules_Spans.f t363).bind fun t373 => (if (t373.length : Int) = (bt366.1.length : Int) then (redpenlaw17_PragmaReads.l0 kj5 a2 l0 t363 t373 t359 (t373.length : Int) 0 bt366.1 bt366.2) else (some false)))) = some r := H
     have A12 := Aside0.mk A120
     clear A120
     replace H := Option.bind_eq_some_iff.mp H
     obtain ⟨⟨t366, t369⟩, A130, H⟩ := H
     replace H : ((pragma_Rules_Spans.f t363).bind fun t373 => (if (t373.length : Int) = (t366.length : Int) then (redpenlaw17_PragmaReads.l0 kj5 a2 l0 t363 t373 t359 (t373.length : Int) 0 t366 t369) else (some false))) = some r := H
     have A13 := Aside0.mk A130
     clear A130
     replace H := Option.bind_eq_some_iff.mp H
     obtain ⟨t373, A140, H⟩ := H
     replace H : (if (t373.length : Int) = (t366.length : Int) then (redpenlaw17_PragmaReads.l0 kj5 a2 l0 t363 t373 t359 (t373.length : Int) 0 t366 t369) else (some false)) = some r := H
     have A14 := Aside0.mk A140
     clear A140
     by_cases c15 : (t373.length : Int) = (t366.length : Int)
     ·rw [if_pos c15] at H
      have c15b0 : ((t373.length : Int) == (t366.length : Int)) = true := beq_iff_eq.mpr c15
      have c15b1 : ((t373.length : Int) != (t366.length : Int)) = false := bne_eq_false_iff_eq.mpr c15
      have c15b2 : (t373.length == t366.length) = true := by first | simpa using c15 | (simp at c15 ⊢; omega)
      clear c15
      have H' := Aside0.mk H
      clear H
      go_wp2_with (first | ((with_reducible refine gate_callee (f := 13) rfl ?_); refine goesL_ (some 27) rfl rfl Tryd.func13 (by kernel_rfl) rfl #[] rfl (by (try simp only [List.map_toArray, List.map_cons, List.map_nil]); first | done | rfl | (simp only [List.length_drop, List.length_take]; rfl)) ?_; (with_reducible refine (redpenlaw17_pieces.calls  t356 _ A10.out).mono ?_); rintro e w16 ⟨v357, rfl, ho0, hb⟩; refine ⟨_, rfl, ?_⟩; have n0_ := Aside0.mk (Kd.R_lower ho0 (below_size (by repeat (first | (with_reducible first | exact HB.out | apply below_alloc | apply pw_below_drewN | apply below_drew1) | exact HB.out)))); have n1_ := Aside0.mk (below_step (by repeat (first | (with_reducible first | exact HB.out | apply below_alloc | apply pw_below_drewN | apply below_drew1) | exact HB.out)) hb); clear HB; have HO358 := n0_; have HB := n1_; clear n0_ n1_; (try clear hb); (try clear hb2); (try clear hk); (try clear hi); (try clear ho0); obtain ⟨Ao17, co17, eo17⟩ := Kd.R_slice HO358.out; subst eo17) | ((with_reducible refine gate_callee (f := 12) rfl ?_); refine goesL_ (some 30) rfl rfl Tryd.func12 (by kernel_rfl) rfl #[.slice Ao17 t356.length co17, .slice A1 l1.length c1, .slice A0 l0.length c0] rfl (by (try simp only [List.map_toArray, List.map_cons, List.map_nil]); first | done | rfl | (simp only [List.length_drop, List.length_take]; rfl)) ?_; (with_reducible refine (redpenlaw11_Bits.calls kj5 _ _ t356 _ _ l1 _ _ l0 t359 _ ?side1 ?side2 ?side3 ?side4 ?side5 ?side6 A11.out).mono ?_); (case side1 => repeat (first | exact (Kd.R_reads' HO358.out).2.2 | (with_reducible refine Kd.C_alloc ?_ _) | (with_reducible refine Kd.C_drewN ?_ _) | (with_reducible refine Kd.C_drew ?_))); (case side2 => exact (Kd.R_reads' HO358.out).2.1); (case side3 => repeat (first | exact (Kd.C_below HR1.out HB.out) | (with_reducible refine Kd.C_alloc ?_ _) | (with_reducible refine Kd.C_drewN ?_ _) | (with_reducible refine Kd.C_drew ?_))); (case side4 => exact HC1.out); (case side5 => repeat (first | exact (Kd.C_below HR0.out HB.out) | (with_reducible refine Kd.C_alloc ?_ _) | (with_reducible refine Kd.C_drewN ?_ _) | (with_reducible refine Kd.C_drew ?_))); (case side6 => exact HC0.out); rintro e w18 ⟨v360, rfl, ho0, hb⟩; refine ⟨_, rfl, ?_⟩; have n0_ := Aside0.mk (Kd.R_below (by (with_reducible repeat (first | apply Kd.R_alloc | apply Kd.R_drewN | apply Kd.R_drew)); exact HO358.out) hb); have n1_ := Aside0.mk (Kd.R_lower ho0 (below_size (by repeat (first | (with_reducible first | exact HB.out | apply below_alloc | apply pw_below_drewN | apply below_drew1) | exact HB.out)))); have n2_ := Aside0.mk (below_step (by repeat (first | (with_reducible first | exact HB.out | apply below_alloc | apply pw_below_drewN | apply below_drew1) | exact HB.out)) hb); clear HO358; clear HB; have HO358 := n0_; have HO361 := n1_; have HB := n2_; clear n0_ n1_ n2_; (try clear hb); (try clear hb2); (try clear hk); (try clear hi); (try clear ho0); obtain ⟨Ao61, co61, eo61⟩ := Kd.R_slice HO361.out; subst eo61) | ((with_reducible refine gate_dst (N := 31) rfl ?_); (try (refine gate_guard (by rfl) ?_; dsimp only)); obtain ⟨CS31, hCS31⟩ : ∃ CS_ : Array Value, CS_ = #[.slice A0 l0.length c0, (.slice Ao61 t359.length co61)] := ⟨_, rfl⟩; refine row_event ?hg (N := 31) ?hd (cs := #[.slice A0 l0.length c0, (.slice Ao61 t359.length co61)]) (t := 22) (n := 2) ?hr ?_; (case hd => rfl); (case hg => rfl); (case hr => first | (go_simp; done) | (go_simp; rfl)); intro gb362 hg w19 hbox hb; rw [← hCS31] at hbox; have n0_ := Aside0.mk (Kd.R_below (by (with_reducible repeat (first | apply Kd.R_alloc | apply Kd.R_drewN | apply Kd.R_drew)); exact HO358.out) hb); have n1_ := Aside0.mk (Kd.R_below (by (with_reducible repeat (first | apply Kd.R_alloc | apply Kd.R_drewN | apply Kd.R_drew)); exact HO361.out) hb); have n2_ := Aside0.mk (below_step (by repeat (first | (with_reducible first | exact HB.out | apply below_alloc | apply pw_below_drewN | apply below_drew1) | exact HB.out)) hb); have n3_ := Aside0.mk (hbox); have n4_ := Aside0.mk ((by rw [hg]; exact (below_size (by repeat (first | (with_reducible first | exact HB.out | apply below_alloc | apply pw_below_drewN | apply below_drew1) | exact HB.out))) : w.heap.size ≤ gb362)); have n5_ := Aside0.mk ((by rw [hg]; exact (below_size (by repeat (first | (with_reducible first | exact HB.out | apply below_alloc | apply pw_below_drewN | apply below_drew1) | exact HB.out))) : w.heap.size ≤ gb362)); clear HO358; clear HO361; clear HB; have HO358 := n0_; have HO361 := n1_; have HB := n2_; have BK362 := n3_; have GW362 := n4_; have GE362 := n5_; clear n0_ n1_ n2_ n3_ n4_ n5_; clear hb hbox hg))
      refine wp_loop_rounds 3 ?_
      rw [rounds_succ]
      have hrow0 := ((blk_cell BK362.out 0).trans (by rw [hCS31] <;> rfl) : _ = some (Value.slice A0 l0.length c0))
      go_wp2_with (first | ((with_reducible refine gate_callee (f := 9) rfl ?_); refine goesL_ (some 38) rfl rfl Tryd.func9 (by kernel_rfl) rfl #[.slice A0 l0.length c0] rfl (by (try simp only [List.map_toArray, List.map_cons, List.map_nil]); first | done | rfl | (simp only [List.length_drop, List.length_take]; rfl)) ?_; (with_reducible refine (pragma_Read.calls kj5 _ _ l0 t363 _ ?side1 ?side2 A12.out ?sideL).mono ?_); (case sideL => first | exact HL.out | exact HL.out.below HB.out | exact HL.out.below (by repeat (first | (with_reducible first | exact HB.out | apply below_alloc | apply pw_below_drewN | apply below_drew1 | refine below_set ?_ (Aside0.out (by assumption))) | exact HB.out))); (case side1 => repeat (first | exact (Kd.C_below HR0.out HB.out) | (with_reducible refine Kd.C_alloc ?_ _) | (with_reducible refine Kd.C_drewN ?_ _) | (with_reducible refine Kd.C_drew ?_))); (case side2 => exact HC0.out); rintro e w20 ⟨v364, rfl, ho0, hb⟩; refine ⟨_, rfl, ?_⟩; have n0_ := Aside0.mk (Kd.R_below (by (with_reducible repeat (first | apply Kd.R_alloc | apply Kd.R_drewN | apply Kd.R_drew)); exact HO358.out) hb); have n1_ := Aside0.mk (Kd.R_below (by (with_reducible repeat (first | apply Kd.R_alloc | apply Kd.R_drewN | apply Kd.R_drew)); exact HO361.out) hb); have n2_ := Aside0.mk (Kd.P_lower (Kd.P_mono (ok' := fun k_ => some k_ ≠ (.slice Ao17 t356.length co17 : Value).ownBlock ∧ some k_ ≠ ((.slice Ao61 t359.length co61) : Value).ownBlock ∧ k_ ≠ gb362) ho0 (fun k_ hk_ => ⟨(Kd.fresh' (Kd.R_lt (by (with_reducible repeat (first | apply Kd.R_alloc | apply Kd.R_drewN | apply Kd.R_drew)); exact HO358.out)) k_ hk_), (Kd.fresh' (Kd.R_lt (by (with_reducible repeat (first | apply Kd.R_alloc | apply Kd.R_drewN | apply Kd.R_drew)); exact HO361.out)) k_ hk_), (Kd.freshB (g := gb362) (o := .cells CS31 22 (0, 0)) (by (with_reducible repeat (first | refine blk_drewN ?_ _ | refine blk_drew ?_ | refine blk_alloc ?_ _)); exact BK362.out) k_ hk_)⟩)) (below_size (by repeat (first | (with_reducible first | exact HB.out | apply below_alloc | apply pw_below_drewN | apply below_drew1 | refine below_set ?_ GE362.out) | exact HB.out)))); have n3_ := Aside0.mk (blk_below (g := gb362) (o := .cells CS31 22 (0, 0)) (by (with_reducible repeat (first | refine blk_drewN ?_ _ | refine blk_drew ?_ | refine blk_alloc ?_ _)); exact BK362.out) hb); have n4_ := Aside0.mk (below_step (by repeat (first | (with_reducible first | exact HB.out | apply below_alloc | apply pw_below_drewN | apply below_drew1 | refine below_set ?_ GE362.out) | exact HB.out)) hb); clear HO358; clear HO361; clear BK362; clear HB; have HO358 := n0_; have HO361 := n1_; have HO365 := n2_; have BK362 := n3_; have HB := n4_; clear n0_ n1_ n2_ n3_ n4_; (try clear hb); (try clear hb2); (try clear hk); (try clear hi); (try clear ho0)) | ((with_reducible refine gate_callee (f := 14) rfl ?_); refine goesL_ (some 40) rfl rfl Tryd.func14 (by kernel_rfl) rfl #[.slice A0 l0.length c0] rfl (by (try simp only [List.map_toArray, List.map_cons, List.map_nil]); first | done | rfl | (simp only [List.length_drop, List.length_take]; rfl)) ?_; (with_reducible refine (redpenref15_Read.calls kj5 _ _ l0 t366 t369 _ ?side1 ?side2 A13.out).mono ?_); (case side1 => repeat (first | exact (Kd.C_below HR0.out HB.out) | (with_reducible refine Kd.C_alloc ?_ _) | (with_reducible refine Kd.C_drewN ?_ _) | (with_reducible refine Kd.C_drew ?_))); (case side2 => exact HC0.out); rintro e w21 ⟨v367, v370, rfl, ho0, ho1, hb⟩; refine ⟨_, rfl, ?_⟩; have n0_ := Aside0.mk (Kd.R_elder' (by (with_reducible repeat (first | apply Kd.R_alloc | apply Kd.R_drewN | apply Kd.R_drew)); exact HO358.out) (Kd.R_base ho1) hb); have n1_ := Aside0.mk (Kd.R_below (by (with_reducible repeat (first | apply Kd.R_alloc | apply Kd.R_drewN | apply Kd.R_drew)); exact HO361.out) hb); have n2_ := Aside0.mk (Kd.P_mono (Kd.P_told (Kd.P_told (Kd.P_old (by (with_reducible repeat (first | apply Kd.P_alloc | apply Kd.P_drewN | apply Kd.P_drew)); exact HO365.out) hb) (Kd.R_base ho0)) (Kd.R_base ho1)) (fun _ h_ => h_.1)); have n3_ := Aside0.mk (Kd.R_lower ho0 (below_size (by repeat (first | (with_reducible first | exact HB.out | apply below_alloc | apply pw_below_drewN | apply below_drew1 | refine below_set ?_ GE362.out) | exact HB.out)))); have n4_ := Aside0.mk (Kd.R_lower (Kd.R_new' ho1 (Kd.R_lt (by (with_reducible repeat (first | apply Kd.R_alloc | apply Kd.R_drewN | apply Kd.R_drew)); exact HO358.out))) (below_size (by repeat (first | (with_reducible first | exact HB.out | apply below_alloc | apply pw_below_drewN | apply below_drew1 | refine below_set ?_ GE362.out) | exact HB.out)))); have n5_ := Aside0.mk (blk_below (g := gb362) (o := .cells CS31 22 (0, 0)) (by (with_reducible repeat (first | refine blk_drewN ?_ _ | refine blk_drew ?_ | refine blk_alloc ?_ _)); exact BK362.out) hb); have n6_ := Aside0.mk (below_step (by repeat (first | (with_reducible first | exact HB.out | apply below_alloc | apply pw_below_drewN | apply below_drew1 | refine below_set ?_ GE362.out) | exact HB.out)) hb); clear HO358; clear HO361; clear HO365; clear BK362; clear HB; have HO358 := n0_; have HO361 := n1_; have HO365 := n2_; have HO368 := n3_; have HO371 := n4_; have BK362 := n5_; have HB := n6_; clear n0_ n1_ n2_ n3_ n4_ n5_ n6_; (try clear hb); (try clear hb2); (try clear hk); (try clear hi); (try clear ho0); (try clear ho1)) | ((with_reducible refine gate_dst (N := 10) rfl ?_); (try (refine gate_guard (by rfl) ?_; dsimp only)); refine box_event ?hg (N := 10) ?hd (cs := #[.slice none 0 0, .slice none 0 0]) (t := 37) ?hr ?_; (case hd => rfl); (case hg => rfl); (case hr => first | (go_simp; done) | (go_simp; rfl)); intro gb372 hg w22 hbox hb; have n0_ := Aside0.mk (Kd.R_below (by (with_reducible repeat (first | apply Kd.R_alloc | apply Kd.R_drewN | apply Kd.R_drew)); exact HO358.out) hb); have n1_ := Aside0.mk (Kd.R_below (by (with_reducible repeat (first | apply Kd.R_alloc | apply Kd.R_drewN | apply Kd.R_drew)); exact HO361.out) hb); have n2_ := Aside0.mk (Kd.P_below (Kd.P_elderB (by (with_reducible repeat (first | apply Kd.P_alloc | apply Kd.P_drewN | apply Kd.P_drew)); exact HO365.out) gb372 (Nat.le_of_eq hg.symm)) hb); have n3_ := Aside0.mk (Kd.R_below (by (with_reducible repeat (first | apply Kd.R_alloc | apply Kd.R_drewN | apply Kd.R_drew)); exact HO368.out) hb); have n4_ := Aside0.mk (Kd.R_below (by (with_reducible repeat (first | apply Kd.R_alloc | apply Kd.R_drewN | apply Kd.R_drew)); exact HO371.out) hb); have n5_ := Aside0.mk (blk_below (g := gb362) (o := .cells CS31 22 (0, 0)) (by (with_reducible repeat (first | refine blk_drewN ?_ _ | refine blk_drew ?_ | refine blk_alloc ?_ _)); exact BK362.out) hb); have n6_ := Aside0.mk (below_step (by repeat (first | (with_reducible first | exact HB.out | apply below_alloc | apply pw_below_drewN | apply below_drew1 | refine below_set ?_ GE362.out) | exact HB.out)) hb); have n7_ := Aside0.mk (hbox); have n8_ := Aside0.mk ((by rw [hg]; exact (below_size (by repeat (first | (with_reducible first | exact HB.out | apply below_alloc | apply pw_below_drewN | apply below_drew1 | refine below_set ?_ GE362.out) | exact HB.out))) : w.heap.size ≤ gb372)); have n9_ := Aside0.mk ((by rw [hg]; exact (below_size (by repeat (first | (with_reducible first | exact HB.out | apply below_alloc | apply pw_below_drewN | apply below_drew1 | refine below_set ?_ GE362.out) | exact HB.out))) : w.heap.size ≤ gb372)); have n10_ := Aside0.mk ((by rw [hg]; exact Nat.ne_of_lt (blk_lt (g := gb362) (o := .cells CS31 22 (0, 0)) (by (with_reducible repeat (first | refine blk_drewN ?_ _ | refine blk_drew ?_ | refine blk_alloc ?_ _)); exact BK362.out)) : gb362 ≠ gb372)); have n11_ := Aside0.mk ((by rw [hg]; exact Nat.ne_of_gt (blk_lt (g := gb362) (o := .cells CS31 22 (0, 0)) (by (with_reducible repeat (first | refine blk_drewN ?_ _ | refine blk_drew ?_ | refine blk_alloc ?_ _)); exact BK362.out)) : gb372 ≠ gb362)); clear HO358; clear HO361; clear HO365; clear HO368; clear HO371; clear BK362; clear HB; have HO358 := n0_; have HO361 := n1_; have HO365 := n2_; have HO368 := n3_; have HO371 := n4_; have BK362 := n5_; have HB := n6_; have BK372 := n7_; have GW372 := n8_; have GE372 := n9_; have NB362_372 := n10_; have NB372_362 := n11_; clear n0_ n1_ n2_ n3_ n4_ n5_ n6_ n7_ n8_ n9_ n10_ n11_; clear hb hbox hg; obtain ⟨Ao23, co23, eo23⟩ := Kd.R_slice HO368.out; subst eo23; have hnb24 := NB372_362.out; have hnc24 := NB362_372.out; have hcz25_0 : w22.cell? ⟨gb372, 0, none⟩ = some (.slice none 0 0) := (blk_cell BK372.out 0).trans rfl; have hcz25_1 : w22.cell? ⟨gb372, 1, none⟩ = some (.slice none 0 0) := (blk_cell BK372.out 1).trans rfl; have hfz25_0 := blk_frozen BK372.out 0; have hfz25_1 := blk_frozen BK372.out 1; obtain ⟨Ao26, co26, eo26⟩ := Kd.R_slice HO371.out; subst eo26) | ((with_reducible refine gate_callee (f := 11) rfl ?_); refine goesL_ (some 42) rfl rfl Tryd.func11 (by kernel_rfl) rfl #[v364] rfl (by (try simp only [List.map_toArray, List.map_cons, List.map_nil]); first | done | rfl | (simp only [List.length_drop, List.length_take]; rfl)) ?_; (with_reducible refine (pragma_Rules_Spans.calls _ t363 t373 _ ?side1 A14.out).mono ?_); (case side1 => exact Kd.P_now (by (with_reducible repeat (first | apply Kd.P_alloc | apply Kd.P_drewN | apply Kd.P_drew)); exact (Kd.P_far (p := ⟨gb372, 1, none⟩) (Kd.P_far (p := ⟨gb372, 0, none⟩) (Kd.P_mono HO365.out (fun k_ hk => (⟨hk, hk.2⟩ : _ ∧ k_ ≠ gb372))) (fun _ hk => hk.2) (.slice Ao23 t366.length co23)) (fun _ hk => hk.2) (.slice Ao26 t369.length co26)))); rintro e w27 ⟨v374, rfl, ho0, hb⟩; refine ⟨_, rfl, ?_⟩; have n0_ := Aside0.mk (Kd.R_below (by (with_reducible repeat (first | apply Kd.R_alloc | apply Kd.R_drewN | apply Kd.R_drew)); exact (Kd.R_mono (Kd.R_far (p := ⟨gb372, 1, none⟩) (Kd.R_far (p := ⟨gb372, 0, none⟩) (Kd.R_types HO358.out BK372.out (by decide)) (fun _ hk => hk.2) (.slice Ao23 t366.length co23)) (fun _ hk => hk.2) (.slice Ao26 t369.length co26)) (fun _ h_ => h_.1))) hb); have n1_ := Aside0.mk (Kd.R_below (by (with_reducible repeat (first | apply Kd.R_alloc | apply Kd.R_drewN | apply Kd.R_drew)); exact (Kd.R_mono (Kd.R_far (p := ⟨gb372, 1, none⟩) (Kd.R_far (p := ⟨gb372, 0, none⟩) (Kd.R_types HO361.out BK372.out (by decide)) (fun _ hk => hk.2) (.slice Ao23 t366.length co23)) (fun _ hk => hk.2) (.slice Ao26 t369.length co26)) (fun _ h_ => h_.1))) hb); have n2_ := Aside0.mk (Kd.P_elder' (by (with_reducible repeat (first | apply Kd.P_alloc | apply Kd.P_drewN | apply Kd.P_drew)); exact (Kd.P_mono (Kd.P_far (p := ⟨gb372, 1, none⟩) (Kd.P_far (p := ⟨gb372, 0, none⟩) (Kd.P_mono HO365.out (fun k_ hk => (⟨hk, hk.2⟩ : _ ∧ k_ ≠ gb372))) (fun _ hk => hk.2) (.slice Ao23 t366.length co23)) (fun _ hk => hk.2) (.slice Ao26 t369.length co26)) (fun _ h_ => h_.1))) (Kd.R_base ho0) hb); have n3_ := Aside0.mk (Kd.R_elder' (by (with_reducible repeat (first | apply Kd.R_alloc | apply Kd.R_drewN | apply Kd.R_drew)); exact (Kd.R_mono (Kd.R_far (p := ⟨gb372, 1, none⟩) (Kd.R_far (p := ⟨gb372, 0, none⟩) (Kd.R_types HO368.out BK372.out (by decide)) (fun _ hk => hk.2) (.slice Ao23 t366.length co23)) (fun _ hk => hk.2) (.slice Ao26 t369.length co26)) (fun _ h_ => h_.1))) (Kd.R_base ho0) hb); have n4_ := Aside0.mk (Kd.R_below (by (with_reducible repeat (first | apply Kd.R_alloc | apply Kd.R_drewN | apply Kd.R_drew)); exact (Kd.R_mono (Kd.R_far (p := ⟨gb372, 1, none⟩) (Kd.R_far (p := ⟨gb372, 0, none⟩) (Kd.R_types HO371.out BK372.out (by decide)) (fun _ hk => hk.2) (.slice Ao23 t366.length co23)) (fun _ hk => hk.2) (.slice Ao26 t369.length co26)) (fun _ h_ => h_.1))) hb); have n5_ := Aside0.mk (Kd.R_lower (Kd.R_new' ho0 (Kd.R_lt (by (with_reducible repeat (first | apply Kd.R_alloc | apply Kd.R_drewN | apply Kd.R_drew)); exact (Kd.R_mono (Kd.R_far (p := ⟨gb372, 1, none⟩) (Kd.R_far (p := ⟨gb372, 0, none⟩) (Kd.R_types HO368.out BK372.out (by decide)) (fun _ hk => hk.2) (.slice Ao23 t366.length co23)) (fun _ hk => hk.2) (.slice Ao26 t369.length co26)) (fun _ h_ => h_.1))))) (below_size (by repeat (first | (with_reducible first | exact HB.out | apply below_alloc | apply pw_below_drewN | apply below_drew1 | refine below_set ?_ GE362.out | refine below_set ?_ GE372.out) | exact HB.out)))); have n6_ := Aside0.mk (blk_below (g := gb362) (o := .cells CS31 22 (0, 0)) (by (with_reducible repeat (first | refine blk_drewN ?_ _ | refine blk_drew ?_ | refine blk_alloc ?_ _)); refine blk_far ?_ NB362_372.out _; (with_reducible repeat (first | refine blk_drewN ?_ _ | refine blk_drew ?_ | refine blk_alloc ?_ _)); refine blk_far ?_ NB362_372.out _; (with_reducible repeat (first | refine blk_drewN ?_ _ | refine blk_drew ?_ | refine blk_alloc ?_ _)); exact BK362.out) hb); have n7_ := Aside0.mk (blk_below (g := gb372) (o := .cells #[.slice Ao23 t366.length co23, .slice Ao26 t369.length co26] 37 (0, 0)) (by (with_reducible repeat (first | refine blk_drewN ?_ _ | refine blk_drew ?_ | refine blk_alloc ?_ _)); refine blk_put (cs := #[.slice Ao23 t366.length co23, .slice none 0 0]) ?_ 1 _ rfl; (with_reducible repeat (first | refine blk_drewN ?_ _ | refine blk_drew ?_ | refine blk_alloc ?_ _)); refine blk_put (cs := #[.slice none 0 0, .slice none 0 0]) ?_ 0 _ rfl; (with_reducible repeat (first | refine blk_drewN ?_ _ | refine blk_drew ?_ | refine blk_alloc ?_ _)); exact BK372.out) hb); have n8_ := Aside0.mk (below_step (by repeat (first | (with_reducible first | exact HB.out | apply below_alloc | apply pw_below_drewN | apply below_drew1 | refine below_set ?_ GE362.out | refine below_set ?_ GE372.out) | exact HB.out)) hb); clear HO358; clear HO361; clear HO365; clear HO368; clear HO371; clear BK362; clear BK372; clear HB; have HO358 := n0_; have HO361 := n1_; have HO365 := n2_; have HO368 := n3_; have HO371 := n4_; have HO375 := n5_; have BK362 := n6_; have BK372 := n7_; have HB := n8_; clear n0_ n1_ n2_ n3_ n4_ n5_ n6_ n7_ n8_; (try clear hb); (try clear hb2); (try clear hk); (try clear hi); (try clear ho0); obtain ⟨Ao28, co28, eo28⟩ := Kd.R_slice HO375.out; subst eo28; have hcz29_0 : w27.cell? ⟨gb372, 0, none⟩ = some (.slice Ao23 t366.length co23) := (blk_cell BK372.out 0).trans rfl; have hcz29_1 : w27.cell? ⟨gb372, 1, none⟩ = some (.slice Ao26 t369.length co26) := (blk_cell BK372.out 1).trans rfl; have hfz29_0 := blk_frozen BK372.out 0; have hfz29_1 := blk_frozen BK372.out 1))
      clear hrow0
      go_loopg [51] kj5 (fun kq v51 w' => ∃ (x51_2 : Int), v51 = .int .i64 x51_2 ∧ Aside0 (redpenlaw17_PragmaReads.l0 kq a2 l0 t363 t373 t359 (t373.length : Int) x51_2 t366 t369 = some r) ∧ Aside0 (kq ≤ kj5) ∧ Aside0 (Kd.P Go.Proofs.YtkflgnhcfhmkdaaDoor.H.RlP 900026 w' w.heap.size (fun k_ => some k_ ≠ ((.slice Ao28 t373.length co28) : Value).ownBlock ∧ some k_ ≠ ((.slice Ao61 t359.length co61) : Value).ownBlock ∧ some k_ ≠ ((.slice Ao23 t366.length co23) : Value).ownBlock ∧ some k_ ≠ ((.slice Ao26 t369.length co26) : Value).ownBlock ∧ k_ ≠ gb362 ∧ k_ ≠ gb372) v364 t363) ∧ Aside0 (Kd.R k40 40 w' w.heap.size (fun k_ => some k_ ≠ ((.slice Ao23 t366.length co23) : Value).ownBlock) (.slice Ao28 t373.length co28) t373) ∧ Aside0 (Kd.R (Kd.int .u8) 5 w' w.heap.size (fun _ => True) (.slice Ao61 t359.length co61) t359) ∧ Aside0 (Kd.R k40 40 w' w.heap.size (fun k_ => some k_ ≠ ((.slice Ao28 t373.length co28) : Value).ownBlock) (.slice Ao23 t366.length co23) t366) ∧ Aside0 (Kd.R Kd.string 9 w' w.heap.size (fun _ => True) (.slice Ao26 t369.length co26) t369) ∧ Aside0 (w'.heap[gb362]? = some (.cells CS31 22 (0, 0))) ∧ Aside0 (w'.heap[gb372]? = some (.cells #[(.slice Ao23 t366.length co23), (.slice Ao26 t369.length co26)] 37 (0, 0))) ∧ Aside0 (Below w.heap.size w w'))
      case atStart => exact ⟨(0), (by first | rfl | (simp; done) | (simp [*]; done) | (simp [wrap64, wrap32]; done)), H', ⟨Nat.le_refl _⟩, ⟨by (with_reducible repeat (first | apply Kd.P_alloc | apply Kd.P_drewN | apply Kd.P_drew)); exact Kd.P_mono HO365.out (fun _ hk => ⟨hk.2, ⟨hk.1.1.1.1.2.1, ⟨hk.1.1.1.2, ⟨hk.1.1.2, ⟨hk.1.1.1.1.2.2, hk.1.2⟩⟩⟩⟩⟩)⟩, ⟨by (with_reducible repeat (first | apply Kd.R_alloc | apply Kd.R_drewN | apply Kd.R_drew)); exact Kd.R_mono HO375.out (fun _ hk => hk.2)⟩, ⟨by (with_reducible repeat (first | apply Kd.R_alloc | apply Kd.R_drewN | apply Kd.R_drew)); exact HO361.out⟩, ⟨by (with_reducible repeat (first | apply Kd.R_alloc | apply Kd.R_drewN | apply Kd.R_drew)); exact Kd.R_mono HO368.out (fun _ hk => hk.2)⟩, ⟨by (with_reducible repeat (first | apply Kd.R_alloc | apply Kd.R_drewN | apply Kd.R_drew)); exact Kd.R_mono HO371.out (fun _ hk => trivial)⟩, ⟨by (with_reducible repeat (first | refine blk_drewN ?_ _ | refine blk_drew ?_ | refine blk_alloc ?_ _)); exact BK362.out⟩, ⟨by (with_reducible repeat (first | refine blk_drewN ?_ _ | refine blk_drew ?_ | refine blk_alloc ?_ _)); exact BK372.out⟩, ⟨by repeat (first | (with_reducible first | exact HB.out | apply below_alloc | apply pw_below_drewN | apply below_drew1 | refine below_set ?_ GE362.out | refine below_set ?_ GE372.out) | exact HB.out)⟩⟩
      case round =>
       clear H'
       (try clear c1); (try clear c2); (try clear p2); (try clear c4); (try clear c5); (try clear c8); (try clear c8b0); (try clear c8b1); (try clear c9); (try clear c11); (try clear c12); (try clear c13); (try clear c14); (try clear c15); (try clear c15b0); (try clear c15b1); (try clear c15b2); (try clear c24); (try clear hcz25_0); (try clear hcz25_1); (try clear hcz29_0); (try clear hcz29_1); (try clear hfz25_0); (try clear hfz25_1); (try clear hfz29_0); (try clear hfz29_1); (try clear p2)
       obtain ⟨x51_2, rfl, HA, HK2, HO_9, HO_11, HO_30, HO_373000, HO_373001, BK362, BK372, HB⟩ := hrel
       cases gk with
       | zero => exact absurd HA.out (by simp [redpenlaw17_PragmaReads.l0])
       | succ k2 =>
        have H := HA.out
        clear HA
        simp only [redpenlaw17_PragmaReads.l0] at H
        by_cases c30 : x51_2 < (t373.length : Int)
        ·rw [if_pos c30] at H
         have c30b0 : decide (x51_2 < (t373.length : Int)) = true := decide_eq_true c30
         clear c30
         by_cases c31 : 0 ≤ x51_2
         ·rw [if_pos c31] at H
          have c31b0 : decide (0 ≤ x51_2) = true := decide_eq_true c31
          clear c31
          by_cases c32 : x51_2 < (t373.length : Int)
          ·rw [if_pos c32] at H
           have c32b0 : decide (x51_2 < (t373.length : Int)) = true := decide_eq_true c32
           clear c32
           by_cases c33 : x51_2 < (t366.length : Int)
           ·rw [if_pos c33] at H
            have c33b0 : decide (x51_2 < (t366.length : Int)) = true := decide_eq_true c33
            clear c33
            by_cases c34 : (!(((rd_T40 t373 x51_2).f0) == ((rd_T40 t366 x51_2).f0)) || (!(((rd_T40 t373 x51_2).f1) == ((rd_T40 t366 x51_2).f1)))) = true
            ·rw [if_pos c34] at H
             have c34b0 : (!(((rd_T40 t373 x51_2).f0) == ((rd_T40 t366 x51_2).f0)) || (!(((rd_T40 t373 x51_2).f1) == ((rd_T40 t366 x51_2).f1)))) = true := c34
             clear c34
             have hf_ := Option.some.inj H
             rw [hr_] at hf_
             cases hf_
            ·rw [if_neg c34] at H
             have c34b0 : (!(((rd_T40 t373 x51_2).f0) == ((rd_T40 t366 x51_2).f0)) || (!(((rd_T40 t373 x51_2).f1) == ((rd_T40 t366 x51_2).f1)))) = false := by simpa using c34
             clear c34
             have H' := Aside0.mk H
             clear H
             try go_wp2
             have n0_ := Aside0.mk (Kd.P_drew HO_9.out)
             have n1_ := Aside0.mk (Kd.R_drew HO_11.out)
             have n2_ := Aside0.mk (Kd.R_drew HO_30.out)
             have n3_ := Aside0.mk (Kd.R_drew HO_373000.out)
             have n4_ := Aside0.mk (Kd.R_drew HO_373001.out)
             have n5_ := Aside0.mk (blk_drew BK362.out)
             have n6_ := Aside0.mk (blk_drew BK372.out)
             have n7_ := Aside0.mk (below_drew1 HB.out)
             clear HO_9
             clear HO_11
             clear HO_30
             clear HO_373000
             clear HO_373001
             clear BK362
             clear BK372
             clear HB
             have HO_9 := n0_
             have HO_11 := n1_
             have HO_30 := n2_
             have HO_373000 := n3_
             have HO_373001 := n4_
             have BK362 := n5_
             have BK372 := n6_
             have HB := n7_
             clear n0_ n1_ n2_ n3_ n4_ n5_ n6_ n7_
             have p376 : 0 ≤ (x51_2 : Int) := of_decide_eq_true (by first | (with_reducible assumption) | assumption)
             have q376 : x51_2 < (t373.length : Int) := of_decide_eq_true (by first | (with_reducible assumption) | assumption)
             obtain ⟨ad376, e376, hx376_0, hx376_1⟩ := at_T40 (Kd.R_reads' HO_11.out).2.2 x51_2 p376 q376
             cases e376
             replace p376 := eq_true p376
             replace q376 := eq_true q376
             have p377 : 0 ≤ (x51_2 : Int) := of_decide_eq_true (by first | (with_reducible assumption) | assumption)
             have q377 : x51_2 < (t366.length : Int) := of_decide_eq_true (by first | (with_reducible assumption) | assumption)
             obtain ⟨ad377, e377, hx377_0, hx377_1⟩ := at_T40 (Kd.R_reads' HO_373000.out).2.2 x51_2 p377 q377
             cases e377
             replace p377 := eq_true p377
             replace q377 := eq_true q377
             refine start_ (n := 10) (S := fun w' => w'.cell? ⟨gb372, 0, none⟩ = some (.slice (some ad377) t366.length co23) ∧ w'.cell? ⟨gb372, 1, none⟩ = some (.slice Ao26 t369.length co26) ∧ w'.cell? (ad376.add ((x51_2).toNat * 2)) = some (.int .i64 ((rd_T40 t373 x51_2).f0)) ∧ w'.cell? ⟨(ad376.add ((x51_2).toNat * 2)).block, (ad376.add ((x51_2).toNat * 2)).off + 1, none⟩ = some (.int .i64 ((rd_T40 t373 x51_2).f1)) ∧ w'.cell? (ad377.add ((x51_2).toNat * 2)) = some (.int .i64 ((rd_T40 t366 x51_2).f0)) ∧ w'.cell? ⟨(ad377.add ((x51_2).toNat * 2)).block, (ad377.add ((x51_2).toNat * 2)).off + 1, none⟩ = some (.int .i64 ((rd_T40 t366 x51_2).f1))) (ds := []) (bs 10 0) (by kernel_rfl) rfl rfl ⟨(blk_cell BK372.out 0).trans rfl, (blk_cell BK372.out 1).trans rfl, hx376_0, hx376_1, hx377_0, hx377_1⟩ (fun hHeld => ?_); refine with_tabW redpenlaw17_PragmaReads.tab15 redpenlaw17_PragmaReads.bits15 (fun HT_ HW_ => ?_)
             generalize wr.drew = w35 at HO_9 HO_11 HO_30 HO_373000 HO_373001 BK362 BK372 HB hx376_0 hx376_1 hx377_0 hx377_1 hHeld ⊢
             refine pu_ 0 (some 54) ?_ (bs 10 1) HT_.out (by kernel_rfl) rfl rfl (fun _ _ _ h => h) (Or.inl ⟨by rfl, ?_⟩) ?_ ?_ ?_; rotate_left; (· intro w'; go_simp; with_reducible rfl); rotate_left; (· simp only [Act.put, sit, scz, scs, i64_w, i32_w]; rfl)
             refine pu_ 1 (some 55) ?_ (bs 10 3) HT_.out (by kernel_rfl) rfl rfl (fun _ _ _ h => h) (Or.inl ⟨by rfl, ?_⟩) ?_ ?_ ?_; rotate_left; (· intro w'; go_simp; with_reducible rfl); rotate_left; (· simp only [Act.put, sit, scz, scs, i64_w, i32_w]; rfl)
             refine pu_ 2 (some 56) ?_ (bs 10 7) HT_.out (by kernel_rfl) rfl rfl (fun _ _ _ h => h) (Or.inl ⟨by rfl, ?_⟩) ?_ ?_ ?_; rotate_left; (· intro w'; go_simp; with_reducible rfl); rotate_left; (· simp only [Act.put, sit, scz, scs, i64_w, i32_w]; rfl)
             refine pu_ 4 (some 58) ?_ (bs 10 23) HT_.out (by kernel_rfl) rfl rfl (fun _ _ _ h => h) (Or.inl ⟨by rfl, ?_⟩) ?_ ?_ ?_; rotate_left; (· intro w'; go_simp; with_reducible rfl); rotate_left; (· simp only [Act.put, sit, scz, scs, i64_w, i32_w]; rfl)
             refine pu_ 6 (some 60) ?_ (bs 10 87) HT_.out (by kernel_rfl) rfl rfl (fun _ _ _ h => h) (Or.inl ⟨by rfl, ?_⟩) ?_ ?_ ?_; rotate_left; (· intro w'; go_simp; with_reducible rfl); rotate_left; (· simp only [Act.put, sit, scz, scs, i64_w, i32_w]; rfl)
             refine take_ (i := 3) (N := some 57) (v := ?_) (a' := ?_) (bs 10 95) rfl rfl (take_ofW HT_.out HW_.out (by kernel_rfl)) (fun _ _ _ h => h) (Or.inl ⟨by rfl, ?_⟩) hHeld ?_ ?_; rotate_left; (· rintro w' ⟨s0, s1, s2, s3, s4, s5⟩; go_simp; with_reducible rfl); rotate_left; (· simp only [Act.put, sit, scz, scs, i64_w, i32_w]; rfl)
             refine take_ (i := 5) (N := some 59) (v := ?_) (a' := ?_) (bs 10 127) rfl rfl (take_ofW HT_.out HW_.out (by kernel_rfl)) (fun _ _ _ h => h) (Or.inl ⟨by rfl, ?_⟩) hHeld ?_ ?_; rotate_left; (· rintro w' ⟨s0, s1, s2, s3, s4, s5⟩; go_simp; with_reducible rfl); rotate_left; (· simp only [Act.put, sit, scz, scs, i64_w, i32_w]; rfl)
             refine pu_ 7 (some 61) ?_ (bs 10 255) HT_.out (by kernel_rfl) rfl rfl (fun _ _ _ h => h) (Or.inl ⟨by rfl, ?_⟩) ?_ ?_ ?_; rotate_left; (· intro w'; go_simp; with_reducible rfl); rotate_left; (· simp only [Act.put, sit, scz, scs, i64_w, i32_w]; rfl)
             refine take_ (i := 8) (N := some 62) (v := ?_) (a' := ?_) (bs 10 511) rfl rfl (take_ofW HT_.out HW_.out (by kernel_rfl)) (fun _ _ _ h => h) (Or.inl ⟨by rfl, ?_⟩) hHeld ?_ ?_; rotate_left; (· rintro w' ⟨s0, s1, s2, s3, s4, s5⟩; go_simp; with_reducible rfl); rotate_left; (· simp only [Act.put, sit, scz, scs, i64_w, i32_w]; rfl)
             refine pu_ 9 (some 63) ?_ (bs 10 1023) HT_.out (by kernel_rfl) rfl rfl (fun _ _ _ h => h) (Or.inl ⟨by rfl, ?_⟩) ?_ ?_ ?_; rotate_left; (· intro w'; go_simp; with_reducible rfl); rotate_left; (· simp only [Act.put, sit, scz, scs, i64_w, i32_w]; rfl)
             refine done_ (done_of HT_.out (by kernel_rfl)) ?_
             try go_wp2
             go_roundg k2
             case measure => have := HJ5.out; have := HK2.out; omega
             case rel => exact ⟨(wrap64 (x51_2 + 1)), (by first | rfl | (simp; done) | (simp [*]; done) | (simp [wrap64, wrap32]; done)), H', ⟨by have := HJ5.out; have := HK2.out; omega⟩, ⟨by (with_reducible repeat (first | apply Kd.P_alloc | apply Kd.P_drewN | apply Kd.P_drew)); exact HO_9.out⟩, ⟨by (with_reducible repeat (first | apply Kd.R_alloc | apply Kd.R_drewN | apply Kd.R_drew)); exact HO_11.out⟩, ⟨by (with_reducible repeat (first | apply Kd.R_alloc | apply Kd.R_drewN | apply Kd.R_drew)); exact HO_30.out⟩, ⟨by (with_reducible repeat (first | apply Kd.R_alloc | apply Kd.R_drewN | apply Kd.R_drew)); exact HO_373000.out⟩, ⟨by (with_reducible repeat (first | apply Kd.R_alloc | apply Kd.R_drewN | apply Kd.R_drew)); exact HO_373001.out⟩, ⟨by (with_reducible repeat (first | refine blk_drewN ?_ _ | refine blk_drew ?_ | refine blk_alloc ?_ _)); exact BK362.out⟩, ⟨by (with_reducible repeat (first | refine blk_drewN ?_ _ | refine blk_drew ?_ | refine blk_alloc ?_ _)); exact BK372.out⟩, ⟨by repeat (first | (with_reducible first | exact HB.out | apply below_alloc | apply pw_below_drewN | apply below_drew1 | refine below_set ?_ GE362.out | refine below_set ?_ GE372.out) | exact HB.out)⟩⟩
           ·rw [if_neg c33] at H
            exact absurd H (by simp)
          ·rw [if_neg c32] at H
           exact absurd H (by simp)
         ·rw [if_neg c31] at H
          exact absurd H (by simp)
        ·rw [if_neg c30] at H
         have c30b0 : decide (x51_2 < (t373.length : Int)) = false := decide_eq_false c30
         clear c30
         have H' := Aside0.mk H
         clear H
         go_wp2
         go_loopg [13] k2 (fun kq v13 w' => ∃ (x13_3 : Int), v13 = .int .i64 x13_3 ∧ Aside0 (redpenlaw17_PragmaReads.l1 kq a2 l0 t363 x13_3 t359 t366 t369 = some r) ∧ Aside0 (kq ≤ k2) ∧ Aside0 (Kd.P Go.Proofs.YtkflgnhcfhmkdaaDoor.H.RlP 900026 w' w.heap.size (fun k_ => some k_ ≠ ((.slice Ao61 t359.length co61) : Value).ownBlock ∧ some k_ ≠ ((.slice Ao23 t366.length co23) : Value).ownBlock ∧ some k_ ≠ ((.slice Ao26 t369.length co26) : Value).ownBlock ∧ k_ ≠ gb362 ∧ k_ ≠ gb372) v364 t363) ∧ Aside0 (Kd.R (Kd.int .u8) 5 w' w.heap.size (fun _ => True) (.slice Ao61 t359.length co61) t359) ∧ Aside0 (Kd.R k40 40 w' w.heap.size (fun _ => True) (.slice Ao23 t366.length co23) t366) ∧ Aside0 (Kd.R Kd.string 9 w' w.heap.size (fun _ => True) (.slice Ao26 t369.length co26) t369) ∧ Aside0 (w'.heap[gb362]? = some (.cells CS31 22 (0, 0))) ∧ Aside0 (w'.heap[gb372]? = some (.cells #[(.slice Ao23 t366.length co23), (.slice Ao26 t369.length co26)] 37 (0, 0))) ∧ Aside0 (Below w.heap.size w w'))
         case atStart => exact ⟨((-1)), (by first | rfl | (simp; done) | (simp [*]; done) | (simp [wrap64, wrap32]; done)), H', ⟨Nat.le_refl _⟩, ⟨by (with_reducible repeat (first | apply Kd.P_alloc | apply Kd.P_drewN | apply Kd.P_drew)); exact Kd.P_mono HO_9.out (fun _ hk => ⟨hk.2.1, ⟨hk.2.2.1, ⟨hk.2.2.2.1, ⟨hk.2.2.2.2.1, hk.2.2.2.2.2⟩⟩⟩⟩)⟩, ⟨by (with_reducible repeat (first | apply Kd.R_alloc | apply Kd.R_drewN | apply Kd.R_drew)); exact HO_30.out⟩, ⟨by (with_reducible repeat (first | apply Kd.R_alloc | apply Kd.R_drewN | apply Kd.R_drew)); exact Kd.R_mono HO_373000.out (fun _ hk => trivial)⟩, ⟨by (with_reducible repeat (first | apply Kd.R_alloc | apply Kd.R_drewN | apply Kd.R_drew)); exact HO_373001.out⟩, ⟨by (with_reducible repeat (first | refine blk_drewN ?_ _ | refine blk_drew ?_ | refine blk_alloc ?_ _)); exact BK362.out⟩, ⟨by (with_reducible repeat (first | refine blk_drewN ?_ _ | refine blk_drew ?_ | refine blk_alloc ?_ _)); exact BK372.out⟩, ⟨by repeat (first | (with_reducible first | exact HB.out | apply below_alloc | apply pw_below_drewN | apply below_drew1 | refine below_set ?_ GE362.out | refine below_set ?_ GE372.out) | exact HB.out)⟩⟩
         case round =>
          clear H'
          (try clear c1); (try clear c2); (try clear p2); (try clear c3); (try clear p3); (try clear q3); (try clear hx3); (try clear c4); (try clear c5); (try clear p6); (try clear c8); (try clear c8b0); (try clear c8b1); (try clear c9); (try clear c11); (try clear c12); (try clear c13); (try clear c14); (try clear c15); (try clear c15b0); (try clear c15b1); (try clear c15b2); (try clear c24); (try clear c30); (try clear c30b0); (try clear c31); (try clear c31b0); (try clear c32); (try clear c32b0); (try clear c33); (try clear c33b0); (try clear c34); (try clear c34b0); (try clear hcz25_0); (try clear hcz25_1); (try clear hcz29_0); (try clear hcz29_1); (try clear hfz25_0); (try clear hfz25_1); (try clear hfz29_0); (try clear hfz29_1); (try clear hx376_0); (try clear hx376_1); (try clear hx377_0); (try clear hx377_1); (try clear p2); (try clear p376); (try clear p377); (try clear q376); (try clear q377)
          obtain ⟨x13_3, rfl, HA, HK3, HO_9, HO_30, HO_373000, HO_373001, BK362, BK372, HB⟩ := hrel
          cases gk with
          | zero => exact absurd HA.out (by simp [redpenlaw17_PragmaReads.l1])
          | succ k3 =>
           have H := HA.out
           clear HA
           simp only [redpenlaw17_PragmaReads.l1] at H
           by_cases c36 : x13_3 ≤ (l0.length : Int)
           ·rw [if_pos c36] at H
            have c36b0 : decide (x13_3 ≤ (l0.length : Int)) = true := decide_eq_true c36
            clear c36
            replace H := Option.bind_eq_some_iff.mp H
            obtain ⟨t378, A370, H⟩ := H
            replace H : ((redpenref15_Rules_Alone.f k3 t366 t369 x13_3).bind fun t379 => (if (t378 != t379) = true then (some false) else (redpenlaw17_PragmaReads.l1 k3 a2 l0 t363 (wrap64 (x13_3 + 1)) t359 t366 t369))) = some r := H
            have A37 := Aside0.mk A370
            clear A370
            replace H := Option.bind_eq_some_iff.mp H
            obtain ⟨t379, A380, H⟩ := H
            replace H : (if (t378 != t379) = true then (some false) else (redpenlaw17_PragmaReads.l1 k3 a2 l0 t363 (wrap64 (x13_3 + 1)) t359 t366 t369)) = some r := H
            have A38 := Aside0.mk A380
            clear A380
            by_cases c39 : (t378 != t379) = true
            ·rw [if_pos c39] at H
             have c39b0 : (t378 != t379) = true := c39
             (try (have c39b1 : decide (t378 = t379) = false := by simpa using c39))
             (try (have c39b2 : (t378 == t379) = false := by simpa using c39))
             (try (have c39b3 : ¬ (t378 = t379) := by simpa using c39))
             clear c39
             have hf_ := Option.some.inj H
             rw [hr_] at hf_
             cases hf_
            ·rw [if_neg c39] at H
             have c39b0 : (t378 != t379) = false := by simpa using c39
             (try (have c39b1 : decide (t378 = t379) = true := by simpa using c39))
             (try (have c39b2 : (t378 == t379) = true := by simpa using c39))
             clear c39
             have H' := Aside0.mk H
             clear H
             try go_wp2
             have n0_ := Aside0.mk (Kd.P_drew HO_9.out)
             have n1_ := Aside0.mk (Kd.R_drew HO_30.out)
             have n2_ := Aside0.mk (Kd.R_drew HO_373000.out)
             have n3_ := Aside0.mk (Kd.R_drew HO_373001.out)
             have n4_ := Aside0.mk (blk_drew BK362.out)
             have n5_ := Aside0.mk (blk_drew BK372.out)
             have n6_ := Aside0.mk (below_drew1 HB.out)
             clear HO_9
             clear HO_30
             clear HO_373000
             clear HO_373001
             clear BK362
             clear BK372
             clear HB
             have HO_9 := n0_
             have HO_30 := n1_
             have HO_373000 := n2_
             have HO_373001 := n3_
             have BK362 := n4_
             have BK372 := n5_
             have HB := n6_
             clear n0_ n1_ n2_ n3_ n4_ n5_ n6_
             refine start_ (n := 7) (S := fun w' => w'.cell? ⟨gb372, 0, none⟩ = some (.slice Ao23 t366.length co23) ∧ w'.cell? ⟨gb372, 1, none⟩ = some (.slice Ao26 t369.length co26)) (ds := []) (bs 7 0) (by kernel_rfl) rfl rfl ⟨(blk_cell BK372.out 0).trans rfl, (blk_cell BK372.out 1).trans rfl⟩ (fun hHeld => ?_)
             generalize wr.drew = w40 at HO_9 HO_30 HO_373000 HO_373001 BK362 BK372 HB hHeld ⊢
             refine pure_ (i := 0) (N := some 71) (v := ?_) (a' := ?_) (bs 7 1) rfl rfl (by kernel_rfl) (fun _ _ _ h => h) (Or.inl ⟨by rfl, ?_⟩) ?_ ?_; rotate_left; (· intro w'; go_simp; with_reducible rfl); rotate_left; (· simp only [Act.put, sit, scz, scs, i64_w, i32_w]; rfl)
             refine pure_ (i := 1) (N := some 72) (v := ?_) (a' := ?_) (bs 7 3) rfl rfl (by kernel_rfl) (fun _ _ _ h => h) (Or.inl ⟨by rfl, ?_⟩) ?_ ?_; rotate_left; (· intro w'; go_simp; with_reducible rfl); rotate_left; (· simp only [Act.put, sit, scz, scs, i64_w, i32_w]; rfl)
             refine pure_ (i := 4) (N := some 75) (v := ?_) (a' := ?_) (bs 7 19) rfl rfl (by kernel_rfl) (fun _ _ _ h => h) (Or.inl ⟨by rfl, ?_⟩) ?_ ?_; rotate_left; (· intro w'; go_simp; with_reducible rfl); rotate_left; (· simp only [Act.put, sit, scz, scs, i64_w, i32_w]; rfl)
             refine take_ (i := 3) (N := some 74) (v := ?_) (a' := ?_) (bs 7 27) rfl rfl (by kernel_rfl) (fun _ _ _ h => h) (Or.inl ⟨by rfl, ?_⟩) hHeld ?_ ?_; rotate_left; (· rintro w' ⟨s0, s1⟩; go_simp; with_reducible rfl); rotate_left; (· simp only [Act.put, sit, scz, scs, i64_w, i32_w]; rfl)
             refine one_ (i := 2) (N := some 73) (bs 7 31) rfl rfl (by kernel_rfl) (by decide) (fun K hK => ?_)
             refine goes_ Tryd.func10 (by kernel_rfl) rfl #[v364, .int .i64 x13_3] (by rfl) rfl rfl (by (try simp only [List.map_toArray, List.map_cons, List.map_nil]); first | done | rfl | (simp only [List.length_drop, List.length_take]; rfl)) ?_
             with_reducible refine (pragma_Rules_Off.calls _ t363 x13_3 t378 _ ?side1 A37.out).mono ?_
             (case side1 => exact Kd.P_now (by (with_reducible repeat (first | apply Kd.P_alloc | apply Kd.P_drewN | apply Kd.P_drew)); exact HO_9.out))
             rintro e w41 ⟨rfl, hb⟩
             refine ⟨_, rfl, ?_⟩
             have n0_ := Aside0.mk (Kd.P_below (by (with_reducible repeat (first | apply Kd.P_alloc | apply Kd.P_drewN | apply Kd.P_drew)); exact HO_9.out) hb)
             have n1_ := Aside0.mk (Kd.R_below (by (with_reducible repeat (first | apply Kd.R_alloc | apply Kd.R_drewN | apply Kd.R_drew)); exact HO_30.out) hb)
             have n2_ := Aside0.mk (Kd.R_below (by (with_reducible repeat (first | apply Kd.R_alloc | apply Kd.R_drewN | apply Kd.R_drew)); exact HO_373000.out) hb)
             have n3_ := Aside0.mk (Kd.R_below (by (with_reducible repeat (first | apply Kd.R_alloc | apply Kd.R_drewN | apply Kd.R_drew)); exact HO_373001.out) hb)
             have n4_ := Aside0.mk (blk_below (g := gb362) (o := .cells CS31 22 (0, 0)) (by (with_reducible repeat (first | refine blk_drewN ?_ _ | refine blk_drew ?_ | refine blk_alloc ?_ _)); exact BK362.out) hb)
             have n5_ := Aside0.mk (blk_below (g := gb372) (o := .cells #[.slice Ao23 t366.length co23, .slice Ao26 t369.length co26] 37 (0, 0)) (by (with_reducible repeat (first | refine blk_drewN ?_ _ | refine blk_drew ?_ | refine blk_alloc ?_ _)); exact BK372.out) hb)
             have n6_ := Aside0.mk (below_step (by repeat (first | (with_reducible first | exact HB.out | apply below_alloc | apply pw_below_drewN | apply below_drew1 | refine below_set ?_ GE362.out | refine below_set ?_ GE372.out) | exact HB.out)) hb)
             clear HO_9
             clear HO_30
             clear HO_373000
             clear HO_373001
             clear BK362
             clear BK372
             clear HB
             have HO_9 := n0_
             have HO_30 := n1_
             have HO_373000 := n2_
             have HO_373001 := n3_
             have BK362 := n4_
             have BK372 := n5_
             have HB := n6_
             clear n0_ n1_ n2_ n3_ n4_ n5_ n6_
             (try clear hb)
             (try clear hb2)
             (try clear hk)
             (try clear hi)
             refine hK.out _ _ ⟨(blk_cell BK372.out 0).trans rfl, (blk_cell BK372.out 1).trans rfl⟩ (fun hHeld => ?_)
             clear hK K
             refine norm_ (a' := ?_) ?_ ?_
             rotate_left
             ·show Act.put _ (some 73) _ = _
              simp only [Act.put, List.setIfInBounds_toArray, List.set_cons_zero, List.set_cons_succ, i64_w, i32_w]
              rfl
             refine one_ (i := 5) (N := some 76) (bs 7 63) rfl rfl (by kernel_rfl) (by decide) (fun K hK => ?_)
             refine goes_ Tryd.func15 (by kernel_rfl) rfl #[.agg #[.slice Ao23 t366.length co23, .slice Ao26 t369.length co26], .int .i64 x13_3] (by rfl) rfl rfl (by (try simp only [List.map_toArray, List.map_cons, List.map_nil]); first | done | rfl | (simp only [List.length_drop, List.length_take]; rfl)) ?_
             with_reducible refine (redpenref15_Rules_Alone.calls k3 _ _ t366 _ _ t369 x13_3 t379 _ ?side1 ?side2 ?side3 ?side4 A38.out).mono ?_
             (case side1 => repeat (first | exact (Kd.R_reads' HO_373000.out).2.2 | (with_reducible refine Kd.C_alloc ?_ _) | (with_reducible refine Kd.C_drewN ?_ _) | (with_reducible refine Kd.C_drew ?_)))
             (case side2 => exact (Kd.R_reads' HO_373000.out).2.1)
             (case side3 => repeat (first | exact (Kd.R_reads' HO_373001.out).2.2 | (with_reducible refine Kd.C_alloc ?_ _) | (with_reducible refine Kd.C_drewN ?_ _) | (with_reducible refine Kd.C_drew ?_)))
             (case side4 => exact (Kd.R_reads' HO_373001.out).2.1)
             rintro e w42 ⟨rfl, hb⟩
             refine ⟨_, rfl, ?_⟩
             have n0_ := Aside0.mk (Kd.P_below (by (with_reducible repeat (first | apply Kd.P_alloc | apply Kd.P_drewN | apply Kd.P_drew)); exact HO_9.out) hb)
             have n1_ := Aside0.mk (Kd.R_below (by (with_reducible repeat (first | apply Kd.R_alloc | apply Kd.R_drewN | apply Kd.R_drew)); exact HO_30.out) hb)
             have n2_ := Aside0.mk (Kd.R_below (by (with_reducible repeat (first | apply Kd.R_alloc | apply Kd.R_drewN | apply Kd.R_drew)); exact HO_373000.out) hb)
             have n3_ := Aside0.mk (Kd.R_below (by (with_reducible repeat (first | apply Kd.R_alloc | apply Kd.R_drewN | apply Kd.R_drew)); exact HO_373001.out) hb)
             have n4_ := Aside0.mk (blk_below (g := gb362) (o := .cells CS31 22 (0, 0)) (by (with_reducible repeat (first | refine blk_drewN ?_ _ | refine blk_drew ?_ | refine blk_alloc ?_ _)); exact BK362.out) hb)
             have n5_ := Aside0.mk (blk_below (g := gb372) (o := .cells #[.slice Ao23 t366.length co23, .slice Ao26 t369.length co26] 37 (0, 0)) (by (with_reducible repeat (first | refine blk_drewN ?_ _ | refine blk_drew ?_ | refine blk_alloc ?_ _)); exact BK372.out) hb)
             have n6_ := Aside0.mk (below_step (by repeat (first | (with_reducible first | exact HB.out | apply below_alloc | apply pw_below_drewN | apply below_drew1 | refine below_set ?_ GE362.out | refine below_set ?_ GE372.out) | exact HB.out)) hb)
             clear HO_9
             clear HO_30
             clear HO_373000
             clear HO_373001
             clear BK362
             clear BK372
             clear HB
             have HO_9 := n0_
             have HO_30 := n1_
             have HO_373000 := n2_
             have HO_373001 := n3_
             have BK362 := n4_
             have BK372 := n5_
             have HB := n6_
             clear n0_ n1_ n2_ n3_ n4_ n5_ n6_
             (try clear hb)
             (try clear hb2)
             (try clear hk)
             (try clear hi)
             refine hK.out _ _ ⟨(blk_cell BK372.out 0).trans rfl, (blk_cell BK372.out 1).trans rfl⟩ (fun hHeld => ?_)
             clear hK K
             refine norm_ (a' := ?_) ?_ ?_
             rotate_left
             ·show Act.put _ (some 76) _ = _
              simp only [Act.put, List.setIfInBounds_toArray, List.set_cons_zero, List.set_cons_succ, i64_w, i32_w]
              rfl
             refine pure_ (i := 6) (N := some 77) (v := ?_) (a' := ?_) (bs 7 127) rfl rfl (by kernel_rfl) (fun _ _ _ h => h) (Or.inl ⟨by rfl, ?_⟩) ?_ ?_; rotate_left; (· intro w'; go_simp; with_reducible rfl); rotate_left; (· simp only [Act.put, sit, scz, scs, i64_w, i32_w]; rfl)
             refine done_ (by kernel_rfl) ?_
             try go_wp2
             go_roundg k3
             case measure => have := HJ5.out; have := HK2.out; have := HK3.out; omega
             case rel => exact ⟨(wrap64 (x13_3 + 1)), (by first | rfl | (simp; done) | (simp [*]; done) | (simp [wrap64, wrap32]; done)), H', ⟨by have := HJ5.out; have := HK2.out; have := HK3.out; omega⟩, ⟨by (with_reducible repeat (first | apply Kd.P_alloc | apply Kd.P_drewN | apply Kd.P_drew)); exact HO_9.out⟩, ⟨by (with_reducible repeat (first | apply Kd.R_alloc | apply Kd.R_drewN | apply Kd.R_drew)); exact HO_30.out⟩, ⟨by (with_reducible repeat (first | apply Kd.R_alloc | apply Kd.R_drewN | apply Kd.R_drew)); exact HO_373000.out⟩, ⟨by (with_reducible repeat (first | apply Kd.R_alloc | apply Kd.R_drewN | apply Kd.R_drew)); exact HO_373001.out⟩, ⟨by (with_reducible repeat (first | refine blk_drewN ?_ _ | refine blk_drew ?_ | refine blk_alloc ?_ _)); exact BK362.out⟩, ⟨by (with_reducible repeat (first | refine blk_drewN ?_ _ | refine blk_drew ?_ | refine blk_alloc ?_ _)); exact BK372.out⟩, ⟨by repeat (first | (with_reducible first | exact HB.out | apply below_alloc | apply pw_below_drewN | apply below_drew1 | refine below_set ?_ GE362.out | refine below_set ?_ GE372.out) | exact HB.out)⟩⟩
           ·rw [if_neg c36] at H
            have c36b0 : decide (x13_3 ≤ (l0.length : Int)) = false := decide_eq_false c36
            clear c36
            obtain ⟨y380, hy380⟩ : ∃ y_ : List ByteArray, y_ = (([a2, (⟨#[119, 111, 114, 100]⟩ : ByteArray), (⟨#[84, 69, 72]⟩ : ByteArray), (⟨#[100, 111, 110, 39, 116]⟩ : ByteArray), (⟨#[97]⟩ : ByteArray), (⟨#[98]⟩ : ByteArray), (⟨#[97, 98, 99]⟩ : ByteArray), (⟨#[68, 69, 70]⟩ : ByteArray), (⟨#[120]⟩ : ByteArray), (⟨#[]⟩ : ByteArray)] : List ByteArray)) := ⟨_, rfl⟩
            replace H : (redpenlaw17_PragmaReads.l2 k3 a2 t363 t359 y380 (y380.length : Int) 0 t366 t369) = some r := by first | (rw [hy380]; with_reducible exact H) | (have H2_ := (Option.bind_some _ _).symm.trans H; rw [hy380]; with_reducible exact H2_) | (have H2_ := (Option.bind_some _ _).symm.trans H; with_reducible exact H2_) | with_reducible exact H | (rw [hy380]; exact H) | exact H
            have Ny380 := Aside0.mk hy380
            clear hy380
            have H' := Aside0.mk H
            clear H
            go_wp2_with (first | ((with_reducible refine gate_dst (N := 79) rfl ?_); (try (refine gate_guard (by rfl) ?_; dsimp only)); refine Kd.R_lit Kd.string _ 9 ?hg (N := 79) ?hd (xs := ([a2, (⟨#[119, 111, 114, 100]⟩ : ByteArray), (⟨#[84, 69, 72]⟩ : ByteArray), (⟨#[100, 111, 110, 39, 116]⟩ : ByteArray), (⟨#[97]⟩ : ByteArray), (⟨#[98]⟩ : ByteArray), (⟨#[97, 98, 99]⟩ : ByteArray), (⟨#[68, 69, 70]⟩ : ByteArray), (⟨#[120]⟩ : ByteArray), (⟨#[]⟩ : ByteArray)] : List ByteArray)) (inner := [.string a2, .string (⟨#[119, 111, 114, 100]⟩ : ByteArray), .string (⟨#[84, 69, 72]⟩ : ByteArray), .string (⟨#[100, 111, 110, 39, 116]⟩ : ByteArray), .string (⟨#[97]⟩ : ByteArray), .string (⟨#[98]⟩ : ByteArray), .string (⟨#[97, 98, 99]⟩ : ByteArray), .string (⟨#[68, 69, 70]⟩ : ByteArray), .string (⟨#[120]⟩ : ByteArray), .string (⟨#[]⟩ : ByteArray)]) (ok := fun _ => True) (okp := fun _ => True) ?hr ?hp (fun _ hk => hk) trivial (Below.refl _ _) (Nat.le_refl _) (by simp) ?_; (case hd => rfl); (case hg => rfl); (case hr => first | (go_simp; done) | (go_simp; rfl)); (case hp => exact (Reps.one (show Kd.M Kd.string _ _ _ a2 [.string a2] from rfl) (Reps.one (show Kd.M Kd.string _ _ _ (⟨#[119, 111, 114, 100]⟩ : ByteArray) [.string (⟨#[119, 111, 114, 100]⟩ : ByteArray)] from rfl) (Reps.one (show Kd.M Kd.string _ _ _ (⟨#[84, 69, 72]⟩ : ByteArray) [.string (⟨#[84, 69, 72]⟩ : ByteArray)] from rfl) (Reps.one (show Kd.M Kd.string _ _ _ (⟨#[100, 111, 110, 39, 116]⟩ : ByteArray) [.string (⟨#[100, 111, 110, 39, 116]⟩ : ByteArray)] from rfl) (Reps.one (show Kd.M Kd.string _ _ _ (⟨#[97]⟩ : ByteArray) [.string (⟨#[97]⟩ : ByteArray)] from rfl) (Reps.one (show Kd.M Kd.string _ _ _ (⟨#[98]⟩ : ByteArray) [.string (⟨#[98]⟩ : ByteArray)] from rfl) (Reps.one (show Kd.M Kd.string _ _ _ (⟨#[97, 98, 99]⟩ : ByteArray) [.string (⟨#[97, 98, 99]⟩ : ByteArray)] from rfl) (Reps.one (show Kd.M Kd.string _ _ _ (⟨#[68, 69, 70]⟩ : ByteArray) [.string (⟨#[68, 69, 70]⟩ : ByteArray)] from rfl) (Reps.one (show Kd.M Kd.string _ _ _ (⟨#[120]⟩ : ByteArray) [.string (⟨#[120]⟩ : ByteArray)] from rfl) (Reps.one (show Kd.M Kd.string _ _ _ (⟨#[]⟩ : ByteArray) [.string (⟨#[]⟩ : ByteArray)] from rfl) (Reps.none _ _)))))))))))); intro v381 w43 ho44 hb hg_ hnew_; clear hg_ hnew_; (first | rw [← Ny380.out] at ho44 | (simp only [Int.reduceToNat] at ho44; rw [← Ny380.out] at ho44)); have n0_ := Aside0.mk (Kd.P_elder' (by (with_reducible repeat (first | apply Kd.P_alloc | apply Kd.P_drewN | apply Kd.P_drew)); exact HO_9.out) (Kd.R_base ho44) hb); have n1_ := Aside0.mk (Kd.R_below (by (with_reducible repeat (first | apply Kd.R_alloc | apply Kd.R_drewN | apply Kd.R_drew)); exact HO_30.out) hb); have n2_ := Aside0.mk (Kd.R_below (by (with_reducible repeat (first | apply Kd.R_alloc | apply Kd.R_drewN | apply Kd.R_drew)); exact HO_373000.out) hb); have n3_ := Aside0.mk (Kd.R_elder' (by (with_reducible repeat (first | apply Kd.R_alloc | apply Kd.R_drewN | apply Kd.R_drew)); exact HO_373001.out) (Kd.R_base ho44) hb); have n4_ := Aside0.mk (Kd.R_lower (Kd.R_new' ho44 (Kd.R_lt (by (with_reducible repeat (first | apply Kd.R_alloc | apply Kd.R_drewN | apply Kd.R_drew)); exact HO_373001.out))) (below_size (by repeat (first | (with_reducible first | exact HB.out | apply below_alloc | apply pw_below_drewN | apply below_drew1 | refine below_set ?_ GE362.out | refine below_set ?_ GE372.out) | exact HB.out)))); have n5_ := Aside0.mk (blk_below (g := gb362) (o := .cells CS31 22 (0, 0)) (by (with_reducible repeat (first | refine blk_drewN ?_ _ | refine blk_drew ?_ | refine blk_alloc ?_ _)); exact BK362.out) hb); have n6_ := Aside0.mk (blk_below (g := gb372) (o := .cells #[.slice Ao23 t366.length co23, .slice Ao26 t369.length co26] 37 (0, 0)) (by (with_reducible repeat (first | refine blk_drewN ?_ _ | refine blk_drew ?_ | refine blk_alloc ?_ _)); exact BK372.out) hb); have n7_ := Aside0.mk (below_step (by repeat (first | (with_reducible first | exact HB.out | apply below_alloc | apply pw_below_drewN | apply below_drew1 | refine below_set ?_ GE362.out | refine below_set ?_ GE372.out) | exact HB.out)) hb); clear HO_9; clear HO_30; clear HO_373000; clear HO_373001; clear BK362; clear BK372; clear HB; have HO_9 := n0_; have HO_30 := n1_; have HO_373000 := n2_; have HO_373001 := n3_; have HO382 := n4_; have BK362 := n5_; have BK372 := n6_; have HB := n7_; clear n0_ n1_ n2_ n3_ n4_ n5_ n6_ n7_; clear hb ho44; obtain ⟨Ao45, co45, eo45⟩ := Kd.R_slice HO382.out; subst eo45))
            go_loopg [81] k3 (fun kq v81 w' => ∃ (x81_4 : Int), v81 = .int .i64 x81_4 ∧ Aside0 (redpenlaw17_PragmaReads.l2 kq a2 t363 t359 y380 (y380.length : Int) x81_4 t366 t369 = some r) ∧ Aside0 (kq ≤ k3) ∧ Aside0 (Kd.P Go.Proofs.YtkflgnhcfhmkdaaDoor.H.RlP 900026 w' w.heap.size (fun k_ => some k_ ≠ ((.slice Ao61 t359.length co61) : Value).ownBlock ∧ some k_ ≠ ((.slice Ao45 y380.length co45) : Value).ownBlock ∧ some k_ ≠ ((.slice Ao23 t366.length co23) : Value).ownBlock ∧ some k_ ≠ ((.slice Ao26 t369.length co26) : Value).ownBlock ∧ k_ ≠ gb362 ∧ k_ ≠ gb372) v364 t363) ∧ Aside0 (Kd.R (Kd.int .u8) 5 w' w.heap.size (fun _ => True) (.slice Ao61 t359.length co61) t359) ∧ Aside0 (Kd.R Kd.string 9 w' w.heap.size (fun k_ => some k_ ≠ ((.slice Ao26 t369.length co26) : Value).ownBlock) (.slice Ao45 y380.length co45) y380) ∧ Aside0 (Kd.R k40 40 w' w.heap.size (fun _ => True) (.slice Ao23 t366.length co23) t366) ∧ Aside0 (Kd.R Kd.string 9 w' w.heap.size (fun k_ => some k_ ≠ ((.slice Ao45 y380.length co45) : Value).ownBlock) (.slice Ao26 t369.length co26) t369) ∧ Aside0 (w'.heap[gb362]? = some (.cells CS31 22 (0, 0))) ∧ Aside0 (w'.heap[gb372]? = some (.cells #[(.slice Ao23 t366.length co23), (.slice Ao26 t369.length co26)] 37 (0, 0))) ∧ Aside0 (Below w.heap.size w w'))
            case atStart => exact ⟨(0), (by first | rfl | (simp; done) | (simp [*]; done) | (simp [wrap64, wrap32]; done)), H', ⟨Nat.le_refl _⟩, ⟨by (with_reducible repeat (first | apply Kd.P_alloc | apply Kd.P_drewN | apply Kd.P_drew)); exact Kd.P_mono HO_9.out (fun _ hk => ⟨hk.1.1, ⟨hk.2, ⟨hk.1.2.1, ⟨hk.1.2.2.1, ⟨hk.1.2.2.2.1, hk.1.2.2.2.2⟩⟩⟩⟩⟩)⟩, ⟨by (with_reducible repeat (first | apply Kd.R_alloc | apply Kd.R_drewN | apply Kd.R_drew)); exact HO_30.out⟩, ⟨by (with_reducible repeat (first | apply Kd.R_alloc | apply Kd.R_drewN | apply Kd.R_drew)); exact Kd.R_mono HO382.out (fun _ hk => hk.2)⟩, ⟨by (with_reducible repeat (first | apply Kd.R_alloc | apply Kd.R_drewN | apply Kd.R_drew)); exact HO_373000.out⟩, ⟨by (with_reducible repeat (first | apply Kd.R_alloc | apply Kd.R_drewN | apply Kd.R_drew)); exact Kd.R_mono HO_373001.out (fun _ hk => hk.2)⟩, ⟨by (with_reducible repeat (first | refine blk_drewN ?_ _ | refine blk_drew ?_ | refine blk_alloc ?_ _)); exact BK362.out⟩, ⟨by (with_reducible repeat (first | refine blk_drewN ?_ _ | refine blk_drew ?_ | refine blk_alloc ?_ _)); exact BK372.out⟩, ⟨by repeat (first | (with_reducible first | exact HB.out | apply below_alloc | apply pw_below_drewN | apply below_drew1 | refine below_set ?_ GE362.out | refine below_set ?_ GE372.out) | exact HB.out)⟩⟩
            case round =>
             clear H'
             (try clear c1); (try clear c2); (try clear p2); (try clear c3); (try clear p3); (try clear q3); (try clear hx3); (try clear c4); (try clear c5); (try clear p6); (try clear c8); (try clear c8b0); (try clear c8b1); (try clear c9); (try clear c10); (try clear c11); (try clear c12); (try clear c13); (try clear c14); (try clear c15); (try clear c15b0); (try clear c15b1); (try clear c15b2); (try clear c24); (try clear c30); (try clear c30b0); (try clear c31); (try clear c31b0); (try clear c32); (try clear c32b0); (try clear c33); (try clear c33b0); (try clear c34); (try clear c34b0); (try clear c36); (try clear c36b0); (try clear p37); (try clear q37); (try clear hx37); (try clear c39); (try clear c39b0); (try clear c39b1); (try clear c39b2); (try clear hcz25_0); (try clear hcz25_1); (try clear hcz29_0); (try clear hcz29_1); (try clear hfz25_0); (try clear hfz25_1); (try clear hfz29_0); (try clear hfz29_1); (try clear hx376_0); (try clear hx376_1); (try clear hx377_0); (try clear hx377_1); (try clear p2); (try clear p3); (try clear p376); (try clear p377); (try clear p6); (try clear q3); (try clear q376); (try clear q377)
             obtain ⟨x81_4, rfl, HA, HK4, HO_9, HO_30, HO_79, HO_373000, HO_373001, BK362, BK372, HB⟩ := hrel
             cases gk with
             | zero => exact absurd HA.out (by simp [redpenlaw17_PragmaReads.l2])
             | succ k4 =>
              have H := HA.out
              clear HA
              simp only [redpenlaw17_PragmaReads.l2] at H
              by_cases c46 : x81_4 < (y380.length : Int)
              ·rw [if_pos c46] at H
               have c46b0 : decide (x81_4 < (y380.length : Int)) = true := decide_eq_true c46
               clear c46
               by_cases c47 : 0 ≤ x81_4
               ·rw [if_pos c47] at H
                have c47b0 : decide (0 ≤ x81_4) = true := decide_eq_true c47
                clear c47
                by_cases c48 : x81_4 < (y380.length : Int)
                ·rw [if_pos c48] at H
                 have c48b0 : decide (x81_4 < (y380.length : Int)) = true := decide_eq_true c48
                 clear c48
                 replace H := Option.bind_eq_some_iff.mp H
                 obtain ⟨t384, A490, H⟩ := H
                 replace H : ((redpenref15_Rules_Knows.f k4 t366 t369 (rdOf ByteArray.empty y380 x81_4)).bind fun t385 => (if (t384 != t385) = true then (some false) else (redpenlaw17_PragmaReads.l2 k4 a2 t363 t359 y380 (y380.length : Int) (wrap64 (x81_4 + 1)) t366 t369))) = some r := H
                 have A49 := Aside0.mk A490
                 clear A490
                 replace H := Option.bind_eq_some_iff.mp H
                 obtain ⟨t385, A500, H⟩ := H
                 replace H : (if (t384 != t385) = true then (some false) else (redpenlaw17_PragmaReads.l2 k4 a2 t363 t359 y380 (y380.length : Int) (wrap64 (x81_4 + 1)) t366 t369)) = some r := H
                 have A50 := Aside0.mk A500
                 clear A500
                 by_cases c51 : (t384 != t385) = true
                 ·rw [if_pos c51] at H
                  have c51b0 : (t384 != t385) = true := c51
                  (try (have c51b1 : decide (t384 = t385) = false := by simpa using c51))
                  (try (have c51b2 : (t384 == t385) = false := by simpa using c51))
                  (try (have c51b3 : ¬ (t384 = t385) := by simpa using c51))
                  clear c51
                  have hf_ := Option.some.inj H
                  rw [hr_] at hf_
                  cases hf_
                 ·rw [if_neg c51] at H
                  have c51b0 : (t384 != t385) = false := by simpa using c51
                  (try (have c51b1 : decide (t384 = t385) = true := by simpa using c51))
                  (try (have c51b2 : (t384 == t385) = true := by simpa using c51))
                  clear c51
                  have H' := Aside0.mk H
                  clear H
                  have p383 : 0 ≤ (x81_4 : Int) := of_decide_eq_true (by first | (with_reducible assumption) | assumption)
                  have q383 : x81_4 < (y380.length : Int) := of_decide_eq_true (by first | (with_reducible assumption) | assumption)
                  obtain ⟨ad383, e383, hx383_0⟩ := Kd.at_string (Kd.R_reads' HO_79.out).2.2 x81_4 p383 q383
                  cases e383
                  replace p383 := eq_true p383
                  replace q383 := eq_true q383
                  try go_wp2
                  have n0_ := Aside0.mk (Kd.P_drew HO_9.out)
                  have n1_ := Aside0.mk (Kd.R_drew HO_30.out)
                  have n2_ := Aside0.mk (Kd.R_drew HO_79.out)
                  have n3_ := Aside0.mk (Kd.R_drew HO_373000.out)
                  have n4_ := Aside0.mk (Kd.R_drew HO_373001.out)
                  have n5_ := Aside0.mk (blk_drew BK362.out)
                  have n6_ := Aside0.mk (blk_drew BK372.out)
                  have n7_ := Aside0.mk (below_drew1 HB.out)
                  clear HO_9
                  clear HO_30
                  clear HO_79
                  clear HO_373000
                  clear HO_373001
                  clear BK362
                  clear BK372
                  clear HB
                  have HO_9 := n0_
                  have HO_30 := n1_
                  have HO_79 := n2_
                  have HO_373000 := n3_
                  have HO_373001 := n4_
                  have BK362 := n5_
                  have BK372 := n6_
                  have HB := n7_
                  clear n0_ n1_ n2_ n3_ n4_ n5_ n6_ n7_
                  refine start_ (n := 7) (S := fun w' => w'.cell? ⟨gb372, 0, none⟩ = some (.slice Ao23 t366.length co23) ∧ w'.cell? ⟨gb372, 1, none⟩ = some (.slice Ao26 t369.length co26)) (ds := []) (bs 7 0) (by kernel_rfl) rfl rfl ⟨(blk_cell BK372.out 0).trans rfl, (blk_cell BK372.out 1).trans rfl⟩ (fun hHeld => ?_)
                  generalize wr.drew = w52 at HO_9 HO_30 HO_79 HO_373000 HO_373001 BK362 BK372 HB hHeld ⊢
                  refine pure_ (i := 0) (N := some 85) (v := ?_) (a' := ?_) (bs 7 1) rfl rfl (by kernel_rfl) (fun _ _ _ h => h) (Or.inl ⟨by rfl, ?_⟩) ?_ ?_; rotate_left; (· intro w'; go_simp; with_reducible rfl); rotate_left; (· simp only [Act.put, sit, scz, scs, i64_w, i32_w]; rfl)
                  refine pure_ (i := 1) (N := some 86) (v := ?_) (a' := ?_) (bs 7 3) rfl rfl (by kernel_rfl) (fun _ _ _ h => h) (Or.inl ⟨by rfl, ?_⟩) ?_ ?_; rotate_left; (· intro w'; go_simp; with_reducible rfl); rotate_left; (· simp only [Act.put, sit, scz, scs, i64_w, i32_w]; rfl)
                  refine pure_ (i := 4) (N := some 89) (v := ?_) (a' := ?_) (bs 7 19) rfl rfl (by kernel_rfl) (fun _ _ _ h => h) (Or.inl ⟨by rfl, ?_⟩) ?_ ?_; rotate_left; (· intro w'; go_simp; with_reducible rfl); rotate_left; (· simp only [Act.put, sit, scz, scs, i64_w, i32_w]; rfl)
                  refine take_ (i := 3) (N := some 88) (v := ?_) (a' := ?_) (bs 7 27) rfl rfl (by kernel_rfl) (fun _ _ _ h => h) (Or.inl ⟨by rfl, ?_⟩) hHeld ?_ ?_; rotate_left; (· rintro w' ⟨s0, s1⟩; go_simp; with_reducible rfl); rotate_left; (· simp only [Act.put, sit, scz, scs, i64_w, i32_w]; rfl)
                  refine one_ (i := 2) (N := some 87) (bs 7 31) rfl rfl (by kernel_rfl) (by decide) (fun K hK => ?_)
                  refine goes_ Tryd.func16 (by kernel_rfl) rfl #[v364, .string (rdOf ByteArray.empty y380 x81_4)] (by rfl) rfl rfl (by (try simp only [List.map_toArray, List.map_cons, List.map_nil]); first | done | rfl | (simp only [List.length_drop, List.length_take]; rfl)) ?_
                  with_reducible refine (pragma_Rules_Knows.calls k4 _ t363 (rdOf ByteArray.empty y380 x81_4) t384 _ ?side1 A49.out).mono ?_
                  (case side1 => exact Kd.P_now (by (with_reducible repeat (first | apply Kd.P_alloc | apply Kd.P_drewN | apply Kd.P_drew)); exact HO_9.out))
                  rintro e w53 ⟨rfl, hb⟩
                  refine ⟨_, rfl, ?_⟩
                  have n0_ := Aside0.mk (Kd.P_below (by (with_reducible repeat (first | apply Kd.P_alloc | apply Kd.P_drewN | apply Kd.P_drew)); exact HO_9.out) hb)
                  have n1_ := Aside0.mk (Kd.R_below (by (with_reducible repeat (first | apply Kd.R_alloc | apply Kd.R_drewN | apply Kd.R_drew)); exact HO_30.out) hb)
                  have n2_ := Aside0.mk (Kd.R_below (by (with_reducible repeat (first | apply Kd.R_alloc | apply Kd.R_drewN | apply Kd.R_drew)); exact HO_79.out) hb)
                  have n3_ := Aside0.mk (Kd.R_below (by (with_reducible repeat (first | apply Kd.R_alloc | apply Kd.R_drewN | apply Kd.R_drew)); exact HO_373000.out) hb)
                  have n4_ := Aside0.mk (Kd.R_below (by (with_reducible repeat (first | apply Kd.R_alloc | apply Kd.R_drewN | apply Kd.R_drew)); exact HO_373001.out) hb)
                  have n5_ := Aside0.mk (blk_below (g := gb362) (o := .cells CS31 22 (0, 0)) (by (with_reducible repeat (first | refine blk_drewN ?_ _ | refine blk_drew ?_ | refine blk_alloc ?_ _)); exact BK362.out) hb)
                  have n6_ := Aside0.mk (blk_below (g := gb372) (o := .cells #[.slice Ao23 t366.length co23, .slice Ao26 t369.length co26] 37 (0, 0)) (by (with_reducible repeat (first | refine blk_drewN ?_ _ | refine blk_drew ?_ | refine blk_alloc ?_ _)); exact BK372.out) hb)
                  have n7_ := Aside0.mk (below_step (by repeat (first | (with_reducible first | exact HB.out | apply below_alloc | apply pw_below_drewN | apply below_drew1 | refine below_set ?_ GE362.out | refine below_set ?_ GE372.out) | exact HB.out)) hb)
                  clear HO_9
                  clear HO_30
                  clear HO_79
                  clear HO_373000
                  clear HO_373001
                  clear BK362
                  clear BK372
                  clear HB
                  have HO_9 := n0_
                  have HO_30 := n1_
                  have HO_79 := n2_
                  have HO_373000 := n3_
                  have HO_373001 := n4_
                  have BK362 := n5_
                  have BK372 := n6_
                  have HB := n7_
                  clear n0_ n1_ n2_ n3_ n4_ n5_ n6_ n7_
                  (try clear hb)
                  (try clear hb2)
                  (try clear hk)
                  (try clear hi)
                  refine hK.out _ _ ⟨(blk_cell BK372.out 0).trans rfl, (blk_cell BK372.out 1).trans rfl⟩ (fun hHeld => ?_)
                  clear hK K
                  refine norm_ (a' := ?_) ?_ ?_
                  rotate_left
                  ·show Act.put _ (some 87) _ = _
                   simp only [Act.put, List.setIfInBounds_toArray, List.set_cons_zero, List.set_cons_succ, i64_w, i32_w]
                   rfl
                  refine one_ (i := 5) (N := some 90) (bs 7 63) rfl rfl (by kernel_rfl) (by decide) (fun K hK => ?_)
                  refine goes_ Tryd.func17 (by kernel_rfl) rfl #[.agg #[.slice Ao23 t366.length co23, .slice Ao26 t369.length co26], .string (rdOf ByteArray.empty y380 x81_4)] (by rfl) rfl rfl (by (try simp only [List.map_toArray, List.map_cons, List.map_nil]); first | done | rfl | (simp only [List.length_drop, List.length_take]; rfl)) ?_
                  with_reducible refine (redpenref15_Rules_Knows.calls k4 _ _ t366 _ _ t369 (rdOf ByteArray.empty y380 x81_4) t385 _ ?side1 ?side2 ?side3 ?side4 A50.out).mono ?_
                  (case side1 => repeat (first | exact (Kd.R_reads' HO_373000.out).2.2 | (with_reducible refine Kd.C_alloc ?_ _) | (with_reducible refine Kd.C_drewN ?_ _) | (with_reducible refine Kd.C_drew ?_)))
                  (case side2 => exact (Kd.R_reads' HO_373000.out).2.1)
                  (case side3 => repeat (first | exact (Kd.R_reads' HO_373001.out).2.2 | (with_reducible refine Kd.C_alloc ?_ _) | (with_reducible refine Kd.C_drewN ?_ _) | (with_reducible refine Kd.C_drew ?_)))
                  (case side4 => exact (Kd.R_reads' HO_373001.out).2.1)
                  rintro e w54 ⟨rfl, hb⟩
                  refine ⟨_, rfl, ?_⟩
                  have n0_ := Aside0.mk (Kd.P_below (by (with_reducible repeat (first | apply Kd.P_alloc | apply Kd.P_drewN | apply Kd.P_drew)); exact HO_9.out) hb)
                  have n1_ := Aside0.mk (Kd.R_below (by (with_reducible repeat (first | apply Kd.R_alloc | apply Kd.R_drewN | apply Kd.R_drew)); exact HO_30.out) hb)
                  have n2_ := Aside0.mk (Kd.R_below (by (with_reducible repeat (first | apply Kd.R_alloc | apply Kd.R_drewN | apply Kd.R_drew)); exact HO_79.out) hb)
                  have n3_ := Aside0.mk (Kd.R_below (by (with_reducible repeat (first | apply Kd.R_alloc | apply Kd.R_drewN | apply Kd.R_drew)); exact HO_373000.out) hb)
                  have n4_ := Aside0.mk (Kd.R_below (by (with_reducible repeat (first | apply Kd.R_alloc | apply Kd.R_drewN | apply Kd.R_drew)); exact HO_373001.out) hb)
                  have n5_ := Aside0.mk (blk_below (g := gb362) (o := .cells CS31 22 (0, 0)) (by (with_reducible repeat (first | refine blk_drewN ?_ _ | refine blk_drew ?_ | refine blk_alloc ?_ _)); exact BK362.out) hb)
                  have n6_ := Aside0.mk (blk_below (g := gb372) (o := .cells #[.slice Ao23 t366.length co23, .slice Ao26 t369.length co26] 37 (0, 0)) (by (with_reducible repeat (first | refine blk_drewN ?_ _ | refine blk_drew ?_ | refine blk_alloc ?_ _)); exact BK372.out) hb)
                  have n7_ := Aside0.mk (below_step (by repeat (first | (with_reducible first | exact HB.out | apply below_alloc | apply pw_below_drewN | apply below_drew1 | refine below_set ?_ GE362.out | refine below_set ?_ GE372.out) | exact HB.out)) hb)
                  clear HO_9
                  clear HO_30
                  clear HO_79
                  clear HO_373000
                  clear HO_373001
                  clear BK362
                  clear BK372
                  clear HB
                  have HO_9 := n0_
                  have HO_30 := n1_
                  have HO_79 := n2_
                  have HO_373000 := n3_
                  have HO_373001 := n4_
                  have BK362 := n5_
                  have BK372 := n6_
                  have HB := n7_
                  clear n0_ n1_ n2_ n3_ n4_ n5_ n6_ n7_
                  (try clear hb)
                  (try clear hb2)
                  (try clear hk)
                  (try clear hi)
                  refine hK.out _ _ ⟨(blk_cell BK372.out 0).trans rfl, (blk_cell BK372.out 1).trans rfl⟩ (fun hHeld => ?_)
                  clear hK K
                  refine norm_ (a' := ?_) ?_ ?_
                  rotate_left
                  ·show Act.put _ (some 90) _ = _
                   simp only [Act.put, List.setIfInBounds_toArray, List.set_cons_zero, List.set_cons_succ, i64_w, i32_w]
                   rfl
                  refine pure_ (i := 6) (N := some 91) (v := ?_) (a' := ?_) (bs 7 127) rfl rfl (by kernel_rfl) (fun _ _ _ h => h) (Or.inl ⟨by rfl, ?_⟩) ?_ ?_; rotate_left; (· intro w'; go_simp; with_reducible rfl); rotate_left; (· simp only [Act.put, sit, scz, scs, i64_w, i32_w]; rfl)
                  refine done_ (by kernel_rfl) ?_
                  try go_wp2
                  go_roundg k4
                  case measure => have := HJ5.out; have := HK2.out; have := HK3.out; have := HK4.out; omega
                  case rel => exact ⟨(wrap64 (x81_4 + 1)), (by first | rfl | (simp; done) | (simp [*]; done) | (simp [wrap64, wrap32]; done)), H', ⟨by have := HJ5.out; have := HK2.out; have := HK3.out; have := HK4.out; omega⟩, ⟨by (with_reducible repeat (first | apply Kd.P_alloc | apply Kd.P_drewN | apply Kd.P_drew)); exact HO_9.out⟩, ⟨by (with_reducible repeat (first | apply Kd.R_alloc | apply Kd.R_drewN | apply Kd.R_drew)); exact HO_30.out⟩, ⟨by (with_reducible repeat (first | apply Kd.R_alloc | apply Kd.R_drewN | apply Kd.R_drew)); exact HO_79.out⟩, ⟨by (with_reducible repeat (first | apply Kd.R_alloc | apply Kd.R_drewN | apply Kd.R_drew)); exact HO_373000.out⟩, ⟨by (with_reducible repeat (first | apply Kd.R_alloc | apply Kd.R_drewN | apply Kd.R_drew)); exact HO_373001.out⟩, ⟨by (with_reducible repeat (first | refine blk_drewN ?_ _ | refine blk_drew ?_ | refine blk_alloc ?_ _)); exact BK362.out⟩, ⟨by (with_reducible repeat (first | refine blk_drewN ?_ _ | refine blk_drew ?_ | refine blk_alloc ?_ _)); exact BK372.out⟩, ⟨by repeat (first | (with_reducible first | exact HB.out | apply below_alloc | apply pw_below_drewN | apply below_drew1 | refine below_set ?_ GE362.out | refine below_set ?_ GE372.out) | exact HB.out)⟩⟩
                ·rw [if_neg c48] at H
                 exact absurd H (by simp)
               ·rw [if_neg c47] at H
                exact absurd H (by simp)
              ·rw [if_neg c46] at H
               have c46b0 : decide (x81_4 < (y380.length : Int)) = false := decide_eq_false c46
               clear c46
               replace H := Option.bind_eq_some_iff.mp H
               obtain ⟨t386, A550, H⟩ := H
               replace H : ((redpenref15_Read.f k4 t359).bind fun bt389 => ((pragma_Rules_Spans.f t386).bind fun t396 => (if (t396.length : Int) = (bt389.1.length : Int) then (redpenlaw17_PragmaReads.l3 k4 a2 t359 t386 t396 (t396.length : Int) 0 bt389.1 bt389.2) else (some false)))) = some r := H
               have A55 := Aside0.mk A550
               clear A550
               replace H := Option.bind_eq_some_iff.mp H
               obtain ⟨⟨t389, t392⟩, A560, H⟩ := H
               replace H : ((pragma_Rules_Spans.f t386).bind fun t396 => (if (t396.length : Int) = (t389.length : Int) then (redpenlaw17_PragmaReads.l3 k4 a2 t359 t386 t396 (t396.length : Int) 0 t389 t392) else (some false))) = some r := H
               have A56 := Aside0.mk A560
               clear A560
               replace H := Option.bind_eq_some_iff.mp H
               obtain ⟨t396, A570, H⟩ := H
               replace H : (if (t396.length : Int) = (t389.length : Int) then (redpenlaw17_PragmaReads.l3 k4 a2 t359 t386 t396 (t396.length : Int) 0 t389 t392) else (some false)) = some r := H
               have A57 := Aside0.mk A570
               clear A570
               by_cases c58 : (t396.length : Int) = (t389.length : Int)
               ·rw [if_pos c58] at H
                have c58b0 : ((t396.length : Int) == (t389.length : Int)) = true := beq_iff_eq.mpr c58
                have c58b1 : ((t396.length : Int) != (t389.length : Int)) = false := bne_eq_false_iff_eq.mpr c58
                have c58b2 : (t396.length == t389.length) = true := by first | simpa using c58 | (simp at c58 ⊢; omega)
                clear c58
                have H' := Aside0.mk H
                clear H
                have hnb59 := NB362_372.out
                have hnc59 := NB372_362.out
                have hcz60_0 : wr.cell? ⟨gb362, 0, none⟩ = some (Value.slice A0 l0.length c0) := (blk_cell BK362.out 0).trans (by rw [hCS31] <;> rfl)
                have hcz60_1 : wr.cell? ⟨gb362, 1, none⟩ = some (Value.slice Ao61 t359.length co61) := (blk_cell BK362.out 1).trans (by rw [hCS31] <;> rfl)
                have hfz60_0 := blk_frozen BK362.out 0
                have hfz60_1 := blk_frozen BK362.out 1
                go_wp2
                rw [rounds_succ]
                have hrow1 := ((blk_cell BK362.out 1).trans (by rw [hCS31] <;> rfl) : _ = some (Value.slice Ao61 t359.length co61))
                go_wp2_with (first | ((with_reducible refine gate_callee (f := 9) rfl ?_); refine goesL_ (some 38) rfl rfl Tryd.func9 (by kernel_rfl) rfl #[.slice Ao61 t359.length co61] rfl (by (try simp only [List.map_toArray, List.map_cons, List.map_nil]); first | done | rfl | (simp only [List.length_drop, List.length_take]; rfl)) ?_; (with_reducible refine (pragma_Read.calls k4 _ _ t359 t386 _ ?side1 ?side2 A55.out ?sideL).mono ?_); (case sideL => first | exact HL.out | exact HL.out.below HB.out | exact HL.out.below (by repeat (first | (with_reducible first | exact HB.out | apply below_alloc | apply pw_below_drewN | apply below_drew1 | refine below_set ?_ (Aside0.out (by assumption))) | exact HB.out))); (case side1 => repeat (first | exact (Kd.R_reads' HO_30.out).2.2 | (with_reducible refine Kd.C_alloc ?_ _) | (with_reducible refine Kd.C_drewN ?_ _) | (with_reducible refine Kd.C_drew ?_))); (case side2 => exact (Kd.R_reads' HO_30.out).2.1); rintro e w62 ⟨v387, rfl, ho0, hb⟩; refine ⟨_, rfl, ?_⟩; have n0_ := Aside0.mk (Kd.P_below (by (with_reducible repeat (first | apply Kd.P_alloc | apply Kd.P_drewN | apply Kd.P_drew)); exact HO_9.out) hb); have n1_ := Aside0.mk (Kd.R_below (by (with_reducible repeat (first | apply Kd.R_alloc | apply Kd.R_drewN | apply Kd.R_drew)); exact HO_30.out) hb); have n2_ := Aside0.mk (Kd.R_below (by (with_reducible repeat (first | apply Kd.R_alloc | apply Kd.R_drewN | apply Kd.R_drew)); exact HO_79.out) hb); have n3_ := Aside0.mk (Kd.R_below (by (with_reducible repeat (first | apply Kd.R_alloc | apply Kd.R_drewN | apply Kd.R_drew)); exact HO_373000.out) hb); have n4_ := Aside0.mk (Kd.R_below (by (with_reducible repeat (first | apply Kd.R_alloc | apply Kd.R_drewN | apply Kd.R_drew)); exact HO_373001.out) hb); have n5_ := Aside0.mk (Kd.P_lower (Kd.P_mono (ok' := fun k_ => some k_ ≠ (.slice Ao61 t359.length co61 : Value).ownBlock ∧ some k_ ≠ (.slice Ao45 y380.length co45 : Value).ownBlock ∧ some k_ ≠ (.slice Ao23 t366.length co23 : Value).ownBlock ∧ some k_ ≠ (.slice Ao26 t369.length co26 : Value).ownBlock ∧ k_ ≠ gb362 ∧ k_ ≠ gb372) ho0 (fun k_ hk_ => ⟨(Kd.fresh' (Kd.R_lt (by (with_reducible repeat (first | apply Kd.R_alloc | apply Kd.R_drewN | apply Kd.R_drew)); exact HO_30.out)) k_ hk_), (Kd.fresh' (Kd.R_lt (by (with_reducible repeat (first | apply Kd.R_alloc | apply Kd.R_drewN | apply Kd.R_drew)); exact HO_79.out)) k_ hk_), (Kd.fresh' (Kd.R_lt (by (with_reducible repeat (first | apply Kd.R_alloc | apply Kd.R_drewN | apply Kd.R_drew)); exact HO_373000.out)) k_ hk_), (Kd.fresh' (Kd.R_lt (by (with_reducible repeat (first | apply Kd.R_alloc | apply Kd.R_drewN | apply Kd.R_drew)); exact HO_373001.out)) k_ hk_), (Kd.freshB (g := gb362) (o := .cells CS31 22 (0, 0)) (by (with_reducible repeat (first | refine blk_drewN ?_ _ | refine blk_drew ?_ | refine blk_alloc ?_ _)); exact BK362.out) k_ hk_), (Kd.freshB (g := gb372) (o := .cells #[.slice Ao23 t366.length co23, .slice Ao26 t369.length co26] 37 (0, 0)) (by (with_reducible repeat (first | refine blk_drewN ?_ _ | refine blk_drew ?_ | refine blk_alloc ?_ _)); exact BK372.out) k_ hk_)⟩)) (below_size (by repeat (first | (with_reducible first | exact HB.out | apply below_alloc | apply pw_below_drewN | apply below_drew1 | refine below_set ?_ GE362.out | refine below_set ?_ GE372.out) | exact HB.out)))); have n6_ := Aside0.mk (blk_below (g := gb362) (o := .cells CS31 22 (0, 0)) (by (with_reducible repeat (first | refine blk_drewN ?_ _ | refine blk_drew ?_ | refine blk_alloc ?_ _)); exact BK362.out) hb); have n7_ := Aside0.mk (blk_below (g := gb372) (o := .cells #[.slice Ao23 t366.length co23, .slice Ao26 t369.length co26] 37 (0, 0)) (by (with_reducible repeat (first | refine blk_drewN ?_ _ | refine blk_drew ?_ | refine blk_alloc ?_ _)); exact BK372.out) hb); have n8_ := Aside0.mk (below_step (by repeat (first | (with_reducible first | exact HB.out | apply below_alloc | apply pw_below_drewN | apply below_drew1 | refine below_set ?_ GE362.out | refine below_set ?_ GE372.out) | exact HB.out)) hb); clear HO_9; clear HO_30; clear HO_79; clear HO_373000; clear HO_373001; clear BK362; clear BK372; clear HB; have HO_9 := n0_; have HO_30 := n1_; have HO_79 := n2_; have HO_373000 := n3_; have HO_373001 := n4_; have HO388 := n5_; have BK362 := n6_; have BK372 := n7_; have HB := n8_; clear n0_ n1_ n2_ n3_ n4_ n5_ n6_ n7_ n8_; (try clear hb); (try clear hb2); (try clear hk); (try clear hi); (try clear ho0)) | ((with_reducible refine gate_callee (f := 14) rfl ?_); refine goesL_ (some 40) rfl rfl Tryd.func14 (by kernel_rfl) rfl #[.slice Ao61 t359.length co61] rfl (by (try simp only [List.map_toArray, List.map_cons, List.map_nil]); first | done | rfl | (simp only [List.length_drop, List.length_take]; rfl)) ?_; (with_reducible refine (redpenref15_Read.calls k4 _ _ t359 t389 t392 _ ?side1 ?side2 A56.out).mono ?_); (case side1 => repeat (first | exact (Kd.R_reads' HO_30.out).2.2 | (with_reducible refine Kd.C_alloc ?_ _) | (with_reducible refine Kd.C_drewN ?_ _) | (with_reducible refine Kd.C_drew ?_))); (case side2 => exact (Kd.R_reads' HO_30.out).2.1); rintro e w63 ⟨v390, v393, rfl, ho0, ho1, hb⟩; refine ⟨_, rfl, ?_⟩; have n0_ := Aside0.mk (Kd.P_mono (Kd.P_told (Kd.P_told (Kd.P_old (by (with_reducible repeat (first | apply Kd.P_alloc | apply Kd.P_drewN | apply Kd.P_drew)); exact HO_9.out) hb) (Kd.R_base ho0)) (Kd.R_base ho1)) (fun _ h_ => h_.1)); have n1_ := Aside0.mk (Kd.R_below (by (with_reducible repeat (first | apply Kd.R_alloc | apply Kd.R_drewN | apply Kd.R_drew)); exact HO_30.out) hb); have n2_ := Aside0.mk (Kd.R_elder' (by (with_reducible repeat (first | apply Kd.R_alloc | apply Kd.R_drewN | apply Kd.R_drew)); exact HO_79.out) (Kd.R_base ho1) hb); have n3_ := Aside0.mk (Kd.R_elder' (by (with_reducible repeat (first | apply Kd.R_alloc | apply Kd.R_drewN | apply Kd.R_drew)); exact HO_373000.out) (Kd.R_base ho0) hb); have n4_ := Aside0.mk (Kd.R_elder' (by (with_reducible repeat (first | apply Kd.R_alloc | apply Kd.R_drewN | apply Kd.R_drew)); exact HO_373001.out) (Kd.R_base ho1) hb); have n5_ := Aside0.mk (Kd.P_mono (Kd.P_told (Kd.P_told (Kd.P_old (by (with_reducible repeat (first | apply Kd.P_alloc | apply Kd.P_drewN | apply Kd.P_drew)); exact HO388.out) hb) (Kd.R_base ho0)) (Kd.R_base ho1)) (fun _ h_ => h_.1)); have n6_ := Aside0.mk (Kd.R_lower (Kd.R_new' ho0 (Kd.R_lt (by (with_reducible repeat (first | apply Kd.R_alloc | apply Kd.R_drewN | apply Kd.R_drew)); exact HO_373000.out))) (below_size (by repeat (first | (with_reducible first | exact HB.out | apply below_alloc | apply pw_below_drewN | apply below_drew1 | refine below_set ?_ GE362.out | refine below_set ?_ GE372.out) | exact HB.out)))); have n7_ := Aside0.mk (Kd.R_lower (Kd.R_new' (Kd.R_new' ho1 (Kd.R_lt (by (with_reducible repeat (first | apply Kd.R_alloc | apply Kd.R_drewN | apply Kd.R_drew)); exact HO_79.out))) (Kd.R_lt (by (with_reducible repeat (first | apply Kd.R_alloc | apply Kd.R_drewN | apply Kd.R_drew)); exact HO_373001.out))) (below_size (by repeat (first | (with_reducible first | exact HB.out | apply below_alloc | apply pw_below_drewN | apply below_drew1 | refine below_set ?_ GE362.out | refine below_set ?_ GE372.out) | exact HB.out)))); have n8_ := Aside0.mk (blk_below (g := gb362) (o := .cells CS31 22 (0, 0)) (by (with_reducible repeat (first | refine blk_drewN ?_ _ | refine blk_drew ?_ | refine blk_alloc ?_ _)); exact BK362.out) hb); have n9_ := Aside0.mk (blk_below (g := gb372) (o := .cells #[.slice Ao23 t366.length co23, .slice Ao26 t369.length co26] 37 (0, 0)) (by (with_reducible repeat (first | refine blk_drewN ?_ _ | refine blk_drew ?_ | refine blk_alloc ?_ _)); exact BK372.out) hb); have n10_ := Aside0.mk (below_step (by repeat (first | (with_reducible first | exact HB.out | apply below_alloc | apply pw_below_drewN | apply below_drew1 | refine below_set ?_ GE362.out | refine below_set ?_ GE372.out) | exact HB.out)) hb); clear HO_9; clear HO_30; clear HO_79; clear HO_373000; clear HO_373001; clear HO388; clear BK362; clear BK372; clear HB; have HO_9 := n0_; have HO_30 := n1_; have HO_79 := n2_; have HO_373000 := n3_; have HO_373001 := n4_; have HO388 := n5_; have HO391 := n6_; have HO394 := n7_; have BK362 := n8_; have BK372 := n9_; have HB := n10_; clear n0_ n1_ n2_ n3_ n4_ n5_ n6_ n7_ n8_ n9_ n10_; (try clear hb); (try clear hb2); (try clear hk); (try clear hi); (try clear ho0); (try clear ho1)) | ((with_reducible refine gate_dst (N := 10) rfl ?_); (try (refine gate_guard (by rfl) ?_; dsimp only)); refine box_event ?hg (N := 10) ?hd (cs := #[.slice none 0 0, .slice none 0 0]) (t := 37) ?hr ?_; (case hd => rfl); (case hg => rfl); (case hr => first | (go_simp; done) | (go_simp; rfl)); intro gb395 hg w64 hbox hb; have n0_ := Aside0.mk (Kd.P_below (Kd.P_elderB (by (with_reducible repeat (first | apply Kd.P_alloc | apply Kd.P_drewN | apply Kd.P_drew)); exact HO_9.out) gb395 (Nat.le_of_eq hg.symm)) hb); have n1_ := Aside0.mk (Kd.R_below (by (with_reducible repeat (first | apply Kd.R_alloc | apply Kd.R_drewN | apply Kd.R_drew)); exact HO_30.out) hb); have n2_ := Aside0.mk (Kd.R_below (by (with_reducible repeat (first | apply Kd.R_alloc | apply Kd.R_drewN | apply Kd.R_drew)); exact HO_79.out) hb); have n3_ := Aside0.mk (Kd.R_below (by (with_reducible repeat (first | apply Kd.R_alloc | apply Kd.R_drewN | apply Kd.R_drew)); exact HO_373000.out) hb); have n4_ := Aside0.mk (Kd.R_below (by (with_reducible repeat (first | apply Kd.R_alloc | apply Kd.R_drewN | apply Kd.R_drew)); exact HO_373001.out) hb); have n5_ := Aside0.mk (Kd.P_below (Kd.P_elderB (by (with_reducible repeat (first | apply Kd.P_alloc | apply Kd.P_drewN | apply Kd.P_drew)); exact HO388.out) gb395 (Nat.le_of_eq hg.symm)) hb); have n6_ := Aside0.mk (Kd.R_below (by (with_reducible repeat (first | apply Kd.R_alloc | apply Kd.R_drewN | apply Kd.R_drew)); exact HO391.out) hb); have n7_ := Aside0.mk (Kd.R_below (by (with_reducible repeat (first | apply Kd.R_alloc | apply Kd.R_drewN | apply Kd.R_drew)); exact HO394.out) hb); have n8_ := Aside0.mk (blk_below (g := gb362) (o := .cells CS31 22 (0, 0)) (by (with_reducible repeat (first | refine blk_drewN ?_ _ | refine blk_drew ?_ | refine blk_alloc ?_ _)); exact BK362.out) hb); have n9_ := Aside0.mk (blk_below (g := gb372) (o := .cells #[.slice Ao23 t366.length co23, .slice Ao26 t369.length co26] 37 (0, 0)) (by (with_reducible repeat (first | refine blk_drewN ?_ _ | refine blk_drew ?_ | refine blk_alloc ?_ _)); exact BK372.out) hb); have n10_ := Aside0.mk (below_step (by repeat (first | (with_reducible first | exact HB.out | apply below_alloc | apply pw_below_drewN | apply below_drew1 | refine below_set ?_ GE362.out | refine below_set ?_ GE372.out) | exact HB.out)) hb); have n11_ := Aside0.mk (hbox); have n12_ := Aside0.mk ((by rw [hg]; exact (below_size (by repeat (first | (with_reducible first | exact HB.out | apply below_alloc | apply pw_below_drewN | apply below_drew1 | refine below_set ?_ GE362.out | refine below_set ?_ GE372.out) | exact HB.out))) : w.heap.size ≤ gb395)); have n13_ := Aside0.mk ((by rw [hg]; exact (below_size (by repeat (first | (with_reducible first | exact HB.out | apply below_alloc | apply pw_below_drewN | apply below_drew1 | refine below_set ?_ GE362.out | refine below_set ?_ GE372.out) | exact HB.out))) : w.heap.size ≤ gb395)); have n14_ := Aside0.mk ((by rw [hg]; exact Nat.ne_of_lt (blk_lt (g := gb362) (o := .cells CS31 22 (0, 0)) (by (with_reducible repeat (first | refine blk_drewN ?_ _ | refine blk_drew ?_ | refine blk_alloc ?_ _)); exact BK362.out)) : gb362 ≠ gb395)); have n15_ := Aside0.mk ((by rw [hg]; exact Nat.ne_of_gt (blk_lt (g := gb362) (o := .cells CS31 22 (0, 0)) (by (with_reducible repeat (first | refine blk_drewN ?_ _ | refine blk_drew ?_ | refine blk_alloc ?_ _)); exact BK362.out)) : gb395 ≠ gb362)); have n16_ := Aside0.mk ((by rw [hg]; exact Nat.ne_of_lt (blk_lt (g := gb372) (o := .cells #[.slice Ao23 t366.length co23, .slice Ao26 t369.length co26] 37 (0, 0)) (by (with_reducible repeat (first | refine blk_drewN ?_ _ | refine blk_drew ?_ | refine blk_alloc ?_ _)); exact BK372.out)) : gb372 ≠ gb395)); have n17_ := Aside0.mk ((by rw [hg]; exact Nat.ne_of_gt (blk_lt (g := gb372) (o := .cells #[.slice Ao23 t366.length co23, .slice Ao26 t369.length co26] 37 (0, 0)) (by (with_reducible repeat (first | refine blk_drewN ?_ _ | refine blk_drew ?_ | refine blk_alloc ?_ _)); exact BK372.out)) : gb395 ≠ gb372)); clear HO_9; clear HO_30; clear HO_79; clear HO_373000; clear HO_373001; clear HO388; clear HO391; clear HO394; clear BK362; clear BK372; clear HB; have HO_9 := n0_; have HO_30 := n1_; have HO_79 := n2_; have HO_373000 := n3_; have HO_373001 := n4_; have HO388 := n5_; have HO391 := n6_; have HO394 := n7_; have BK362 := n8_; have BK372 := n9_; have HB := n10_; have BK395 := n11_; have GW395 := n12_; have GE395 := n13_; have NB362_395 := n14_; have NB395_362 := n15_; have NB372_395 := n16_; have NB395_372 := n17_; clear n0_ n1_ n2_ n3_ n4_ n5_ n6_ n7_ n8_ n9_ n10_ n11_ n12_ n13_ n14_ n15_ n16_ n17_; clear hb hbox hg; obtain ⟨Ao65, co65, eo65⟩ := Kd.R_slice HO391.out; subst eo65; have hnb66 := NB395_362.out; have hnc66 := NB362_395.out; have hnb67 := NB395_372.out; have hnc67 := NB372_395.out; have hcz68_0 : w64.cell? ⟨gb395, 0, none⟩ = some (.slice none 0 0) := (blk_cell BK395.out 0).trans rfl; have hcz68_1 : w64.cell? ⟨gb395, 1, none⟩ = some (.slice none 0 0) := (blk_cell BK395.out 1).trans rfl; have hfz68_0 := blk_frozen BK395.out 0; have hfz68_1 := blk_frozen BK395.out 1; obtain ⟨Ao69, co69, eo69⟩ := Kd.R_slice HO394.out; subst eo69) | ((with_reducible refine gate_callee (f := 11) rfl ?_); refine goesL_ (some 42) rfl rfl Tryd.func11 (by kernel_rfl) rfl #[v387] rfl (by (try simp only [List.map_toArray, List.map_cons, List.map_nil]); first | done | rfl | (simp only [List.length_drop, List.length_take]; rfl)) ?_; (with_reducible refine (pragma_Rules_Spans.calls _ t386 t396 _ ?side1 A57.out).mono ?_); (case side1 => exact Kd.P_now (by (with_reducible repeat (first | apply Kd.P_alloc | apply Kd.P_drewN | apply Kd.P_drew)); exact (Kd.P_far (p := ⟨gb395, 1, none⟩) (Kd.P_far (p := ⟨gb395, 0, none⟩) (Kd.P_mono HO388.out (fun k_ hk => (⟨hk, hk.2⟩ : _ ∧ k_ ≠ gb395))) (fun _ hk => hk.2) (.slice Ao65 t389.length co65)) (fun _ hk => hk.2) (.slice Ao69 t392.length co69)))); rintro e w70 ⟨v397, rfl, ho0, hb⟩; refine ⟨_, rfl, ?_⟩; have n0_ := Aside0.mk (Kd.P_elder' (by (with_reducible repeat (first | apply Kd.P_alloc | apply Kd.P_drewN | apply Kd.P_drew)); exact (Kd.P_mono (Kd.P_far (p := ⟨gb395, 1, none⟩) (Kd.P_far (p := ⟨gb395, 0, none⟩) (Kd.P_mono HO_9.out (fun k_ hk => (⟨hk, hk.2⟩ : _ ∧ k_ ≠ gb395))) (fun _ hk => hk.2) (.slice Ao65 t389.length co65)) (fun _ hk => hk.2) (.slice Ao69 t392.length co69)) (fun _ h_ => h_.1))) (Kd.R_base ho0) hb); have n1_ := Aside0.mk (Kd.R_below (by (with_reducible repeat (first | apply Kd.R_alloc | apply Kd.R_drewN | apply Kd.R_drew)); exact (Kd.R_mono (Kd.R_far (p := ⟨gb395, 1, none⟩) (Kd.R_far (p := ⟨gb395, 0, none⟩) (Kd.R_types HO_30.out BK395.out (by decide)) (fun _ hk => hk.2) (.slice Ao65 t389.length co65)) (fun _ hk => hk.2) (.slice Ao69 t392.length co69)) (fun _ h_ => h_.1))) hb); have n2_ := Aside0.mk (Kd.R_below (by (with_reducible repeat (first | apply Kd.R_alloc | apply Kd.R_drewN | apply Kd.R_drew)); exact (Kd.R_mono (Kd.R_far (p := ⟨gb395, 1, none⟩) (Kd.R_far (p := ⟨gb395, 0, none⟩) (Kd.R_types HO_79.out BK395.out (by decide)) (fun _ hk => hk.2) (.slice Ao65 t389.length co65)) (fun _ hk => hk.2) (.slice Ao69 t392.length co69)) (fun _ h_ => h_.1))) hb); have n3_ := Aside0.mk (Kd.R_elder' (by (with_reducible repeat (first | apply Kd.R_alloc | apply Kd.R_drewN | apply Kd.R_drew)); exact (Kd.R_mono (Kd.R_far (p := ⟨gb395, 1, none⟩) (Kd.R_far (p := ⟨gb395, 0, none⟩) (Kd.R_types HO_373000.out BK395.out (by decide)) (fun _ hk => hk.2) (.slice Ao65 t389.length co65)) (fun _ hk => hk.2) (.slice Ao69 t392.length co69)) (fun _ h_ => h_.1))) (Kd.R_base ho0) hb); have n4_ := Aside0.mk (Kd.R_below (by (with_reducible repeat (first | apply Kd.R_alloc | apply Kd.R_drewN | apply Kd.R_drew)); exact (Kd.R_mono (Kd.R_far (p := ⟨gb395, 1, none⟩) (Kd.R_far (p := ⟨gb395, 0, none⟩) (Kd.R_types HO_373001.out BK395.out (by decide)) (fun _ hk => hk.2) (.slice Ao65 t389.length co65)) (fun _ hk => hk.2) (.slice Ao69 t392.length co69)) (fun _ h_ => h_.1))) hb); have n5_ := Aside0.mk (Kd.P_elder' (by (with_reducible repeat (first | apply Kd.P_alloc | apply Kd.P_drewN | apply Kd.P_drew)); exact (Kd.P_mono (Kd.P_far (p := ⟨gb395, 1, none⟩) (Kd.P_far (p := ⟨gb395, 0, none⟩) (Kd.P_mono HO388.out (fun k_ hk => (⟨hk, hk.2⟩ : _ ∧ k_ ≠ gb395))) (fun _ hk => hk.2) (.slice Ao65 t389.length co65)) (fun _ hk => hk.2) (.slice Ao69 t392.length co69)) (fun _ h_ => h_.1))) (Kd.R_base ho0) hb); have n6_ := Aside0.mk (Kd.R_elder' (by (with_reducible repeat (first | apply Kd.R_alloc | apply Kd.R_drewN | apply Kd.R_drew)); exact (Kd.R_mono (Kd.R_far (p := ⟨gb395, 1, none⟩) (Kd.R_far (p := ⟨gb395, 0, none⟩) (Kd.R_types HO391.out BK395.out (by decide)) (fun _ hk => hk.2) (.slice Ao65 t389.length co65)) (fun _ hk => hk.2) (.slice Ao69 t392.length co69)) (fun _ h_ => h_.1))) (Kd.R_base ho0) hb); have n7_ := Aside0.mk (Kd.R_below (by (with_reducible repeat (first | apply Kd.R_alloc | apply Kd.R_drewN | apply Kd.R_drew)); exact (Kd.R_mono (Kd.R_far (p := ⟨gb395, 1, none⟩) (Kd.R_far (p := ⟨gb395, 0, none⟩) (Kd.R_types HO394.out BK395.out (by decide)) (fun _ hk => hk.2) (.slice Ao65 t389.length co65)) (fun _ hk => hk.2) (.slice Ao69 t392.length co69)) (fun _ h_ => h_.1))) hb); have n8_ := Aside0.mk (Kd.R_lower (Kd.R_new' (Kd.R_new' ho0 (Kd.R_lt (by (with_reducible repeat (first | apply Kd.R_alloc | apply Kd.R_drewN | apply Kd.R_drew)); exact (Kd.R_mono (Kd.R_far (p := ⟨gb395, 1, none⟩) (Kd.R_far (p := ⟨gb395, 0, none⟩) (Kd.R_types HO_373000.out BK395.out (by decide)) (fun _ hk => hk.2) (.slice Ao65 t389.length co65)) (fun _ hk => hk.2) (.slice Ao69 t392.length co69)) (fun _ h_ => h_.1))))) (Kd.R_lt (by (with_reducible repeat (first | apply Kd.R_alloc | apply Kd.R_drewN | apply Kd.R_drew)); exact (Kd.R_mono (Kd.R_far (p := ⟨gb395, 1, none⟩) (Kd.R_far (p := ⟨gb395, 0, none⟩) (Kd.R_types HO391.out BK395.out (by decide)) (fun _ hk => hk.2) (.slice Ao65 t389.length co65)) (fun _ hk => hk.2) (.slice Ao69 t392.length co69)) (fun _ h_ => h_.1))))) (below_size (by repeat (first | (with_reducible first | exact HB.out | apply below_alloc | apply pw_below_drewN | apply below_drew1 | refine below_set ?_ GE362.out | refine below_set ?_ GE372.out | refine below_set ?_ GE395.out) | exact HB.out)))); have n9_ := Aside0.mk (blk_below (g := gb362) (o := .cells CS31 22 (0, 0)) (by (with_reducible repeat (first | refine blk_drewN ?_ _ | refine blk_drew ?_ | refine blk_alloc ?_ _)); refine blk_far ?_ NB362_395.out _; (with_reducible repeat (first | refine blk_drewN ?_ _ | refine blk_drew ?_ | refine blk_alloc ?_ _)); refine blk_far ?_ NB362_395.out _; (with_reducible repeat (first | refine blk_drewN ?_ _ | refine blk_drew ?_ | refine blk_alloc ?_ _)); exact BK362.out) hb); have n10_ := Aside0.mk (blk_below (g := gb372) (o := .cells #[.slice Ao23 t366.length co23, .slice Ao26 t369.length co26] 37 (0, 0)) (by (with_reducible repeat (first | refine blk_drewN ?_ _ | refine blk_drew ?_ | refine blk_alloc ?_ _)); refine blk_far ?_ NB372_395.out _; (with_reducible repeat (first | refine blk_drewN ?_ _ | refine blk_drew ?_ | refine blk_alloc ?_ _)); refine blk_far ?_ NB372_395.out _; (with_reducible repeat (first | refine blk_drewN ?_ _ | refine blk_drew ?_ | refine blk_alloc ?_ _)); exact BK372.out) hb); have n11_ := Aside0.mk (blk_below (g := gb395) (o := .cells #[.slice Ao65 t389.length co65, .slice Ao69 t392.length co69] 37 (0, 0)) (by (with_reducible repeat (first | refine blk_drewN ?_ _ | refine blk_drew ?_ | refine blk_alloc ?_ _)); refine blk_put (cs := #[.slice Ao65 t389.length co65, .slice none 0 0]) ?_ 1 _ rfl; (with_reducible repeat (first | refine blk_drewN ?_ _ | refine blk_drew ?_ | refine blk_alloc ?_ _)); refine blk_put (cs := #[.slice none 0 0, .slice none 0 0]) ?_ 0 _ rfl; (with_reducible repeat (first | refine blk_drewN ?_ _ | refine blk_drew ?_ | refine blk_alloc ?_ _)); exact BK395.out) hb); have n12_ := Aside0.mk (below_step (by repeat (first | (with_reducible first | exact HB.out | apply below_alloc | apply pw_below_drewN | apply below_drew1 | refine below_set ?_ GE362.out | refine below_set ?_ GE372.out | refine below_set ?_ GE395.out) | exact HB.out)) hb); clear HO_9; clear HO_30; clear HO_79; clear HO_373000; clear HO_373001; clear HO388; clear HO391; clear HO394; clear BK362; clear BK372; clear BK395; clear HB; have HO_9 := n0_; have HO_30 := n1_; have HO_79 := n2_; have HO_373000 := n3_; have HO_373001 := n4_; have HO388 := n5_; have HO391 := n6_; have HO394 := n7_; have HO398 := n8_; have BK362 := n9_; have BK372 := n10_; have BK395 := n11_; have HB := n12_; clear n0_ n1_ n2_ n3_ n4_ n5_ n6_ n7_ n8_ n9_ n10_ n11_ n12_; (try clear hb); (try clear hb2); (try clear hk); (try clear hi); (try clear ho0); obtain ⟨Ao71, co71, eo71⟩ := Kd.R_slice HO398.out; subst eo71; have hcz72_0 : w70.cell? ⟨gb395, 0, none⟩ = some (.slice Ao65 t389.length co65) := (blk_cell BK395.out 0).trans rfl; have hcz72_1 : w70.cell? ⟨gb395, 1, none⟩ = some (.slice Ao69 t392.length co69) := (blk_cell BK395.out 1).trans rfl; have hfz72_0 := blk_frozen BK395.out 0; have hfz72_1 := blk_frozen BK395.out 1))
                go_loopg [51] k4 (fun kq v151 w' => ∃ (x151_5 : Int), v151 = .int .i64 x151_5 ∧ Aside0 (redpenlaw17_PragmaReads.l3 kq a2 t359 t386 t396 (t396.length : Int) x151_5 t389 t392 = some r) ∧ Aside0 (kq ≤ k4) ∧ Aside0 (Kd.R (Kd.int .u8) 5 w' w.heap.size (fun _ => True) (.slice Ao61 t359.length co61) t359) ∧ Aside0 (Kd.P Go.Proofs.YtkflgnhcfhmkdaaDoor.H.RlP 900026 w' w.heap.size (fun k_ => some k_ ≠ ((.slice Ao61 t359.length co61) : Value).ownBlock ∧ some k_ ≠ ((.slice Ao71 t396.length co71) : Value).ownBlock ∧ some k_ ≠ ((.slice Ao23 t366.length co23) : Value).ownBlock ∧ some k_ ≠ ((.slice Ao26 t369.length co26) : Value).ownBlock ∧ some k_ ≠ ((.slice Ao65 t389.length co65) : Value).ownBlock ∧ some k_ ≠ ((.slice Ao69 t392.length co69) : Value).ownBlock ∧ k_ ≠ gb362 ∧ k_ ≠ gb372 ∧ k_ ≠ gb395) v387 t386) ∧ Aside0 (Kd.R k40 40 w' w.heap.size (fun k_ => some k_ ≠ ((.slice Ao23 t366.length co23) : Value).ownBlock ∧ some k_ ≠ ((.slice Ao65 t389.length co65) : Value).ownBlock) (.slice Ao71 t396.length co71) t396) ∧ Aside0 (Kd.R k40 40 w' w.heap.size (fun k_ => some k_ ≠ ((.slice Ao71 t396.length co71) : Value).ownBlock ∧ some k_ ≠ ((.slice Ao65 t389.length co65) : Value).ownBlock) (.slice Ao23 t366.length co23) t366) ∧ Aside0 (Kd.R Kd.string 9 w' w.heap.size (fun k_ => some k_ ≠ ((.slice Ao69 t392.length co69) : Value).ownBlock) (.slice Ao26 t369.length co26) t369) ∧ Aside0 (Kd.R k40 40 w' w.heap.size (fun k_ => some k_ ≠ ((.slice Ao71 t396.length co71) : Value).ownBlock ∧ some k_ ≠ ((.slice Ao23 t366.length co23) : Value).ownBlock) (.slice Ao65 t389.length co65) t389) ∧ Aside0 (Kd.R Kd.string 9 w' w.heap.size (fun k_ => some k_ ≠ ((.slice Ao26 t369.length co26) : Value).ownBlock) (.slice Ao69 t392.length co69) t392) ∧ Aside0 (w'.heap[gb362]? = some (.cells CS31 22 (0, 0))) ∧ Aside0 (w'.heap[gb372]? = some (.cells #[(.slice Ao23 t366.length co23), (.slice Ao26 t369.length co26)] 37 (0, 0))) ∧ Aside0 (w'.heap[gb395]? = some (.cells #[(.slice Ao65 t389.length co65), (.slice Ao69 t392.length co69)] 37 (0, 0))) ∧ Aside0 (Below w.heap.size w w'))
                case atStart => exact ⟨(0), (by first | rfl | (simp; done) | (simp [*]; done) | (simp [wrap64, wrap32]; done)), H', ⟨Nat.le_refl _⟩, ⟨by (with_reducible repeat (first | apply Kd.R_alloc | apply Kd.R_drewN | apply Kd.R_drew)); exact HO_30.out⟩, ⟨by (with_reducible repeat (first | apply Kd.P_alloc | apply Kd.P_drewN | apply Kd.P_drew)); exact Kd.P_mono HO388.out (fun _ hk => ⟨hk.1.1.1.1.1, ⟨hk.2, ⟨hk.1.1.1.1.2.2.1, ⟨hk.1.1.1.1.2.2.2.1, ⟨hk.1.1.1.2, ⟨hk.1.1.2, ⟨hk.1.1.1.1.2.2.2.2.1, ⟨hk.1.1.1.1.2.2.2.2.2, hk.1.2⟩⟩⟩⟩⟩⟩⟩⟩)⟩, ⟨by (with_reducible repeat (first | apply Kd.R_alloc | apply Kd.R_drewN | apply Kd.R_drew)); exact Kd.R_mono HO398.out (fun _ hk => ⟨hk.1.2, hk.2⟩)⟩, ⟨by (with_reducible repeat (first | apply Kd.R_alloc | apply Kd.R_drewN | apply Kd.R_drew)); exact Kd.R_mono HO_373000.out (fun _ hk => ⟨hk.2, hk.1.2⟩)⟩, ⟨by (with_reducible repeat (first | apply Kd.R_alloc | apply Kd.R_drewN | apply Kd.R_drew)); exact Kd.R_mono HO_373001.out (fun _ hk => hk.2)⟩, ⟨by (with_reducible repeat (first | apply Kd.R_alloc | apply Kd.R_drewN | apply Kd.R_drew)); exact Kd.R_mono HO391.out (fun _ hk => ⟨hk.2, hk.1.2⟩)⟩, ⟨by (with_reducible repeat (first | apply Kd.R_alloc | apply Kd.R_drewN | apply Kd.R_drew)); exact Kd.R_mono HO394.out (fun _ hk => hk.2)⟩, ⟨by (with_reducible repeat (first | refine blk_drewN ?_ _ | refine blk_drew ?_ | refine blk_alloc ?_ _)); exact BK362.out⟩, ⟨by (with_reducible repeat (first | refine blk_drewN ?_ _ | refine blk_drew ?_ | refine blk_alloc ?_ _)); exact BK372.out⟩, ⟨by (with_reducible repeat (first | refine blk_drewN ?_ _ | refine blk_drew ?_ | refine blk_alloc ?_ _)); exact BK395.out⟩, ⟨by repeat (first | (with_reducible first | exact HB.out | apply below_alloc | apply pw_below_drewN | apply below_drew1 | refine below_set ?_ GE362.out | refine below_set ?_ GE372.out | refine below_set ?_ GE395.out) | exact HB.out)⟩⟩
                case round =>
                 clear H'
                 (try clear c1); (try clear c2); (try clear p2); (try clear c3); (try clear p3); (try clear q3); (try clear hx3); (try clear c4); (try clear c5); (try clear c6); (try clear p6); (try clear c8); (try clear c8b0); (try clear c8b1); (try clear c9); (try clear c10); (try clear c11); (try clear c12); (try clear c13); (try clear c14); (try clear c15); (try clear c15b0); (try clear c15b1); (try clear c15b2); (try clear c16); (try clear c17); (try clear c24); (try clear c30); (try clear c30b0); (try clear c31); (try clear c31b0); (try clear c32); (try clear c32b0); (try clear c33); (try clear c33b0); (try clear c34); (try clear c34b0); (try clear c36); (try clear c36b0); (try clear p37); (try clear q37); (try clear hx37); (try clear p38); (try clear q38); (try clear hx38); (try clear c39); (try clear c39b0); (try clear c39b1); (try clear c39b2); (try clear c46); (try clear c46b0); (try clear c47); (try clear c47b0); (try clear c48); (try clear c48b0); (try clear c51); (try clear c51b0); (try clear c51b1); (try clear c51b2); (try clear c58); (try clear c58b0); (try clear c58b1); (try clear c58b2); (try clear c59); (try clear p64); (try clear c66); (try clear c67); (try clear hcz25_0); (try clear hcz25_1); (try clear hcz29_0); (try clear hcz29_1); (try clear hcz60_0); (try clear hcz60_1); (try clear hcz68_0); (try clear hcz68_1); (try clear hcz72_0); (try clear hcz72_1); (try clear hfz25_0); (try clear hfz25_1); (try clear hfz29_0); (try clear hfz29_1); (try clear hfz60_0); (try clear hfz60_1); (try clear hfz68_0); (try clear hfz68_1); (try clear hfz72_0); (try clear hfz72_1); (try clear hx376_0); (try clear hx376_1); (try clear hx377_0); (try clear hx377_1); (try clear hx383_0); (try clear p2); (try clear p3); (try clear p37); (try clear p376); (try clear p377); (try clear p383); (try clear p6); (try clear q3); (try clear q37); (try clear q376); (try clear q377); (try clear q383)
                 obtain ⟨x151_5, rfl, HA, HK5, HO_108, HO_109, HO_111, HO_373000, HO_373001, HO_396000, HO_396001, BK362, BK372, BK395, HB⟩ := hrel
                 cases gk with
                 | zero => exact absurd HA.out (by simp [redpenlaw17_PragmaReads.l3])
                 | succ k5 =>
                  have H := HA.out
                  clear HA
                  simp only [redpenlaw17_PragmaReads.l3] at H
                  by_cases c73 : x151_5 < (t396.length : Int)
                  ·rw [if_pos c73] at H
                   have c73b0 : decide (x151_5 < (t396.length : Int)) = true := decide_eq_true c73
                   clear c73
                   by_cases c74 : 0 ≤ x151_5
                   ·rw [if_pos c74] at H
                    have c74b0 : decide (0 ≤ x151_5) = true := decide_eq_true c74
                    clear c74
                    by_cases c75 : x151_5 < (t396.length : Int)
                    ·rw [if_pos c75] at H
                     have c75b0 : decide (x151_5 < (t396.length : Int)) = true := decide_eq_true c75
                     clear c75
                     by_cases c76 : x151_5 < (t389.length : Int)
                     ·rw [if_pos c76] at H
                      have c76b0 : decide (x151_5 < (t389.length : Int)) = true := decide_eq_true c76
                      clear c76
                      by_cases c77 : (!(((rd_T40 t396 x151_5).f0) == ((rd_T40 t389 x151_5).f0)) || (!(((rd_T40 t396 x151_5).f1) == ((rd_T40 t389 x151_5).f1)))) = true
                      ·rw [if_pos c77] at H
                       have c77b0 : (!(((rd_T40 t396 x151_5).f0) == ((rd_T40 t389 x151_5).f0)) || (!(((rd_T40 t396 x151_5).f1) == ((rd_T40 t389 x151_5).f1)))) = true := c77
                       clear c77
                       have hf_ := Option.some.inj H
                       rw [hr_] at hf_
                       cases hf_
                      ·rw [if_neg c77] at H
                       have c77b0 : (!(((rd_T40 t396 x151_5).f0) == ((rd_T40 t389 x151_5).f0)) || (!(((rd_T40 t396 x151_5).f1) == ((rd_T40 t389 x151_5).f1)))) = false := by simpa using c77
                       clear c77
                       have H' := Aside0.mk H
                       clear H
                       try go_wp2
                       have n0_ := Aside0.mk (Kd.R_drew HO_108.out)
                       have n1_ := Aside0.mk (Kd.P_drew HO_109.out)
                       have n2_ := Aside0.mk (Kd.R_drew HO_111.out)
                       have n3_ := Aside0.mk (Kd.R_drew HO_373000.out)
                       have n4_ := Aside0.mk (Kd.R_drew HO_373001.out)
                       have n5_ := Aside0.mk (Kd.R_drew HO_396000.out)
                       have n6_ := Aside0.mk (Kd.R_drew HO_396001.out)
                       have n7_ := Aside0.mk (blk_drew BK362.out)
                       have n8_ := Aside0.mk (blk_drew BK372.out)
                       have n9_ := Aside0.mk (blk_drew BK395.out)
                       have n10_ := Aside0.mk (below_drew1 HB.out)
                       clear HO_108
                       clear HO_109
                       clear HO_111
                       clear HO_373000
                       clear HO_373001
                       clear HO_396000
                       clear HO_396001
                       clear BK362
                       clear BK372
                       clear BK395
                       clear HB
                       have HO_108 := n0_
                       have HO_109 := n1_
                       have HO_111 := n2_
                       have HO_373000 := n3_
                       have HO_373001 := n4_
                       have HO_396000 := n5_
                       have HO_396001 := n6_
                       have BK362 := n7_
                       have BK372 := n8_
                       have BK395 := n9_
                       have HB := n10_
                       clear n0_ n1_ n2_ n3_ n4_ n5_ n6_ n7_ n8_ n9_ n10_
                       have p399 : 0 ≤ (x151_5 : Int) := of_decide_eq_true (by first | (with_reducible assumption) | assumption)
                       have q399 : x151_5 < (t396.length : Int) := of_decide_eq_true (by first | (with_reducible assumption) | assumption)
                       obtain ⟨ad399, e399, hx399_0, hx399_1⟩ := at_T40 (Kd.R_reads' HO_111.out).2.2 x151_5 p399 q399
                       cases e399
                       replace p399 := eq_true p399
                       replace q399 := eq_true q399
                       have p400 : 0 ≤ (x151_5 : Int) := of_decide_eq_true (by first | (with_reducible assumption) | assumption)
                       have q400 : x151_5 < (t389.length : Int) := of_decide_eq_true (by first | (with_reducible assumption) | assumption)
                       obtain ⟨ad400, e400, hx400_0, hx400_1⟩ := at_T40 (Kd.R_reads' HO_396000.out).2.2 x151_5 p400 q400
                       cases e400
                       replace p400 := eq_true p400
                       replace q400 := eq_true q400
                       refine start_ (n := 10) (S := fun w' => w'.cell? ⟨gb395, 0, none⟩ = some (.slice (some ad400) t389.length co65) ∧ w'.cell? ⟨gb395, 1, none⟩ = some (.slice Ao69 t392.length co69) ∧ w'.cell? (ad399.add ((x151_5).toNat * 2)) = some (.int .i64 ((rd_T40 t396 x151_5).f0)) ∧ w'.cell? ⟨(ad399.add ((x151_5).toNat * 2)).block, (ad399.add ((x151_5).toNat * 2)).off + 1, none⟩ = some (.int .i64 ((rd_T40 t396 x151_5).f1)) ∧ w'.cell? (ad400.add ((x151_5).toNat * 2)) = some (.int .i64 ((rd_T40 t389 x151_5).f0)) ∧ w'.cell? ⟨(ad400.add ((x151_5).toNat * 2)).block, (ad400.add ((x151_5).toNat * 2)).off + 1, none⟩ = some (.int .i64 ((rd_T40 t389 x151_5).f1))) (ds := []) (bs 10 0) (by kernel_rfl) rfl rfl ⟨(blk_cell BK395.out 0).trans rfl, (blk_cell BK395.out 1).trans rfl, hx399_0, hx399_1, hx400_0, hx400_1⟩ (fun hHeld => ?_); refine with_tabW redpenlaw17_PragmaReads.tab15 redpenlaw17_PragmaReads.bits15 (fun HT_ HW_ => ?_)
                       generalize wr.drew = w78 at HO_108 HO_109 HO_111 HO_373000 HO_373001 HO_396000 HO_396001 BK362 BK372 BK395 HB hx399_0 hx399_1 hx400_0 hx400_1 hHeld ⊢
                       refine pu_ 0 (some 54) ?_ (bs 10 1) HT_.out (by kernel_rfl) rfl rfl (fun _ _ _ h => h) (Or.inl ⟨by rfl, ?_⟩) ?_ ?_ ?_; rotate_left; (· intro w'; go_simp; with_reducible rfl); rotate_left; (· simp only [Act.put, sit, scz, scs, i64_w, i32_w]; rfl)
                       refine pu_ 1 (some 55) ?_ (bs 10 3) HT_.out (by kernel_rfl) rfl rfl (fun _ _ _ h => h) (Or.inl ⟨by rfl, ?_⟩) ?_ ?_ ?_; rotate_left; (· intro w'; go_simp; with_reducible rfl); rotate_left; (· simp only [Act.put, sit, scz, scs, i64_w, i32_w]; rfl)
                       refine pu_ 2 (some 56) ?_ (bs 10 7) HT_.out (by kernel_rfl) rfl rfl (fun _ _ _ h => h) (Or.inl ⟨by rfl, ?_⟩) ?_ ?_ ?_; rotate_left; (· intro w'; go_simp; with_reducible rfl); rotate_left; (· simp only [Act.put, sit, scz, scs, i64_w, i32_w]; rfl)
                       refine pu_ 4 (some 58) ?_ (bs 10 23) HT_.out (by kernel_rfl) rfl rfl (fun _ _ _ h => h) (Or.inl ⟨by rfl, ?_⟩) ?_ ?_ ?_; rotate_left; (· intro w'; go_simp; with_reducible rfl); rotate_left; (· simp only [Act.put, sit, scz, scs, i64_w, i32_w]; rfl)
                       refine pu_ 6 (some 60) ?_ (bs 10 87) HT_.out (by kernel_rfl) rfl rfl (fun _ _ _ h => h) (Or.inl ⟨by rfl, ?_⟩) ?_ ?_ ?_; rotate_left; (· intro w'; go_simp; with_reducible rfl); rotate_left; (· simp only [Act.put, sit, scz, scs, i64_w, i32_w]; rfl)
                       refine take_ (i := 3) (N := some 57) (v := ?_) (a' := ?_) (bs 10 95) rfl rfl (take_ofW HT_.out HW_.out (by kernel_rfl)) (fun _ _ _ h => h) (Or.inl ⟨by rfl, ?_⟩) hHeld ?_ ?_; rotate_left; (· rintro w' ⟨s0, s1, s2, s3, s4, s5⟩; go_simp; with_reducible rfl); rotate_left; (· simp only [Act.put, sit, scz, scs, i64_w, i32_w]; rfl)
                       refine take_ (i := 5) (N := some 59) (v := ?_) (a' := ?_) (bs 10 127) rfl rfl (take_ofW HT_.out HW_.out (by kernel_rfl)) (fun _ _ _ h => h) (Or.inl ⟨by rfl, ?_⟩) hHeld ?_ ?_; rotate_left; (· rintro w' ⟨s0, s1, s2, s3, s4, s5⟩; go_simp; with_reducible rfl); rotate_left; (· simp only [Act.put, sit, scz, scs, i64_w, i32_w]; rfl)
                       refine pu_ 7 (some 61) ?_ (bs 10 255) HT_.out (by kernel_rfl) rfl rfl (fun _ _ _ h => h) (Or.inl ⟨by rfl, ?_⟩) ?_ ?_ ?_; rotate_left; (· intro w'; go_simp; with_reducible rfl); rotate_left; (· simp only [Act.put, sit, scz, scs, i64_w, i32_w]; rfl)
                       refine take_ (i := 8) (N := some 62) (v := ?_) (a' := ?_) (bs 10 511) rfl rfl (take_ofW HT_.out HW_.out (by kernel_rfl)) (fun _ _ _ h => h) (Or.inl ⟨by rfl, ?_⟩) hHeld ?_ ?_; rotate_left; (· rintro w' ⟨s0, s1, s2, s3, s4, s5⟩; go_simp; with_reducible rfl); rotate_left; (· simp only [Act.put, sit, scz, scs, i64_w, i32_w]; rfl)
                       refine pu_ 9 (some 63) ?_ (bs 10 1023) HT_.out (by kernel_rfl) rfl rfl (fun _ _ _ h => h) (Or.inl ⟨by rfl, ?_⟩) ?_ ?_ ?_; rotate_left; (· intro w'; go_simp; with_reducible rfl); rotate_left; (· simp only [Act.put, sit, scz, scs, i64_w, i32_w]; rfl)
                       refine done_ (done_of HT_.out (by kernel_rfl)) ?_
                       try go_wp2
                       go_roundg k5
                       case measure => have := HJ5.out; have := HK2.out; have := HK3.out; have := HK4.out; have := HK5.out; omega
                       case rel => exact ⟨(wrap64 (x151_5 + 1)), (by first | rfl | (simp; done) | (simp [*]; done) | (simp [wrap64, wrap32]; done)), H', ⟨by have := HJ5.out; have := HK2.out; have := HK3.out; have := HK4.out; have := HK5.out; omega⟩, ⟨by (with_reducible repeat (first | apply Kd.R_alloc | apply Kd.R_drewN | apply Kd.R_drew)); exact HO_108.out⟩, ⟨by (with_reducible repeat (first | apply Kd.P_alloc | apply Kd.P_drewN | apply Kd.P_drew)); exact HO_109.out⟩, ⟨by (with_reducible repeat (first | apply Kd.R_alloc | apply Kd.R_drewN | apply Kd.R_drew)); exact HO_111.out⟩, ⟨by (with_reducible repeat (first | apply Kd.R_alloc | apply Kd.R_drewN | apply Kd.R_drew)); exact HO_373000.out⟩, ⟨by (with_reducible repeat (first | apply Kd.R_alloc | apply Kd.R_drewN | apply Kd.R_drew)); exact HO_373001.out⟩, ⟨by (with_reducible repeat (first | apply Kd.R_alloc | apply Kd.R_drewN | apply Kd.R_drew)); exact HO_396000.out⟩, ⟨by (with_reducible repeat (first | apply Kd.R_alloc | apply Kd.R_drewN | apply Kd.R_drew)); exact HO_396001.out⟩, ⟨by (with_reducible repeat (first | refine blk_drewN ?_ _ | refine blk_drew ?_ | refine blk_alloc ?_ _)); exact BK362.out⟩, ⟨by (with_reducible repeat (first | refine blk_drewN ?_ _ | refine blk_drew ?_ | refine blk_alloc ?_ _)); exact BK372.out⟩, ⟨by (with_reducible repeat (first | refine blk_drewN ?_ _ | refine blk_drew ?_ | refine blk_alloc ?_ _)); exact BK395.out⟩, ⟨by repeat (first | (with_reducible first | exact HB.out | apply below_alloc | apply pw_below_drewN | apply below_drew1 | refine below_set ?_ GE362.out | refine below_set ?_ GE372.out | refine below_set ?_ GE395.out) | exact HB.out)⟩⟩
                     ·rw [if_neg c76] at H
                      exact absurd H (by simp)
                    ·rw [if_neg c75] at H
                     exact absurd H (by simp)
                   ·rw [if_neg c74] at H
                    exact absurd H (by simp)
                  ·rw [if_neg c73] at H
                   have c73b0 : decide (x151_5 < (t396.length : Int)) = false := decide_eq_false c73
                   clear c73
                   have H' := Aside0.mk H
                   clear H
                   go_wp2
                   go_loopg [13] k5 (fun kq v113 w' => ∃ (x113_6 : Int), v113 = .int .i64 x113_6 ∧ Aside0 (redpenlaw17_PragmaReads.l4 kq a2 t359 t386 x113_6 t389 t392 = some r) ∧ Aside0 (kq ≤ k5) ∧ Aside0 (Kd.R (Kd.int .u8) 5 w' w.heap.size (fun _ => True) (.slice Ao61 t359.length co61) t359) ∧ Aside0 (Kd.P Go.Proofs.YtkflgnhcfhmkdaaDoor.H.RlP 900026 w' w.heap.size (fun k_ => some k_ ≠ ((.slice Ao61 t359.length co61) : Value).ownBlock ∧ some k_ ≠ ((.slice Ao23 t366.length co23) : Value).ownBlock ∧ some k_ ≠ ((.slice Ao26 t369.length co26) : Value).ownBlock ∧ some k_ ≠ ((.slice Ao65 t389.length co65) : Value).ownBlock ∧ some k_ ≠ ((.slice Ao69 t392.length co69) : Value).ownBlock ∧ k_ ≠ gb362 ∧ k_ ≠ gb372 ∧ k_ ≠ gb395) v387 t386) ∧ Aside0 (Kd.R k40 40 w' w.heap.size (fun k_ => some k_ ≠ ((.slice Ao65 t389.length co65) : Value).ownBlock) (.slice Ao23 t366.length co23) t366) ∧ Aside0 (Kd.R Kd.string 9 w' w.heap.size (fun k_ => some k_ ≠ ((.slice Ao69 t392.length co69) : Value).ownBlock) (.slice Ao26 t369.length co26) t369) ∧ Aside0 (Kd.R k40 40 w' w.heap.size (fun k_ => some k_ ≠ ((.slice Ao23 t366.length co23) : Value).ownBlock) (.slice Ao65 t389.length co65) t389) ∧ Aside0 (Kd.R Kd.string 9 w' w.heap.size (fun k_ => some k_ ≠ ((.slice Ao26 t369.length co26) : Value).ownBlock) (.slice Ao69 t392.length co69) t392) ∧ Aside0 (w'.heap[gb362]? = some (.cells CS31 22 (0, 0))) ∧ Aside0 (w'.heap[gb372]? = some (.cells #[(.slice Ao23 t366.length co23), (.slice Ao26 t369.length co26)] 37 (0, 0))) ∧ Aside0 (w'.heap[gb395]? = some (.cells #[(.slice Ao65 t389.length co65), (.slice Ao69 t392.length co69)] 37 (0, 0))) ∧ Aside0 (Below w.heap.size w w'))
                   case atStart => exact ⟨((-1)), (by first | rfl | (simp; done) | (simp [*]; done) | (simp [wrap64, wrap32]; done)), H', ⟨Nat.le_refl _⟩, ⟨by (with_reducible repeat (first | apply Kd.R_alloc | apply Kd.R_drewN | apply Kd.R_drew)); exact HO_108.out⟩, ⟨by (with_reducible repeat (first | apply Kd.P_alloc | apply Kd.P_drewN | apply Kd.P_drew)); exact Kd.P_mono HO_109.out (fun _ hk => ⟨hk.1, ⟨hk.2.2.1, ⟨hk.2.2.2.1, ⟨hk.2.2.2.2.1, ⟨hk.2.2.2.2.2.1, ⟨hk.2.2.2.2.2.2.1, ⟨hk.2.2.2.2.2.2.2.1, hk.2.2.2.2.2.2.2.2⟩⟩⟩⟩⟩⟩⟩)⟩, ⟨by (with_reducible repeat (first | apply Kd.R_alloc | apply Kd.R_drewN | apply Kd.R_drew)); exact Kd.R_mono HO_373000.out (fun _ hk => hk.2)⟩, ⟨by (with_reducible repeat (first | apply Kd.R_alloc | apply Kd.R_drewN | apply Kd.R_drew)); exact HO_373001.out⟩, ⟨by (with_reducible repeat (first | apply Kd.R_alloc | apply Kd.R_drewN | apply Kd.R_drew)); exact Kd.R_mono HO_396000.out (fun _ hk => hk.2)⟩, ⟨by (with_reducible repeat (first | apply Kd.R_alloc | apply Kd.R_drewN | apply Kd.R_drew)); exact HO_396001.out⟩, ⟨by (with_reducible repeat (first | refine blk_drewN ?_ _ | refine blk_drew ?_ | refine blk_alloc ?_ _)); exact BK362.out⟩, ⟨by (with_reducible repeat (first | refine blk_drewN ?_ _ | refine blk_drew ?_ | refine blk_alloc ?_ _)); exact BK372.out⟩, ⟨by (with_reducible repeat (first | refine blk_drewN ?_ _ | refine blk_drew ?_ | refine blk_alloc ?_ _)); exact BK395.out⟩, ⟨by repeat (first | (with_reducible first | exact HB.out | apply below_alloc | apply pw_below_drewN | apply below_drew1 | refine below_set ?_ GE362.out | refine below_set ?_ GE372.out | refine below_set ?_ GE395.out) | exact HB.out)⟩⟩
                   case round =>
                    clear H'
                    (try clear c1); (try clear c2); (try clear p2); (try clear c3); (try clear p3); (try clear q3); (try clear hx3); (try clear c4); (try clear p4); (try clear q4); (try clear hx4); (try clear c5); (try clear c6); (try clear p6); (try clear c7); (try clear c8); (try clear c8b0); (try clear c8b1); (try clear c9); (try clear c10); (try clear c11); (try clear c12); (try clear c13); (try clear c14); (try clear c15); (try clear c15b0); (try clear c15b1); (try clear c15b2); (try clear c16); (try clear c17); (try clear c24); (try clear c30); (try clear c30b0); (try clear c31); (try clear c31b0); (try clear c32); (try clear c32b0); (try clear c33); (try clear c33b0); (try clear c34); (try clear c34b0); (try clear c36); (try clear c36b0); (try clear p37); (try clear q37); (try clear hx37); (try clear p38); (try clear q38); (try clear hx38); (try clear c39); (try clear c39b0); (try clear c39b1); (try clear c39b2); (try clear p39); (try clear q39); (try clear hx39); (try clear p40); (try clear q40); (try clear hx40); (try clear c46); (try clear c46b0); (try clear c47); (try clear c47b0); (try clear c48); (try clear c48b0); (try clear c51); (try clear c51b0); (try clear c51b1); (try clear c51b2); (try clear c58); (try clear c58b0); (try clear c58b1); (try clear c58b2); (try clear c59); (try clear p64); (try clear c66); (try clear c67); (try clear c73); (try clear c73b0); (try clear c74); (try clear c74b0); (try clear c75); (try clear c75b0); (try clear c76); (try clear c76b0); (try clear c77); (try clear c77b0); (try clear hcz25_0); (try clear hcz25_1); (try clear hcz29_0); (try clear hcz29_1); (try clear hcz60_0); (try clear hcz60_1); (try clear hcz68_0); (try clear hcz68_1); (try clear hcz72_0); (try clear hcz72_1); (try clear hfz25_0); (try clear hfz25_1); (try clear hfz29_0); (try clear hfz29_1); (try clear hfz60_0); (try clear hfz60_1); (try clear hfz68_0); (try clear hfz68_1); (try clear hfz72_0); (try clear hfz72_1); (try clear hx376_0); (try clear hx376_1); (try clear hx377_0); (try clear hx377_1); (try clear hx383_0); (try clear hx399_0); (try clear hx399_1); (try clear hx400_0); (try clear hx400_1); (try clear p2); (try clear p3); (try clear p37); (try clear p376); (try clear p377); (try clear p38); (try clear p383); (try clear p399); (try clear p400); (try clear p6); (try clear p64); (try clear q3); (try clear q37); (try clear q376); (try clear q377); (try clear q38); (try clear q383); (try clear q399); (try clear q400)
                    obtain ⟨x113_6, rfl, HA, HK6, HO_108, HO_109, HO_373000, HO_373001, HO_396000, HO_396001, BK362, BK372, BK395, HB⟩ := hrel
                    cases gk with
                    | zero => exact absurd HA.out (by simp [redpenlaw17_PragmaReads.l4])
                    | succ k6 =>
                     have H := HA.out
                     clear HA
                     simp only [redpenlaw17_PragmaReads.l4] at H
                     by_cases c79 : x113_6 ≤ (t359.length : Int)
                     ·rw [if_pos c79] at H
                      have c79b0 : decide (x113_6 ≤ (t359.length : Int)) = true := decide_eq_true c79
                      clear c79
                      replace H := Option.bind_eq_some_iff.mp H
                      obtain ⟨t401, A800, H⟩ := H
                      replace H : ((redpenref15_Rules_Alone.f k6 t389 t392 x113_6).bind fun t402 => (if (t401 != t402) = true then (some false) else (redpenlaw17_PragmaReads.l4 k6 a2 t359 t386 (wrap64 (x113_6 + 1)) t389 t392))) = some r := H
                      have A80 := Aside0.mk A800
                      clear A800
                      replace H := Option.bind_eq_some_iff.mp H
                      obtain ⟨t402, A810, H⟩ := H
                      replace H : (if (t401 != t402) = true then (some false) else (redpenlaw17_PragmaReads.l4 k6 a2 t359 t386 (wrap64 (x113_6 + 1)) t389 t392)) = some r := H
                      have A81 := Aside0.mk A810
                      clear A810
                      by_cases c82 : (t401 != t402) = true
                      ·rw [if_pos c82] at H
                       have c82b0 : (t401 != t402) = true := c82
                       (try (have c82b1 : decide (t401 = t402) = false := by simpa using c82))
                       (try (have c82b2 : (t401 == t402) = false := by simpa using c82))
                       (try (have c82b3 : ¬ (t401 = t402) := by simpa using c82))
                       clear c82
                       have hf_ := Option.some.inj H
                       rw [hr_] at hf_
                       cases hf_
                      ·rw [if_neg c82] at H
                       have c82b0 : (t401 != t402) = false := by simpa using c82
                       (try (have c82b1 : decide (t401 = t402) = true := by simpa using c82))
                       (try (have c82b2 : (t401 == t402) = true := by simpa using c82))
                       clear c82
                       have H' := Aside0.mk H
                       clear H
                       try go_wp2
                       have n0_ := Aside0.mk (Kd.R_drew HO_108.out)
                       have n1_ := Aside0.mk (Kd.P_drew HO_109.out)
                       have n2_ := Aside0.mk (Kd.R_drew HO_373000.out)
                       have n3_ := Aside0.mk (Kd.R_drew HO_373001.out)
                       have n4_ := Aside0.mk (Kd.R_drew HO_396000.out)
                       have n5_ := Aside0.mk (Kd.R_drew HO_396001.out)
                       have n6_ := Aside0.mk (blk_drew BK362.out)
                       have n7_ := Aside0.mk (blk_drew BK372.out)
                       have n8_ := Aside0.mk (blk_drew BK395.out)
                       have n9_ := Aside0.mk (below_drew1 HB.out)
                       clear HO_108
                       clear HO_109
                       clear HO_373000
                       clear HO_373001
                       clear HO_396000
                       clear HO_396001
                       clear BK362
                       clear BK372
                       clear BK395
                       clear HB
                       have HO_108 := n0_
                       have HO_109 := n1_
                       have HO_373000 := n2_
                       have HO_373001 := n3_
                       have HO_396000 := n4_
                       have HO_396001 := n5_
                       have BK362 := n6_
                       have BK372 := n7_
                       have BK395 := n8_
                       have HB := n9_
                       clear n0_ n1_ n2_ n3_ n4_ n5_ n6_ n7_ n8_ n9_
                       refine start_ (n := 7) (S := fun w' => w'.cell? ⟨gb395, 0, none⟩ = some (.slice Ao65 t389.length co65) ∧ w'.cell? ⟨gb395, 1, none⟩ = some (.slice Ao69 t392.length co69)) (ds := []) (bs 7 0) (by kernel_rfl) rfl rfl ⟨(blk_cell BK395.out 0).trans rfl, (blk_cell BK395.out 1).trans rfl⟩ (fun hHeld => ?_)
                       generalize wr.drew = w83 at HO_108 HO_109 HO_373000 HO_373001 HO_396000 HO_396001 BK362 BK372 BK395 HB hHeld ⊢
                       refine pure_ (i := 0) (N := some 71) (v := ?_) (a' := ?_) (bs 7 1) rfl rfl (by kernel_rfl) (fun _ _ _ h => h) (Or.inl ⟨by rfl, ?_⟩) ?_ ?_; rotate_left; (· intro w'; go_simp; with_reducible rfl); rotate_left; (· simp only [Act.put, sit, scz, scs, i64_w, i32_w]; rfl)
                       refine pure_ (i := 1) (N := some 72) (v := ?_) (a' := ?_) (bs 7 3) rfl rfl (by kernel_rfl) (fun _ _ _ h => h) (Or.inl ⟨by rfl, ?_⟩) ?_ ?_; rotate_left; (· intro w'; go_simp; with_reducible rfl); rotate_left; (· simp only [Act.put, sit, scz, scs, i64_w, i32_w]; rfl)
                       refine pure_ (i := 4) (N := some 75) (v := ?_) (a' := ?_) (bs 7 19) rfl rfl (by kernel_rfl) (fun _ _ _ h => h) (Or.inl ⟨by rfl, ?_⟩) ?_ ?_; rotate_left; (· intro w'; go_simp; with_reducible rfl); rotate_left; (· simp only [Act.put, sit, scz, scs, i64_w, i32_w]; rfl)
                       refine take_ (i := 3) (N := some 74) (v := ?_) (a' := ?_) (bs 7 27) rfl rfl (by kernel_rfl) (fun _ _ _ h => h) (Or.inl ⟨by rfl, ?_⟩) hHeld ?_ ?_; rotate_left; (· rintro w' ⟨s0, s1⟩; go_simp; with_reducible rfl); rotate_left; (· simp only [Act.put, sit, scz, scs, i64_w, i32_w]; rfl)
                       refine one_ (i := 2) (N := some 73) (bs 7 31) rfl rfl (by kernel_rfl) (by decide) (fun K hK => ?_)
                       refine goes_ Tryd.func10 (by kernel_rfl) rfl #[v387, .int .i64 x113_6] (by rfl) rfl rfl (by (try simp only [List.map_toArray, List.map_cons, List.map_nil]); first | done | rfl | (simp only [List.length_drop, List.length_take]; rfl)) ?_
                       with_reducible refine (pragma_Rules_Off.calls _ t386 x113_6 t401 _ ?side1 A80.out).mono ?_
                       (case side1 => exact Kd.P_now (by (with_reducible repeat (first | apply Kd.P_alloc | apply Kd.P_drewN | apply Kd.P_drew)); exact HO_109.out))
                       rintro e w84 ⟨rfl, hb⟩
                       refine ⟨_, rfl, ?_⟩
                       have n0_ := Aside0.mk (Kd.R_below (by (with_reducible repeat (first | apply Kd.R_alloc | apply Kd.R_drewN | apply Kd.R_drew)); exact HO_108.out) hb)
                       have n1_ := Aside0.mk (Kd.P_below (by (with_reducible repeat (first | apply Kd.P_alloc | apply Kd.P_drewN | apply Kd.P_drew)); exact HO_109.out) hb)
                       have n2_ := Aside0.mk (Kd.R_below (by (with_reducible repeat (first | apply Kd.R_alloc | apply Kd.R_drewN | apply Kd.R_drew)); exact HO_373000.out) hb)
                       have n3_ := Aside0.mk (Kd.R_below (by (with_reducible repeat (first | apply Kd.R_alloc | apply Kd.R_drewN | apply Kd.R_drew)); exact HO_373001.out) hb)
                       have n4_ := Aside0.mk (Kd.R_below (by (with_reducible repeat (first | apply Kd.R_alloc | apply Kd.R_drewN | apply Kd.R_drew)); exact HO_396000.out) hb)
                       have n5_ := Aside0.mk (Kd.R_below (by (with_reducible repeat (first | apply Kd.R_alloc | apply Kd.R_drewN | apply Kd.R_drew)); exact HO_396001.out) hb)
                       have n6_ := Aside0.mk (blk_below (g := gb362) (o := .cells CS31 22 (0, 0)) (by (with_reducible repeat (first | refine blk_drewN ?_ _ | refine blk_drew ?_ | refine blk_alloc ?_ _)); exact BK362.out) hb)
                       have n7_ := Aside0.mk (blk_below (g := gb372) (o := .cells #[.slice Ao23 t366.length co23, .slice Ao26 t369.length co26] 37 (0, 0)) (by (with_reducible repeat (first | refine blk_drewN ?_ _ | refine blk_drew ?_ | refine blk_alloc ?_ _)); exact BK372.out) hb)
                       have n8_ := Aside0.mk (blk_below (g := gb395) (o := .cells #[.slice Ao65 t389.length co65, .slice Ao69 t392.length co69] 37 (0, 0)) (by (with_reducible repeat (first | refine blk_drewN ?_ _ | refine blk_drew ?_ | refine blk_alloc ?_ _)); exact BK395.out) hb)
                       have n9_ := Aside0.mk (below_step (by repeat (first | (with_reducible first | exact HB.out | apply below_alloc | apply pw_below_drewN | apply below_drew1 | refine below_set ?_ GE362.out | refine below_set ?_ GE372.out | refine below_set ?_ GE395.out) | exact HB.out)) hb)
                       clear HO_108
                       clear HO_109
                       clear HO_373000
                       clear HO_373001
                       clear HO_396000
                       clear HO_396001
                       clear BK362
                       clear BK372
                       clear BK395
                       clear HB
                       have HO_108 := n0_
                       have HO_109 := n1_
                       have HO_373000 := n2_
                       have HO_373001 := n3_
                       have HO_396000 := n4_
                       have HO_396001 := n5_
                       have BK362 := n6_
                       have BK372 := n7_
                       have BK395 := n8_
                       have HB := n9_
                       clear n0_ n1_ n2_ n3_ n4_ n5_ n6_ n7_ n8_ n9_
                       (try clear hb)
                       (try clear hb2)
                       (try clear hk)
                       (try clear hi)
                       refine hK.out _ _ ⟨(blk_cell BK395.out 0).trans rfl, (blk_cell BK395.out 1).trans rfl⟩ (fun hHeld => ?_)
                       clear hK K
                       refine norm_ (a' := ?_) ?_ ?_
                       rotate_left
                       ·show Act.put _ (some 73) _ = _
                        simp only [Act.put, List.setIfInBounds_toArray, List.set_cons_zero, List.set_cons_succ, i64_w, i32_w]
                        rfl
                       refine one_ (i := 5) (N := some 76) (bs 7 63) rfl rfl (by kernel_rfl) (by decide) (fun K hK => ?_)
                       refine goes_ Tryd.func15 (by kernel_rfl) rfl #[.agg #[.slice Ao65 t389.length co65, .slice Ao69 t392.length co69], .int .i64 x113_6] (by rfl) rfl rfl (by (try simp only [List.map_toArray, List.map_cons, List.map_nil]); first | done | rfl | (simp only [List.length_drop, List.length_take]; rfl)) ?_
                       with_reducible refine (redpenref15_Rules_Alone.calls k6 _ _ t389 _ _ t392 x113_6 t402 _ ?side1 ?side2 ?side3 ?side4 A81.out).mono ?_
                       (case side1 => repeat (first | exact (Kd.R_reads' HO_396000.out).2.2 | (with_reducible refine Kd.C_alloc ?_ _) | (with_reducible refine Kd.C_drewN ?_ _) | (with_reducible refine Kd.C_drew ?_)))
                       (case side2 => exact (Kd.R_reads' HO_396000.out).2.1)
                       (case side3 => repeat (first | exact (Kd.R_reads' HO_396001.out).2.2 | (with_reducible refine Kd.C_alloc ?_ _) | (with_reducible refine Kd.C_drewN ?_ _) | (with_reducible refine Kd.C_drew ?_)))
                       (case side4 => exact (Kd.R_reads' HO_396001.out).2.1)
                       rintro e w85 ⟨rfl, hb⟩
                       refine ⟨_, rfl, ?_⟩
                       have n0_ := Aside0.mk (Kd.R_below (by (with_reducible repeat (first | apply Kd.R_alloc | apply Kd.R_drewN | apply Kd.R_drew)); exact HO_108.out) hb)
                       have n1_ := Aside0.mk (Kd.P_below (by (with_reducible repeat (first | apply Kd.P_alloc | apply Kd.P_drewN | apply Kd.P_drew)); exact HO_109.out) hb)
                       have n2_ := Aside0.mk (Kd.R_below (by (with_reducible repeat (first | apply Kd.R_alloc | apply Kd.R_drewN | apply Kd.R_drew)); exact HO_373000.out) hb)
                       have n3_ := Aside0.mk (Kd.R_below (by (with_reducible repeat (first | apply Kd.R_alloc | apply Kd.R_drewN | apply Kd.R_drew)); exact HO_373001.out) hb)
                       have n4_ := Aside0.mk (Kd.R_below (by (with_reducible repeat (first | apply Kd.R_alloc | apply Kd.R_drewN | apply Kd.R_drew)); exact HO_396000.out) hb)
                       have n5_ := Aside0.mk (Kd.R_below (by (with_reducible repeat (first | apply Kd.R_alloc | apply Kd.R_drewN | apply Kd.R_drew)); exact HO_396001.out) hb)
                       have n6_ := Aside0.mk (blk_below (g := gb362) (o := .cells CS31 22 (0, 0)) (by (with_reducible repeat (first | refine blk_drewN ?_ _ | refine blk_drew ?_ | refine blk_alloc ?_ _)); exact BK362.out) hb)
                       have n7_ := Aside0.mk (blk_below (g := gb372) (o := .cells #[.slice Ao23 t366.length co23, .slice Ao26 t369.length co26] 37 (0, 0)) (by (with_reducible repeat (first | refine blk_drewN ?_ _ | refine blk_drew ?_ | refine blk_alloc ?_ _)); exact BK372.out) hb)
                       have n8_ := Aside0.mk (blk_below (g := gb395) (o := .cells #[.slice Ao65 t389.length co65, .slice Ao69 t392.length co69] 37 (0, 0)) (by (with_reducible repeat (first | refine blk_drewN ?_ _ | refine blk_drew ?_ | refine blk_alloc ?_ _)); exact BK395.out) hb)
                       have n9_ := Aside0.mk (below_step (by repeat (first | (with_reducible first | exact HB.out | apply below_alloc | apply pw_below_drewN | apply below_drew1 | refine below_set ?_ GE362.out | refine below_set ?_ GE372.out | refine below_set ?_ GE395.out) | exact HB.out)) hb)
                       clear HO_108
                       clear HO_109
                       clear HO_373000
                       clear HO_373001
                       clear HO_396000
                       clear HO_396001
                       clear BK362
                       clear BK372
                       clear BK395
                       clear HB
                       have HO_108 := n0_
                       have HO_109 := n1_
                       have HO_373000 := n2_
                       have HO_373001 := n3_
                       have HO_396000 := n4_
                       have HO_396001 := n5_
                       have BK362 := n6_
                       have BK372 := n7_
                       have BK395 := n8_
                       have HB := n9_
                       clear n0_ n1_ n2_ n3_ n4_ n5_ n6_ n7_ n8_ n9_
                       (try clear hb)
                       (try clear hb2)
                       (try clear hk)
                       (try clear hi)
                       refine hK.out _ _ ⟨(blk_cell BK395.out 0).trans rfl, (blk_cell BK395.out 1).trans rfl⟩ (fun hHeld => ?_)
                       clear hK K
                       refine norm_ (a' := ?_) ?_ ?_
                       rotate_left
                       ·show Act.put _ (some 76) _ = _
                        simp only [Act.put, List.setIfInBounds_toArray, List.set_cons_zero, List.set_cons_succ, i64_w, i32_w]
                        rfl
                       refine pure_ (i := 6) (N := some 77) (v := ?_) (a' := ?_) (bs 7 127) rfl rfl (by kernel_rfl) (fun _ _ _ h => h) (Or.inl ⟨by rfl, ?_⟩) ?_ ?_; rotate_left; (· intro w'; go_simp; with_reducible rfl); rotate_left; (· simp only [Act.put, sit, scz, scs, i64_w, i32_w]; rfl)
                       refine done_ (by kernel_rfl) ?_
                       try go_wp2
                       go_roundg k6
                       case measure => have := HJ5.out; have := HK2.out; have := HK3.out; have := HK4.out; have := HK5.out; have := HK6.out; omega
                       case rel => exact ⟨(wrap64 (x113_6 + 1)), (by first | rfl | (simp; done) | (simp [*]; done) | (simp [wrap64, wrap32]; done)), H', ⟨by have := HJ5.out; have := HK2.out; have := HK3.out; have := HK4.out; have := HK5.out; have := HK6.out; omega⟩, ⟨by (with_reducible repeat (first | apply Kd.R_alloc | apply Kd.R_drewN | apply Kd.R_drew)); exact HO_108.out⟩, ⟨by (with_reducible repeat (first | apply Kd.P_alloc | apply Kd.P_drewN | apply Kd.P_drew)); exact HO_109.out⟩, ⟨by (with_reducible repeat (first | apply Kd.R_alloc | apply Kd.R_drewN | apply Kd.R_drew)); exact HO_373000.out⟩, ⟨by (with_reducible repeat (first | apply Kd.R_alloc | apply Kd.R_drewN | apply Kd.R_drew)); exact HO_373001.out⟩, ⟨by (with_reducible repeat (first | apply Kd.R_alloc | apply Kd.R_drewN | apply Kd.R_drew)); exact HO_396000.out⟩, ⟨by (with_reducible repeat (first | apply Kd.R_alloc | apply Kd.R_drewN | apply Kd.R_drew)); exact HO_396001.out⟩, ⟨by (with_reducible repeat (first | refine blk_drewN ?_ _ | refine blk_drew ?_ | refine blk_alloc ?_ _)); exact BK362.out⟩, ⟨by (with_reducible repeat (first | refine blk_drewN ?_ _ | refine blk_drew ?_ | refine blk_alloc ?_ _)); exact BK372.out⟩, ⟨by (with_reducible repeat (first | refine blk_drewN ?_ _ | refine blk_drew ?_ | refine blk_alloc ?_ _)); exact BK395.out⟩, ⟨by repeat (first | (with_reducible first | exact HB.out | apply below_alloc | apply pw_below_drewN | apply below_drew1 | refine below_set ?_ GE362.out | refine below_set ?_ GE372.out | refine below_set ?_ GE395.out) | exact HB.out)⟩⟩
                     ·rw [if_neg c79] at H
                      have c79b0 : decide (x113_6 ≤ (t359.length : Int)) = false := decide_eq_false c79
                      clear c79
                      obtain ⟨y403, hy403⟩ : ∃ y_ : List ByteArray, y_ = (([a2, (⟨#[119, 111, 114, 100]⟩ : ByteArray), (⟨#[84, 69, 72]⟩ : ByteArray), (⟨#[100, 111, 110, 39, 116]⟩ : ByteArray), (⟨#[97]⟩ : ByteArray), (⟨#[98]⟩ : ByteArray), (⟨#[97, 98, 99]⟩ : ByteArray), (⟨#[68, 69, 70]⟩ : ByteArray), (⟨#[120]⟩ : ByteArray), (⟨#[]⟩ : ByteArray)] : List ByteArray)) := ⟨_, rfl⟩
                      replace H : (redpenlaw17_PragmaReads.l5 k6 t386 y403 (y403.length : Int) 0 t389 t392) = some r := by first | (rw [hy403]; with_reducible exact H) | (have H2_ := (Option.bind_some _ _).symm.trans H; rw [hy403]; with_reducible exact H2_) | (have H2_ := (Option.bind_some _ _).symm.trans H; with_reducible exact H2_) | with_reducible exact H | (rw [hy403]; exact H) | exact H
                      have Ny403 := Aside0.mk hy403
                      clear hy403
                      have H' := Aside0.mk H
                      clear H
                      go_wp2_with (first | ((with_reducible refine gate_dst (N := 79) rfl ?_); (try (refine gate_guard (by rfl) ?_; dsimp only)); refine Kd.R_lit Kd.string _ 9 ?hg (N := 79) ?hd (xs := ([a2, (⟨#[119, 111, 114, 100]⟩ : ByteArray), (⟨#[84, 69, 72]⟩ : ByteArray), (⟨#[100, 111, 110, 39, 116]⟩ : ByteArray), (⟨#[97]⟩ : ByteArray), (⟨#[98]⟩ : ByteArray), (⟨#[97, 98, 99]⟩ : ByteArray), (⟨#[68, 69, 70]⟩ : ByteArray), (⟨#[120]⟩ : ByteArray), (⟨#[]⟩ : ByteArray)] : List ByteArray)) (inner := [.string a2, .string (⟨#[119, 111, 114, 100]⟩ : ByteArray), .string (⟨#[84, 69, 72]⟩ : ByteArray), .string (⟨#[100, 111, 110, 39, 116]⟩ : ByteArray), .string (⟨#[97]⟩ : ByteArray), .string (⟨#[98]⟩ : ByteArray), .string (⟨#[97, 98, 99]⟩ : ByteArray), .string (⟨#[68, 69, 70]⟩ : ByteArray), .string (⟨#[120]⟩ : ByteArray), .string (⟨#[]⟩ : ByteArray)]) (ok := fun _ => True) (okp := fun _ => True) ?hr ?hp (fun _ hk => hk) trivial (Below.refl _ _) (Nat.le_refl _) (by simp) ?_; (case hd => rfl); (case hg => rfl); (case hr => first | (go_simp; done) | (go_simp; rfl)); (case hp => exact (Reps.one (show Kd.M Kd.string _ _ _ a2 [.string a2] from rfl) (Reps.one (show Kd.M Kd.string _ _ _ (⟨#[119, 111, 114, 100]⟩ : ByteArray) [.string (⟨#[119, 111, 114, 100]⟩ : ByteArray)] from rfl) (Reps.one (show Kd.M Kd.string _ _ _ (⟨#[84, 69, 72]⟩ : ByteArray) [.string (⟨#[84, 69, 72]⟩ : ByteArray)] from rfl) (Reps.one (show Kd.M Kd.string _ _ _ (⟨#[100, 111, 110, 39, 116]⟩ : ByteArray) [.string (⟨#[100, 111, 110, 39, 116]⟩ : ByteArray)] from rfl) (Reps.one (show Kd.M Kd.string _ _ _ (⟨#[97]⟩ : ByteArray) [.string (⟨#[97]⟩ : ByteArray)] from rfl) (Reps.one (show Kd.M Kd.string _ _ _ (⟨#[98]⟩ : ByteArray) [.string (⟨#[98]⟩ : ByteArray)] from rfl) (Reps.one (show Kd.M Kd.string _ _ _ (⟨#[97, 98, 99]⟩ : ByteArray) [.string (⟨#[97, 98, 99]⟩ : ByteArray)] from rfl) (Reps.one (show Kd.M Kd.string _ _ _ (⟨#[68, 69, 70]⟩ : ByteArray) [.string (⟨#[68, 69, 70]⟩ : ByteArray)] from rfl) (Reps.one (show Kd.M Kd.string _ _ _ (⟨#[120]⟩ : ByteArray) [.string (⟨#[120]⟩ : ByteArray)] from rfl) (Reps.one (show Kd.M Kd.string _ _ _ (⟨#[]⟩ : ByteArray) [.string (⟨#[]⟩ : ByteArray)] from rfl) (Reps.none _ _)))))))))))); intro v404 w86 ho87 hb hg_ hnew_; clear hg_ hnew_; (first | rw [← Ny403.out] at ho87 | (simp only [Int.reduceToNat] at ho87; rw [← Ny403.out] at ho87)); have n0_ := Aside0.mk (Kd.R_below (by (with_reducible repeat (first | apply Kd.R_alloc | apply Kd.R_drewN | apply Kd.R_drew)); exact HO_108.out) hb); have n1_ := Aside0.mk (Kd.P_elder' (by (with_reducible repeat (first | apply Kd.P_alloc | apply Kd.P_drewN | apply Kd.P_drew)); exact HO_109.out) (Kd.R_base ho87) hb); have n2_ := Aside0.mk (Kd.R_below (by (with_reducible repeat (first | apply Kd.R_alloc | apply Kd.R_drewN | apply Kd.R_drew)); exact HO_373000.out) hb); have n3_ := Aside0.mk (Kd.R_elder' (by (with_reducible repeat (first | apply Kd.R_alloc | apply Kd.R_drewN | apply Kd.R_drew)); exact HO_373001.out) (Kd.R_base ho87) hb); have n4_ := Aside0.mk (Kd.R_below (by (with_reducible repeat (first | apply Kd.R_alloc | apply Kd.R_drewN | apply Kd.R_drew)); exact HO_396000.out) hb); have n5_ := Aside0.mk (Kd.R_elder' (by (with_reducible repeat (first | apply Kd.R_alloc | apply Kd.R_drewN | apply Kd.R_drew)); exact HO_396001.out) (Kd.R_base ho87) hb); have n6_ := Aside0.mk (Kd.R_lower (Kd.R_new' (Kd.R_new' ho87 (Kd.R_lt (by (with_reducible repeat (first | apply Kd.R_alloc | apply Kd.R_drewN | apply Kd.R_drew)); exact HO_373001.out))) (Kd.R_lt (by (with_reducible repeat (first | apply Kd.R_alloc | apply Kd.R_drewN | apply Kd.R_drew)); exact HO_396001.out))) (below_size (by repeat (first | (with_reducible first | exact HB.out | apply below_alloc | apply pw_below_drewN | apply below_drew1 | refine below_set ?_ GE362.out | refine below_set ?_ GE372.out | refine below_set ?_ GE395.out) | exact HB.out)))); have n7_ := Aside0.mk (blk_below (g := gb362) (o := .cells CS31 22 (0, 0)) (by (with_reducible repeat (first | refine blk_drewN ?_ _ | refine blk_drew ?_ | refine blk_alloc ?_ _)); exact BK362.out) hb); have n8_ := Aside0.mk (blk_below (g := gb372) (o := .cells #[.slice Ao23 t366.length co23, .slice Ao26 t369.length co26] 37 (0, 0)) (by (with_reducible repeat (first | refine blk_drewN ?_ _ | refine blk_drew ?_ | refine blk_alloc ?_ _)); exact BK372.out) hb); have n9_ := Aside0.mk (blk_below (g := gb395) (o := .cells #[.slice Ao65 t389.length co65, .slice Ao69 t392.length co69] 37 (0, 0)) (by (with_reducible repeat (first | refine blk_drewN ?_ _ | refine blk_drew ?_ | refine blk_alloc ?_ _)); exact BK395.out) hb); have n10_ := Aside0.mk (below_step (by repeat (first | (with_reducible first | exact HB.out | apply below_alloc | apply pw_below_drewN | apply below_drew1 | refine below_set ?_ GE362.out | refine below_set ?_ GE372.out | refine below_set ?_ GE395.out) | exact HB.out)) hb); clear HO_108; clear HO_109; clear HO_373000; clear HO_373001; clear HO_396000; clear HO_396001; clear BK362; clear BK372; clear BK395; clear HB; have HO_108 := n0_; have HO_109 := n1_; have HO_373000 := n2_; have HO_373001 := n3_; have HO_396000 := n4_; have HO_396001 := n5_; have HO405 := n6_; have BK362 := n7_; have BK372 := n8_; have BK395 := n9_; have HB := n10_; clear n0_ n1_ n2_ n3_ n4_ n5_ n6_ n7_ n8_ n9_ n10_; clear hb ho87; obtain ⟨Ao88, co88, eo88⟩ := Kd.R_slice HO405.out; subst eo88))
                      go_loopg [81] k6 (fun kq v181 w' => ∃ (x181_7 : Int), v181 = .int .i64 x181_7 ∧ Aside0 (redpenlaw17_PragmaReads.l5 kq t386 y403 (y403.length : Int) x181_7 t389 t392 = some r) ∧ Aside0 (kq ≤ k6) ∧ Aside0 (Kd.P Go.Proofs.YtkflgnhcfhmkdaaDoor.H.RlP 900026 w' w.heap.size (fun k_ => some k_ ≠ ((.slice Ao88 y403.length co88) : Value).ownBlock ∧ some k_ ≠ ((.slice Ao23 t366.length co23) : Value).ownBlock ∧ some k_ ≠ ((.slice Ao26 t369.length co26) : Value).ownBlock ∧ some k_ ≠ ((.slice Ao65 t389.length co65) : Value).ownBlock ∧ some k_ ≠ ((.slice Ao69 t392.length co69) : Value).ownBlock ∧ k_ ≠ gb362 ∧ k_ ≠ gb372 ∧ k_ ≠ gb395) v387 t386) ∧ Aside0 (Kd.R Kd.string 9 w' w.heap.size (fun k_ => some k_ ≠ ((.slice Ao26 t369.length co26) : Value).ownBlock ∧ some k_ ≠ ((.slice Ao69 t392.length co69) : Value).ownBlock) (.slice Ao88 y403.length co88) y403) ∧ Aside0 (Kd.R k40 40 w' w.heap.size (fun k_ => some k_ ≠ ((.slice Ao65 t389.length co65) : Value).ownBlock) (.slice Ao23 t366.length co23) t366) ∧ Aside0 (Kd.R Kd.string 9 w' w.heap.size (fun k_ => some k_ ≠ ((.slice Ao88 y403.length co88) : Value).ownBlock ∧ some k_ ≠ ((.slice Ao69 t392.length co69) : Value).ownBlock) (.slice Ao26 t369.length co26) t369) ∧ Aside0 (Kd.R k40 40 w' w.heap.size (fun k_ => some k_ ≠ ((.slice Ao23 t366.length co23) : Value).ownBlock) (.slice Ao65 t389.length co65) t389) ∧ Aside0 (Kd.R Kd.string 9 w' w.heap.size (fun k_ => some k_ ≠ ((.slice Ao88 y403.length co88) : Value).ownBlock ∧ some k_ ≠ ((.slice Ao26 t369.length co26) : Value).ownBlock) (.slice Ao69 t392.length co69) t392) ∧ Aside0 (w'.heap[gb362]? = some (.cells CS31 22 (0, 0))) ∧ Aside0 (w'.heap[gb372]? = some (.cells #[(.slice Ao23 t366.length co23), (.slice Ao26 t369.length co26)] 37 (0, 0))) ∧ Aside0 (w'.heap[gb395]? = some (.cells #[(.slice Ao65 t389.length co65), (.slice Ao69 t392.length co69)] 37 (0, 0))) ∧ Aside0 (Below w.heap.size w w'))
                      case atStart => exact ⟨(0), (by first | rfl | (simp; done) | (simp [*]; done) | (simp [wrap64, wrap32]; done)), H', ⟨Nat.le_refl _⟩, ⟨by (with_reducible repeat (first | apply Kd.P_alloc | apply Kd.P_drewN | apply Kd.P_drew)); exact Kd.P_mono HO_109.out (fun _ hk => ⟨hk.2, ⟨hk.1.2.1, ⟨hk.1.2.2.1, ⟨hk.1.2.2.2.1, ⟨hk.1.2.2.2.2.1, ⟨hk.1.2.2.2.2.2.1, ⟨hk.1.2.2.2.2.2.2.1, hk.1.2.2.2.2.2.2.2⟩⟩⟩⟩⟩⟩⟩)⟩, ⟨by (with_reducible repeat (first | apply Kd.R_alloc | apply Kd.R_drewN | apply Kd.R_drew)); exact Kd.R_mono HO405.out (fun _ hk => ⟨hk.1.2, hk.2⟩)⟩, ⟨by (with_reducible repeat (first | apply Kd.R_alloc | apply Kd.R_drewN | apply Kd.R_drew)); exact HO_373000.out⟩, ⟨by (with_reducible repeat (first | apply Kd.R_alloc | apply Kd.R_drewN | apply Kd.R_drew)); exact Kd.R_mono HO_373001.out (fun _ hk => ⟨hk.2, hk.1⟩)⟩, ⟨by (with_reducible repeat (first | apply Kd.R_alloc | apply Kd.R_drewN | apply Kd.R_drew)); exact HO_396000.out⟩, ⟨by (with_reducible repeat (first | apply Kd.R_alloc | apply Kd.R_drewN | apply Kd.R_drew)); exact Kd.R_mono HO_396001.out (fun _ hk => ⟨hk.2, hk.1⟩)⟩, ⟨by (with_reducible repeat (first | refine blk_drewN ?_ _ | refine blk_drew ?_ | refine blk_alloc ?_ _)); exact BK362.out⟩, ⟨by (with_reducible repeat (first | refine blk_drewN ?_ _ | refine blk_drew ?_ | refine blk_alloc ?_ _)); exact BK372.out⟩, ⟨by (with_reducible repeat (first | refine blk_drewN ?_ _ | refine blk_drew ?_ | refine blk_alloc ?_ _)); exact BK395.out⟩, ⟨by repeat (first | (with_reducible first | exact HB.out | apply below_alloc | apply pw_below_drewN | apply below_drew1 | refine below_set ?_ GE362.out | refine below_set ?_ GE372.out | refine below_set ?_ GE395.out) | exact HB.out)⟩⟩
                      case round =>
                       clear H'
                       (try clear c1); (try clear c2); (try clear p2); (try clear c3); (try clear p3); (try clear q3); (try clear hx3); (try clear c4); (try clear p4); (try clear q4); (try clear hx4); (try clear c5); (try clear c6); (try clear p6); (try clear c7); (try clear c8); (try clear c8b0); (try clear c8b1); (try clear c9); (try clear c10); (try clear c11); (try clear c12); (try clear c13); (try clear c14); (try clear c15); (try clear c15b0); (try clear c15b1); (try clear c15b2); (try clear c16); (try clear c17); (try clear c24); (try clear c30); (try clear c30b0); (try clear c31); (try clear c31b0); (try clear c32); (try clear c32b0); (try clear c33); (try clear c33b0); (try clear c34); (try clear c34b0); (try clear c36); (try clear c36b0); (try clear p37); (try clear q37); (try clear hx37); (try clear p38); (try clear q38); (try clear hx38); (try clear c39); (try clear c39b0); (try clear c39b1); (try clear c39b2); (try clear p39); (try clear q39); (try clear hx39); (try clear p40); (try clear q40); (try clear hx40); (try clear c46); (try clear c46b0); (try clear c47); (try clear c47b0); (try clear c48); (try clear c48b0); (try clear c51); (try clear c51b0); (try clear c51b1); (try clear c51b2); (try clear c58); (try clear c58b0); (try clear c58b1); (try clear c58b2); (try clear c59); (try clear p64); (try clear c66); (try clear c67); (try clear c73); (try clear c73b0); (try clear c74); (try clear c74b0); (try clear c75); (try clear c75b0); (try clear c76); (try clear c76b0); (try clear c77); (try clear c77b0); (try clear c79); (try clear c79b0); (try clear c82); (try clear c82b0); (try clear c82b1); (try clear c82b2); (try clear hcz25_0); (try clear hcz25_1); (try clear hcz29_0); (try clear hcz29_1); (try clear hcz60_0); (try clear hcz60_1); (try clear hcz68_0); (try clear hcz68_1); (try clear hcz72_0); (try clear hcz72_1); (try clear hfz25_0); (try clear hfz25_1); (try clear hfz29_0); (try clear hfz29_1); (try clear hfz60_0); (try clear hfz60_1); (try clear hfz68_0); (try clear hfz68_1); (try clear hfz72_0); (try clear hfz72_1); (try clear hx376_0); (try clear hx376_1); (try clear hx377_0); (try clear hx377_1); (try clear hx383_0); (try clear hx399_0); (try clear hx399_1); (try clear hx400_0); (try clear hx400_1); (try clear p2); (try clear p3); (try clear p37); (try clear p376); (try clear p377); (try clear p38); (try clear p383); (try clear p39); (try clear p399); (try clear p4); (try clear p40); (try clear p400); (try clear p6); (try clear p64); (try clear q3); (try clear q37); (try clear q376); (try clear q377); (try clear q38); (try clear q383); (try clear q39); (try clear q399); (try clear q4); (try clear q40); (try clear q400)
                       obtain ⟨x181_7, rfl, HA, HK7, HO_109, HO_179, HO_373000, HO_373001, HO_396000, HO_396001, BK362, BK372, BK395, HB⟩ := hrel
                       cases gk with
                       | zero => exact absurd HA.out (by simp [redpenlaw17_PragmaReads.l5])
                       | succ k7 =>
                        have H := HA.out
                        clear HA
                        simp only [redpenlaw17_PragmaReads.l5] at H
                        by_cases c89 : x181_7 < (y403.length : Int)
                        ·rw [if_pos c89] at H
                         have c89b0 : decide (x181_7 < (y403.length : Int)) = true := decide_eq_true c89
                         clear c89
                         by_cases c90 : 0 ≤ x181_7
                         ·rw [if_pos c90] at H
                          have c90b0 : decide (0 ≤ x181_7) = true := decide_eq_true c90
                          clear c90
                          by_cases c91 : x181_7 < (y403.length : Int)
                          ·rw [if_pos c91] at H
                           have c91b0 : decide (x181_7 < (y403.length : Int)) = true := decide_eq_true c91
                           clear c91
                           replace H := Option.bind_eq_some_iff.mp H
                           obtain ⟨t407, A920, H⟩ := H
                           replace H : ((redpenref15_Rules_Knows.f k7 t389 t392 (rdOf ByteArray.empty y403 x181_7)).bind fun t408 => (if (t407 != t408) = true then (some false) else (redpenlaw17_PragmaReads.l5 k7 t386 y403 (y403.length : Int) (wrap64 (x181_7 + 1)) t389 t392))) = some r := H
                           have A92 := Aside0.mk A920
                           clear A920
                           replace H := Option.bind_eq_some_iff.mp H
                           obtain ⟨t408, A930, H⟩ := H
                           replace H : (if (t407 != t408) = true then (some false) else (redpenlaw17_PragmaReads.l5 k7 t386 y403 (y403.length : Int) (wrap64 (x181_7 + 1)) t389 t392)) = some r := H
                           have A93 := Aside0.mk A930
                           clear A930
                           by_cases c94 : (t407 != t408) = true
                           ·rw [if_pos c94] at H
                            have c94b0 : (t407 != t408) = true := c94
                            (try (have c94b1 : decide (t407 = t408) = false := by simpa using c94))
                            (try (have c94b2 : (t407 == t408) = false := by simpa using c94))
                            (try (have c94b3 : ¬ (t407 = t408) := by simpa using c94))
                            clear c94
                            have hf_ := Option.some.inj H
                            rw [hr_] at hf_
                            cases hf_
                           ·rw [if_neg c94] at H
                            have c94b0 : (t407 != t408) = false := by simpa using c94
                            (try (have c94b1 : decide (t407 = t408) = true := by simpa using c94))
                            (try (have c94b2 : (t407 == t408) = true := by simpa using c94))
                            clear c94
                            have H' := Aside0.mk H
                            clear H
                            have p406 : 0 ≤ (x181_7 : Int) := of_decide_eq_true (by first | (with_reducible assumption) | assumption)
                            have q406 : x181_7 < (y403.length : Int) := of_decide_eq_true (by first | (with_reducible assumption) | assumption)
                            obtain ⟨ad406, e406, hx406_0⟩ := Kd.at_string (Kd.R_reads' HO_179.out).2.2 x181_7 p406 q406
                            cases e406
                            replace p406 := eq_true p406
                            replace q406 := eq_true q406
                            try go_wp2
                            have n0_ := Aside0.mk (Kd.P_drew HO_109.out)
                            have n1_ := Aside0.mk (Kd.R_drew HO_179.out)
                            have n2_ := Aside0.mk (Kd.R_drew HO_373000.out)
                            have n3_ := Aside0.mk (Kd.R_drew HO_373001.out)
                            have n4_ := Aside0.mk (Kd.R_drew HO_396000.out)
                            have n5_ := Aside0.mk (Kd.R_drew HO_396001.out)
                            have n6_ := Aside0.mk (blk_drew BK362.out)
                            have n7_ := Aside0.mk (blk_drew BK372.out)
                            have n8_ := Aside0.mk (blk_drew BK395.out)
                            have n9_ := Aside0.mk (below_drew1 HB.out)
                            clear HO_109
                            clear HO_179
                            clear HO_373000
                            clear HO_373001
                            clear HO_396000
                            clear HO_396001
                            clear BK362
                            clear BK372
                            clear BK395
                            clear HB
                            have HO_109 := n0_
                            have HO_179 := n1_
                            have HO_373000 := n2_
                            have HO_373001 := n3_
                            have HO_396000 := n4_
                            have HO_396001 := n5_
                            have BK362 := n6_
                            have BK372 := n7_
                            have BK395 := n8_
                            have HB := n9_
                            clear n0_ n1_ n2_ n3_ n4_ n5_ n6_ n7_ n8_ n9_
                            refine start_ (n := 7) (S := fun w' => w'.cell? ⟨gb395, 0, none⟩ = some (.slice Ao65 t389.length co65) ∧ w'.cell? ⟨gb395, 1, none⟩ = some (.slice Ao69 t392.length co69)) (ds := []) (bs 7 0) (by kernel_rfl) rfl rfl ⟨(blk_cell BK395.out 0).trans rfl, (blk_cell BK395.out 1).trans rfl⟩ (fun hHeld => ?_)
                            generalize wr.drew = w95 at HO_109 HO_179 HO_373000 HO_373001 HO_396000 HO_396001 BK362 BK372 BK395 HB hHeld ⊢
                            refine pure_ (i := 0) (N := some 85) (v := ?_) (a' := ?_) (bs 7 1) rfl rfl (by kernel_rfl) (fun _ _ _ h => h) (Or.inl ⟨by rfl, ?_⟩) ?_ ?_; rotate_left; (· intro w'; go_simp; with_reducible rfl); rotate_left; (· simp only [Act.put, sit, scz, scs, i64_w, i32_w]; rfl)
                            refine pure_ (i := 1) (N := some 86) (v := ?_) (a' := ?_) (bs 7 3) rfl rfl (by kernel_rfl) (fun _ _ _ h => h) (Or.inl ⟨by rfl, ?_⟩) ?_ ?_; rotate_left; (· intro w'; go_simp; with_reducible rfl); rotate_left; (· simp only [Act.put, sit, scz, scs, i64_w, i32_w]; rfl)
                            refine pure_ (i := 4) (N := some 89) (v := ?_) (a' := ?_) (bs 7 19) rfl rfl (by kernel_rfl) (fun _ _ _ h => h) (Or.inl ⟨by rfl, ?_⟩) ?_ ?_; rotate_left; (· intro w'; go_simp; with_reducible rfl); rotate_left; (· simp only [Act.put, sit, scz, scs, i64_w, i32_w]; rfl)
                            refine take_ (i := 3) (N := some 88) (v := ?_) (a' := ?_) (bs 7 27) rfl rfl (by kernel_rfl) (fun _ _ _ h => h) (Or.inl ⟨by rfl, ?_⟩) hHeld ?_ ?_; rotate_left; (· rintro w' ⟨s0, s1⟩; go_simp; with_reducible rfl); rotate_left; (· simp only [Act.put, sit, scz, scs, i64_w, i32_w]; rfl)
                            refine one_ (i := 2) (N := some 87) (bs 7 31) rfl rfl (by kernel_rfl) (by decide) (fun K hK => ?_)
                            refine goes_ Tryd.func16 (by kernel_rfl) rfl #[v387, .string (rdOf ByteArray.empty y403 x181_7)] (by rfl) rfl rfl (by (try simp only [List.map_toArray, List.map_cons, List.map_nil]); first | done | rfl | (simp only [List.length_drop, List.length_take]; rfl)) ?_
                            with_reducible refine (pragma_Rules_Knows.calls k7 _ t386 (rdOf ByteArray.empty y403 x181_7) t407 _ ?side1 A92.out).mono ?_
                            (case side1 => exact Kd.P_now (by (with_reducible repeat (first | apply Kd.P_alloc | apply Kd.P_drewN | apply Kd.P_drew)); exact HO_109.out))
                            rintro e w96 ⟨rfl, hb⟩
                            refine ⟨_, rfl, ?_⟩
                            have n0_ := Aside0.mk (Kd.P_below (by (with_reducible repeat (first | apply Kd.P_alloc | apply Kd.P_drewN | apply Kd.P_drew)); exact HO_109.out) hb)
                            have n1_ := Aside0.mk (Kd.R_below (by (with_reducible repeat (first | apply Kd.R_alloc | apply Kd.R_drewN | apply Kd.R_drew)); exact HO_179.out) hb)
                            have n2_ := Aside0.mk (Kd.R_below (by (with_reducible repeat (first | apply Kd.R_alloc | apply Kd.R_drewN | apply Kd.R_drew)); exact HO_373000.out) hb)
                            have n3_ := Aside0.mk (Kd.R_below (by (with_reducible repeat (first | apply Kd.R_alloc | apply Kd.R_drewN | apply Kd.R_drew)); exact HO_373001.out) hb)
                            have n4_ := Aside0.mk (Kd.R_below (by (with_reducible repeat (first | apply Kd.R_alloc | apply Kd.R_drewN | apply Kd.R_drew)); exact HO_396000.out) hb)
                            have n5_ := Aside0.mk (Kd.R_below (by (with_reducible repeat (first | apply Kd.R_alloc | apply Kd.R_drewN | apply Kd.R_drew)); exact HO_396001.out) hb)
                            have n6_ := Aside0.mk (blk_below (g := gb362) (o := .cells CS31 22 (0, 0)) (by (with_reducible repeat (first | refine blk_drewN ?_ _ | refine blk_drew ?_ | refine blk_alloc ?_ _)); exact BK362.out) hb)
                            have n7_ := Aside0.mk (blk_below (g := gb372) (o := .cells #[.slice Ao23 t366.length co23, .slice Ao26 t369.length co26] 37 (0, 0)) (by (with_reducible repeat (first | refine blk_drewN ?_ _ | refine blk_drew ?_ | refine blk_alloc ?_ _)); exact BK372.out) hb)
                            have n8_ := Aside0.mk (blk_below (g := gb395) (o := .cells #[.slice Ao65 t389.length co65, .slice Ao69 t392.length co69] 37 (0, 0)) (by (with_reducible repeat (first | refine blk_drewN ?_ _ | refine blk_drew ?_ | refine blk_alloc ?_ _)); exact BK395.out) hb)
                            have n9_ := Aside0.mk (below_step (by repeat (first | (with_reducible first | exact HB.out | apply below_alloc | apply pw_below_drewN | apply below_drew1 | refine below_set ?_ GE362.out | refine below_set ?_ GE372.out | refine below_set ?_ GE395.out) | exact HB.out)) hb)
                            clear HO_109
                            clear HO_179
                            clear HO_373000
                            clear HO_373001
                            clear HO_396000
                            clear HO_396001
                            clear BK362
                            clear BK372
                            clear BK395
                            clear HB
                            have HO_109 := n0_
                            have HO_179 := n1_
                            have HO_373000 := n2_
                            have HO_373001 := n3_
                            have HO_396000 := n4_
                            have HO_396001 := n5_
                            have BK362 := n6_
                            have BK372 := n7_
                            have BK395 := n8_
                            have HB := n9_
                            clear n0_ n1_ n2_ n3_ n4_ n5_ n6_ n7_ n8_ n9_
                            (try clear hb)
                            (try clear hb2)
                            (try clear hk)
                            (try clear hi)
                            refine hK.out _ _ ⟨(blk_cell BK395.out 0).trans rfl, (blk_cell BK395.out 1).trans rfl⟩ (fun hHeld => ?_)
                            clear hK K
                            refine norm_ (a' := ?_) ?_ ?_
                            rotate_left
                            ·show Act.put _ (some 87) _ = _
                             simp only [Act.put, List.setIfInBounds_toArray, List.set_cons_zero, List.set_cons_succ, i64_w, i32_w]
                             rfl
                            refine one_ (i := 5) (N := some 90) (bs 7 63) rfl rfl (by kernel_rfl) (by decide) (fun K hK => ?_)
                            refine goes_ Tryd.func17 (by kernel_rfl) rfl #[.agg #[.slice Ao65 t389.length co65, .slice Ao69 t392.length co69], .string (rdOf ByteArray.empty y403 x181_7)] (by rfl) rfl rfl (by (try simp only [List.map_toArray, List.map_cons, List.map_nil]); first | done | rfl | (simp only [List.length_drop, List.length_take]; rfl)) ?_
                            with_reducible refine (redpenref15_Rules_Knows.calls k7 _ _ t389 _ _ t392 (rdOf ByteArray.empty y403 x181_7) t408 _ ?side1 ?side2 ?side3 ?side4 A93.out).mono ?_
                            (case side1 => repeat (first | exact (Kd.R_reads' HO_396000.out).2.2 | (with_reducible refine Kd.C_alloc ?_ _) | (with_reducible refine Kd.C_drewN ?_ _) | (with_reducible refine Kd.C_drew ?_)))
                            (case side2 => exact (Kd.R_reads' HO_396000.out).2.1)
                            (case side3 => repeat (first | exact (Kd.R_reads' HO_396001.out).2.2 | (with_reducible refine Kd.C_alloc ?_ _) | (with_reducible refine Kd.C_drewN ?_ _) | (with_reducible refine Kd.C_drew ?_)))
                            (case side4 => exact (Kd.R_reads' HO_396001.out).2.1)
                            rintro e w97 ⟨rfl, hb⟩
                            refine ⟨_, rfl, ?_⟩
                            have n0_ := Aside0.mk (Kd.P_below (by (with_reducible repeat (first | apply Kd.P_alloc | apply Kd.P_drewN | apply Kd.P_drew)); exact HO_109.out) hb)
                            have n1_ := Aside0.mk (Kd.R_below (by (with_reducible repeat (first | apply Kd.R_alloc | apply Kd.R_drewN | apply Kd.R_drew)); exact HO_179.out) hb)
                            have n2_ := Aside0.mk (Kd.R_below (by (with_reducible repeat (first | apply Kd.R_alloc | apply Kd.R_drewN | apply Kd.R_drew)); exact HO_373000.out) hb)
                            have n3_ := Aside0.mk (Kd.R_below (by (with_reducible repeat (first | apply Kd.R_alloc | apply Kd.R_drewN | apply Kd.R_drew)); exact HO_373001.out) hb)
                            have n4_ := Aside0.mk (Kd.R_below (by (with_reducible repeat (first | apply Kd.R_alloc | apply Kd.R_drewN | apply Kd.R_drew)); exact HO_396000.out) hb)
                            have n5_ := Aside0.mk (Kd.R_below (by (with_reducible repeat (first | apply Kd.R_alloc | apply Kd.R_drewN | apply Kd.R_drew)); exact HO_396001.out) hb)
                            have n6_ := Aside0.mk (blk_below (g := gb362) (o := .cells CS31 22 (0, 0)) (by (with_reducible repeat (first | refine blk_drewN ?_ _ | refine blk_drew ?_ | refine blk_alloc ?_ _)); exact BK362.out) hb)
                            have n7_ := Aside0.mk (blk_below (g := gb372) (o := .cells #[.slice Ao23 t366.length co23, .slice Ao26 t369.length co26] 37 (0, 0)) (by (with_reducible repeat (first | refine blk_drewN ?_ _ | refine blk_drew ?_ | refine blk_alloc ?_ _)); exact BK372.out) hb)
                            have n8_ := Aside0.mk (blk_below (g := gb395) (o := .cells #[.slice Ao65 t389.length co65, .slice Ao69 t392.length co69] 37 (0, 0)) (by (with_reducible repeat (first | refine blk_drewN ?_ _ | refine blk_drew ?_ | refine blk_alloc ?_ _)); exact BK395.out) hb)
                            have n9_ := Aside0.mk (below_step (by repeat (first | (with_reducible first | exact HB.out | apply below_alloc | apply pw_below_drewN | apply below_drew1 | refine below_set ?_ GE362.out | refine below_set ?_ GE372.out | refine below_set ?_ GE395.out) | exact HB.out)) hb)
                            clear HO_109
                            clear HO_179
                            clear HO_373000
                            clear HO_373001
                            clear HO_396000
                            clear HO_396001
                            clear BK362
                            clear BK372
                            clear BK395
                            clear HB
                            have HO_109 := n0_
                            have HO_179 := n1_
                            have HO_373000 := n2_
                            have HO_373001 := n3_
                            have HO_396000 := n4_
                            have HO_396001 := n5_
                            have BK362 := n6_
                            have BK372 := n7_
                            have BK395 := n8_
                            have HB := n9_
                            clear n0_ n1_ n2_ n3_ n4_ n5_ n6_ n7_ n8_ n9_
                            (try clear hb)
                            (try clear hb2)
                            (try clear hk)
                            (try clear hi)
                            refine hK.out _ _ ⟨(blk_cell BK395.out 0).trans rfl, (blk_cell BK395.out 1).trans rfl⟩ (fun hHeld => ?_)
                            clear hK K
                            refine norm_ (a' := ?_) ?_ ?_
                            rotate_left
                            ·show Act.put _ (some 90) _ = _
                             simp only [Act.put, List.setIfInBounds_toArray, List.set_cons_zero, List.set_cons_succ, i64_w, i32_w]
                             rfl
                            refine pure_ (i := 6) (N := some 91) (v := ?_) (a' := ?_) (bs 7 127) rfl rfl (by kernel_rfl) (fun _ _ _ h => h) (Or.inl ⟨by rfl, ?_⟩) ?_ ?_; rotate_left; (· intro w'; go_simp; with_reducible rfl); rotate_left; (· simp only [Act.put, sit, scz, scs, i64_w, i32_w]; rfl)
                            refine done_ (by kernel_rfl) ?_
                            try go_wp2
                            go_roundg k7
                            case measure => have := HJ5.out; have := HK2.out; have := HK3.out; have := HK4.out; have := HK5.out; have := HK6.out; have := HK7.out; omega
                            case rel => exact ⟨(wrap64 (x181_7 + 1)), (by first | rfl | (simp; done) | (simp [*]; done) | (simp [wrap64, wrap32]; done)), H', ⟨by have := HJ5.out; have := HK2.out; have := HK3.out; have := HK4.out; have := HK5.out; have := HK6.out; have := HK7.out; omega⟩, ⟨by (with_reducible repeat (first | apply Kd.P_alloc | apply Kd.P_drewN | apply Kd.P_drew)); exact HO_109.out⟩, ⟨by (with_reducible repeat (first | apply Kd.R_alloc | apply Kd.R_drewN | apply Kd.R_drew)); exact HO_179.out⟩, ⟨by (with_reducible repeat (first | apply Kd.R_alloc | apply Kd.R_drewN | apply Kd.R_drew)); exact HO_373000.out⟩, ⟨by (with_reducible repeat (first | apply Kd.R_alloc | apply Kd.R_drewN | apply Kd.R_drew)); exact HO_373001.out⟩, ⟨by (with_reducible repeat (first | apply Kd.R_alloc | apply Kd.R_drewN | apply Kd.R_drew)); exact HO_396000.out⟩, ⟨by (with_reducible repeat (first | apply Kd.R_alloc | apply Kd.R_drewN | apply Kd.R_drew)); exact HO_396001.out⟩, ⟨by (with_reducible repeat (first | refine blk_drewN ?_ _ | refine blk_drew ?_ | refine blk_alloc ?_ _)); exact BK362.out⟩, ⟨by (with_reducible repeat (first | refine blk_drewN ?_ _ | refine blk_drew ?_ | refine blk_alloc ?_ _)); exact BK372.out⟩, ⟨by (with_reducible repeat (first | refine blk_drewN ?_ _ | refine blk_drew ?_ | refine blk_alloc ?_ _)); exact BK395.out⟩, ⟨by repeat (first | (with_reducible first | exact HB.out | apply below_alloc | apply pw_below_drewN | apply below_drew1 | refine below_set ?_ GE362.out | refine below_set ?_ GE372.out | refine below_set ?_ GE395.out) | exact HB.out)⟩⟩
                          ·rw [if_neg c91] at H
                           exact absurd H (by simp)
                         ·rw [if_neg c90] at H
                          exact absurd H (by simp)
                        ·rw [if_neg c89] at H
                         have c89b0 : decide (x181_7 < (y403.length : Int)) = false := decide_eq_false c89
                         clear c89
                         obtain rfl := Option.some.inj H
                         go_wp2
                         rw [rounds_succ]
                         go_wp2
                         go_ret
                         exact ⟨by first | rfl | (simp [errW_none, errW_some] <;> rfl) | (simp [*, errW_none, errW_some] <;> rfl), by repeat (first | (with_reducible first | exact HB.out | apply below_alloc | apply pw_below_drewN | apply below_drew1 | refine below_set ?_ GE362.out | refine below_set ?_ GE372.out | refine below_set ?_ GE395.out) | exact HB.out)⟩
               ·rw [if_neg c58] at H
                have c58b0 : ((t396.length : Int) == (t389.length : Int)) = false := beq_eq_false_iff_ne.mpr c58
                have c58b1 : ((t396.length : Int) != (t389.length : Int)) = true := bne_iff_ne.mpr c58
                have c58b2 : (t396.length == t389.length) = false := by first | simpa using c58 | (simp at c58 ⊢; omega)
                have hf_ := Option.some.inj H
                rw [hr_] at hf_
                cases hf_
     ·rw [if_neg c15] at H
      have c15b0 : ((t373.length : Int) == (t366.length : Int)) = false := beq_eq_false_iff_ne.mpr c15
      have c15b1 : ((t373.length : Int) != (t366.length : Int)) = true := bne_iff_ne.mpr c15
      have c15b2 : (t373.length == t366.length) = false := by first | simpa using c15 | (simp at c15 ⊢; omega)
      have hf_ := Option.some.inj H
      rw [hr_] at hf_
      cases hf_
 ·replace c5 := Bool.eq_false_iff.mpr c5
  subst c5
  have H1 : (some false) = some r := by rw [if_neg (show ¬ (false = true) by decide)] at H; exact H
  clear H
  have H := H1
  clear H1
  have hf_ := Option.some.inj H
  rw [hr_] at hf_
  cases hf_
end Go.Proofs.YtkflgnhcfhmkdaaDoor.PPragmaReads
