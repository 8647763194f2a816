-- x
import Derived.Test.YtjabpbnlpljlkaaDoorPShowMadex0
import Derived.Test.YtjabpbnlpljlkaaDoorXSq
import Derived.Test.YtjabpbnlpljlkaaDoorPShowMadex7
namespace Go.Proofs.YtjabpbnlpljlkaaDoor.PShowMade
open Go.RowKit Go.Proofs.YtjabpbnlpljlkaaDoor.X Go.Proofs.YtjabpbnlpljlkaaDoorW.PrintWords Go.Proofs.YtjabpbnlpljlkaaDoorW.PrintLast Go.Proofs.YtjabpbnlpljlkaaDoorW.PrintMore
attribute [local go_sem] max2_int min2_int max_two min_two max_three min_three max_four min_four   -- for this text's walks alone
set_option linter.unusedVariables false
set_option linter.unusedSimpArgs false

/-! ### hunks_hunk: function 38 -/
mutual
def hunks_hunk.l0 : Nat → List ByteArray → List ByteArray → Int → Int → List (S82) → Int → Int → Int → Int → Int → Int → List (S29) → Option (Int × Int × Int × Int × (List (S29)))
 | 0, _, _, _, _, _, _, _, _, _, _, _, _ => none
 | k + 1, x0, x1, x3, x11, x37, x38, x39, x220000, x220001, x220002, x220003, x220004 => if x39 < x38 then (if 0 ≤ x39 then (if x39 < (x37.length : Int) then (if 0 ≤ x11 then (if x11 ≤ ((rd_T82 x37 x39).f0) then (if ((rd_T82 x37 x39).f0) ≤ (x0.length : Int) then ((some ((x0.take (((rd_T82 x37 x39).f0) : Int).toNat).drop (x11 : Int).toNat : List ByteArray)).bind fun y222 => (hunks_hunk.l1 k x0 x1 x3 x37 x38 x39 y222 (y222.length : Int) 0 x220000 x220001 x220002 x220003 x220004 ((rd_T82 x37 x39).f0) ((rd_T82 x37 x39).f1) ((rd_T82 x37 x39).f2) ((rd_T82 x37 x39).f3))) else (none)) else (none)) else (none)) else (none)) else (none)) else (if 0 ≤ x11 then (if x11 ≤ (mn (wrap64 (x11 + x3)) (x0.length : Int)) then (if (mn (wrap64 (x11 + x3)) (x0.length : Int)) ≤ (x0.length : Int) then ((some ((x0.take ((mn (wrap64 (x11 + x3)) (x0.length : Int)) : Int).toNat).drop (x11 : Int).toNat : List ByteArray)).bind fun y255 => (hunks_hunk.l4 k y255 (y255.length : Int) 0 x220000 x220001 x220002 x220003 x220004)) else (none)) else (none)) else (none))
def hunks_hunk.l1 : Nat → List ByteArray → List ByteArray → Int → List (S82) → Int → Int → List ByteArray → Int → Int → Int → Int → Int → Int → List (S29) → Int → Int → Int → Int → Option (Int × Int × Int × Int × (List (S29)))
 | 0, _, _, _, _, _, _, _, _, _, _, _, _, _, _, _, _, _, _ => none
 | k + 1, x0, x1, x3, x37, x38, x39, x113, x114, x115, x220000, x220001, x220002, x220003, x220004, x222000, x222001, x222002, x222003 => if x115 < x114 then (if 0 ≤ x115 then (if x115 < (x113.length : Int) then ((hunks_line.f 32 (rdOf ByteArray.empty x113 x115)).bind fun bt227 => (if x220004.length < 4398046511104 then (hunks_hunk.l1 k x0 x1 x3 x37 x38 x39 x113 x114 (wrap64 (x115 + 1)) x220000 x220001 x220002 x220003 (x220004 ++ [(⟨bt227.1, bt227.2.1, bt227.2.2⟩ : S29)]) x222000 x222001 x222002 x222003) else (none))) else (none)) else (none)) else (if 0 ≤ x222000 then (if x222000 ≤ (wrap64 (x222000 + x222001)) then (if (wrap64 (x222000 + x222001)) ≤ (x0.length : Int) then ((some ((x0.take ((wrap64 (x222000 + x222001)) : Int).toNat).drop (x222000 : Int).toNat : List ByteArray)).bind fun y233 => (hunks_hunk.l2 k x0 x1 x3 x37 x38 x39 y233 (y233.length : Int) 0 x220000 x220001 x220002 x220003 x220004 x222000 x222001 x222002 x222003)) else (none)) else (none)) else (none))
def hunks_hunk.l2 : Nat → List ByteArray → List ByteArray → Int → List (S82) → Int → Int → List ByteArray → Int → Int → Int → Int → Int → Int → List (S29) → Int → Int → Int → Int → Option (Int × Int × Int × Int × (List (S29)))
 | 0, _, _, _, _, _, _, _, _, _, _, _, _, _, _, _, _, _, _ => none
 | k + 1, x0, x1, x3, x37, x38, x39, x143, x144, x145, x220000, x220001, x220002, x220003, x220004, x222000, x222001, x222002, x222003 => if x145 < x144 then (if 0 ≤ x145 then (if x145 < (x143.length : Int) then ((hunks_line.f 45 (rdOf ByteArray.empty x143 x145)).bind fun bt238 => (if x220004.length < 4398046511104 then (hunks_hunk.l2 k x0 x1 x3 x37 x38 x39 x143 x144 (wrap64 (x145 + 1)) x220000 x220001 x220002 x220003 (x220004 ++ [(⟨bt238.1, bt238.2.1, bt238.2.2⟩ : S29)]) x222000 x222001 x222002 x222003) else (none))) else (none)) else (none)) else (if 0 ≤ x222002 then (if x222002 ≤ (wrap64 (x222002 + x222003)) then (if (wrap64 (x222002 + x222003)) ≤ (x1.length : Int) then ((some ((x1.take ((wrap64 (x222002 + x222003)) : Int).toNat).drop (x222002 : Int).toNat : List ByteArray)).bind fun y244 => (hunks_hunk.l3 k x0 x1 x3 x37 x38 x39 y244 (y244.length : Int) 0 x220000 x220001 x220002 x220003 x220004 x222000 x222001 x222002 x222003)) else (none)) else (none)) else (none))
def hunks_hunk.l3 : Nat → List ByteArray → List ByteArray → Int → List (S82) → Int → Int → List ByteArray → Int → Int → Int → Int → Int → Int → List (S29) → Int → Int → Int → Int → Option (Int × Int × Int × Int × (List (S29)))
 | 0, _, _, _, _, _, _, _, _, _, _, _, _, _, _, _, _, _, _ => none
 | k + 1, x0, x1, x3, x37, x38, x39, x173, x174, x175, x220000, x220001, x220002, x220003, x220004, x222000, x222001, x222002, x222003 => if x175 < x174 then (if 0 ≤ x175 then (if x175 < (x173.length : Int) then ((hunks_line.f 43 (rdOf ByteArray.empty x173 x175)).bind fun bt249 => (if x220004.length < 4398046511104 then (hunks_hunk.l3 k x0 x1 x3 x37 x38 x39 x173 x174 (wrap64 (x175 + 1)) x220000 x220001 x220002 x220003 (x220004 ++ [(⟨bt249.1, bt249.2.1, bt249.2.2⟩ : S29)]) x222000 x222001 x222002 x222003) else (none))) else (none)) else (none)) else (hunks_hunk.l0 k x0 x1 x3 (wrap64 (x222000 + x222001)) x37 x38 (wrap64 (x39 + 1)) x220000 x220001 x220002 x220003 x220004)
def hunks_hunk.l4 : Nat → List ByteArray → Int → Int → Int → Int → Int → Int → List (S29) → Option (Int × Int × Int × Int × (List (S29)))
 | 0, _, _, _, _, _, _, _, _ => none
 | k + 1, x203, x204, x205, x220000, x220001, x220002, x220003, x220004 => if x205 < x204 then (if 0 ≤ x205 then (if x205 < (x203.length : Int) then ((hunks_line.f 32 (rdOf ByteArray.empty x203 x205)).bind fun bt260 => (if x220004.length < 4398046511104 then (hunks_hunk.l4 k x203 x204 (wrap64 (x205 + 1)) x220000 x220001 x220002 x220003 (x220004 ++ [(⟨bt260.1, bt260.2.1, bt260.2.2⟩ : S29)])) else (none))) else (none)) else (none)) else ((hunks_count.f k x220004 43).bind fun t266 => ((hunks_count.f k x220004 45).bind fun t267 => (some (x220000, wrap64 ((x220004.length : Int) - t266), x220002, wrap64 ((x220004.length : Int) - t267), x220004))))
end
def hunks_hunk.f (k : Nat) (l0 : List ByteArray) (l1 : List ByteArray) (l2 : List (S82)) (a3 : Int) : Option (Int × Int × Int × Int × (List (S29))) := if 0 < (l2.length : Int) then (hunks_hunk.l0 k l0 l1 a3 (wrap64 (((rd_T82 l2 0).f0) - (mn a3 ((rd_T82 l2 0).f0)))) l2 (l2.length : Int) 0 (wrap64 (((rd_T82 l2 0).f0) - (mn a3 ((rd_T82 l2 0).f0)))) 0 (wrap64 (((rd_T82 l2 0).f2) - (mn a3 ((rd_T82 l2 0).f0)))) 0 ([] : List (S29))) else (none)
theorem hunks_hunk.mono_l : ∀ k, (∀ y0 y1 y2 y3 y4 y5 y6 y7 y8 y9 y10 y11, LeO (hunks_hunk.l0 k y0 y1 y2 y3 y4 y5 y6 y7 y8 y9 y10 y11) (hunks_hunk.l0 (k + 1) y0 y1 y2 y3 y4 y5 y6 y7 y8 y9 y10 y11)) ∧ (∀ y0 y1 y2 y3 y4 y5 y6 y7 y8 y9 y10 y11 y12 y13 y14 y15 y16 y17, LeO (hunks_hunk.l1 k y0 y1 y2 y3 y4 y5 y6 y7 y8 y9 y10 y11 y12 y13 y14 y15 y16 y17) (hunks_hunk.l1 (k + 1) y0 y1 y2 y3 y4 y5 y6 y7 y8 y9 y10 y11 y12 y13 y14 y15 y16 y17)) ∧ (∀ y0 y1 y2 y3 y4 y5 y6 y7 y8 y9 y10 y11 y12 y13 y14 y15 y16 y17, LeO (hunks_hunk.l2 k y0 y1 y2 y3 y4 y5 y6 y7 y8 y9 y10 y11 y12 y13 y14 y15 y16 y17) (hunks_hunk.l2 (k + 1) y0 y1 y2 y3 y4 y5 y6 y7 y8 y9 y10 y11 y12 y13 y14 y15 y16 y17)) ∧ (∀ y0 y1 y2 y3 y4 y5 y6 y7 y8 y9 y10 y11 y12 y13 y14 y15 y16 y17, LeO (hunks_hunk.l3 k y0 y1 y2 y3 y4 y5 y6 y7 y8 y9 y10 y11 y12 y13 y14 y15 y16 y17) (hunks_hunk.l3 (k + 1) y0 y1 y2 y3 y4 y5 y6 y7 y8 y9 y10 y11 y12 y13 y14 y15 y16 y17)) ∧ (∀ y0 y1 y2 y3 y4 y5 y6 y7, LeO (hunks_hunk.l4 k y0 y1 y2 y3 y4 y5 y6 y7) (hunks_hunk.l4 (k + 1) y0 y1 y2 y3 y4 y5 y6 y7))
 | 0 => ⟨fun _ _ _ _ _ _ _ _ _ _ _ _ r h => by simp [hunks_hunk.l0] at h, fun _ _ _ _ _ _ _ _ _ _ _ _ _ _ _ _ _ _ r h => by simp [hunks_hunk.l1] at h, fun _ _ _ _ _ _ _ _ _ _ _ _ _ _ _ _ _ _ r h => by simp [hunks_hunk.l2] at h, fun _ _ _ _ _ _ _ _ _ _ _ _ _ _ _ _ _ _ r h => by simp [hunks_hunk.l3] at h, fun _ _ _ _ _ _ _ _ r h => by simp [hunks_hunk.l4] at h⟩
 | k + 1 => by
  obtain ⟨ih0, ih1, ih2, ih3, ih4⟩ := hunks_hunk.mono_l k
  refine ⟨?_, ?_, ?_, ?_, ?_⟩
  ·intro y0 y1 y2 y3 y4 y5 y6 y7 y8 y9 y10 y11
   unfold hunks_hunk.l0
   repeat' first
   | (with_reducible exact ih0 _ _ _ _ _ _ _ _ _ _ _ _)
   | (with_reducible exact ih1 _ _ _ _ _ _ _ _ _ _ _ _ _ _ _ _ _ _)
   | (with_reducible exact ih2 _ _ _ _ _ _ _ _ _ _ _ _ _ _ _ _ _ _)
   | (with_reducible exact ih3 _ _ _ _ _ _ _ _ _ _ _ _ _ _ _ _ _ _)
   | (with_reducible exact ih4 _ _ _ _ _ _ _ _)
   | (with_reducible exact hunks_count.mono _ _ _)
   | (with_reducible exact LeO.refl _)
   | (with_reducible exact LeO.none _)
   | (with_reducible refine LeO.ite ?_ ?_)
   | (with_reducible refine LeO.bind ?_ (fun _ => ?_))
  ·intro y0 y1 y2 y3 y4 y5 y6 y7 y8 y9 y10 y11 y12 y13 y14 y15 y16 y17
   unfold hunks_hunk.l1
   repeat' first
   | (with_reducible exact ih0 _ _ _ _ _ _ _ _ _ _ _ _)
   | (with_reducible exact ih1 _ _ _ _ _ _ _ _ _ _ _ _ _ _ _ _ _ _)
   | (with_reducible exact ih2 _ _ _ _ _ _ _ _ _ _ _ _ _ _ _ _ _ _)
   | (with_reducible exact ih3 _ _ _ _ _ _ _ _ _ _ _ _ _ _ _ _ _ _)
   | (with_reducible exact ih4 _ _ _ _ _ _ _ _)
   | (with_reducible exact hunks_count.mono _ _ _)
   | (with_reducible exact LeO.refl _)
   | (with_reducible exact LeO.none _)
   | (with_reducible refine LeO.ite ?_ ?_)
   | (with_reducible refine LeO.bind ?_ (fun _ => ?_))
  ·intro y0 y1 y2 y3 y4 y5 y6 y7 y8 y9 y10 y11 y12 y13 y14 y15 y16 y17
   unfold hunks_hunk.l2
   repeat' first
   | (with_reducible exact ih0 _ _ _ _ _ _ _ _ _ _ _ _)
   | (with_reducible exact ih1 _ _ _ _ _ _ _ _ _ _ _ _ _ _ _ _ _ _)
   | (with_reducible exact ih2 _ _ _ _ _ _ _ _ _ _ _ _ _ _ _ _ _ _)
   | (with_reducible exact ih3 _ _ _ _ _ _ _ _ _ _ _ _ _ _ _ _ _ _)
   | (with_reducible exact ih4 _ _ _ _ _ _ _ _)
   | (with_reducible exact hunks_count.mono _ _ _)
   | (with_reducible exact LeO.refl _)
   | (with_reducible exact LeO.none _)
   | (with_reducible refine LeO.ite ?_ ?_)
   | (with_reducible refine LeO.bind ?_ (fun _ => ?_))
  ·intro y0 y1 y2 y3 y4 y5 y6 y7 y8 y9 y10 y11 y12 y13 y14 y15 y16 y17
   unfold hunks_hunk.l3
   repeat' first
   | (with_reducible exact ih0 _ _ _ _ _ _ _ _ _ _ _ _)
   | (with_reducible exact ih1 _ _ _ _ _ _ _ _ _ _ _ _ _ _ _ _ _ _)
   | (with_reducible exact ih2 _ _ _ _ _ _ _ _ _ _ _ _ _ _ _ _ _ _)
   | (with_reducible exact ih3 _ _ _ _ _ _ _ _ _ _ _ _ _ _ _ _ _ _)
   | (with_reducible exact ih4 _ _ _ _ _ _ _ _)
   | (with_reducible exact hunks_count.mono _ _ _)
   | (with_reducible exact LeO.refl _)
   | (with_reducible exact LeO.none _)
   | (with_reducible refine LeO.ite ?_ ?_)
   | (with_reducible refine LeO.bind ?_ (fun _ => ?_))
  ·intro y0 y1 y2 y3 y4 y5 y6 y7
   unfold hunks_hunk.l4
   repeat' first
   | (with_reducible exact ih0 _ _ _ _ _ _ _ _ _ _ _ _)
   | (with_reducible exact ih1 _ _ _ _ _ _ _ _ _ _ _ _ _ _ _ _ _ _)
   | (with_reducible exact ih2 _ _ _ _ _ _ _ _ _ _ _ _ _ _ _ _ _ _)
   | (with_reducible exact ih3 _ _ _ _ _ _ _ _ _ _ _ _ _ _ _ _ _ _)
   | (with_reducible exact ih4 _ _ _ _ _ _ _ _)
   | (with_reducible exact hunks_count.mono _ _ _)
   | (with_reducible exact LeO.refl _)
   | (with_reducible exact LeO.none _)
   | (with_reducible refine LeO.ite ?_ ?_)
   | (with_reducible refine LeO.bind ?_ (fun _ => ?_))
theorem hunks_hunk.mono : ∀ a0 a1 a2 a3 k, LeO (hunks_hunk.f k a0 a1 a2 a3) (hunks_hunk.f (k + 1) a0 a1 a2 a3) := by
 intro a0 a1 a2 a3 k
 obtain ⟨ih0, ih1, ih2, ih3, ih4⟩ := hunks_hunk.mono_l k
 unfold hunks_hunk.f
 repeat' first
   | (with_reducible exact ih0 _ _ _ _ _ _ _ _ _ _ _ _)
   | (with_reducible exact ih1 _ _ _ _ _ _ _ _ _ _ _ _ _ _ _ _ _ _)
   | (with_reducible exact ih2 _ _ _ _ _ _ _ _ _ _ _ _ _ _ _ _ _ _)
   | (with_reducible exact ih3 _ _ _ _ _ _ _ _ _ _ _ _ _ _ _ _ _ _)
   | (with_reducible exact ih4 _ _ _ _ _ _ _ _)
   | (with_reducible exact hunks_count.mono _ _ _)
   | (with_reducible exact LeO.refl _)
   | (with_reducible exact LeO.none _)
   | (with_reducible refine LeO.ite ?_ ?_)
   | (with_reducible refine LeO.bind ?_ (fun _ => ?_))
def hunks_hunk.T2 : Bool × List (List Nat × List Nat) := (true, [([], []), ([0], [0]), ([1], [1]), ([2], [2]), ([], []), ([3, 4], [3, 4]), ([], []), ([6], [6]), ([7], [7]), ([8], [8]), ([], []), ([9, 10], [9, 10]), ([5, 11], [5, 11]), ([], []), ([13, 12, 0, 1, 2, 3, 4, 5, 6, 7, 8, 9, 10, 11, 12, 13], [12, 13])])
def hunks_hunk.B2 : List Nat := [0, 1, 3, 7, 0, 31, 0, 64, 192, 448, 0, 1984, 4095, 0, 16383]
theorem hunks_hunk.tab2 : rtab .any (opsOf Tryd.f38 2) = hunks_hunk.T2 := by kernel_rfl
theorem hunks_hunk.bits2 : waitsOk hunks_hunk.T2.2 hunks_hunk.B2 = true := by kernel_rfl
def hunks_hunk.T14 : Bool × List (List Nat × List Nat) := (true, [([], []), ([0], [0]), ([1], [1]), ([], []), ([3], [3]), ([4], [4]), ([2, 5], [2, 5]), ([0, 1, 2, 3, 4, 5, 6], []), ([7, 6, 5, 0, 1, 2, 3, 4, 5, 6], [6, 7])])
def hunks_hunk.B14 : List Nat := [0, 1, 3, 0, 8, 24, 63, 127, 255]
theorem hunks_hunk.tab14 : rtab .any (opsOf Tryd.f38 14) = hunks_hunk.T14 := by kernel_rfl
theorem hunks_hunk.bits14 : waitsOk hunks_hunk.T14.2 hunks_hunk.B14 = true := by kernel_rfl
def hunks_hunk.T15 : Bool × List (List Nat × List Nat) := (true, [([], []), ([0], [0]), ([1], [1]), ([], []), ([3], [3]), ([4], [4]), ([2, 5], [2, 5]), ([0, 1, 2, 3, 4, 5, 6], []), ([7, 6, 5, 0, 1, 2, 3, 4, 5, 6], [6, 7])])
def hunks_hunk.B15 : List Nat := [0, 1, 3, 0, 8, 24, 63, 127, 255]
theorem hunks_hunk.tab15 : rtab .any (opsOf Tryd.f38 15) = hunks_hunk.T15 := by kernel_rfl
theorem hunks_hunk.bits15 : waitsOk hunks_hunk.T15.2 hunks_hunk.B15 = true := by kernel_rfl
def hunks_hunk.T103 : Bool × List (List Nat × List Nat) := (true, [([], []), ([0], [0]), ([], []), ([], []), ([2, 3], [2, 3]), ([4], [4]), ([1, 5, 4], [1, 5]), ([0, 1, 2, 3, 4, 5, 6], []), ([7, 6, 6, 0, 1, 2, 3, 4, 5, 6], [6, 7])])
def hunks_hunk.B103 : List Nat := [0, 1, 0, 0, 12, 28, 63, 127, 255]
theorem hunks_hunk.tab103 : rtab .any (opsOf Tryd.f63 3) = hunks_hunk.T103 := by kernel_rfl
theorem hunks_hunk.bits103 : waitsOk hunks_hunk.T103.2 hunks_hunk.B103 = true := by kernel_rfl
def hunks_hunk.T203 : Bool × List (List Nat × List Nat) := (true, [([], []), ([0], [0]), ([], []), ([], []), ([2, 3], [2, 3]), ([4], [4]), ([1, 5, 4], [1, 5]), ([0, 1, 2, 3, 4, 5, 6], []), ([7, 6, 6, 0, 1, 2, 3, 4, 5, 6], [6, 7])])
def hunks_hunk.B203 : List Nat := [0, 1, 0, 0, 12, 28, 63, 127, 255]
theorem hunks_hunk.tab203 : rtab .any (opsOf Tryd.f63 3) = hunks_hunk.T203 := by kernel_rfl
theorem hunks_hunk.bits203 : waitsOk hunks_hunk.T203.2 hunks_hunk.B203 = true := by kernel_rfl
def hunks_hunk.T303 : Bool × List (List Nat × List Nat) := (true, [([], []), ([0], [0]), ([], []), ([], []), ([2, 3], [2, 3]), ([4], [4]), ([1, 5, 4], [1, 5]), ([0, 1, 2, 3, 4, 5, 6], []), ([7, 6, 6, 0, 1, 2, 3, 4, 5, 6], [6, 7])])
def hunks_hunk.B303 : List Nat := [0, 1, 0, 0, 12, 28, 63, 127, 255]
theorem hunks_hunk.tab303 : rtab .any (opsOf Tryd.f63 3) = hunks_hunk.T303 := by kernel_rfl
theorem hunks_hunk.bits303 : waitsOk hunks_hunk.T303.2 hunks_hunk.B303 = true := by kernel_rfl
def hunks_hunk.T403 : Bool × List (List Nat × List Nat) := (true, [([], []), ([0], [0]), ([], []), ([], []), ([2, 3], [2, 3]), ([4], [4]), ([1, 5, 4], [1, 5]), ([0, 1, 2, 3, 4, 5, 6], []), ([7, 6, 6, 0, 1, 2, 3, 4, 5, 6], [6, 7])])
def hunks_hunk.B403 : List Nat := [0, 1, 0, 0, 12, 28, 63, 127, 255]
theorem hunks_hunk.tab403 : rtab .any (opsOf Tryd.f63 3) = hunks_hunk.T403 := by kernel_rfl
theorem hunks_hunk.bits403 : waitsOk hunks_hunk.T403.2 hunks_hunk.B403 = true := by kernel_rfl
set_option maxHeartbeats 8000000 in
set_option maxRecDepth 100000 in
theorem hunks_hunk.calls (k : Nat) (A0 : Option Addr) (c0 : Nat) (l0 : List ByteArray) (A1 : Option Addr) (c1 : Nat) (l1 : List ByteArray) (A2 : Option Addr) (c2 : Nat) (l2 : List (S82)) (a3 : Int) (r1 : Int) (r2 : Int) (r3 : Int) (r4 : Int) (r5 : List (S29)) (w : World) (hr0 : Kd.C Kd.string w A0 l0.length l0) (hc0 : l0.length ≤ c0) (hr1 : Kd.C Kd.string w A1 l1.length l1) (hc1 : l1.length ≤ c1) (hr2 : Kd.C k82 w A2 l2.length l2) (hc2 : l2.length ≤ c2) (h : hunks_hunk.f k l0 l1 l2 a3 = some (r1, r2, r3, r4, r5)) :
  Calls Tryd.prog 38 #[.slice A0 l0.length c0, .slice A1 l1.length c1, .slice A2 l2.length c2, .int .i64 a3] w fun e w' => ∃ v4_ : Value, e = .returned (.agg #[.int .i64 r1, .int .i64 r2, .int .i64 r3, .int .i64 r4, v4_]) ∧ Kd.R k29 29 w' w.heap.size (fun _ => True) v4_ r5 ∧ Below w.heap.size w w' := by
 have hu26 := Tryd.underlying26
 have hu82 := Tryd.underlying82
 have HR0 := Aside0.mk hr0
 have HC0 := Aside0.mk hc0
 clear hr0 hc0
 have HR1 := Aside0.mk hr1
 have HC1 := Aside0.mk hc1
 clear hr1 hc1
 have HR2 := Aside0.mk hr2
 have HC2 := Aside0.mk hc2
 clear hr2 hc2
 have HB := Aside0.mk (Below.refl w.heap.size w)
 have H : (if 0 < (l2.length : Int) then (hunks_hunk.l0 k l0 l1 a3 (wrap64 (((rd_T82 l2 0).f0) - (mn a3 ((rd_T82 l2 0).f0)))) l2 (l2.length : Int) 0 (wrap64 (((rd_T82 l2 0).f0) - (mn a3 ((rd_T82 l2 0).f0)))) 0 (wrap64 (((rd_T82 l2 0).f2) - (mn a3 ((rd_T82 l2 0).f0)))) 0 ([] : List (S29))) else (none)) = some (r1, r2, r3, r4, r5) := h
 clear h
 by_cases c5 : 0 < (l2.length : Int)
 ·rw [if_pos c5] at H
  have c5b0 : decide (0 < (l2.length : Int)) = true := decide_eq_true c5
  have c5b1 : decide (0 < l2.length) = true := decide_eq_true (by omega)
  clear c5
  obtain ⟨ji6, hji6⟩ : ∃ j_ : Int, (mn a3 ((rd_T82 l2 0).f0)) = j_ := ⟨_, rfl⟩
  replace H : (hunks_hunk.l0 k l0 l1 a3 (wrap64 (((rd_T82 l2 0).f0) - (ji6))) l2 (l2.length : Int) 0 (wrap64 (((rd_T82 l2 0).f0) - (ji6))) 0 (wrap64 (((rd_T82 l2 0).f2) - (ji6))) 0 ([] : List (S29))) = some (r1, r2, r3, r4, r5) := by first | (rw [hji6] at H; exact H) | (simp only [hji6] at H ⊢; exact H)
  have hji6_ : (if ((rd_T82 l2 0).f0) < a3 then ((rd_T82 l2 0).f0) else a3) = ji6 := hji6
  have H' := Aside0.mk H
  clear H
  go_enter Tryd.func38, Tryd.ntmps38
  try go_wp2_with (first | ((with_reducible refine gate_dst (N := 8) rfl ?_); refine box_event ?hg (N := 8) ?hd (cs := #[.int .i64 0, .int .i64 0, .int .i64 0, .int .i64 0, .slice none 0 0]) (t := 26) ?hr ?_; (case hd => rfl); (case hg => rfl); (case hr => first | (go_simp; done) | (go_simp; rfl)); intro gb215 hg w7 hbox hb; have n0_ := Aside0.mk (below_step (by repeat (first | (with_reducible first | exact HB.out | apply below_alloc | apply pw_below_drewN | apply below_drew1) | exact HB.out)) hb); have n1_ := Aside0.mk (hbox); have n2_ := Aside0.mk ((by rw [hg]; exact (below_size (by repeat (first | (with_reducible first | exact HB.out | apply below_alloc | apply pw_below_drewN | apply below_drew1) | exact HB.out))) : w.heap.size ≤ gb215)); have n3_ := Aside0.mk ((by rw [hg]; exact (below_size (by repeat (first | (with_reducible first | exact HB.out | apply below_alloc | apply pw_below_drewN | apply below_drew1) | exact HB.out))) : w.heap.size ≤ gb215)); clear HB; have HB := n0_; have BK215 := n1_; have GW215 := n2_; have GE215 := n3_; clear n0_ n1_ n2_ n3_; clear hb hbox hg; have p216 : 0 ≤ (0 : Int) := (by omega); have q216 : 0 < (l2.length : Int) := of_decide_eq_true (by first | (with_reducible assumption) | assumption); obtain ⟨ad216, e216, hx216_0, hx216_1, hx216_2, hx216_3⟩ := at_T82 HR2.out 0 p216 q216; cases e216; have qi216 : (0 < l2.length) = True := eq_true (by omega); (try rw [show ((0 : Int)).toNat = 0 from rfl] at hx216_0); (try rw [show 0 * 4 = 0 from rfl] at hx216_0); (try rw [Addr.add_zero'] at hx216_0); (try rw [show ((0 : Int)).toNat = 0 from rfl] at hx216_1); (try rw [show 0 * 4 = 0 from rfl] at hx216_1); (try rw [Addr.add_zero'] at hx216_1); (try rw [show ((0 : Int)).toNat = 0 from rfl] at hx216_2); (try rw [show 0 * 4 = 0 from rfl] at hx216_2); (try rw [Addr.add_zero'] at hx216_2); (try rw [show ((0 : Int)).toNat = 0 from rfl] at hx216_3); (try rw [show 0 * 4 = 0 from rfl] at hx216_3); (try rw [Addr.add_zero'] at hx216_3); replace hx216_0 := (HB.out.cell (World.block_lt_of_cell? w _ hx216_0)).trans hx216_0; replace hx216_1 := (HB.out.cell (World.block_lt_of_cell? w _ hx216_1)).trans hx216_1; replace hx216_2 := (HB.out.cell (World.block_lt_of_cell? w _ hx216_2)).trans hx216_2; replace hx216_3 := (HB.out.cell (World.block_lt_of_cell? w _ hx216_3)).trans hx216_3; replace p216 := eq_true p216; replace q216 := eq_true q216))
  have n0_ := Aside0.mk (blk_drew BK215.out)
  have n1_ := Aside0.mk (below_drew1 HB.out)
  clear BK215
  clear HB
  have BK215 := n0_
  have HB := n1_
  clear n0_ n1_
  have p217 : 0 ≤ (0 : Int) := (by omega)
  have q217 : 0 < (l2.length : Int) := of_decide_eq_true (by first | (with_reducible assumption) | assumption)
  obtain ⟨ad217, e217, hx217_0, hx217_1, hx217_2, hx217_3⟩ := at_T82 HR2.out 0 p217 q217
  have hw217_3 := hx217_3
  (try rw [show ((0 : Int)).toNat = 0 from rfl] at hw217_3)
  (try rw [show 0 * 4 = 0 from rfl] at hw217_3)
  (try rw [Addr.add_zero'] at hw217_3)
  have hw217_2 := hx217_2
  (try rw [show ((0 : Int)).toNat = 0 from rfl] at hw217_2)
  (try rw [show 0 * 4 = 0 from rfl] at hw217_2)
  (try rw [Addr.add_zero'] at hw217_2)
  have hw217_1 := hx217_1
  (try rw [show ((0 : Int)).toNat = 0 from rfl] at hw217_1)
  (try rw [show 0 * 4 = 0 from rfl] at hw217_1)
  (try rw [Addr.add_zero'] at hw217_1)
  have hw217_0 := hx217_0
  (try rw [show ((0 : Int)).toNat = 0 from rfl] at hw217_0)
  (try rw [show 0 * 4 = 0 from rfl] at hw217_0)
  (try rw [Addr.add_zero'] at hw217_0)
  obtain rfl : ad216 = ad217 := (by injection e217)
  have qi217 : (0 < l2.length) = True := eq_true (by omega)
  (try rw [show ((0 : Int)).toNat = 0 from rfl] at hx217_0)
  (try rw [show 0 * 4 = 0 from rfl] at hx217_0)
  (try rw [Addr.add_zero'] at hx217_0)
  (try rw [show ((0 : Int)).toNat = 0 from rfl] at hx217_1)
  (try rw [show 0 * 4 = 0 from rfl] at hx217_1)
  (try rw [Addr.add_zero'] at hx217_1)
  (try rw [show ((0 : Int)).toNat = 0 from rfl] at hx217_2)
  (try rw [show 0 * 4 = 0 from rfl] at hx217_2)
  (try rw [Addr.add_zero'] at hx217_2)
  (try rw [show ((0 : Int)).toNat = 0 from rfl] at hx217_3)
  (try rw [show 0 * 4 = 0 from rfl] at hx217_3)
  (try rw [Addr.add_zero'] at hx217_3)
  replace hx217_0 := (HB.out.cell (World.block_lt_of_cell? w _ hx217_0)).trans hx217_0
  replace hx217_1 := (HB.out.cell (World.block_lt_of_cell? w _ hx217_1)).trans hx217_1
  replace hx217_2 := (HB.out.cell (World.block_lt_of_cell? w _ hx217_2)).trans hx217_2
  replace hx217_3 := (HB.out.cell (World.block_lt_of_cell? w _ hx217_3)).trans hx217_3
  replace p217 := eq_true p217
  replace q217 := eq_true q217
  have p218 : 0 ≤ (0 : Int) := (by omega)
  have q218 : 0 < (l2.length : Int) := of_decide_eq_true (by first | (with_reducible assumption) | assumption)
  obtain ⟨ad218, e218, hx218_0, hx218_1, hx218_2, hx218_3⟩ := at_T82 HR2.out 0 p218 q218
  have hw218_3 := hx218_3
  (try rw [show ((0 : Int)).toNat = 0 from rfl] at hw218_3)
  (try rw [show 0 * 4 = 0 from rfl] at hw218_3)
  (try rw [Addr.add_zero'] at hw218_3)
  have hw218_2 := hx218_2
  (try rw [show ((0 : Int)).toNat = 0 from rfl] at hw218_2)
  (try rw [show 0 * 4 = 0 from rfl] at hw218_2)
  (try rw [Addr.add_zero'] at hw218_2)
  have hw218_1 := hx218_1
  (try rw [show ((0 : Int)).toNat = 0 from rfl] at hw218_1)
  (try rw [show 0 * 4 = 0 from rfl] at hw218_1)
  (try rw [Addr.add_zero'] at hw218_1)
  have hw218_0 := hx218_0
  (try rw [show ((0 : Int)).toNat = 0 from rfl] at hw218_0)
  (try rw [show 0 * 4 = 0 from rfl] at hw218_0)
  (try rw [Addr.add_zero'] at hw218_0)
  obtain rfl : ad216 = ad218 := (by injection e218)
  have qi218 : (0 < l2.length) = True := eq_true (by omega)
  (try rw [show ((0 : Int)).toNat = 0 from rfl] at hx218_0)
  (try rw [show 0 * 4 = 0 from rfl] at hx218_0)
  (try rw [Addr.add_zero'] at hx218_0)
  (try rw [show ((0 : Int)).toNat = 0 from rfl] at hx218_1)
  (try rw [show 0 * 4 = 0 from rfl] at hx218_1)
  (try rw [Addr.add_zero'] at hx218_1)
  (try rw [show ((0 : Int)).toNat = 0 from rfl] at hx218_2)
  (try rw [show 0 * 4 = 0 from rfl] at hx218_2)
  (try rw [Addr.add_zero'] at hx218_2)
  (try rw [show ((0 : Int)).toNat = 0 from rfl] at hx218_3)
  (try rw [show 0 * 4 = 0 from rfl] at hx218_3)
  (try rw [Addr.add_zero'] at hx218_3)
  replace hx218_0 := (HB.out.cell (World.block_lt_of_cell? w _ hx218_0)).trans hx218_0
  replace hx218_1 := (HB.out.cell (World.block_lt_of_cell? w _ hx218_1)).trans hx218_1
  replace hx218_2 := (HB.out.cell (World.block_lt_of_cell? w _ hx218_2)).trans hx218_2
  replace hx218_3 := (HB.out.cell (World.block_lt_of_cell? w _ hx218_3)).trans hx218_3
  replace p218 := eq_true p218
  replace q218 := eq_true q218
  refine start_ (n := 15) (S := fun w' => w'.cell? ad216 = some (.int .i64 ((rd_T82 l2 0).f0)) ∧ w'.cell? ⟨ad216.block, ad216.off + 1, none⟩ = some (.int .i64 ((rd_T82 l2 0).f1)) ∧ w'.cell? ⟨ad216.block, ad216.off + 2, none⟩ = some (.int .i64 ((rd_T82 l2 0).f2)) ∧ w'.cell? ⟨ad216.block, ad216.off + 3, none⟩ = some (.int .i64 ((rd_T82 l2 0).f3)) ∧ w'.cell? ad216 = some (.int .i64 ((rd_T82 l2 0).f0)) ∧ w'.cell? ⟨ad216.block, ad216.off + 1, none⟩ = some (.int .i64 ((rd_T82 l2 0).f1)) ∧ w'.cell? ⟨ad216.block, ad216.off + 2, none⟩ = some (.int .i64 ((rd_T82 l2 0).f2)) ∧ w'.cell? ⟨ad216.block, ad216.off + 3, none⟩ = some (.int .i64 ((rd_T82 l2 0).f3))) (ds := []) (bs 15 0) (by kernel_rfl) rfl rfl ⟨((HB.out.cell (World.block_lt_of_cell? w _ hw217_0)).trans hw217_0), ((HB.out.cell (World.block_lt_of_cell? w _ hw217_1)).trans hw217_1), ((HB.out.cell (World.block_lt_of_cell? w _ hw217_2)).trans hw217_2), ((HB.out.cell (World.block_lt_of_cell? w _ hw217_3)).trans hw217_3), ((HB.out.cell (World.block_lt_of_cell? w _ hw218_0)).trans hw218_0), ((HB.out.cell (World.block_lt_of_cell? w _ hw218_1)).trans hw218_1), ((HB.out.cell (World.block_lt_of_cell? w _ hw218_2)).trans hw218_2), ((HB.out.cell (World.block_lt_of_cell? w _ hw218_3)).trans hw218_3)⟩ (fun hHeld => ?_); refine with_tabW hunks_hunk.tab2 hunks_hunk.bits2 (fun HT_ HW_ => ?_)
  generalize w7.drew = w8 at BK215 HB hx217_0 hx217_1 hx217_2 hx217_3 hx218_0 hx218_1 hx218_2 hx218_3 hHeld ⊢
  refine pu_ 0 (some 21) ?_ (bs 15 1) HT_.out (by kernel_rfl) rfl rfl (fun _ _ _ h => h) (Or.inl ⟨by rfl, ?_⟩) ?_ ?_ ?_; rotate_left; (· intro w'; go_simp; with_reducible rfl); rotate_left; (· simp only [Act.put, sit, scz, scs, i64_w, i32_w]; rfl)
  refine pu_ 1 (some 22) ?_ (bs 15 3) HT_.out (by kernel_rfl) rfl rfl (fun _ _ _ h => h) (Or.inl ⟨by rfl, ?_⟩) ?_ ?_ ?_; rotate_left; (· intro w'; go_simp; with_reducible rfl); rotate_left; (· simp only [Act.put, sit, scz, scs, i64_w, i32_w]; rfl)
  refine pu_ 2 (some 23) ?_ (bs 15 7) HT_.out (by kernel_rfl) rfl rfl (fun _ _ _ h => h) (Or.inl ⟨by rfl, ?_⟩) ?_ ?_ ?_; rotate_left; (· intro w'; go_simp; with_reducible rfl); rotate_left; (· simp only [Act.put, sit, scz, scs, i64_w, i32_w]; rfl)
  refine pu_ 4 (some 25) ?_ (bs 15 23) HT_.out (by kernel_rfl) rfl rfl (fun _ _ _ h => h) (Or.inl ⟨by rfl, ?_⟩) ?_ ?_ ?_; rotate_left; (· intro w'; go_simp; with_reducible rfl); rotate_left; (· simp only [Act.put, sit, scz, scs, i64_w, i32_w]; rfl)
  refine pu_ 6 (some 27) ?_ (bs 15 87) HT_.out (by kernel_rfl) rfl rfl (fun _ _ _ h => h) (Or.inl ⟨by rfl, ?_⟩) ?_ ?_ ?_; rotate_left; (· intro w'; go_simp; with_reducible rfl); rotate_left; (· simp only [Act.put, sit, scz, scs, i64_w, i32_w]; rfl)
  refine pu_ 7 (some 28) ?_ (bs 15 215) HT_.out (by kernel_rfl) rfl rfl (fun _ _ _ h => h) (Or.inl ⟨by rfl, ?_⟩) ?_ ?_ ?_; rotate_left; (· intro w'; go_simp; with_reducible rfl); rotate_left; (· simp only [Act.put, sit, scz, scs, i64_w, i32_w]; rfl)
  refine pu_ 8 (some 29) ?_ (bs 15 471) HT_.out (by kernel_rfl) rfl rfl (fun _ _ _ h => h) (Or.inl ⟨by rfl, ?_⟩) ?_ ?_ ?_; rotate_left; (· intro w'; go_simp; with_reducible rfl); rotate_left; (· simp only [Act.put, sit, scz, scs, i64_w, i32_w]; rfl)
  refine pu_ 10 (some 31) ?_ (bs 15 1495) HT_.out (by kernel_rfl) rfl rfl (fun _ _ _ h => h) (Or.inl ⟨by rfl, ?_⟩) ?_ ?_ ?_; rotate_left; (· intro w'; go_simp; with_reducible rfl); rotate_left; (· simp only [Act.put, sit, scz, scs, i64_w, i32_w]; rfl)
  refine take_ (i := 3) (N := some 24) (v := ?_) (a' := ?_) (bs 15 1503) rfl rfl (take_ofW HT_.out HW_.out (by kernel_rfl)) (fun _ _ _ h => h) (Or.inl ⟨by rfl, ?_⟩) hHeld ?_ ?_; rotate_left; (· rintro w' ⟨s0, s1, s2, s3, s4, s5, s6, s7⟩; go_simp; with_reducible rfl); rotate_left; (· simp only [Act.put, sit, scz, scs, i64_w, i32_w]; rfl)
  refine pu_ 5 (some 26) ?_ (bs 15 1535) HT_.out (by kernel_rfl) rfl rfl (fun _ _ _ h => h) (Or.inl ⟨by rfl, ?_⟩) ?_ ?_ ?_; rotate_left; (· intro w'; go_simp; with_reducible rfl); rotate_left; (· simp only [Act.put, sit, scz, scs, i64_w, i32_w]; rfl)
  refine take_ (i := 9) (N := some 30) (v := ?_) (a' := ?_) (bs 15 2047) rfl rfl (take_ofW HT_.out HW_.out (by kernel_rfl)) (fun _ _ _ h => h) (Or.inl ⟨by rfl, ?_⟩) hHeld ?_ ?_; rotate_left; (· rintro w' ⟨s0, s1, s2, s3, s4, s5, s6, s7⟩; go_simp; with_reducible rfl); rotate_left; (· simp only [Act.put, sit, scz, scs, i64_w, i32_w]; rfl)
  refine pu_ 11 (some 32) ?_ (bs 15 4095) HT_.out (by kernel_rfl) rfl rfl (fun _ _ _ h => h) (Or.inl ⟨by rfl, ?_⟩) ?_ ?_ ?_; rotate_left; (· intro w'; go_simp; with_reducible rfl); rotate_left; (· simp only [Act.put, sit, scz, scs, i64_w, i32_w]; rfl)
  refine pu_ 12 (some 33) ?_ (bs 15 8191) HT_.out (by kernel_rfl) rfl rfl (fun _ _ _ h => h) (Or.inl ⟨by rfl, ?_⟩) ?_ ?_ ?_; rotate_left; (· intro w'; go_simp; with_reducible rfl); rotate_left; (· simp only [Act.put, sit, scz, scs, i64_w, i32_w]; rfl)
  refine one_ (i := 13) (N := some 10) (bs 15 16383) rfl rfl (one_of HT_.out (by kernel_rfl)) (by decide) (fun K hK => ?_)
  refine box_step ?hg (N := 10) ?hd (cs := #[.int .i64 0, .int .i64 0, .int .i64 0, .int .i64 0, .slice none 0 0]) (t := 26) ?hr ?_; (case hd => rfl); (case hg => rfl); (case hr => first | (go_simp; done) | (go_simp; rfl))
  intro gb219 hg w9 hbox hb
  have n0_ := Aside0.mk (blk_below (g := gb215) (o := .cells #[.int .i64 0, .int .i64 0, .int .i64 0, .int .i64 0, .slice none 0 0] 26 (0, 0)) (by (with_reducible repeat (first | refine blk_drewN ?_ _ | refine blk_drew ?_ | refine blk_alloc ?_ _)); exact BK215.out) hb)
  have n1_ := Aside0.mk (below_step (by repeat (first | (with_reducible first | exact HB.out | apply below_alloc | apply pw_below_drewN | apply below_drew1 | refine below_set ?_ GE215.out) | exact HB.out)) hb)
  have n2_ := Aside0.mk (hbox)
  have n3_ := Aside0.mk ((by rw [hg]; exact (below_size (by repeat (first | (with_reducible first | exact HB.out | apply below_alloc | apply pw_below_drewN | apply below_drew1 | refine below_set ?_ GE215.out) | exact HB.out))) : w.heap.size ≤ gb219))
  have n4_ := Aside0.mk ((by rw [hg]; exact (below_size (by repeat (first | (with_reducible first | exact HB.out | apply below_alloc | apply pw_below_drewN | apply below_drew1 | refine below_set ?_ GE215.out) | exact HB.out))) : w.heap.size ≤ gb219))
  have n5_ := Aside0.mk ((by rw [hg]; exact Nat.ne_of_lt (blk_lt (g := gb215) (o := .cells #[.int .i64 0, .int .i64 0, .int .i64 0, .int .i64 0, .slice none 0 0] 26 (0, 0)) (by (with_reducible repeat (first | refine blk_drewN ?_ _ | refine blk_drew ?_ | refine blk_alloc ?_ _)); exact BK215.out)) : gb215 ≠ gb219))
  have n6_ := Aside0.mk ((by rw [hg]; exact Nat.ne_of_gt (blk_lt (g := gb215) (o := .cells #[.int .i64 0, .int .i64 0, .int .i64 0, .int .i64 0, .slice none 0 0] 26 (0, 0)) (by (with_reducible repeat (first | refine blk_drewN ?_ _ | refine blk_drew ?_ | refine blk_alloc ?_ _)); exact BK215.out)) : gb219 ≠ gb215))
  clear BK215
  clear HB
  have BK215 := n0_
  have HB := n1_
  have BK219 := n2_
  have GW219 := n3_
  have GE219 := n4_
  have NB215_219 := n5_
  have NB219_215 := n6_
  clear n0_ n1_ n2_ n3_ n4_ n5_ n6_
  clear hb hbox hg
  refine hK.out _ _ ⟨((HB.out.cell (World.block_lt_of_cell? w _ hw217_0)).trans hw217_0), ((HB.out.cell (World.block_lt_of_cell? w _ hw217_1)).trans hw217_1), ((HB.out.cell (World.block_lt_of_cell? w _ hw217_2)).trans hw217_2), ((HB.out.cell (World.block_lt_of_cell? w _ hw217_3)).trans hw217_3), ((HB.out.cell (World.block_lt_of_cell? w _ hw218_0)).trans hw218_0), ((HB.out.cell (World.block_lt_of_cell? w _ hw218_1)).trans hw218_1), ((HB.out.cell (World.block_lt_of_cell? w _ hw218_2)).trans hw218_2), ((HB.out.cell (World.block_lt_of_cell? w _ hw218_3)).trans hw218_3)⟩ (fun hHeld => ?_)
  clear hK K
  refine norm_ (a' := ?_) ?_ ?_
  rotate_left
  ·show Act.put _ (some 10) _ = _
   simp only [Act.put, List.setIfInBounds_toArray, List.set_cons_zero, List.set_cons_succ, i64_w, i32_w]
   rfl
  refine one_ (i := 14) (N := none) (bs 15 32767) rfl rfl (one_of HT_.out (by kernel_rfl)) (by decide) (fun K hK => ?_)
  have hs10 : w9.cell? ⟨gb219, 0, none⟩ = some (.int .i64 0) := (blk_cell BK219.out 0).trans rfl
  have hfs10 := blk_frozen BK219.out 0
  have hns10_0 := NB215_219.out
  have hms10_0 := NB219_215.out
  have hs11 : w9.cell? ⟨gb219, 1, none⟩ = some (.int .i64 0) := (blk_cell BK219.out 1).trans rfl
  have hfs11 := blk_frozen BK219.out 1
  have hns11_0 := NB215_219.out
  have hms11_0 := NB219_215.out
  have hs12 : w9.cell? ⟨gb219, 2, none⟩ = some (.int .i64 0) := (blk_cell BK219.out 2).trans rfl
  have hfs12 := blk_frozen BK219.out 2
  have hns12_0 := NB215_219.out
  have hms12_0 := NB219_215.out
  have hs13 : w9.cell? ⟨gb219, 3, none⟩ = some (.int .i64 0) := (blk_cell BK219.out 3).trans rfl
  have hfs13 := blk_frozen BK219.out 3
  have hns13_0 := NB215_219.out
  have hms13_0 := NB219_215.out
  have hs14 : w9.cell? ⟨gb219, 4, none⟩ = some (.slice none 0 0) := (blk_cell BK219.out 4).trans rfl
  have hfs14 := blk_frozen BK219.out 4
  have hns14_0 := NB215_219.out
  have hms14_0 := NB219_215.out
  refine skip_ (w1 := ?_) (by rfl) rfl ?_ ?_
  rotate_left
  ·go_simp
   rfl
  refine hK.out _ _ ⟨((cell_far (p := ⟨gb219, _, none⟩) (by first | exact Nat.ne_of_lt (Nat.lt_of_lt_of_le (by have := World.block_lt_of_cell? _ _ hw217_0; first | rwa [add_block] at this | exact this) GW219.out) | (rw [add_block]; exact Nat.ne_of_lt (Nat.lt_of_lt_of_le (by have := World.block_lt_of_cell? _ _ hw217_0; first | rwa [add_block] at this | exact this) GW219.out)) | (show (Addr.add _ _).block ≠ _; rw [add_block]; exact Nat.ne_of_lt (Nat.lt_of_lt_of_le (by have := World.block_lt_of_cell? _ _ hw217_0; first | rwa [add_block] at this | exact this) GW219.out)) | (dsimp only; exact Nat.ne_of_lt (Nat.lt_of_lt_of_le (by have := World.block_lt_of_cell? _ _ hw217_0; first | rwa [add_block] at this | exact this) GW219.out))) _).trans (((cell_far (p := ⟨gb219, _, none⟩) (by first | exact Nat.ne_of_lt (Nat.lt_of_lt_of_le (by have := World.block_lt_of_cell? _ _ hw217_0; first | rwa [add_block] at this | exact this) GW219.out) | (rw [add_block]; exact Nat.ne_of_lt (Nat.lt_of_lt_of_le (by have := World.block_lt_of_cell? _ _ hw217_0; first | rwa [add_block] at this | exact this) GW219.out)) | (show (Addr.add _ _).block ≠ _; rw [add_block]; exact Nat.ne_of_lt (Nat.lt_of_lt_of_le (by have := World.block_lt_of_cell? _ _ hw217_0; first | rwa [add_block] at this | exact this) GW219.out)) | (dsimp only; exact Nat.ne_of_lt (Nat.lt_of_lt_of_le (by have := World.block_lt_of_cell? _ _ hw217_0; first | rwa [add_block] at this | exact this) GW219.out))) _).trans (((cell_far (p := ⟨gb219, _, none⟩) (by first | exact Nat.ne_of_lt (Nat.lt_of_lt_of_le (by have := World.block_lt_of_cell? _ _ hw217_0; first | rwa [add_block] at this | exact this) GW219.out) | (rw [add_block]; exact Nat.ne_of_lt (Nat.lt_of_lt_of_le (by have := World.block_lt_of_cell? _ _ hw217_0; first | rwa [add_block] at this | exact this) GW219.out)) | (show (Addr.add _ _).block ≠ _; rw [add_block]; exact Nat.ne_of_lt (Nat.lt_of_lt_of_le (by have := World.block_lt_of_cell? _ _ hw217_0; first | rwa [add_block] at this | exact this) GW219.out)) | (dsimp only; exact Nat.ne_of_lt (Nat.lt_of_lt_of_le (by have := World.block_lt_of_cell? _ _ hw217_0; first | rwa [add_block] at this | exact this) GW219.out))) _).trans (((cell_far (p := ⟨gb219, _, none⟩) (by first | exact Nat.ne_of_lt (Nat.lt_of_lt_of_le (by have := World.block_lt_of_cell? _ _ hw217_0; first | rwa [add_block] at this | exact this) GW219.out) | (rw [add_block]; exact Nat.ne_of_lt (Nat.lt_of_lt_of_le (by have := World.block_lt_of_cell? _ _ hw217_0; first | rwa [add_block] at this | exact this) GW219.out)) | (show (Addr.add _ _).block ≠ _; rw [add_block]; exact Nat.ne_of_lt (Nat.lt_of_lt_of_le (by have := World.block_lt_of_cell? _ _ hw217_0; first | rwa [add_block] at this | exact this) GW219.out)) | (dsimp only; exact Nat.ne_of_lt (Nat.lt_of_lt_of_le (by have := World.block_lt_of_cell? _ _ hw217_0; first | rwa [add_block] at this | exact this) GW219.out))) _).trans (((cell_far (p := ⟨gb219, _, none⟩) (by first | exact Nat.ne_of_lt (Nat.lt_of_lt_of_le (by have := World.block_lt_of_cell? _ _ hw217_0; first | rwa [add_block] at this | exact this) GW219.out) | (rw [add_block]; exact Nat.ne_of_lt (Nat.lt_of_lt_of_le (by have := World.block_lt_of_cell? _ _ hw217_0; first | rwa [add_block] at this | exact this) GW219.out)) | (show (Addr.add _ _).block ≠ _; rw [add_block]; exact Nat.ne_of_lt (Nat.lt_of_lt_of_le (by have := World.block_lt_of_cell? _ _ hw217_0; first | rwa [add_block] at this | exact this) GW219.out)) | (dsimp only; exact Nat.ne_of_lt (Nat.lt_of_lt_of_le (by have := World.block_lt_of_cell? _ _ hw217_0; first | rwa [add_block] at this | exact this) GW219.out))) _).trans (hHeld.1)))))))))), ((cell_far (p := ⟨gb219, _, none⟩) (by first | exact Nat.ne_of_lt (Nat.lt_of_lt_of_le (by have := World.block_lt_of_cell? _ _ hw217_1; first | rwa [add_block] at this | exact this) GW219.out) | (rw [add_block]; exact Nat.ne_of_lt (Nat.lt_of_lt_of_le (by have := World.block_lt_of_cell? _ _ hw217_1; first | rwa [add_block] at this | exact this) GW219.out)) | (show (Addr.add _ _).block ≠ _; rw [add_block]; exact Nat.ne_of_lt (Nat.lt_of_lt_of_le (by have := World.block_lt_of_cell? _ _ hw217_1; first | rwa [add_block] at this | exact this) GW219.out)) | (dsimp only; exact Nat.ne_of_lt (Nat.lt_of_lt_of_le (by have := World.block_lt_of_cell? _ _ hw217_1; first | rwa [add_block] at this | exact this) GW219.out))) _).trans (((cell_far (p := ⟨gb219, _, none⟩) (by first | exact Nat.ne_of_lt (Nat.lt_of_lt_of_le (by have := World.block_lt_of_cell? _ _ hw217_1; first | rwa [add_block] at this | exact this) GW219.out) | (rw [add_block]; exact Nat.ne_of_lt (Nat.lt_of_lt_of_le (by have := World.block_lt_of_cell? _ _ hw217_1; first | rwa [add_block] at this | exact this) GW219.out)) | (show (Addr.add _ _).block ≠ _; rw [add_block]; exact Nat.ne_of_lt (Nat.lt_of_lt_of_le (by have := World.block_lt_of_cell? _ _ hw217_1; first | rwa [add_block] at this | exact this) GW219.out)) | (dsimp only; exact Nat.ne_of_lt (Nat.lt_of_lt_of_le (by have := World.block_lt_of_cell? _ _ hw217_1; first | rwa [add_block] at this | exact this) GW219.out))) _).trans (((cell_far (p := ⟨gb219, _, none⟩) (by first | exact Nat.ne_of_lt (Nat.lt_of_lt_of_le (by have := World.block_lt_of_cell? _ _ hw217_1; first | rwa [add_block] at this | exact this) GW219.out) | (rw [add_block]; exact Nat.ne_of_lt (Nat.lt_of_lt_of_le (by have := World.block_lt_of_cell? _ _ hw217_1; first | rwa [add_block] at this | exact this) GW219.out)) | (show (Addr.add _ _).block ≠ _; rw [add_block]; exact Nat.ne_of_lt (Nat.lt_of_lt_of_le (by have := World.block_lt_of_cell? _ _ hw217_1; first | rwa [add_block] at this | exact this) GW219.out)) | (dsimp only; exact Nat.ne_of_lt (Nat.lt_of_lt_of_le (by have := World.block_lt_of_cell? _ _ hw217_1; first | rwa [add_block] at this | exact this) GW219.out))) _).trans (((cell_far (p := ⟨gb219, _, none⟩) (by first | exact Nat.ne_of_lt (Nat.lt_of_lt_of_le (by have := World.block_lt_of_cell? _ _ hw217_1; first | rwa [add_block] at this | exact this) GW219.out) | (rw [add_block]; exact Nat.ne_of_lt (Nat.lt_of_lt_of_le (by have := World.block_lt_of_cell? _ _ hw217_1; first | rwa [add_block] at this | exact this) GW219.out)) | (show (Addr.add _ _).block ≠ _; rw [add_block]; exact Nat.ne_of_lt (Nat.lt_of_lt_of_le (by have := World.block_lt_of_cell? _ _ hw217_1; first | rwa [add_block] at this | exact this) GW219.out)) | (dsimp only; exact Nat.ne_of_lt (Nat.lt_of_lt_of_le (by have := World.block_lt_of_cell? _ _ hw217_1; first | rwa [add_block] at this | exact this) GW219.out))) _).trans (((cell_far (p := ⟨gb219, _, none⟩) (by first | exact Nat.ne_of_lt (Nat.lt_of_lt_of_le (by have := World.block_lt_of_cell? _ _ hw217_1; first | rwa [add_block] at this | exact this) GW219.out) | (rw [add_block]; exact Nat.ne_of_lt (Nat.lt_of_lt_of_le (by have := World.block_lt_of_cell? _ _ hw217_1; first | rwa [add_block] at this | exact this) GW219.out)) | (show (Addr.add _ _).block ≠ _; rw [add_block]; exact Nat.ne_of_lt (Nat.lt_of_lt_of_le (by have := World.block_lt_of_cell? _ _ hw217_1; first | rwa [add_block] at this | exact this) GW219.out)) | (dsimp only; exact Nat.ne_of_lt (Nat.lt_of_lt_of_le (by have := World.block_lt_of_cell? _ _ hw217_1; first | rwa [add_block] at this | exact this) GW219.out))) _).trans (hHeld.2.1)))))))))), ((cell_far (p := ⟨gb219, _, none⟩) (by first | exact Nat.ne_of_lt (Nat.lt_of_lt_of_le (by have := World.block_lt_of_cell? _ _ hw217_2; first | rwa [add_block] at this | exact this) GW219.out) | (rw [add_block]; exact Nat.ne_of_lt (Nat.lt_of_lt_of_le (by have := World.block_lt_of_cell? _ _ hw217_2; first | rwa [add_block] at this | exact this) GW219.out)) | (show (Addr.add _ _).block ≠ _; rw [add_block]; exact Nat.ne_of_lt (Nat.lt_of_lt_of_le (by have := World.block_lt_of_cell? _ _ hw217_2; first | rwa [add_block] at this | exact this) GW219.out)) | (dsimp only; exact Nat.ne_of_lt (Nat.lt_of_lt_of_le (by have := World.block_lt_of_cell? _ _ hw217_2; first | rwa [add_block] at this | exact this) GW219.out))) _).trans (((cell_far (p := ⟨gb219, _, none⟩) (by first | exact Nat.ne_of_lt (Nat.lt_of_lt_of_le (by have := World.block_lt_of_cell? _ _ hw217_2; first | rwa [add_block] at this | exact this) GW219.out) | (rw [add_block]; exact Nat.ne_of_lt (Nat.lt_of_lt_of_le (by have := World.block_lt_of_cell? _ _ hw217_2; first | rwa [add_block] at this | exact this) GW219.out)) | (show (Addr.add _ _).block ≠ _; rw [add_block]; exact Nat.ne_of_lt (Nat.lt_of_lt_of_le (by have := World.block_lt_of_cell? _ _ hw217_2; first | rwa [add_block] at this | exact this) GW219.out)) | (dsimp only; exact Nat.ne_of_lt (Nat.lt_of_lt_of_le (by have := World.block_lt_of_cell? _ _ hw217_2; first | rwa [add_block] at this | exact this) GW219.out))) _).trans (((cell_far (p := ⟨gb219, _, none⟩) (by first | exact Nat.ne_of_lt (Nat.lt_of_lt_of_le (by have := World.block_lt_of_cell? _ _ hw217_2; first | rwa [add_block] at this | exact this) GW219.out) | (rw [add_block]; exact Nat.ne_of_lt (Nat.lt_of_lt_of_le (by have := World.block_lt_of_cell? _ _ hw217_2; first | rwa [add_block] at this | exact this) GW219.out)) | (show (Addr.add _ _).block ≠ _; rw [add_block]; exact Nat.ne_of_lt (Nat.lt_of_lt_of_le (by have := World.block_lt_of_cell? _ _ hw217_2; first | rwa [add_block] at this | exact this) GW219.out)) | (dsimp only; exact Nat.ne_of_lt (Nat.lt_of_lt_of_le (by have := World.block_lt_of_cell? _ _ hw217_2; first | rwa [add_block] at this | exact this) GW219.out))) _).trans (((cell_far (p := ⟨gb219, _, none⟩) (by first | exact Nat.ne_of_lt (Nat.lt_of_lt_of_le (by have := World.block_lt_of_cell? _ _ hw217_2; first | rwa [add_block] at this | exact this) GW219.out) | (rw [add_block]; exact Nat.ne_of_lt (Nat.lt_of_lt_of_le (by have := World.block_lt_of_cell? _ _ hw217_2; first | rwa [add_block] at this | exact this) GW219.out)) | (show (Addr.add _ _).block ≠ _; rw [add_block]; exact Nat.ne_of_lt (Nat.lt_of_lt_of_le (by have := World.block_lt_of_cell? _ _ hw217_2; first | rwa [add_block] at this | exact this) GW219.out)) | (dsimp only; exact Nat.ne_of_lt (Nat.lt_of_lt_of_le (by have := World.block_lt_of_cell? _ _ hw217_2; first | rwa [add_block] at this | exact this) GW219.out))) _).trans (((cell_far (p := ⟨gb219, _, none⟩) (by first | exact Nat.ne_of_lt (Nat.lt_of_lt_of_le (by have := World.block_lt_of_cell? _ _ hw217_2; first | rwa [add_block] at this | exact this) GW219.out) | (rw [add_block]; exact Nat.ne_of_lt (Nat.lt_of_lt_of_le (by have := World.block_lt_of_cell? _ _ hw217_2; first | rwa [add_block] at this | exact this) GW219.out)) | (show (Addr.add _ _).block ≠ _; rw [add_block]; exact Nat.ne_of_lt (Nat.lt_of_lt_of_le (by have := World.block_lt_of_cell? _ _ hw217_2; first | rwa [add_block] at this | exact this) GW219.out)) | (dsimp only; exact Nat.ne_of_lt (Nat.lt_of_lt_of_le (by have := World.block_lt_of_cell? _ _ hw217_2; first | rwa [add_block] at this | exact this) GW219.out))) _).trans (hHeld.2.2.1)))))))))), ((cell_far (p := ⟨gb219, _, none⟩) (by first | exact Nat.ne_of_lt (Nat.lt_of_lt_of_le (by have := World.block_lt_of_cell? _ _ hw217_3; first | rwa [add_block] at this | exact this) GW219.out) | (rw [add_block]; exact Nat.ne_of_lt (Nat.lt_of_lt_of_le (by have := World.block_lt_of_cell? _ _ hw217_3; first | rwa [add_block] at this | exact this) GW219.out)) | (show (Addr.add _ _).block ≠ _; rw [add_block]; exact Nat.ne_of_lt (Nat.lt_of_lt_of_le (by have := World.block_lt_of_cell? _ _ hw217_3; first | rwa [add_block] at this | exact this) GW219.out)) | (dsimp only; exact Nat.ne_of_lt (Nat.lt_of_lt_of_le (by have := World.block_lt_of_cell? _ _ hw217_3; first | rwa [add_block] at this | exact this) GW219.out))) _).trans (((cell_far (p := ⟨gb219, _, none⟩) (by first | exact Nat.ne_of_lt (Nat.lt_of_lt_of_le (by have := World.block_lt_of_cell? _ _ hw217_3; first | rwa [add_block] at this | exact this) GW219.out) | (rw [add_block]; exact Nat.ne_of_lt (Nat.lt_of_lt_of_le (by have := World.block_lt_of_cell? _ _ hw217_3; first | rwa [add_block] at this | exact this) GW219.out)) | (show (Addr.add _ _).block ≠ _; rw [add_block]; exact Nat.ne_of_lt (Nat.lt_of_lt_of_le (by have := World.block_lt_of_cell? _ _ hw217_3; first | rwa [add_block] at this | exact this) GW219.out)) | (dsimp only; exact Nat.ne_of_lt (Nat.lt_of_lt_of_le (by have := World.block_lt_of_cell? _ _ hw217_3; first | rwa [add_block] at this | exact this) GW219.out))) _).trans (((cell_far (p := ⟨gb219, _, none⟩) (by first | exact Nat.ne_of_lt (Nat.lt_of_lt_of_le (by have := World.block_lt_of_cell? _ _ hw217_3; first | rwa [add_block] at this | exact this) GW219.out) | (rw [add_block]; exact Nat.ne_of_lt (Nat.lt_of_lt_of_le (by have := World.block_lt_of_cell? _ _ hw217_3; first | rwa [add_block] at this | exact this) GW219.out)) | (show (Addr.add _ _).block ≠ _; rw [add_block]; exact Nat.ne_of_lt (Nat.lt_of_lt_of_le (by have := World.block_lt_of_cell? _ _ hw217_3; first | rwa [add_block] at this | exact this) GW219.out)) | (dsimp only; exact Nat.ne_of_lt (Nat.lt_of_lt_of_le (by have := World.block_lt_of_cell? _ _ hw217_3; first | rwa [add_block] at this | exact this) GW219.out))) _).trans (((cell_far (p := ⟨gb219, _, none⟩) (by first | exact Nat.ne_of_lt (Nat.lt_of_lt_of_le (by have := World.block_lt_of_cell? _ _ hw217_3; first | rwa [add_block] at this | exact this) GW219.out) | (rw [add_block]; exact Nat.ne_of_lt (Nat.lt_of_lt_of_le (by have := World.block_lt_of_cell? _ _ hw217_3; first | rwa [add_block] at this | exact this) GW219.out)) | (show (Addr.add _ _).block ≠ _; rw [add_block]; exact Nat.ne_of_lt (Nat.lt_of_lt_of_le (by have := World.block_lt_of_cell? _ _ hw217_3; first | rwa [add_block] at this | exact this) GW219.out)) | (dsimp only; exact Nat.ne_of_lt (Nat.lt_of_lt_of_le (by have := World.block_lt_of_cell? _ _ hw217_3; first | rwa [add_block] at this | exact this) GW219.out))) _).trans (((cell_far (p := ⟨gb219, _, none⟩) (by first | exact Nat.ne_of_lt (Nat.lt_of_lt_of_le (by have := World.block_lt_of_cell? _ _ hw217_3; first | rwa [add_block] at this | exact this) GW219.out) | (rw [add_block]; exact Nat.ne_of_lt (Nat.lt_of_lt_of_le (by have := World.block_lt_of_cell? _ _ hw217_3; first | rwa [add_block] at this | exact this) GW219.out)) | (show (Addr.add _ _).block ≠ _; rw [add_block]; exact Nat.ne_of_lt (Nat.lt_of_lt_of_le (by have := World.block_lt_of_cell? _ _ hw217_3; first | rwa [add_block] at this | exact this) GW219.out)) | (dsimp only; exact Nat.ne_of_lt (Nat.lt_of_lt_of_le (by have := World.block_lt_of_cell? _ _ hw217_3; first | rwa [add_block] at this | exact this) GW219.out))) _).trans (hHeld.2.2.2.1)))))))))), ((cell_far (p := ⟨gb219, _, none⟩) (by first | exact Nat.ne_of_lt (Nat.lt_of_lt_of_le (by have := World.block_lt_of_cell? _ _ hw218_0; first | rwa [add_block] at this | exact this) GW219.out) | (rw [add_block]; exact Nat.ne_of_lt (Nat.lt_of_lt_of_le (by have := World.block_lt_of_cell? _ _ hw218_0; first | rwa [add_block] at this | exact this) GW219.out)) | (show (Addr.add _ _).block ≠ _; rw [add_block]; exact Nat.ne_of_lt (Nat.lt_of_lt_of_le (by have := World.block_lt_of_cell? _ _ hw218_0; first | rwa [add_block] at this | exact this) GW219.out)) | (dsimp only; exact Nat.ne_of_lt (Nat.lt_of_lt_of_le (by have := World.block_lt_of_cell? _ _ hw218_0; first | rwa [add_block] at this | exact this) GW219.out))) _).trans (((cell_far (p := ⟨gb219, _, none⟩) (by first | exact Nat.ne_of_lt (Nat.lt_of_lt_of_le (by have := World.block_lt_of_cell? _ _ hw218_0; first | rwa [add_block] at this | exact this) GW219.out) | (rw [add_block]; exact Nat.ne_of_lt (Nat.lt_of_lt_of_le (by have := World.block_lt_of_cell? _ _ hw218_0; first | rwa [add_block] at this | exact this) GW219.out)) | (show (Addr.add _ _).block ≠ _; rw [add_block]; exact Nat.ne_of_lt (Nat.lt_of_lt_of_le (by have := World.block_lt_of_cell? _ _ hw218_0; first | rwa [add_block] at this | exact this) GW219.out)) | (dsimp only; exact Nat.ne_of_lt (Nat.lt_of_lt_of_le (by have := World.block_lt_of_cell? _ _ hw218_0; first | rwa [add_block] at this | exact this) GW219.out))) _).trans (((cell_far (p := ⟨gb219, _, none⟩) (by first | exact Nat.ne_of_lt (Nat.lt_of_lt_of_le (by have := World.block_lt_of_cell? _ _ hw218_0; first | rwa [add_block] at this | exact this) GW219.out) | (rw [add_block]; exact Nat.ne_of_lt (Nat.lt_of_lt_of_le (by have := World.block_lt_of_cell? _ _ hw218_0; first | rwa [add_block] at this | exact this) GW219.out)) | (show (Addr.add _ _).block ≠ _; rw [add_block]; exact Nat.ne_of_lt (Nat.lt_of_lt_of_le (by have := World.block_lt_of_cell? _ _ hw218_0; first | rwa [add_block] at this | exact this) GW219.out)) | (dsimp only; exact Nat.ne_of_lt (Nat.lt_of_lt_of_le (by have := World.block_lt_of_cell? _ _ hw218_0; first | rwa [add_block] at this | exact this) GW219.out))) _).trans (((cell_far (p := ⟨gb219, _, none⟩) (by first | exact Nat.ne_of_lt (Nat.lt_of_lt_of_le (by have := World.block_lt_of_cell? _ _ hw218_0; first | rwa [add_block] at this | exact this) GW219.out) | (rw [add_block]; exact Nat.ne_of_lt (Nat.lt_of_lt_of_le (by have := World.block_lt_of_cell? _ _ hw218_0; first | rwa [add_block] at this | exact this) GW219.out)) | (show (Addr.add _ _).block ≠ _; rw [add_block]; exact Nat.ne_of_lt (Nat.lt_of_lt_of_le (by have := World.block_lt_of_cell? _ _ hw218_0; first | rwa [add_block] at this | exact this) GW219.out)) | (dsimp only; exact Nat.ne_of_lt (Nat.lt_of_lt_of_le (by have := World.block_lt_of_cell? _ _ hw218_0; first | rwa [add_block] at this | exact this) GW219.out))) _).trans (((cell_far (p := ⟨gb219, _, none⟩) (by first | exact Nat.ne_of_lt (Nat.lt_of_lt_of_le (by have := World.block_lt_of_cell? _ _ hw218_0; first | rwa [add_block] at this | exact this) GW219.out) | (rw [add_block]; exact Nat.ne_of_lt (Nat.lt_of_lt_of_le (by have := World.block_lt_of_cell? _ _ hw218_0; first | rwa [add_block] at this | exact this) GW219.out)) | (show (Addr.add _ _).block ≠ _; rw [add_block]; exact Nat.ne_of_lt (Nat.lt_of_lt_of_le (by have := World.block_lt_of_cell? _ _ hw218_0; first | rwa [add_block] at this | exact this) GW219.out)) | (dsimp only; exact Nat.ne_of_lt (Nat.lt_of_lt_of_le (by have := World.block_lt_of_cell? _ _ hw218_0; first | rwa [add_block] at this | exact this) GW219.out))) _).trans (hHeld.2.2.2.2.1)))))))))), ((cell_far (p := ⟨gb219, _, none⟩) (by first | exact Nat.ne_of_lt (Nat.lt_of_lt_of_le (by have := World.block_lt_of_cell? _ _ hw218_1; first | rwa [add_block] at this | exact this) GW219.out) | (rw [add_block]; exact Nat.ne_of_lt (Nat.lt_of_lt_of_le (by have := World.block_lt_of_cell? _ _ hw218_1; first | rwa [add_block] at this | exact this) GW219.out)) | (show (Addr.add _ _).block ≠ _; rw [add_block]; exact Nat.ne_of_lt (Nat.lt_of_lt_of_le (by have := World.block_lt_of_cell? _ _ hw218_1; first | rwa [add_block] at this | exact this) GW219.out)) | (dsimp only; exact Nat.ne_of_lt (Nat.lt_of_lt_of_le (by have := World.block_lt_of_cell? _ _ hw218_1; first | rwa [add_block] at this | exact this) GW219.out))) _).trans (((cell_far (p := ⟨gb219, _, none⟩) (by first | exact Nat.ne_of_lt (Nat.lt_of_lt_of_le (by have := World.block_lt_of_cell? _ _ hw218_1; first | rwa [add_block] at this | exact this) GW219.out) | (rw [add_block]; exact Nat.ne_of_lt (Nat.lt_of_lt_of_le (by have := World.block_lt_of_cell? _ _ hw218_1; first | rwa [add_block] at this | exact this) GW219.out)) | (show (Addr.add _ _).block ≠ _; rw [add_block]; exact Nat.ne_of_lt (Nat.lt_of_lt_of_le (by have := World.block_lt_of_cell? _ _ hw218_1; first | rwa [add_block] at this | exact this) GW219.out)) | (dsimp only; exact Nat.ne_of_lt (Nat.lt_of_lt_of_le (by have := World.block_lt_of_cell? _ _ hw218_1; first | rwa [add_block] at this | exact this) GW219.out))) _).trans (((cell_far (p := ⟨gb219, _, none⟩) (by first | exact Nat.ne_of_lt (Nat.lt_of_lt_of_le (by have := World.block_lt_of_cell? _ _ hw218_1; first | rwa [add_block] at this | exact this) GW219.out) | (rw [add_block]; exact Nat.ne_of_lt (Nat.lt_of_lt_of_le (by have := World.block_lt_of_cell? _ _ hw218_1; first | rwa [add_block] at this | exact this) GW219.out)) | (show (Addr.add _ _).block ≠ _; rw [add_block]; exact Nat.ne_of_lt (Nat.lt_of_lt_of_le (by have := World.block_lt_of_cell? _ _ hw218_1; first | rwa [add_block] at this | exact this) GW219.out)) | (dsimp only; exact Nat.ne_of_lt (Nat.lt_of_lt_of_le (by have := World.block_lt_of_cell? _ _ hw218_1; first | rwa [add_block] at this | exact this) GW219.out))) _).trans (((cell_far (p := ⟨gb219, _, none⟩) (by first | exact Nat.ne_of_lt (Nat.lt_of_lt_of_le (by have := World.block_lt_of_cell? _ _ hw218_1; first | rwa [add_block] at this | exact this) GW219.out) | (rw [add_block]; exact Nat.ne_of_lt (Nat.lt_of_lt_of_le (by have := World.block_lt_of_cell? _ _ hw218_1; first | rwa [add_block] at this | exact this) GW219.out)) | (show (Addr.add _ _).block ≠ _; rw [add_block]; exact Nat.ne_of_lt (Nat.lt_of_lt_of_le (by have := World.block_lt_of_cell? _ _ hw218_1; first | rwa [add_block] at this | exact this) GW219.out)) | (dsimp only; exact Nat.ne_of_lt (Nat.lt_of_lt_of_le (by have := World.block_lt_of_cell? _ _ hw218_1; first | rwa [add_block] at this | exact this) GW219.out))) _).trans (((cell_far (p := ⟨gb219, _, none⟩) (by first | exact Nat.ne_of_lt (Nat.lt_of_lt_of_le (by have := World.block_lt_of_cell? _ _ hw218_1; first | rwa [add_block] at this | exact this) GW219.out) | (rw [add_block]; exact Nat.ne_of_lt (Nat.lt_of_lt_of_le (by have := World.block_lt_of_cell? _ _ hw218_1; first | rwa [add_block] at this | exact this) GW219.out)) | (show (Addr.add _ _).block ≠ _; rw [add_block]; exact Nat.ne_of_lt (Nat.lt_of_lt_of_le (by have := World.block_lt_of_cell? _ _ hw218_1; first | rwa [add_block] at this | exact this) GW219.out)) | (dsimp only; exact Nat.ne_of_lt (Nat.lt_of_lt_of_le (by have := World.block_lt_of_cell? _ _ hw218_1; first | rwa [add_block] at this | exact this) GW219.out))) _).trans (hHeld.2.2.2.2.2.1)))))))))), ((cell_far (p := ⟨gb219, _, none⟩) (by first | exact Nat.ne_of_lt (Nat.lt_of_lt_of_le (by have := World.block_lt_of_cell? _ _ hw218_2; first | rwa [add_block] at this | exact this) GW219.out) | (rw [add_block]; exact Nat.ne_of_lt (Nat.lt_of_lt_of_le (by have := World.block_lt_of_cell? _ _ hw218_2; first | rwa [add_block] at this | exact this) GW219.out)) | (show (Addr.add _ _).block ≠ _; rw [add_block]; exact Nat.ne_of_lt (Nat.lt_of_lt_of_le (by have := World.block_lt_of_cell? _ _ hw218_2; first | rwa [add_block] at this | exact this) GW219.out)) | (dsimp only; exact Nat.ne_of_lt (Nat.lt_of_lt_of_le (by have := World.block_lt_of_cell? _ _ hw218_2; first | rwa [add_block] at this | exact this) GW219.out))) _).trans (((cell_far (p := ⟨gb219, _, none⟩) (by first | exact Nat.ne_of_lt (Nat.lt_of_lt_of_le (by have := World.block_lt_of_cell? _ _ hw218_2; first | rwa [add_block] at this | exact this) GW219.out) | (rw [add_block]; exact Nat.ne_of_lt (Nat.lt_of_lt_of_le (by have := World.block_lt_of_cell? _ _ hw218_2; first | rwa [add_block] at this | exact this) GW219.out)) | (show (Addr.add _ _).block ≠ _; rw [add_block]; exact Nat.ne_of_lt (Nat.lt_of_lt_of_le (by have := World.block_lt_of_cell? _ _ hw218_2; first | rwa [add_block] at this | exact this) GW219.out)) | (dsimp only; exact Nat.ne_of_lt (Nat.lt_of_lt_of_le (by have := World.block_lt_of_cell? _ _ hw218_2; first | rwa [add_block] at this | exact this) GW219.out))) _).trans (((cell_far (p := ⟨gb219, _, none⟩) (by first | exact Nat.ne_of_lt (Nat.lt_of_lt_of_le (by have := World.block_lt_of_cell? _ _ hw218_2; first | rwa [add_block] at this | exact this) GW219.out) | (rw [add_block]; exact Nat.ne_of_lt (Nat.lt_of_lt_of_le (by have := World.block_lt_of_cell? _ _ hw218_2; first | rwa [add_block] at this | exact this) GW219.out)) | (show (Addr.add _ _).block ≠ _; rw [add_block]; exact Nat.ne_of_lt (Nat.lt_of_lt_of_le (by have := World.block_lt_of_cell? _ _ hw218_2; first | rwa [add_block] at this | exact this) GW219.out)) | (dsimp only; exact Nat.ne_of_lt (Nat.lt_of_lt_of_le (by have := World.block_lt_of_cell? _ _ hw218_2; first | rwa [add_block] at this | exact this) GW219.out))) _).trans (((cell_far (p := ⟨gb219, _, none⟩) (by first | exact Nat.ne_of_lt (Nat.lt_of_lt_of_le (by have := World.block_lt_of_cell? _ _ hw218_2; first | rwa [add_block] at this | exact this) GW219.out) | (rw [add_block]; exact Nat.ne_of_lt (Nat.lt_of_lt_of_le (by have := World.block_lt_of_cell? _ _ hw218_2; first | rwa [add_block] at this | exact this) GW219.out)) | (show (Addr.add _ _).block ≠ _; rw [add_block]; exact Nat.ne_of_lt (Nat.lt_of_lt_of_le (by have := World.block_lt_of_cell? _ _ hw218_2; first | rwa [add_block] at this | exact this) GW219.out)) | (dsimp only; exact Nat.ne_of_lt (Nat.lt_of_lt_of_le (by have := World.block_lt_of_cell? _ _ hw218_2; first | rwa [add_block] at this | exact this) GW219.out))) _).trans (((cell_far (p := ⟨gb219, _, none⟩) (by first | exact Nat.ne_of_lt (Nat.lt_of_lt_of_le (by have := World.block_lt_of_cell? _ _ hw218_2; first | rwa [add_block] at this | exact this) GW219.out) | (rw [add_block]; exact Nat.ne_of_lt (Nat.lt_of_lt_of_le (by have := World.block_lt_of_cell? _ _ hw218_2; first | rwa [add_block] at this | exact this) GW219.out)) | (show (Addr.add _ _).block ≠ _; rw [add_block]; exact Nat.ne_of_lt (Nat.lt_of_lt_of_le (by have := World.block_lt_of_cell? _ _ hw218_2; first | rwa [add_block] at this | exact this) GW219.out)) | (dsimp only; exact Nat.ne_of_lt (Nat.lt_of_lt_of_le (by have := World.block_lt_of_cell? _ _ hw218_2; first | rwa [add_block] at this | exact this) GW219.out))) _).trans (hHeld.2.2.2.2.2.2.1)))))))))), ((cell_far (p := ⟨gb219, _, none⟩) (by first | exact Nat.ne_of_lt (Nat.lt_of_lt_of_le (by have := World.block_lt_of_cell? _ _ hw218_3; first | rwa [add_block] at this | exact this) GW219.out) | (rw [add_block]; exact Nat.ne_of_lt (Nat.lt_of_lt_of_le (by have := World.block_lt_of_cell? _ _ hw218_3; first | rwa [add_block] at this | exact this) GW219.out)) | (show (Addr.add _ _).block ≠ _; rw [add_block]; exact Nat.ne_of_lt (Nat.lt_of_lt_of_le (by have := World.block_lt_of_cell? _ _ hw218_3; first | rwa [add_block] at this | exact this) GW219.out)) | (dsimp only; exact Nat.ne_of_lt (Nat.lt_of_lt_of_le (by have := World.block_lt_of_cell? _ _ hw218_3; first | rwa [add_block] at this | exact this) GW219.out))) _).trans (((cell_far (p := ⟨gb219, _, none⟩) (by first | exact Nat.ne_of_lt (Nat.lt_of_lt_of_le (by have := World.block_lt_of_cell? _ _ hw218_3; first | rwa [add_block] at this | exact this) GW219.out) | (rw [add_block]; exact Nat.ne_of_lt (Nat.lt_of_lt_of_le (by have := World.block_lt_of_cell? _ _ hw218_3; first | rwa [add_block] at this | exact this) GW219.out)) | (show (Addr.add _ _).block ≠ _; rw [add_block]; exact Nat.ne_of_lt (Nat.lt_of_lt_of_le (by have := World.block_lt_of_cell? _ _ hw218_3; first | rwa [add_block] at this | exact this) GW219.out)) | (dsimp only; exact Nat.ne_of_lt (Nat.lt_of_lt_of_le (by have := World.block_lt_of_cell? _ _ hw218_3; first | rwa [add_block] at this | exact this) GW219.out))) _).trans (((cell_far (p := ⟨gb219, _, none⟩) (by first | exact Nat.ne_of_lt (Nat.lt_of_lt_of_le (by have := World.block_lt_of_cell? _ _ hw218_3; first | rwa [add_block] at this | exact this) GW219.out) | (rw [add_block]; exact Nat.ne_of_lt (Nat.lt_of_lt_of_le (by have := World.block_lt_of_cell? _ _ hw218_3; first | rwa [add_block] at this | exact this) GW219.out)) | (show (Addr.add _ _).block ≠ _; rw [add_block]; exact Nat.ne_of_lt (Nat.lt_of_lt_of_le (by have := World.block_lt_of_cell? _ _ hw218_3; first | rwa [add_block] at this | exact this) GW219.out)) | (dsimp only; exact Nat.ne_of_lt (Nat.lt_of_lt_of_le (by have := World.block_lt_of_cell? _ _ hw218_3; first | rwa [add_block] at this | exact this) GW219.out))) _).trans (((cell_far (p := ⟨gb219, _, none⟩) (by first | exact Nat.ne_of_lt (Nat.lt_of_lt_of_le (by have := World.block_lt_of_cell? _ _ hw218_3; first | rwa [add_block] at this | exact this) GW219.out) | (rw [add_block]; exact Nat.ne_of_lt (Nat.lt_of_lt_of_le (by have := World.block_lt_of_cell? _ _ hw218_3; first | rwa [add_block] at this | exact this) GW219.out)) | (show (Addr.add _ _).block ≠ _; rw [add_block]; exact Nat.ne_of_lt (Nat.lt_of_lt_of_le (by have := World.block_lt_of_cell? _ _ hw218_3; first | rwa [add_block] at this | exact this) GW219.out)) | (dsimp only; exact Nat.ne_of_lt (Nat.lt_of_lt_of_le (by have := World.block_lt_of_cell? _ _ hw218_3; first | rwa [add_block] at this | exact this) GW219.out))) _).trans (((cell_far (p := ⟨gb219, _, none⟩) (by first | exact Nat.ne_of_lt (Nat.lt_of_lt_of_le (by have := World.block_lt_of_cell? _ _ hw218_3; first | rwa [add_block] at this | exact this) GW219.out) | (rw [add_block]; exact Nat.ne_of_lt (Nat.lt_of_lt_of_le (by have := World.block_lt_of_cell? _ _ hw218_3; first | rwa [add_block] at this | exact this) GW219.out)) | (show (Addr.add _ _).block ≠ _; rw [add_block]; exact Nat.ne_of_lt (Nat.lt_of_lt_of_le (by have := World.block_lt_of_cell? _ _ hw218_3; first | rwa [add_block] at this | exact this) GW219.out)) | (dsimp only; exact Nat.ne_of_lt (Nat.lt_of_lt_of_le (by have := World.block_lt_of_cell? _ _ hw218_3; first | rwa [add_block] at this | exact this) GW219.out))) _).trans (hHeld.2.2.2.2.2.2.2))))))))))⟩ (fun hHeld => ?_)
  clear hK K
  refine done_ (done_of HT_.out (by kernel_rfl)) ?_
  have hnb15 := NB219_215.out
  have hnc15 := NB215_219.out
  have hcz16_0 : w9.cell? ⟨gb219, 0, none⟩ = some (.int .i64 0) := (blk_cell BK219.out 0).trans rfl
  have hcz16_1 : w9.cell? ⟨gb219, 1, none⟩ = some (.int .i64 0) := (blk_cell BK219.out 1).trans rfl
  have hcz16_2 : w9.cell? ⟨gb219, 2, none⟩ = some (.int .i64 0) := (blk_cell BK219.out 2).trans rfl
  have hcz16_3 : w9.cell? ⟨gb219, 3, none⟩ = some (.int .i64 0) := (blk_cell BK219.out 3).trans rfl
  have hcz16_4 : w9.cell? ⟨gb219, 4, none⟩ = some (.slice none 0 0) := (blk_cell BK219.out 4).trans rfl
  have hfz16_0 := blk_frozen BK219.out 0
  have hfz16_1 := blk_frozen BK219.out 1
  have hfz16_2 := blk_frozen BK219.out 2
  have hfz16_3 := blk_frozen BK219.out 3
  have hfz16_4 := blk_frozen BK219.out 4
  try go_wp2
  (try (refine bodyPost_end (results_none rfl _ _ _) rfl ?_; (try dsimp only); (try go_wp2); repeat (go_quiet (fail); try go_wp2)))
  go_loopg [11, 39] k (fun kq v11 v39 w' => ∃ (x11_1 : Int) (x39_1 : Int) (x220004_1 : List (S29)) (u220004 : Value), v11 = .int .i64 x11_1 ∧ v39 = .int .i64 x39_1 ∧ Aside0 (hunks_hunk.l0 kq l0 l1 a3 x11_1 l2 (l2.length : Int) x39_1 (wrap64 (((rd_T82 l2 0).f0) - (ji6))) 0 (wrap64 (((rd_T82 l2 0).f2) - (ji6))) 0 x220004_1 = some (r1, r2, r3, r4, r5)) ∧ Aside0 (kq ≤ k) ∧ Aside0 (Kd.R k29 29 w' w.heap.size (fun _ => True) u220004 x220004_1) ∧ Aside0 (w'.heap[gb215]? = some (.cells #[.int .i64 0, .int .i64 0, .int .i64 0, .int .i64 0, (.slice none 0 0)] 26 (0, 0))) ∧ Aside0 (w'.heap[gb219]? = some (.cells #[.int .i64 (wrap64 (((rd_T82 l2 0).f0) - (ji6))), .int .i64 0, .int .i64 (wrap64 (((rd_T82 l2 0).f2) - (ji6))), .int .i64 0, u220004] 26 (0, 0))) ∧ Aside0 (Below w.heap.size w w'))
  case atStart => exact ⟨(wrap64 (((rd_T82 l2 0).f0) - (ji6))), (0), (([] : List (S29))), (.slice none 0 0), (by first | rfl | (simp; done) | (simp only [← hji6] <;> (first | rfl | simp)) | (simp [*]; done)), (by first | rfl | (simp; done) | (simp [*]; done) | (simp [wrap64, wrap32]; done)), H', ⟨Nat.le_refl _⟩, ⟨by first | exact Kd.R_nil _ _ _ _ _ | exact Kd.N_nil _ _ _ _ _ | exact Kd.V_nil _ _ _ _ _ | exact Kd.Q_nil _ _ _ _ _ | exact Kd.S_nil _ _ _ _ _⟩, ⟨by (with_reducible repeat (first | refine blk_drewN ?_ _ | refine blk_drew ?_ | refine blk_alloc ?_ _)); refine blk_far ?_ NB215_219.out _; (with_reducible repeat (first | refine blk_drewN ?_ _ | refine blk_drew ?_ | refine blk_alloc ?_ _)); refine blk_far ?_ NB215_219.out _; (with_reducible repeat (first | refine blk_drewN ?_ _ | refine blk_drew ?_ | refine blk_alloc ?_ _)); refine blk_far ?_ NB215_219.out _; (with_reducible repeat (first | refine blk_drewN ?_ _ | refine blk_drew ?_ | refine blk_alloc ?_ _)); refine blk_far ?_ NB215_219.out _; (with_reducible repeat (first | refine blk_drewN ?_ _ | refine blk_drew ?_ | refine blk_alloc ?_ _)); refine blk_far ?_ NB215_219.out _; (with_reducible repeat (first | refine blk_drewN ?_ _ | refine blk_drew ?_ | refine blk_alloc ?_ _)); exact BK215.out⟩, ⟨by (with_reducible repeat (first | refine blk_drewN ?_ _ | refine blk_drew ?_ | refine blk_alloc ?_ _)); refine blk_put (cs := #[.int .i64 (wrap64 (((rd_T82 l2 0).f0) - (ji6))), .int .i64 0, .int .i64 (wrap64 (((rd_T82 l2 0).f2) - (ji6))), .int .i64 0, .slice none 0 0]) ?_ 4 _ rfl; (with_reducible repeat (first | refine blk_drewN ?_ _ | refine blk_drew ?_ | refine blk_alloc ?_ _)); refine blk_put (cs := #[.int .i64 (wrap64 (((rd_T82 l2 0).f0) - (ji6))), .int .i64 0, .int .i64 (wrap64 (((rd_T82 l2 0).f2) - (ji6))), .int .i64 0, .slice none 0 0]) ?_ 3 _ rfl; (with_reducible repeat (first | refine blk_drewN ?_ _ | refine blk_drew ?_ | refine blk_alloc ?_ _)); refine blk_put (cs := #[.int .i64 (wrap64 (((rd_T82 l2 0).f0) - (ji6))), .int .i64 0, .int .i64 0, .int .i64 0, .slice none 0 0]) ?_ 2 _ rfl; (with_reducible repeat (first | refine blk_drewN ?_ _ | refine blk_drew ?_ | refine blk_alloc ?_ _)); refine blk_put (cs := #[.int .i64 (wrap64 (((rd_T82 l2 0).f0) - (ji6))), .int .i64 0, .int .i64 0, .int .i64 0, .slice none 0 0]) ?_ 1 _ rfl; (with_reducible repeat (first | refine blk_drewN ?_ _ | refine blk_drew ?_ | refine blk_alloc ?_ _)); refine blk_put (cs := #[.int .i64 0, .int .i64 0, .int .i64 0, .int .i64 0, .slice none 0 0]) ?_ 0 _ rfl; (with_reducible repeat (first | refine blk_drewN ?_ _ | refine blk_drew ?_ | refine blk_alloc ?_ _)); exact BK219.out⟩, ⟨by repeat (first | (with_reducible first | exact HB.out | apply below_alloc | apply pw_below_drewN | apply below_drew1 | refine below_set ?_ GE215.out | refine below_set ?_ GE219.out) | exact HB.out)⟩⟩
  case round =>
   clear H'
   (try clear c1); (try clear c2); (try clear p2); (try clear q2); (try clear hx2); (try clear qi2); (try clear c3); (try clear c5); (try clear c5b0); (try clear c5b1); (try clear p6); (try clear c15); (try clear hcz16_0); (try clear hcz16_1); (try clear hcz16_2); (try clear hcz16_3); (try clear hcz16_4); (try clear hfz16_0); (try clear hfz16_1); (try clear hfz16_2); (try clear hfz16_3); (try clear hfz16_4); (try clear hx216_0); (try clear hx216_1); (try clear hx216_2); (try clear hx216_3); (try clear hx217_0); (try clear hx217_1); (try clear hx217_2); (try clear hx217_3); (try clear hx218_0); (try clear hx218_1); (try clear hx218_2); (try clear hx218_3); (try clear p216); (try clear p217); (try clear p218); (try clear q216); (try clear q217); (try clear q218)
   obtain ⟨x11_1, x39_1, x220004_1, u220004, rfl, rfl, HA, HK1, HO_220004, BK215, BK219, HB⟩ := hrel
   cases gk with
   | zero => exact absurd HA.out (by simp [hunks_hunk.l0])
   | succ k1 =>
    have H := HA.out
    clear HA
    simp only [hunks_hunk.l0] at H
    by_cases c17 : x39_1 < (l2.length : Int)
    ·rw [if_pos c17] at H
     have c17b0 : decide (x39_1 < (l2.length : Int)) = true := decide_eq_true c17
     clear c17
     by_cases c18 : 0 ≤ x39_1
     ·rw [if_pos c18] at H
      have c18b0 : decide (0 ≤ x39_1) = true := decide_eq_true c18
      clear c18
      by_cases c19 : x39_1 < (l2.length : Int)
      ·rw [if_pos c19] at H
       have c19b0 : decide (x39_1 < (l2.length : Int)) = true := decide_eq_true c19
       clear c19
       by_cases c20 : 0 ≤ x11_1
       ·rw [if_pos c20] at H
        have c20b0 := eq_true c20
        have c20b1 : decide (0 ≤ x11_1) = true := decide_eq_true c20
        clear c20
        by_cases c21 : x11_1 ≤ ((rd_T82 l2 x39_1).f0)
        ·rw [if_pos c21] at H
         have c21b0 := eq_true c21
         have c21b1 : decide (x11_1 ≤ ((rd_T82 l2 x39_1).f0)) = true := decide_eq_true c21
         clear c21
         by_cases c22 : ((rd_T82 l2 x39_1).f0) ≤ (l0.length : Int)
         ·rw [if_pos c22] at H
          have c22b0 := eq_true c22
          have c22b1 : decide (((rd_T82 l2 x39_1).f0) ≤ (l0.length : Int)) = true := decide_eq_true c22
          clear c22
          obtain ⟨y222, hy222⟩ : ∃ y_ : List ByteArray, y_ = ((l0.take (((rd_T82 l2 x39_1).f0) : Int).toNat).drop (x11_1 : Int).toNat) := ⟨_, rfl⟩
          replace H : (hunks_hunk.l1 k1 l0 l1 a3 l2 (l2.length : Int) x39_1 y222 (y222.length : Int) 0 (wrap64 (((rd_T82 l2 0).f0) - (ji6))) 0 (wrap64 (((rd_T82 l2 0).f2) - (ji6))) 0 x220004_1 ((rd_T82 l2 x39_1).f0) ((rd_T82 l2 x39_1).f1) ((rd_T82 l2 x39_1).f2) ((rd_T82 l2 x39_1).f3)) = some (r1, r2, r3, r4, r5) := by first | (rw [hy222]; with_reducible exact H) | (have H2_ := (Option.bind_some _ _).symm.trans H; rw [hy222]; with_reducible exact H2_) | (have H2_ := (Option.bind_some _ _).symm.trans H; with_reducible exact H2_) | with_reducible exact H | (rw [hy222]; exact H) | exact H
          have Ny222 := Aside0.mk hy222
          clear hy222
          have H' := Aside0.mk H
          clear H
          have p220 : 0 ≤ (x39_1 : Int) := of_decide_eq_true (by first | (with_reducible assumption) | assumption)
          have q220 : x39_1 < (l2.length : Int) := of_decide_eq_true (by first | (with_reducible assumption) | assumption)
          obtain ⟨ad220, e220, hx220_0, hx220_1, hx220_2, hx220_3⟩ := at_T82 HR2.out x39_1 p220 q220
          obtain rfl : ad216 = ad220 := (by injection e220)
          replace hx220_0 := (HB.out.cell (World.block_lt_of_cell? w _ hx220_0)).trans hx220_0
          replace hx220_1 := (HB.out.cell (World.block_lt_of_cell? w _ hx220_1)).trans hx220_1
          replace hx220_2 := (HB.out.cell (World.block_lt_of_cell? w _ hx220_2)).trans hx220_2
          replace hx220_3 := (HB.out.cell (World.block_lt_of_cell? w _ hx220_3)).trans hx220_3
          replace p220 := eq_true p220
          replace q220 := eq_true q220
          go_wp2_with (first | ((with_reducible refine gate_dst (N := 14) rfl ?_); refine box_event ?hg (N := 14) ?hd (cs := #[.int .i64 0, .int .i64 0, .int .i64 0, .int .i64 0]) (t := 82) ?hr ?_; (case hd => rfl); (case hg => rfl); (case hr => first | (go_simp; done) | (go_simp; rfl)); intro gb221 hg w23 hbox hb; have n0_ := Aside0.mk (Kd.R_below (by (with_reducible repeat (first | apply Kd.R_alloc | apply Kd.R_drewN | apply Kd.R_drew)); exact HO_220004.out) hb); have n1_ := Aside0.mk (blk_below (g := gb215) (o := .cells #[.int .i64 0, .int .i64 0, .int .i64 0, .int .i64 0, .slice none 0 0] 26 (0, 0)) (by (with_reducible repeat (first | refine blk_drewN ?_ _ | refine blk_drew ?_ | refine blk_alloc ?_ _)); exact BK215.out) hb); have n2_ := Aside0.mk (blk_below (g := gb219) (o := .cells #[.int .i64 (wrap64 (((rd_T82 l2 0).f0) - (ji6))), .int .i64 0, .int .i64 (wrap64 (((rd_T82 l2 0).f2) - (ji6))), .int .i64 0, u220004] 26 (0, 0)) (by (with_reducible repeat (first | refine blk_drewN ?_ _ | refine blk_drew ?_ | refine blk_alloc ?_ _)); exact BK219.out) hb); have n3_ := Aside0.mk (below_step (by repeat (first | (with_reducible first | exact HB.out | apply below_alloc | apply pw_below_drewN | apply below_drew1 | refine below_set ?_ GE215.out | refine below_set ?_ GE219.out) | exact HB.out)) hb); have n4_ := Aside0.mk (hbox); have n5_ := Aside0.mk ((by rw [hg]; exact (below_size (by repeat (first | (with_reducible first | exact HB.out | apply below_alloc | apply pw_below_drewN | apply below_drew1 | refine below_set ?_ GE215.out | refine below_set ?_ GE219.out) | exact HB.out))) : w.heap.size ≤ gb221)); have n6_ := Aside0.mk ((by rw [hg]; exact (below_size (by repeat (first | (with_reducible first | exact HB.out | apply below_alloc | apply pw_below_drewN | apply below_drew1 | refine below_set ?_ GE215.out | refine below_set ?_ GE219.out) | exact HB.out))) : w.heap.size ≤ gb221)); have n7_ := Aside0.mk ((by rw [hg]; exact Nat.ne_of_lt (blk_lt (g := gb215) (o := .cells #[.int .i64 0, .int .i64 0, .int .i64 0, .int .i64 0, .slice none 0 0] 26 (0, 0)) (by (with_reducible repeat (first | refine blk_drewN ?_ _ | refine blk_drew ?_ | refine blk_alloc ?_ _)); exact BK215.out)) : gb215 ≠ gb221)); have n8_ := Aside0.mk ((by rw [hg]; exact Nat.ne_of_gt (blk_lt (g := gb215) (o := .cells #[.int .i64 0, .int .i64 0, .int .i64 0, .int .i64 0, .slice none 0 0] 26 (0, 0)) (by (with_reducible repeat (first | refine blk_drewN ?_ _ | refine blk_drew ?_ | refine blk_alloc ?_ _)); exact BK215.out)) : gb221 ≠ gb215)); have n9_ := Aside0.mk ((by rw [hg]; exact Nat.ne_of_lt (blk_lt (g := gb219) (o := .cells #[.int .i64 (wrap64 (((rd_T82 l2 0).f0) - (ji6))), .int .i64 0, .int .i64 (wrap64 (((rd_T82 l2 0).f2) - (ji6))), .int .i64 0, u220004] 26 (0, 0)) (by (with_reducible repeat (first | refine blk_drewN ?_ _ | refine blk_drew ?_ | refine blk_alloc ?_ _)); exact BK219.out)) : gb219 ≠ gb221)); have n10_ := Aside0.mk ((by rw [hg]; exact Nat.ne_of_gt (blk_lt (g := gb219) (o := .cells #[.int .i64 (wrap64 (((rd_T82 l2 0).f0) - (ji6))), .int .i64 0, .int .i64 (wrap64 (((rd_T82 l2 0).f2) - (ji6))), .int .i64 0, u220004] 26 (0, 0)) (by (with_reducible repeat (first | refine blk_drewN ?_ _ | refine blk_drew ?_ | refine blk_alloc ?_ _)); exact BK219.out)) : gb221 ≠ gb219)); clear HO_220004; clear BK215; clear BK219; clear HB; have HO_220004 := n0_; have BK215 := n1_; have BK219 := n2_; have HB := n3_; have BK221 := n4_; have GW221 := n5_; have GE221 := n6_; have NB215_221 := n7_; have NB221_215 := n8_; have NB219_221 := n9_; have NB221_219 := n10_; clear n0_ n1_ n2_ n3_ n4_ n5_ n6_ n7_ n8_ n9_ n10_; clear hb hbox hg; have hnb24 := NB221_215.out; have hnc24 := NB215_221.out; have hnb25 := NB221_219.out; have hnc25 := NB219_221.out; have hcz26_0 : w23.cell? ⟨gb221, 0, none⟩ = some (.int .i64 0) := (blk_cell BK221.out 0).trans rfl; have hcz26_1 : w23.cell? ⟨gb221, 1, none⟩ = some (.int .i64 0) := (blk_cell BK221.out 1).trans rfl; have hcz26_2 : w23.cell? ⟨gb221, 2, none⟩ = some (.int .i64 0) := (blk_cell BK221.out 2).trans rfl; have hcz26_3 : w23.cell? ⟨gb221, 3, none⟩ = some (.int .i64 0) := (blk_cell BK221.out 3).trans rfl; have hfz26_0 := blk_frozen BK221.out 0; have hfz26_1 := blk_frozen BK221.out 1; have hfz26_2 := blk_frozen BK221.out 2; have hfz26_3 := blk_frozen BK221.out 3) | ((with_reducible refine gate_store (t := 82) (p := 14) rfl ?_); refine store_event (t := 82) (p := 14) (v := ?vo_w27) (w1 := ((((w23.setCell ⟨gb221, 0, none⟩ (.int .i64 ((rd_T82 l2 x39_1).f0))).setCell ⟨gb221, 1, none⟩ (.int .i64 ((rd_T82 l2 x39_1).f1))).setCell ⟨gb221, 2, none⟩ (.int .i64 ((rd_T82 l2 x39_1).f2))).setCell ⟨gb221, 3, none⟩ (.int .i64 ((rd_T82 l2 x39_1).f3)))) ?hg ?ho ?hn ?hr ?_; (case ho => rfl); (case hg => rfl); (case hn => rfl); (case hr => first | (go_simp; done) | (go_simp; rfl)); intro w27 hw; have n0_ : Aside0 (Kd.R k29 29 w27 w.heap.size (fun _ => True) u220004 x220004_1) := ⟨(by rw [hw]; exact (by (with_reducible repeat (first | apply Kd.R_alloc | apply Kd.R_drewN | apply Kd.R_drew)); exact Kd.R_mono (Kd.R_far (p := ⟨gb221, 3, none⟩) (Kd.R_far (p := ⟨gb221, 2, none⟩) (Kd.R_far (p := ⟨gb221, 1, none⟩) (Kd.R_far (p := ⟨gb221, 0, none⟩) (Kd.R_types HO_220004.out BK221.out (by decide)) (fun _ hk => hk.2) (.int .i64 ((rd_T82 l2 x39_1).f0))) (fun _ hk => hk.2) (.int .i64 ((rd_T82 l2 x39_1).f1))) (fun _ hk => hk.2) (.int .i64 ((rd_T82 l2 x39_1).f2))) (fun _ hk => hk.2) (.int .i64 ((rd_T82 l2 x39_1).f3))) (fun _ hk => trivial)))⟩; have n1_ : Aside0 (w27.heap[gb215]? = some (.cells #[.int .i64 0, .int .i64 0, .int .i64 0, .int .i64 0, .slice none 0 0] 26 (0, 0))) := ⟨(by rw [hw]; exact (by (with_reducible repeat (first | refine blk_drewN ?_ _ | refine blk_drew ?_ | refine blk_alloc ?_ _)); refine blk_far ?_ NB215_221.out _; (with_reducible repeat (first | refine blk_drewN ?_ _ | refine blk_drew ?_ | refine blk_alloc ?_ _)); refine blk_far ?_ NB215_221.out _; (with_reducible repeat (first | refine blk_drewN ?_ _ | refine blk_drew ?_ | refine blk_alloc ?_ _)); refine blk_far ?_ NB215_221.out _; (with_reducible repeat (first | refine blk_drewN ?_ _ | refine blk_drew ?_ | refine blk_alloc ?_ _)); refine blk_far ?_ NB215_221.out _; (with_reducible repeat (first | refine blk_drewN ?_ _ | refine blk_drew ?_ | refine blk_alloc ?_ _)); exact BK215.out))⟩; have n2_ : Aside0 (w27.heap[gb219]? = some (.cells #[.int .i64 (wrap64 (((rd_T82 l2 0).f0) - (ji6))), .int .i64 0, .int .i64 (wrap64 (((rd_T82 l2 0).f2) - (ji6))), .int .i64 0, u220004] 26 (0, 0))) := ⟨(by rw [hw]; exact (by (with_reducible repeat (first | refine blk_drewN ?_ _ | refine blk_drew ?_ | refine blk_alloc ?_ _)); refine blk_far ?_ NB219_221.out _; (with_reducible repeat (first | refine blk_drewN ?_ _ | refine blk_drew ?_ | refine blk_alloc ?_ _)); refine blk_far ?_ NB219_221.out _; (with_reducible repeat (first | refine blk_drewN ?_ _ | refine blk_drew ?_ | refine blk_alloc ?_ _)); refine blk_far ?_ NB219_221.out _; (with_reducible repeat (first | refine blk_drewN ?_ _ | refine blk_drew ?_ | refine blk_alloc ?_ _)); refine blk_far ?_ NB219_221.out _; (with_reducible repeat (first | refine blk_drewN ?_ _ | refine blk_drew ?_ | refine blk_alloc ?_ _)); exact BK219.out))⟩; have n3_ : Aside0 (w27.heap[gb221]? = some (.cells #[.int .i64 ((rd_T82 l2 x39_1).f0), .int .i64 ((rd_T82 l2 x39_1).f1), .int .i64 ((rd_T82 l2 x39_1).f2), .int .i64 ((rd_T82 l2 x39_1).f3)] 82 (0, 0))) := ⟨(by rw [hw]; exact (by (with_reducible repeat (first | refine blk_drewN ?_ _ | refine blk_drew ?_ | refine blk_alloc ?_ _)); refine blk_put (cs := #[.int .i64 ((rd_T82 l2 x39_1).f0), .int .i64 ((rd_T82 l2 x39_1).f1), .int .i64 ((rd_T82 l2 x39_1).f2), .int .i64 0]) ?_ 3 _ rfl; (with_reducible repeat (first | refine blk_drewN ?_ _ | refine blk_drew ?_ | refine blk_alloc ?_ _)); refine blk_put (cs := #[.int .i64 ((rd_T82 l2 x39_1).f0), .int .i64 ((rd_T82 l2 x39_1).f1), .int .i64 0, .int .i64 0]) ?_ 2 _ rfl; (with_reducible repeat (first | refine blk_drewN ?_ _ | refine blk_drew ?_ | refine blk_alloc ?_ _)); refine blk_put (cs := #[.int .i64 ((rd_T82 l2 x39_1).f0), .int .i64 0, .int .i64 0, .int .i64 0]) ?_ 1 _ rfl; (with_reducible repeat (first | refine blk_drewN ?_ _ | refine blk_drew ?_ | refine blk_alloc ?_ _)); refine blk_put (cs := #[.int .i64 0, .int .i64 0, .int .i64 0, .int .i64 0]) ?_ 0 _ rfl; (with_reducible repeat (first | refine blk_drewN ?_ _ | refine blk_drew ?_ | refine blk_alloc ?_ _)); exact BK221.out))⟩; have n4_ : Aside0 (Below w.heap.size w w27) := ⟨(by rw [hw]; exact (by repeat (first | (with_reducible first | exact HB.out | apply below_alloc | apply pw_below_drewN | apply below_drew1 | refine below_set ?_ GE215.out | refine below_set ?_ GE219.out | refine below_set ?_ GE221.out) | exact HB.out)))⟩; clear hw; clear HO_220004; clear BK215; clear BK219; clear BK221; clear HB; have HO_220004 := n0_; have BK215 := n1_; have BK219 := n2_; have BK221 := n3_; have HB := n4_; clear n0_ n1_ n2_ n3_ n4_; have hcz28_0 : w27.cell? ⟨gb221, 0, none⟩ = some (.int .i64 ((rd_T82 l2 x39_1).f0)) := (blk_cell BK221.out 0).trans rfl; have hcz28_1 : w27.cell? ⟨gb221, 1, none⟩ = some (.int .i64 ((rd_T82 l2 x39_1).f1)) := (blk_cell BK221.out 1).trans rfl; have hcz28_2 : w27.cell? ⟨gb221, 2, none⟩ = some (.int .i64 ((rd_T82 l2 x39_1).f2)) := (blk_cell BK221.out 2).trans rfl; have hcz28_3 : w27.cell? ⟨gb221, 3, none⟩ = some (.int .i64 ((rd_T82 l2 x39_1).f3)) := (blk_cell BK221.out 3).trans rfl; have hfz28_0 := blk_frozen BK221.out 0; have hfz28_1 := blk_frozen BK221.out 1; have hfz28_2 := blk_frozen BK221.out 2; have hfz28_3 := blk_frozen BK221.out 3; have q29 : (((rd_T82 l2 x39_1).f0) : Int) ≤ ((l0.length : Int) : Int) := of_decide_eq_true (by first | (with_reducible assumption) | assumption); obtain ⟨i029, hi029, _, hsz29, _⟩ := info_parts info9; have hroom29 : l0.length ≤ c0 := HC0.out; have hC29 : Kd.C Kd.string _ A0 l0.length l0 := HR0.out; have ql29 : (x11_1 : Int) ≤ (((rd_T82 l2 x39_1).f0) : Int) := of_decide_eq_true (by first | (with_reducible assumption) | assumption); have q029 : (0 : Int) ≤ (x11_1 : Int) := of_decide_eq_true (by first | (with_reducible assumption) | assumption); have hcut29 := cut_mid (P := Tryd.prog) 77 9 .i64 .i64 Tryd.underlying77 hi029 1 hsz29 A0 l0.length c0 x11_1 ((rd_T82 l2 x39_1).f0) q029 ql29 q29 hroom29; have hr29 := Kd.C_mid (lo := (x11_1 : Int).toNat) (hi := (((rd_T82 l2 x39_1).f0) : Int).toNat) (c := c0) hC29 (by omega) (by omega) hroom29; obtain ⟨A29, hA29⟩ : ∃ A1z_, A1z_ = (if c0 = (x11_1 : Int).toNat then A0 else (A0 : Option Addr).map (·.add ((x11_1 : Int).toNat * 1))) := ⟨_, rfl⟩; obtain ⟨c29, hc29⟩ : ∃ c1z_, c1z_ = c0 - (x11_1 : Int).toNat := ⟨_, rfl⟩; have hy29 : y222.length = (((rd_T82 l2 x39_1).f0) : Int).toNat - (x11_1 : Int).toNat := (by rw [Ny222.out, List.length_drop, List.length_take] <;> omega); rw [show ((l0).take (((rd_T82 l2 x39_1).f0) : Int).toNat).drop (x11_1 : Int).toNat = y222 from Ny222.out.symm] at hr29; replace hr29 : Kd.C Kd.string _ A29 y222.length y222 := (by rw [hA29]; exact hr29); rw [← hy29, ← hA29, ← hc29] at hcut29; have HR225 := Aside0.mk hr29; have HC225 := Aside0.mk (show y222.length ≤ c29 from by rw [hy29, hc29]; exact Nat.sub_le_sub_right (Nat.le_trans (by omega) hroom29) _); clear hr29 hC29 hroom29 hi029 hsz29 hc29; have KY29 := Aside0.mk hy29; have KA29 := Aside0.mk hA29; clear hy29 hA29; replace q29 := eq_true q29) | go_in)
          (try (refine bodyPost_end (results_none rfl _ _ _) rfl ?_; (try dsimp only); (try go_wp2); repeat (go_quiet (fail); try go_wp2)))
          go_loopg [9] k1 (fun kq v115 w' => ∃ (x115_2 : Int) (x220004_2 : List (S29)) (u220004 : Value), v115 = .int .i64 x115_2 ∧ Aside0 (hunks_hunk.l1 kq l0 l1 a3 l2 (l2.length : Int) x39_1 y222 (y222.length : Int) x115_2 (wrap64 (((rd_T82 l2 0).f0) - (ji6))) 0 (wrap64 (((rd_T82 l2 0).f2) - (ji6))) 0 x220004_2 ((rd_T82 l2 x39_1).f0) ((rd_T82 l2 x39_1).f1) ((rd_T82 l2 x39_1).f2) ((rd_T82 l2 x39_1).f3) = some (r1, r2, r3, r4, r5)) ∧ Aside0 (kq ≤ k1) ∧ Aside0 (Kd.R k29 29 w' w.heap.size (fun _ => True) u220004 x220004_2) ∧ Aside0 (w'.heap[gb215]? = some (.cells #[.int .i64 0, .int .i64 0, .int .i64 0, .int .i64 0, (.slice none 0 0)] 26 (0, 0))) ∧ Aside0 (w'.heap[gb219]? = some (.cells #[.int .i64 (wrap64 (((rd_T82 l2 0).f0) - (ji6))), .int .i64 0, .int .i64 (wrap64 (((rd_T82 l2 0).f2) - (ji6))), .int .i64 0, u220004] 26 (0, 0))) ∧ Aside0 (w'.heap[gb221]? = some (.cells #[.int .i64 ((rd_T82 l2 x39_1).f0), .int .i64 ((rd_T82 l2 x39_1).f1), .int .i64 ((rd_T82 l2 x39_1).f2), .int .i64 ((rd_T82 l2 x39_1).f3)] 82 (0, 0))) ∧ Aside0 (Below w.heap.size w w'))
          case atStart => exact ⟨(0), (x220004_1), (u220004), (by first | rfl | (simp; done) | (simp [*]; done) | (simp [wrap64, wrap32]; done)), H', ⟨Nat.le_refl _⟩, ⟨by (with_reducible repeat (first | apply Kd.R_alloc | apply Kd.R_drewN | apply Kd.R_drew)); exact HO_220004.out⟩, ⟨by (with_reducible repeat (first | refine blk_drewN ?_ _ | refine blk_drew ?_ | refine blk_alloc ?_ _)); exact BK215.out⟩, ⟨by (with_reducible repeat (first | refine blk_drewN ?_ _ | refine blk_drew ?_ | refine blk_alloc ?_ _)); exact BK219.out⟩, ⟨by (with_reducible repeat (first | refine blk_drewN ?_ _ | refine blk_drew ?_ | refine blk_alloc ?_ _)); exact BK221.out⟩, ⟨by repeat (first | (with_reducible first | exact HB.out | apply below_alloc | apply pw_below_drewN | apply below_drew1 | refine below_set ?_ GE215.out | refine below_set ?_ GE219.out | refine below_set ?_ GE221.out) | exact HB.out)⟩⟩
          case round =>
           clear H'
           (try clear c1); (try clear c2); (try clear p2); (try clear q2); (try clear hx2); (try clear qi2); (try clear c3); (try clear c5); (try clear c5b0); (try clear c5b1); (try clear p6); (try clear c15); (try clear c17); (try clear c17b0); (try clear c18); (try clear c18b0); (try clear c19); (try clear c19b0); (try clear c20); (try clear c20b0); (try clear c20b1); (try clear c21); (try clear c21b0); (try clear c21b1); (try clear p21); (try clear q21); (try clear hx21); (try clear qi21); (try clear c22); (try clear c22b0); (try clear c22b1); (try clear p22); (try clear q22); (try clear hx22); (try clear c24); (try clear c25); (try clear c29); (try clear q29); (try clear hcz16_0); (try clear hcz16_1); (try clear hcz16_2); (try clear hcz16_3); (try clear hcz16_4); (try clear hcz26_0); (try clear hcz26_1); (try clear hcz26_2); (try clear hcz26_3); (try clear hcz28_0); (try clear hcz28_1); (try clear hcz28_2); (try clear hcz28_3); (try clear hfz16_0); (try clear hfz16_1); (try clear hfz16_2); (try clear hfz16_3); (try clear hfz16_4); (try clear hfz26_0); (try clear hfz26_1); (try clear hfz26_2); (try clear hfz26_3); (try clear hfz28_0); (try clear hfz28_1); (try clear hfz28_2); (try clear hfz28_3); (try clear hx216_0); (try clear hx216_1); (try clear hx216_2); (try clear hx216_3); (try clear hx217_0); (try clear hx217_1); (try clear hx217_2); (try clear hx217_3); (try clear hx218_0); (try clear hx218_1); (try clear hx218_2); (try clear hx218_3); (try clear hx220_0); (try clear hx220_1); (try clear hx220_2); (try clear hx220_3); (try clear p2); (try clear p216); (try clear p217); (try clear p218); (try clear p220); (try clear p6); (try clear q029); (try clear q2); (try clear q216); (try clear q217); (try clear q218); (try clear q220); (try clear q29)
           obtain ⟨x115_2, x220004_2, u220004, rfl, HA, HK2, HO_220004, BK215, BK219, BK221, HB⟩ := hrel
           cases gk with
           | zero => exact absurd HA.out (by simp [hunks_hunk.l1])
           | succ k2 =>
            have H := HA.out
            clear HA
            simp only [hunks_hunk.l1] at H
            by_cases c30 : x115_2 < (y222.length : Int)
            ·rw [if_pos c30] at H
             have c30b0 : decide (x115_2 < (y222.length : Int)) = true := decide_eq_true c30
             clear c30
             by_cases c31 : 0 ≤ x115_2
             ·rw [if_pos c31] at H
              have c31b0 : decide (0 ≤ x115_2) = true := decide_eq_true c31
              clear c31
              by_cases c32 : x115_2 < (y222.length : Int)
              ·rw [if_pos c32] at H
               have c32b0 : decide (x115_2 < (y222.length : Int)) = true := decide_eq_true c32
               clear c32
               replace H := Option.bind_eq_some_iff.mp H
               obtain ⟨⟨t227, t228, t229⟩, A330, H⟩ := H
               replace H : (if x220004_2.length < 4398046511104 then (hunks_hunk.l1 k2 l0 l1 a3 l2 (l2.length : Int) x39_1 y222 (y222.length : Int) (wrap64 (x115_2 + 1)) (wrap64 (((rd_T82 l2 0).f0) - (ji6))) 0 (wrap64 (((rd_T82 l2 0).f2) - (ji6))) 0 (x220004_2 ++ [(⟨t227, t228, t229⟩ : S29)]) ((rd_T82 l2 x39_1).f0) ((rd_T82 l2 x39_1).f1) ((rd_T82 l2 x39_1).f2) ((rd_T82 l2 x39_1).f3)) else (none)) = some (r1, r2, r3, r4, r5) := H
               have A33 := Aside0.mk A330
               clear A330
               by_cases c34 : x220004_2.length < 4398046511104
               ·rw [if_pos c34] at H
                have LMc34 := Aside0.mk c34
                clear c34
                obtain ⟨y230, hy230⟩ : ∃ y_ : List (S29), y_ = (x220004_2 ++ [(⟨t227, t228, t229⟩ : S29)]) := ⟨_, rfl⟩
                replace H : (hunks_hunk.l1 k2 l0 l1 a3 l2 (l2.length : Int) x39_1 y222 (y222.length : Int) (wrap64 (x115_2 + 1)) (wrap64 (((rd_T82 l2 0).f0) - (ji6))) 0 (wrap64 (((rd_T82 l2 0).f2) - (ji6))) 0 y230 ((rd_T82 l2 x39_1).f0) ((rd_T82 l2 x39_1).f1) ((rd_T82 l2 x39_1).f2) ((rd_T82 l2 x39_1).f3)) = some (r1, r2, r3, r4, r5) := by first | (rw [hy230]; with_reducible exact H) | (have H2_ := (Option.bind_some _ _).symm.trans H; rw [hy230]; with_reducible exact H2_) | (have H2_ := (Option.bind_some _ _).symm.trans H; with_reducible exact H2_) | with_reducible exact H | (rw [hy230]; exact H) | exact H
                have Ny230 := Aside0.mk hy230
                clear hy230
                have H' := Aside0.mk H
                clear H
                have p226 : 0 ≤ (x115_2 : Int) := of_decide_eq_true (by first | (with_reducible assumption) | assumption)
                have q226 : x115_2 < (y222.length : Int) := of_decide_eq_true (by first | (with_reducible assumption) | assumption)
                obtain ⟨ad226, e226, hx226_0⟩ := Kd.at_string HR225.out x115_2 p226 q226
                cases e226
                replace hx226_0 := (HB.out.cell (World.block_lt_of_cell? w _ hx226_0)).trans hx226_0
                replace p226 := eq_true p226
                replace q226 := eq_true q226
                try go_wp2
                (try (refine bodyPost_end (results_none rfl _ _ _) rfl ?_; (try dsimp only); (try go_wp2); repeat (go_quiet (fail); try go_wp2)))
                have n0_ := Aside0.mk (Kd.R_drew HO_220004.out)
                have n1_ := Aside0.mk (blk_drew BK215.out)
                have n2_ := Aside0.mk (blk_drew BK219.out)
                have n3_ := Aside0.mk (blk_drew BK221.out)
                have n4_ := Aside0.mk (below_drew1 HB.out)
                clear HO_220004
                clear BK215
                clear BK219
                clear BK221
                clear HB
                have HO_220004 := n0_
                have BK215 := n1_
                have BK219 := n2_
                have BK221 := n3_
                have HB := n4_
                clear n0_ n1_ n2_ n3_ n4_
                refine start_ (n := 9) (S := fun w' => w'.cell? ⟨gb219, 0, none⟩ = some (.int .i64 (wrap64 (((rd_T82 l2 0).f0) - (ji6)))) ∧ w'.cell? ⟨gb219, 1, none⟩ = some (.int .i64 0) ∧ w'.cell? ⟨gb219, 2, none⟩ = some (.int .i64 (wrap64 (((rd_T82 l2 0).f2) - (ji6)))) ∧ w'.cell? ⟨gb219, 3, none⟩ = some (.int .i64 0) ∧ w'.cell? ⟨gb219, 4, none⟩ = some (u220004)) (ds := [8]) (bs 9 0) (by kernel_rfl) rfl rfl ⟨(blk_cell BK219.out 0).trans rfl, (blk_cell BK219.out 1).trans rfl, (blk_cell BK219.out 2).trans rfl, (blk_cell BK219.out 3).trans rfl, (blk_cell BK219.out 4).trans rfl⟩ (fun hHeld => ?_); refine with_tabW hunks_hunk.tab103 hunks_hunk.bits103 (fun HT_ HW_ => ?_)
                generalize wr.drew = w35 at HO_220004 BK215 BK219 BK221 HB hHeld ⊢
                refine pu_ 0 (some 13) ?_ (bs 9 1) HT_.out (by kernel_rfl) rfl rfl (fun _ _ _ h => h) (Or.inl ⟨by rfl, ?_⟩) ?_ ?_ ?_; rotate_left; (· intro w'; go_simp; with_reducible rfl); rotate_left; (· simp only [Act.put, sit, scz, scs, i64_w, i32_w]; rfl)
                refine pu_ 2 (some 15) ?_ (bs 9 5) HT_.out (by kernel_rfl) rfl rfl (fun _ _ _ h => h) (Or.inl ⟨by rfl, ?_⟩) ?_ ?_ ?_; rotate_left; (· intro w'; go_simp; with_reducible rfl); rotate_left; (· simp only [Act.put, sit, scz, scs, i64_w, i32_w]; rfl)
                refine pu_ 3 (some 16) ?_ (bs 9 13) HT_.out (by kernel_rfl) rfl rfl (fun _ _ _ h => h) (Or.inl ⟨by rfl, ?_⟩) ?_ ?_ ?_; rotate_left; (· intro w'; go_simp; with_reducible rfl); rotate_left; (· simp only [Act.put, sit, scz, scs, i64_w, i32_w]; rfl)
                refine take_ (i := 1) (N := some 14) (v := ?_) (a' := ?_) (bs 9 15) rfl rfl (take_ofW HT_.out HW_.out (by kernel_rfl)) (fun _ _ _ h => h) (Or.inl ⟨by rfl, ?_⟩) hHeld ?_ ?_; rotate_left; (· rintro w' ⟨s0, s1, s2, s3, s4⟩; go_simp; with_reducible rfl); rotate_left; (· simp only [Act.put, sit, scz, scs, i64_w, i32_w]; rfl)
                refine one_ (i := 4) (N := some 17) (bs 9 31) rfl rfl (one_of HT_.out (by kernel_rfl)) (by decide) (fun K hK => ?_)
                refine goes_ Tryd.func64 (by kernel_rfl) rfl #[.int .u8 32, .string (rdOf ByteArray.empty y222 x115_2)] (by rfl) rfl rfl (by (try simp only [List.map_toArray, List.map_cons, List.map_nil]); first | done | rfl | (simp only [List.length_drop, List.length_take]; rfl)) ?_
                with_reducible refine (hunks_line.calls 32 (rdOf ByteArray.empty y222 x115_2) t227 t228 t229 _ A33.out).mono ?_
                rintro e w36 ⟨rfl, hb⟩
                refine ⟨_, rfl, ?_⟩
                have n0_ := Aside0.mk (Kd.R_below (by (with_reducible repeat (first | apply Kd.R_alloc | apply Kd.R_drewN | apply Kd.R_drew)); exact HO_220004.out) hb)
                have n1_ := Aside0.mk (blk_below (g := gb215) (o := .cells #[.int .i64 0, .int .i64 0, .int .i64 0, .int .i64 0, .slice none 0 0] 26 (0, 0)) (by (with_reducible repeat (first | refine blk_drewN ?_ _ | refine blk_drew ?_ | refine blk_alloc ?_ _)); exact BK215.out) hb)
                have n2_ := Aside0.mk (blk_below (g := gb219) (o := .cells #[.int .i64 (wrap64 (((rd_T82 l2 0).f0) - (ji6))), .int .i64 0, .int .i64 (wrap64 (((rd_T82 l2 0).f2) - (ji6))), .int .i64 0, u220004] 26 (0, 0)) (by (with_reducible repeat (first | refine blk_drewN ?_ _ | refine blk_drew ?_ | refine blk_alloc ?_ _)); exact BK219.out) hb)
                have n3_ := Aside0.mk (blk_below (g := gb221) (o := .cells #[.int .i64 ((rd_T82 l2 x39_1).f0), .int .i64 ((rd_T82 l2 x39_1).f1), .int .i64 ((rd_T82 l2 x39_1).f2), .int .i64 ((rd_T82 l2 x39_1).f3)] 82 (0, 0)) (by (with_reducible repeat (first | refine blk_drewN ?_ _ | refine blk_drew ?_ | refine blk_alloc ?_ _)); exact BK221.out) hb)
                have n4_ := Aside0.mk (below_step (by repeat (first | (with_reducible first | exact HB.out | apply below_alloc | apply pw_below_drewN | apply below_drew1 | refine below_set ?_ GE215.out | refine below_set ?_ GE219.out | refine below_set ?_ GE221.out) | exact HB.out)) hb)
                clear HO_220004
                clear BK215
                clear BK219
                clear BK221
                clear HB
                have HO_220004 := n0_
                have BK215 := n1_
                have BK219 := n2_
                have BK221 := n3_
                have HB := n4_
                clear n0_ n1_ n2_ n3_ n4_
                (try clear hb)
                (try clear hb2)
                (try clear hk)
                (try clear hi)
                refine hK.out _ _ ⟨(blk_cell BK219.out 0).trans rfl, (blk_cell BK219.out 1).trans rfl, (blk_cell BK219.out 2).trans rfl, (blk_cell BK219.out 3).trans rfl, (blk_cell BK219.out 4).trans rfl⟩ (fun hHeld => ?_)
                clear hK K
                refine norm_ (a' := ?_) ?_ ?_
                rotate_left
                ·show Act.put _ (some 17) _ = _
                 simp only [Act.put, List.setIfInBounds_toArray, List.set_cons_zero, List.set_cons_succ, i64_w, i32_w]
                 rfl
                refine one_ (i := 5) (N := some 18) (bs 9 63) rfl rfl (one_of HT_.out (by kernel_rfl)) (by decide) (fun K hK => ?_)
                refine value_ (w1 := ?_) (v := ?_) (by rfl) rfl ?_ ?_
                rotate_left 2
                ·go_simp
                 constructor
                 ·rfl
                 ·rfl
                refine hK.out _ _ ⟨(blk_cell (blk_alloc BK219.out _) 0).trans rfl, (blk_cell (blk_alloc BK219.out _) 1).trans rfl, (blk_cell (blk_alloc BK219.out _) 2).trans rfl, (blk_cell (blk_alloc BK219.out _) 3).trans rfl, (blk_cell (blk_alloc BK219.out _) 4).trans rfl⟩ (fun hHeld => ?_)
                clear hK K
                refine norm_ (a' := ?_) ?_ ?_
                rotate_left
                ·show Act.put _ (some 18) _ = _
                 simp only [Act.put, List.setIfInBounds_toArray, List.set_cons_zero, List.set_cons_succ, i64_w, i32_w]
                 rfl
                refine one_ (i := 6) (N := some 19) (bs 9 127) rfl rfl (one_of HT_.out (by kernel_rfl)) (by decide) (fun K hK => ?_)
                refine Kd.R_append_step k29 (w0 := w) w.heap.size (by rfl) (.tmp 14) (.tmp 18) 24 29 (.agg #[(.int .u8 0), (.string ⟨#[]⟩), (.bool false)]) 32 rfl Tryd.underlying24 info29 rfl (by decide) (by omega) u220004 x220004_2 (⟨t227, t228, t229⟩ : S29) [.int .u8 t227, .string t228, .bool t229] (fun _ => True) (fun _ => False) rfl rfl ?aP (fun _ hk => hk.elim) ?aF ?aO ?aB ?aS ?aL ?_
                (case aP => exact k29_mkM _ _ _ (⟨t227, t228, t229⟩ : S29))
                (case aB => exact (by repeat (first | (with_reducible first | exact HB.out | apply below_alloc | apply pw_below_drewN | apply below_drew1 | refine below_set ?_ GE215.out | refine below_set ?_ GE219.out | refine below_set ?_ GE221.out) | exact HB.out)))
                (case aF => exact (fun _ _ => trivial))
                (case aO => exact (by (with_reducible repeat (first | apply Kd.R_alloc | apply Kd.R_drewN | apply Kd.R_drew)); exact HO_220004.out))
                (case aS => exact (below_size (by repeat (first | (with_reducible first | exact HB.out | apply below_alloc | apply pw_below_drewN | apply below_drew1 | refine below_set ?_ GE215.out | refine below_set ?_ GE219.out | refine below_set ?_ GE221.out) | exact HB.out))))
                (case aL => have := LMc34.out; omega)
                intro v231 w37 ho hb hg hat
                rw [← Ny230.out] at ho
                have n0_ := Aside0.mk (blk_grown (g := gb215) (o := .cells #[.int .i64 0, .int .i64 0, .int .i64 0, .int .i64 0, .slice none 0 0] 26 (0, 0)) (by (with_reducible repeat (first | refine blk_drewN ?_ _ | refine blk_drew ?_ | refine blk_alloc ?_ _)); exact BK215.out) hg (Kd.R_ne HO_220004.out BK215.out (by decide)))
                have n1_ := Aside0.mk (blk_grown (g := gb219) (o := .cells #[.int .i64 (wrap64 (((rd_T82 l2 0).f0) - (ji6))), .int .i64 0, .int .i64 (wrap64 (((rd_T82 l2 0).f2) - (ji6))), .int .i64 0, u220004] 26 (0, 0)) (by (with_reducible repeat (first | refine blk_drewN ?_ _ | refine blk_drew ?_ | refine blk_alloc ?_ _)); exact BK219.out) hg (Kd.R_ne HO_220004.out BK219.out (by decide)))
                have n2_ := Aside0.mk (blk_grown (g := gb221) (o := .cells #[.int .i64 ((rd_T82 l2 x39_1).f0), .int .i64 ((rd_T82 l2 x39_1).f1), .int .i64 ((rd_T82 l2 x39_1).f2), .int .i64 ((rd_T82 l2 x39_1).f3)] 82 (0, 0)) (by (with_reducible repeat (first | refine blk_drewN ?_ _ | refine blk_drew ?_ | refine blk_alloc ?_ _)); exact BK221.out) hg (Kd.R_ne HO_220004.out BK221.out (by decide)))
                have n3_ := Aside0.mk (hb)
                have n4_ := Aside0.mk (ho)
                clear BK215
                clear BK219
                clear BK221
                clear HB
                clear HO_220004
                have BK215 := n0_
                have BK219 := n1_
                have BK221 := n2_
                have HB := n3_
                have HO232 := n4_
                clear n0_ n1_ n2_ n3_ n4_
                clear ho hb hg hat
                obtain ⟨Ao38, co38, eo38⟩ := Kd.R_slice HO232.out
                (first | subst eo38 | (injection eo38 with f1_ f2_ f3_; have f4_ := f1_.symm; have f5_ := f3_.symm; clear f1_ f2_ f3_; subst f4_; subst f5_))
                refine hK.out _ _ ⟨(blk_cell BK219.out 0).trans rfl, (blk_cell BK219.out 1).trans rfl, (blk_cell BK219.out 2).trans rfl, (blk_cell BK219.out 3).trans rfl, (blk_cell BK219.out 4).trans rfl⟩ (fun hHeld => ?_)
                clear hK K
                refine norm_ (a' := ?_) ?_ ?_
                rotate_left
                ·show Act.put _ (some 19) _ = _
                 simp only [Act.put, List.setIfInBounds_toArray, List.set_cons_zero, List.set_cons_succ, i64_w, i32_w]
                 rfl
                refine pu_ 7 (some 20) ?_ (bs 9 255) HT_.out (by kernel_rfl) rfl rfl (fun _ _ _ h => h) (Or.inl ⟨by rfl, ?_⟩) ?_ ?_ ?_; rotate_left; (· intro w'; go_simp; with_reducible rfl); rotate_left; (· simp only [Act.put, sit, scz, scs, i64_w, i32_w]; rfl)
                refine last_ (i := 8) (N := none) (bs 9 511) rfl rfl (one_of HT_.out (by kernel_rfl)) (by decide) (fun K hK => ?_)
                have hs39 : w37.cell? ⟨gb219, 4, none⟩ = some (u220004) := (blk_cell BK219.out 4).trans rfl
                have hfs39 := blk_frozen BK219.out 4
                have hns39_0 := NB215_219.out
                have hns39_2 := NB221_219.out
                have hms39_0 := NB219_215.out
                have hms39_2 := NB219_221.out
                refine skip_ (w1 := ?_) (by rfl) rfl ?_ ?_
                rotate_left
                ·go_simp
                 rfl
                refine hK.out _ _ ?_
                clear hK K
                refine done_ (done_of HT_.out (by kernel_rfl)) ?_
                try go_wp2
                (try (refine bodyPost_end (results_none rfl _ _ _) rfl ?_; (try dsimp only); (try go_wp2); repeat (go_quiet (fail); try go_wp2)))
                (try (refine bodyPost_end (results_none rfl _ _ _) rfl ?_; (try dsimp only); (try go_wp2); repeat (go_quiet (fail); try go_wp2)))
                go_roundg k2
                case measure => have := HK1.out; have := HK2.out; omega
                case rel => exact ⟨(wrap64 (x115_2 + 1)), (y230), (.slice Ao38 y230.length co38), (by first | rfl | (simp; done) | (simp [*]; done) | (simp [wrap64, wrap32]; done)), H', ⟨by have := HK1.out; have := HK2.out; omega⟩, ⟨by (with_reducible repeat (first | apply Kd.R_alloc | apply Kd.R_drewN | apply Kd.R_drew)); exact Kd.R_mono (Kd.R_far (p := ⟨gb219, 4, none⟩) (Kd.R_types HO232.out BK219.out (by decide)) (fun _ hk => hk.2) (.slice Ao38 y230.length co38)) (fun _ hk => trivial)⟩, ⟨by (with_reducible repeat (first | refine blk_drewN ?_ _ | refine blk_drew ?_ | refine blk_alloc ?_ _)); refine blk_far ?_ NB215_219.out _; (with_reducible repeat (first | refine blk_drewN ?_ _ | refine blk_drew ?_ | refine blk_alloc ?_ _)); exact BK215.out⟩, ⟨by (with_reducible repeat (first | refine blk_drewN ?_ _ | refine blk_drew ?_ | refine blk_alloc ?_ _)); refine blk_put (cs := #[.int .i64 (wrap64 (((rd_T82 l2 0).f0) - (ji6))), .int .i64 0, .int .i64 (wrap64 (((rd_T82 l2 0).f2) - (ji6))), .int .i64 0, u220004]) ?_ 4 _ rfl; (with_reducible repeat (first | refine blk_drewN ?_ _ | refine blk_drew ?_ | refine blk_alloc ?_ _)); exact BK219.out⟩, ⟨by (with_reducible repeat (first | refine blk_drewN ?_ _ | refine blk_drew ?_ | refine blk_alloc ?_ _)); refine blk_far ?_ NB221_219.out _; (with_reducible repeat (first | refine blk_drewN ?_ _ | refine blk_drew ?_ | refine blk_alloc ?_ _)); exact BK221.out⟩, ⟨by repeat (first | (with_reducible first | exact HB.out | apply below_alloc | apply pw_below_drewN | apply below_drew1 | refine below_set ?_ GE215.out | refine below_set ?_ GE219.out | refine below_set ?_ GE221.out) | exact HB.out)⟩⟩
               ·rw [if_neg c34] at H
                exact absurd H (by simp)
              ·rw [if_neg c32] at H
               exact absurd H (by simp)
             ·rw [if_neg c31] at H
              exact absurd H (by simp)
            ·rw [if_neg c30] at H
             have c30b0 : decide (x115_2 < (y222.length : Int)) = false := decide_eq_false c30
             clear c30
             by_cases c40 : 0 ≤ ((rd_T82 l2 x39_1).f0)
             ·rw [if_pos c40] at H
              have c40b0 := eq_true c40
              have c40b1 : decide (0 ≤ ((rd_T82 l2 x39_1).f0)) = true := decide_eq_true c40
              clear c40
              by_cases c41 : ((rd_T82 l2 x39_1).f0) ≤ (wrap64 (((rd_T82 l2 x39_1).f0) + ((rd_T82 l2 x39_1).f1)))
              ·rw [if_pos c41] at H
               have c41b0 := eq_true c41
               have c41b1 : decide (((rd_T82 l2 x39_1).f0) ≤ (wrap64 (((rd_T82 l2 x39_1).f0) + ((rd_T82 l2 x39_1).f1)))) = true := decide_eq_true c41
               by_cases c42 : (wrap64 (((rd_T82 l2 x39_1).f0) + ((rd_T82 l2 x39_1).f1))) ≤ (l0.length : Int)
               ·rw [if_pos c42] at H
                have c42b0 := eq_true c42
                have c42b1 : decide ((wrap64 (((rd_T82 l2 x39_1).f0) + ((rd_T82 l2 x39_1).f1))) ≤ (l0.length : Int)) = true := decide_eq_true c42
                obtain ⟨y233, hy233⟩ : ∃ y_ : List ByteArray, y_ = ((l0.take ((wrap64 (((rd_T82 l2 x39_1).f0) + ((rd_T82 l2 x39_1).f1))) : Int).toNat).drop (((rd_T82 l2 x39_1).f0) : Int).toNat) := ⟨_, rfl⟩
                replace H : (hunks_hunk.l2 k2 l0 l1 a3 l2 (l2.length : Int) x39_1 y233 (y233.length : Int) 0 (wrap64 (((rd_T82 l2 0).f0) - (ji6))) 0 (wrap64 (((rd_T82 l2 0).f2) - (ji6))) 0 x220004_2 ((rd_T82 l2 x39_1).f0) ((rd_T82 l2 x39_1).f1) ((rd_T82 l2 x39_1).f2) ((rd_T82 l2 x39_1).f3)) = some (r1, r2, r3, r4, r5) := by first | (rw [hy233]; with_reducible exact H) | (have H2_ := (Option.bind_some _ _).symm.trans H; rw [hy233]; with_reducible exact H2_) | (have H2_ := (Option.bind_some _ _).symm.trans H; with_reducible exact H2_) | with_reducible exact H | (rw [hy233]; exact H) | exact H
                have Ny233 := Aside0.mk hy233
                clear hy233
                have H' := Aside0.mk H
                clear H
                have hnb43 := NB221_215.out
                have hnc43 := NB215_221.out
                have hnb44 := NB221_219.out
                have hnc44 := NB219_221.out
                have hcz45_0 : wr.cell? ⟨gb221, 0, none⟩ = some (.int .i64 ((rd_T82 l2 x39_1).f0)) := (blk_cell BK221.out 0).trans rfl
                have hcz45_1 : wr.cell? ⟨gb221, 1, none⟩ = some (.int .i64 ((rd_T82 l2 x39_1).f1)) := (blk_cell BK221.out 1).trans rfl
                have hcz45_2 : wr.cell? ⟨gb221, 2, none⟩ = some (.int .i64 ((rd_T82 l2 x39_1).f2)) := (blk_cell BK221.out 2).trans rfl
                have hcz45_3 : wr.cell? ⟨gb221, 3, none⟩ = some (.int .i64 ((rd_T82 l2 x39_1).f3)) := (blk_cell BK221.out 3).trans rfl
                have hfz45_0 := blk_frozen BK221.out 0
                have hfz45_1 := blk_frozen BK221.out 1
                have hfz45_2 := blk_frozen BK221.out 2
                have hfz45_3 := blk_frozen BK221.out 3
                have q46 : ((wrap64 (((rd_T82 l2 x39_1).f0) + ((rd_T82 l2 x39_1).f1))) : Int) ≤ ((l0.length : Int) : Int) := of_decide_eq_true (by first | (with_reducible assumption) | assumption)
                obtain ⟨i046, hi046, _, hsz46, _⟩ := info_parts info9
                have hroom46 : l0.length ≤ c0 := HC0.out
                have hC46 : Kd.C Kd.string _ A0 l0.length l0 := HR0.out
                have ql46 : (((rd_T82 l2 x39_1).f0) : Int) ≤ ((wrap64 (((rd_T82 l2 x39_1).f0) + ((rd_T82 l2 x39_1).f1))) : Int) := of_decide_eq_true (by first | (with_reducible assumption) | assumption)
                have q046 : (0 : Int) ≤ (((rd_T82 l2 x39_1).f0) : Int) := of_decide_eq_true (by first | (with_reducible assumption) | assumption)
                have hcut46 := cut_mid (P := Tryd.prog) 77 9 .i64 .i64 Tryd.underlying77 hi046 1 hsz46 A0 l0.length c0 ((rd_T82 l2 x39_1).f0) (wrap64 (((rd_T82 l2 x39_1).f0) + ((rd_T82 l2 x39_1).f1))) q046 ql46 q46 hroom46
                have hr46 := Kd.C_mid (lo := (((rd_T82 l2 x39_1).f0) : Int).toNat) (hi := ((wrap64 (((rd_T82 l2 x39_1).f0) + ((rd_T82 l2 x39_1).f1))) : Int).toNat) (c := c0) hC46 (by omega) (by omega) hroom46
                obtain ⟨A46, hA46⟩ : ∃ A1z_, A1z_ = (if c0 = (((rd_T82 l2 x39_1).f0) : Int).toNat then A0 else (A0 : Option Addr).map (·.add ((((rd_T82 l2 x39_1).f0) : Int).toNat * 1))) := ⟨_, rfl⟩
                obtain ⟨c46, hc46⟩ : ∃ c1z_, c1z_ = c0 - (((rd_T82 l2 x39_1).f0) : Int).toNat := ⟨_, rfl⟩
                have hy46 : y233.length = ((wrap64 (((rd_T82 l2 x39_1).f0) + ((rd_T82 l2 x39_1).f1))) : Int).toNat - (((rd_T82 l2 x39_1).f0) : Int).toNat := (by rw [Ny233.out, List.length_drop, List.length_take] <;> omega)
                rw [show ((l0).take ((wrap64 (((rd_T82 l2 x39_1).f0) + ((rd_T82 l2 x39_1).f1))) : Int).toNat).drop (((rd_T82 l2 x39_1).f0) : Int).toNat = y233 from Ny233.out.symm] at hr46
                replace hr46 : Kd.C Kd.string _ A46 y233.length y233 := (by rw [hA46]; exact hr46)
                rw [← hy46, ← hA46, ← hc46] at hcut46
                have HR236 := Aside0.mk hr46
                have HC236 := Aside0.mk (show y233.length ≤ c46 from by rw [hy46, hc46]; exact Nat.sub_le_sub_right (Nat.le_trans (by omega) hroom46) _)
                clear hr46 hC46 hroom46 hi046 hsz46 hc46
                have KY46 := Aside0.mk hy46
                have KA46 := Aside0.mk hA46
                clear hy46 hA46
                replace q46 := eq_true q46
                go_wp2
                (try (refine bodyPost_end (results_none rfl _ _ _) rfl ?_; (try dsimp only); (try go_wp2); repeat (go_quiet (fail); try go_wp2)))
                go_loopg [9] k2 (fun kq v145 w' => ∃ (x145_3 : Int) (x220004_3 : List (S29)) (u220004 : Value), v145 = .int .i64 x145_3 ∧ Aside0 (hunks_hunk.l2 kq l0 l1 a3 l2 (l2.length : Int) x39_1 y233 (y233.length : Int) x145_3 (wrap64 (((rd_T82 l2 0).f0) - (ji6))) 0 (wrap64 (((rd_T82 l2 0).f2) - (ji6))) 0 x220004_3 ((rd_T82 l2 x39_1).f0) ((rd_T82 l2 x39_1).f1) ((rd_T82 l2 x39_1).f2) ((rd_T82 l2 x39_1).f3) = some (r1, r2, r3, r4, r5)) ∧ Aside0 (kq ≤ k2) ∧ Aside0 (Kd.R k29 29 w' w.heap.size (fun _ => True) u220004 x220004_3) ∧ Aside0 (w'.heap[gb215]? = some (.cells #[.int .i64 0, .int .i64 0, .int .i64 0, .int .i64 0, (.slice none 0 0)] 26 (0, 0))) ∧ Aside0 (w'.heap[gb219]? = some (.cells #[.int .i64 (wrap64 (((rd_T82 l2 0).f0) - (ji6))), .int .i64 0, .int .i64 (wrap64 (((rd_T82 l2 0).f2) - (ji6))), .int .i64 0, u220004] 26 (0, 0))) ∧ Aside0 (w'.heap[gb221]? = some (.cells #[.int .i64 ((rd_T82 l2 x39_1).f0), .int .i64 ((rd_T82 l2 x39_1).f1), .int .i64 ((rd_T82 l2 x39_1).f2), .int .i64 ((rd_T82 l2 x39_1).f3)] 82 (0, 0))) ∧ Aside0 (Below w.heap.size w w'))
                case atStart => exact ⟨(0), (x220004_2), (u220004), (by first | rfl | (simp; done) | (simp [*]; done) | (simp [wrap64, wrap32]; done)), H', ⟨Nat.le_refl _⟩, ⟨by (with_reducible repeat (first | apply Kd.R_alloc | apply Kd.R_drewN | apply Kd.R_drew)); exact HO_220004.out⟩, ⟨by (with_reducible repeat (first | refine blk_drewN ?_ _ | refine blk_drew ?_ | refine blk_alloc ?_ _)); exact BK215.out⟩, ⟨by (with_reducible repeat (first | refine blk_drewN ?_ _ | refine blk_drew ?_ | refine blk_alloc ?_ _)); exact BK219.out⟩, ⟨by (with_reducible repeat (first | refine blk_drewN ?_ _ | refine blk_drew ?_ | refine blk_alloc ?_ _)); exact BK221.out⟩, ⟨by repeat (first | (with_reducible first | exact HB.out | apply below_alloc | apply pw_below_drewN | apply below_drew1 | refine below_set ?_ GE215.out | refine below_set ?_ GE219.out | refine below_set ?_ GE221.out) | exact HB.out)⟩⟩
                case round =>
                 clear H'
                 (try clear c1); (try clear c2); (try clear p2); (try clear q2); (try clear hx2); (try clear qi2); (try clear c3); (try clear c4); (try clear q4); (try clear c5); (try clear c5b0); (try clear c5b1); (try clear c6); (try clear p6); (try clear c15); (try clear c17); (try clear c17b0); (try clear c18); (try clear c18b0); (try clear c19); (try clear c19b0); (try clear c20); (try clear c20b0); (try clear c20b1); (try clear c21); (try clear c21b0); (try clear c21b1); (try clear p21); (try clear q21); (try clear hx21); (try clear qi21); (try clear c22); (try clear c22b0); (try clear c22b1); (try clear p22); (try clear q22); (try clear hx22); (try clear c24); (try clear c25); (try clear c29); (try clear q29); (try clear c30); (try clear c30b0); (try clear c31); (try clear c31b0); (try clear c32); (try clear c32b0); (try clear c34); (try clear c40); (try clear c40b0); (try clear c40b1); (try clear c41); (try clear c41b0); (try clear c41b1); (try clear c42); (try clear c42b0); (try clear c42b1); (try clear c43); (try clear c44); (try clear c46); (try clear q46); (try clear hcz16_0); (try clear hcz16_1); (try clear hcz16_2); (try clear hcz16_3); (try clear hcz16_4); (try clear hcz26_0); (try clear hcz26_1); (try clear hcz26_2); (try clear hcz26_3); (try clear hcz28_0); (try clear hcz28_1); (try clear hcz28_2); (try clear hcz28_3); (try clear hcz45_0); (try clear hcz45_1); (try clear hcz45_2); (try clear hcz45_3); (try clear hfz16_0); (try clear hfz16_1); (try clear hfz16_2); (try clear hfz16_3); (try clear hfz16_4); (try clear hfz26_0); (try clear hfz26_1); (try clear hfz26_2); (try clear hfz26_3); (try clear hfz28_0); (try clear hfz28_1); (try clear hfz28_2); (try clear hfz28_3); (try clear hfz45_0); (try clear hfz45_1); (try clear hfz45_2); (try clear hfz45_3); (try clear hx216_0); (try clear hx216_1); (try clear hx216_2); (try clear hx216_3); (try clear hx217_0); (try clear hx217_1); (try clear hx217_2); (try clear hx217_3); (try clear hx218_0); (try clear hx218_1); (try clear hx218_2); (try clear hx218_3); (try clear hx220_0); (try clear hx220_1); (try clear hx220_2); (try clear hx220_3); (try clear hx226_0); (try clear p2); (try clear p21); (try clear p216); (try clear p217); (try clear p218); (try clear p22); (try clear p220); (try clear p226); (try clear p6); (try clear q029); (try clear q046); (try clear q2); (try clear q21); (try clear q216); (try clear q217); (try clear q218); (try clear q22); (try clear q220); (try clear q226); (try clear q29); (try clear q46)
                 obtain ⟨x145_3, x220004_3, u220004, rfl, HA, HK3, HO_220004, BK215, BK219, BK221, HB⟩ := hrel
                 cases gk with
                 | zero => exact absurd HA.out (by simp [hunks_hunk.l2])
                 | succ k3 =>
                  have H := HA.out
                  clear HA
                  simp only [hunks_hunk.l2] at H
                  by_cases c47 : x145_3 < (y233.length : Int)
                  ·rw [if_pos c47] at H
                   have c47b0 : decide (x145_3 < (y233.length : Int)) = true := decide_eq_true c47
                   clear c47
                   by_cases c48 : 0 ≤ x145_3
                   ·rw [if_pos c48] at H
                    have c48b0 : decide (0 ≤ x145_3) = true := decide_eq_true c48
                    clear c48
                    by_cases c49 : x145_3 < (y233.length : Int)
                    ·rw [if_pos c49] at H
                     have c49b0 : decide (x145_3 < (y233.length : Int)) = true := decide_eq_true c49
                     clear c49
                     replace H := Option.bind_eq_some_iff.mp H
                     obtain ⟨⟨t238, t239, t240⟩, A500, H⟩ := H
                     replace H : (if x220004_3.length < 4398046511104 then (hunks_hunk.l2 k3 l0 l1 a3 l2 (l2.length : Int) x39_1 y233 (y233.length : Int) (wrap64 (x145_3 + 1)) (wrap64 (((rd_T82 l2 0).f0) - (ji6))) 0 (wrap64 (((rd_T82 l2 0).f2) - (ji6))) 0 (x220004_3 ++ [(⟨t238, t239, t240⟩ : S29)]) ((rd_T82 l2 x39_1).f0) ((rd_T82 l2 x39_1).f1) ((rd_T82 l2 x39_1).f2) ((rd_T82 l2 x39_1).f3)) else (none)) = some (r1, r2, r3, r4, r5) := H
                     have A50 := Aside0.mk A500
                     clear A500
                     by_cases c51 : x220004_3.length < 4398046511104
                     ·rw [if_pos c51] at H
                      have LMc51 := Aside0.mk c51
                      clear c51
                      obtain ⟨y241, hy241⟩ : ∃ y_ : List (S29), y_ = (x220004_3 ++ [(⟨t238, t239, t240⟩ : S29)]) := ⟨_, rfl⟩
                      replace H : (hunks_hunk.l2 k3 l0 l1 a3 l2 (l2.length : Int) x39_1 y233 (y233.length : Int) (wrap64 (x145_3 + 1)) (wrap64 (((rd_T82 l2 0).f0) - (ji6))) 0 (wrap64 (((rd_T82 l2 0).f2) - (ji6))) 0 y241 ((rd_T82 l2 x39_1).f0) ((rd_T82 l2 x39_1).f1) ((rd_T82 l2 x39_1).f2) ((rd_T82 l2 x39_1).f3)) = some (r1, r2, r3, r4, r5) := by first | (rw [hy241]; with_reducible exact H) | (have H2_ := (Option.bind_some _ _).symm.trans H; rw [hy241]; with_reducible exact H2_) | (have H2_ := (Option.bind_some _ _).symm.trans H; with_reducible exact H2_) | with_reducible exact H | (rw [hy241]; exact H) | exact H
                      have Ny241 := Aside0.mk hy241
                      clear hy241
                      have H' := Aside0.mk H
                      clear H
                      have p237 : 0 ≤ (x145_3 : Int) := of_decide_eq_true (by first | (with_reducible assumption) | assumption)
                      have q237 : x145_3 < (y233.length : Int) := of_decide_eq_true (by first | (with_reducible assumption) | assumption)
                      obtain ⟨ad237, e237, hx237_0⟩ := Kd.at_string HR236.out x145_3 p237 q237
                      cases e237
                      replace hx237_0 := (HB.out.cell (World.block_lt_of_cell? w _ hx237_0)).trans hx237_0
                      replace p237 := eq_true p237
                      replace q237 := eq_true q237
                      try go_wp2
                      (try (refine bodyPost_end (results_none rfl _ _ _) rfl ?_; (try dsimp only); (try go_wp2); repeat (go_quiet (fail); try go_wp2)))
                      have n0_ := Aside0.mk (Kd.R_drew HO_220004.out)
                      have n1_ := Aside0.mk (blk_drew BK215.out)
                      have n2_ := Aside0.mk (blk_drew BK219.out)
                      have n3_ := Aside0.mk (blk_drew BK221.out)
                      have n4_ := Aside0.mk (below_drew1 HB.out)
                      clear HO_220004
                      clear BK215
                      clear BK219
                      clear BK221
                      clear HB
                      have HO_220004 := n0_
                      have BK215 := n1_
                      have BK219 := n2_
                      have BK221 := n3_
                      have HB := n4_
                      clear n0_ n1_ n2_ n3_ n4_
                      refine start_ (n := 9) (S := fun w' => w'.cell? ⟨gb219, 0, none⟩ = some (.int .i64 (wrap64 (((rd_T82 l2 0).f0) - (ji6)))) ∧ w'.cell? ⟨gb219, 1, none⟩ = some (.int .i64 0) ∧ w'.cell? ⟨gb219, 2, none⟩ = some (.int .i64 (wrap64 (((rd_T82 l2 0).f2) - (ji6)))) ∧ w'.cell? ⟨gb219, 3, none⟩ = some (.int .i64 0) ∧ w'.cell? ⟨gb219, 4, none⟩ = some (u220004)) (ds := [8]) (bs 9 0) (by kernel_rfl) rfl rfl ⟨(blk_cell BK219.out 0).trans rfl, (blk_cell BK219.out 1).trans rfl, (blk_cell BK219.out 2).trans rfl, (blk_cell BK219.out 3).trans rfl, (blk_cell BK219.out 4).trans rfl⟩ (fun hHeld => ?_); refine with_tabW hunks_hunk.tab203 hunks_hunk.bits203 (fun HT_ HW_ => ?_)
                      generalize wr.drew = w52 at HO_220004 BK215 BK219 BK221 HB hHeld ⊢
                      refine pu_ 0 (some 13) ?_ (bs 9 1) HT_.out (by kernel_rfl) rfl rfl (fun _ _ _ h => h) (Or.inl ⟨by rfl, ?_⟩) ?_ ?_ ?_; rotate_left; (· intro w'; go_simp; with_reducible rfl); rotate_left; (· simp only [Act.put, sit, scz, scs, i64_w, i32_w]; rfl)
                      refine pu_ 2 (some 15) ?_ (bs 9 5) HT_.out (by kernel_rfl) rfl rfl (fun _ _ _ h => h) (Or.inl ⟨by rfl, ?_⟩) ?_ ?_ ?_; rotate_left; (· intro w'; go_simp; with_reducible rfl); rotate_left; (· simp only [Act.put, sit, scz, scs, i64_w, i32_w]; rfl)
                      refine pu_ 3 (some 16) ?_ (bs 9 13) HT_.out (by kernel_rfl) rfl rfl (fun _ _ _ h => h) (Or.inl ⟨by rfl, ?_⟩) ?_ ?_ ?_; rotate_left; (· intro w'; go_simp; with_reducible rfl); rotate_left; (· simp only [Act.put, sit, scz, scs, i64_w, i32_w]; rfl)
                      refine take_ (i := 1) (N := some 14) (v := ?_) (a' := ?_) (bs 9 15) rfl rfl (take_ofW HT_.out HW_.out (by kernel_rfl)) (fun _ _ _ h => h) (Or.inl ⟨by rfl, ?_⟩) hHeld ?_ ?_; rotate_left; (· rintro w' ⟨s0, s1, s2, s3, s4⟩; go_simp; with_reducible rfl); rotate_left; (· simp only [Act.put, sit, scz, scs, i64_w, i32_w]; rfl)
                      refine one_ (i := 4) (N := some 17) (bs 9 31) rfl rfl (one_of HT_.out (by kernel_rfl)) (by decide) (fun K hK => ?_)
                      refine goes_ Tryd.func64 (by kernel_rfl) rfl #[.int .u8 45, .string (rdOf ByteArray.empty y233 x145_3)] (by rfl) rfl rfl (by (try simp only [List.map_toArray, List.map_cons, List.map_nil]); first | done | rfl | (simp only [List.length_drop, List.length_take]; rfl)) ?_
                      with_reducible refine (hunks_line.calls 45 (rdOf ByteArray.empty y233 x145_3) t238 t239 t240 _ A50.out).mono ?_
                      rintro e w53 ⟨rfl, hb⟩
                      refine ⟨_, rfl, ?_⟩
                      have n0_ := Aside0.mk (Kd.R_below (by (with_reducible repeat (first | apply Kd.R_alloc | apply Kd.R_drewN | apply Kd.R_drew)); exact HO_220004.out) hb)
                      have n1_ := Aside0.mk (blk_below (g := gb215) (o := .cells #[.int .i64 0, .int .i64 0, .int .i64 0, .int .i64 0, .slice none 0 0] 26 (0, 0)) (by (with_reducible repeat (first | refine blk_drewN ?_ _ | refine blk_drew ?_ | refine blk_alloc ?_ _)); exact BK215.out) hb)
                      have n2_ := Aside0.mk (blk_below (g := gb219) (o := .cells #[.int .i64 (wrap64 (((rd_T82 l2 0).f0) - (ji6))), .int .i64 0, .int .i64 (wrap64 (((rd_T82 l2 0).f2) - (ji6))), .int .i64 0, u220004] 26 (0, 0)) (by (with_reducible repeat (first | refine blk_drewN ?_ _ | refine blk_drew ?_ | refine blk_alloc ?_ _)); exact BK219.out) hb)
                      have n3_ := Aside0.mk (blk_below (g := gb221) (o := .cells #[.int .i64 ((rd_T82 l2 x39_1).f0), .int .i64 ((rd_T82 l2 x39_1).f1), .int .i64 ((rd_T82 l2 x39_1).f2), .int .i64 ((rd_T82 l2 x39_1).f3)] 82 (0, 0)) (by (with_reducible repeat (first | refine blk_drewN ?_ _ | refine blk_drew ?_ | refine blk_alloc ?_ _)); exact BK221.out) hb)
                      have n4_ := Aside0.mk (below_step (by repeat (first | (with_reducible first | exact HB.out | apply below_alloc | apply pw_below_drewN | apply below_drew1 | refine below_set ?_ GE215.out | refine below_set ?_ GE219.out | refine below_set ?_ GE221.out) | exact HB.out)) hb)
                      clear HO_220004
                      clear BK215
                      clear BK219
                      clear BK221
                      clear HB
                      have HO_220004 := n0_
                      have BK215 := n1_
                      have BK219 := n2_
                      have BK221 := n3_
                      have HB := n4_
                      clear n0_ n1_ n2_ n3_ n4_
                      (try clear hb)
                      (try clear hb2)
                      (try clear hk)
                      (try clear hi)
                      refine hK.out _ _ ⟨(blk_cell BK219.out 0).trans rfl, (blk_cell BK219.out 1).trans rfl, (blk_cell BK219.out 2).trans rfl, (blk_cell BK219.out 3).trans rfl, (blk_cell BK219.out 4).trans rfl⟩ (fun hHeld => ?_)
                      clear hK K
                      refine norm_ (a' := ?_) ?_ ?_
                      rotate_left
                      ·show Act.put _ (some 17) _ = _
                       simp only [Act.put, List.setIfInBounds_toArray, List.set_cons_zero, List.set_cons_succ, i64_w, i32_w]
                       rfl
                      refine one_ (i := 5) (N := some 18) (bs 9 63) rfl rfl (one_of HT_.out (by kernel_rfl)) (by decide) (fun K hK => ?_)
                      refine value_ (w1 := ?_) (v := ?_) (by rfl) rfl ?_ ?_
                      rotate_left 2
                      ·go_simp
                       constructor
                       ·rfl
                       ·rfl
                      refine hK.out _ _ ⟨(blk_cell (blk_alloc BK219.out _) 0).trans rfl, (blk_cell (blk_alloc BK219.out _) 1).trans rfl, (blk_cell (blk_alloc BK219.out _) 2).trans rfl, (blk_cell (blk_alloc BK219.out _) 3).trans rfl, (blk_cell (blk_alloc BK219.out _) 4).trans rfl⟩ (fun hHeld => ?_)
                      clear hK K
                      refine norm_ (a' := ?_) ?_ ?_
                      rotate_left
                      ·show Act.put _ (some 18) _ = _
                       simp only [Act.put, List.setIfInBounds_toArray, List.set_cons_zero, List.set_cons_succ, i64_w, i32_w]
                       rfl
                      refine one_ (i := 6) (N := some 19) (bs 9 127) rfl rfl (one_of HT_.out (by kernel_rfl)) (by decide) (fun K hK => ?_)
                      refine Kd.R_append_step k29 (w0 := w) w.heap.size (by rfl) (.tmp 14) (.tmp 18) 24 29 (.agg #[(.int .u8 0), (.string ⟨#[]⟩), (.bool false)]) 32 rfl Tryd.underlying24 info29 rfl (by decide) (by omega) u220004 x220004_3 (⟨t238, t239, t240⟩ : S29) [.int .u8 t238, .string t239, .bool t240] (fun _ => True) (fun _ => False) rfl rfl ?aP (fun _ hk => hk.elim) ?aF ?aO ?aB ?aS ?aL ?_
                      (case aP => exact k29_mkM _ _ _ (⟨t238, t239, t240⟩ : S29))
                      (case aB => exact (by repeat (first | (with_reducible first | exact HB.out | apply below_alloc | apply pw_below_drewN | apply below_drew1 | refine below_set ?_ GE215.out | refine below_set ?_ GE219.out | refine below_set ?_ GE221.out) | exact HB.out)))
                      (case aF => exact (fun _ _ => trivial))
                      (case aO => exact (by (with_reducible repeat (first | apply Kd.R_alloc | apply Kd.R_drewN | apply Kd.R_drew)); exact HO_220004.out))
                      (case aS => exact (below_size (by repeat (first | (with_reducible first | exact HB.out | apply below_alloc | apply pw_below_drewN | apply below_drew1 | refine below_set ?_ GE215.out | refine below_set ?_ GE219.out | refine below_set ?_ GE221.out) | exact HB.out))))
                      (case aL => have := LMc51.out; omega)
                      intro v242 w54 ho hb hg hat
                      rw [← Ny241.out] at ho
                      have n0_ := Aside0.mk (blk_grown (g := gb215) (o := .cells #[.int .i64 0, .int .i64 0, .int .i64 0, .int .i64 0, .slice none 0 0] 26 (0, 0)) (by (with_reducible repeat (first | refine blk_drewN ?_ _ | refine blk_drew ?_ | refine blk_alloc ?_ _)); exact BK215.out) hg (Kd.R_ne HO_220004.out BK215.out (by decide)))
                      have n1_ := Aside0.mk (blk_grown (g := gb219) (o := .cells #[.int .i64 (wrap64 (((rd_T82 l2 0).f0) - (ji6))), .int .i64 0, .int .i64 (wrap64 (((rd_T82 l2 0).f2) - (ji6))), .int .i64 0, u220004] 26 (0, 0)) (by (with_reducible repeat (first | refine blk_drewN ?_ _ | refine blk_drew ?_ | refine blk_alloc ?_ _)); exact BK219.out) hg (Kd.R_ne HO_220004.out BK219.out (by decide)))
                      have n2_ := Aside0.mk (blk_grown (g := gb221) (o := .cells #[.int .i64 ((rd_T82 l2 x39_1).f0), .int .i64 ((rd_T82 l2 x39_1).f1), .int .i64 ((rd_T82 l2 x39_1).f2), .int .i64 ((rd_T82 l2 x39_1).f3)] 82 (0, 0)) (by (with_reducible repeat (first | refine blk_drewN ?_ _ | refine blk_drew ?_ | refine blk_alloc ?_ _)); exact BK221.out) hg (Kd.R_ne HO_220004.out BK221.out (by decide)))
                      have n3_ := Aside0.mk (hb)
                      have n4_ := Aside0.mk (ho)
                      clear BK215
                      clear BK219
                      clear BK221
                      clear HB
                      clear HO_220004
                      have BK215 := n0_
                      have BK219 := n1_
                      have BK221 := n2_
                      have HB := n3_
                      have HO243 := n4_
                      clear n0_ n1_ n2_ n3_ n4_
                      clear ho hb hg hat
                      obtain ⟨Ao55, co55, eo55⟩ := Kd.R_slice HO243.out
                      (first | subst eo55 | (injection eo55 with f1_ f2_ f3_; have f4_ := f1_.symm; have f5_ := f3_.symm; clear f1_ f2_ f3_; subst f4_; subst f5_))
                      refine hK.out _ _ ⟨(blk_cell BK219.out 0).trans rfl, (blk_cell BK219.out 1).trans rfl, (blk_cell BK219.out 2).trans rfl, (blk_cell BK219.out 3).trans rfl, (blk_cell BK219.out 4).trans rfl⟩ (fun hHeld => ?_)
                      clear hK K
                      refine norm_ (a' := ?_) ?_ ?_
                      rotate_left
                      ·show Act.put _ (some 19) _ = _
                       simp only [Act.put, List.setIfInBounds_toArray, List.set_cons_zero, List.set_cons_succ, i64_w, i32_w]
                       rfl
                      refine pu_ 7 (some 20) ?_ (bs 9 255) HT_.out (by kernel_rfl) rfl rfl (fun _ _ _ h => h) (Or.inl ⟨by rfl, ?_⟩) ?_ ?_ ?_; rotate_left; (· intro w'; go_simp; with_reducible rfl); rotate_left; (· simp only [Act.put, sit, scz, scs, i64_w, i32_w]; rfl)
                      refine last_ (i := 8) (N := none) (bs 9 511) rfl rfl (one_of HT_.out (by kernel_rfl)) (by decide) (fun K hK => ?_)
                      have hs56 : w54.cell? ⟨gb219, 4, none⟩ = some (u220004) := (blk_cell BK219.out 4).trans rfl
                      have hfs56 := blk_frozen BK219.out 4
                      have hns56_0 := NB215_219.out
                      have hns56_2 := NB221_219.out
                      have hms56_0 := NB219_215.out
                      have hms56_2 := NB219_221.out
                      refine skip_ (w1 := ?_) (by rfl) rfl ?_ ?_
                      rotate_left
                      ·go_simp
                       rfl
                      refine hK.out _ _ ?_
                      clear hK K
                      refine done_ (done_of HT_.out (by kernel_rfl)) ?_
                      try go_wp2
                      (try (refine bodyPost_end (results_none rfl _ _ _) rfl ?_; (try dsimp only); (try go_wp2); repeat (go_quiet (fail); try go_wp2)))
                      (try (refine bodyPost_end (results_none rfl _ _ _) rfl ?_; (try dsimp only); (try go_wp2); repeat (go_quiet (fail); try go_wp2)))
                      go_roundg k3
                      case measure => have := HK1.out; have := HK2.out; have := HK3.out; omega
                      case rel => exact ⟨(wrap64 (x145_3 + 1)), (y241), (.slice Ao55 y241.length co55), (by first | rfl | (simp; done) | (simp [*]; done) | (simp [wrap64, wrap32]; done)), H', ⟨by have := HK1.out; have := HK2.out; have := HK3.out; omega⟩, ⟨by (with_reducible repeat (first | apply Kd.R_alloc | apply Kd.R_drewN | apply Kd.R_drew)); exact Kd.R_mono (Kd.R_far (p := ⟨gb219, 4, none⟩) (Kd.R_types HO243.out BK219.out (by decide)) (fun _ hk => hk.2) (.slice Ao55 y241.length co55)) (fun _ hk => trivial)⟩, ⟨by (with_reducible repeat (first | refine blk_drewN ?_ _ | refine blk_drew ?_ | refine blk_alloc ?_ _)); refine blk_far ?_ NB215_219.out _; (with_reducible repeat (first | refine blk_drewN ?_ _ | refine blk_drew ?_ | refine blk_alloc ?_ _)); exact BK215.out⟩, ⟨by (with_reducible repeat (first | refine blk_drewN ?_ _ | refine blk_drew ?_ | refine blk_alloc ?_ _)); refine blk_put (cs := #[.int .i64 (wrap64 (((rd_T82 l2 0).f0) - (ji6))), .int .i64 0, .int .i64 (wrap64 (((rd_T82 l2 0).f2) - (ji6))), .int .i64 0, u220004]) ?_ 4 _ rfl; (with_reducible repeat (first | refine blk_drewN ?_ _ | refine blk_drew ?_ | refine blk_alloc ?_ _)); exact BK219.out⟩, ⟨by (with_reducible repeat (first | refine blk_drewN ?_ _ | refine blk_drew ?_ | refine blk_alloc ?_ _)); refine blk_far ?_ NB221_219.out _; (with_reducible repeat (first | refine blk_drewN ?_ _ | refine blk_drew ?_ | refine blk_alloc ?_ _)); exact BK221.out⟩, ⟨by repeat (first | (with_reducible first | exact HB.out | apply below_alloc | apply pw_below_drewN | apply below_drew1 | refine below_set ?_ GE215.out | refine below_set ?_ GE219.out | refine below_set ?_ GE221.out) | exact HB.out)⟩⟩
                     ·rw [if_neg c51] at H
                      exact absurd H (by simp)
                    ·rw [if_neg c49] at H
                     exact absurd H (by simp)
                   ·rw [if_neg c48] at H
                    exact absurd H (by simp)
                  ·rw [if_neg c47] at H
                   have c47b0 : decide (x145_3 < (y233.length : Int)) = false := decide_eq_false c47
                   clear c47
                   by_cases c57 : 0 ≤ ((rd_T82 l2 x39_1).f2)
                   ·rw [if_pos c57] at H
                    have c57b0 := eq_true c57
                    have c57b1 : decide (0 ≤ ((rd_T82 l2 x39_1).f2)) = true := decide_eq_true c57
                    clear c57
                    by_cases c58 : ((rd_T82 l2 x39_1).f2) ≤ (wrap64 (((rd_T82 l2 x39_1).f2) + ((rd_T82 l2 x39_1).f3)))
                    ·rw [if_pos c58] at H
                     have c58b0 := eq_true c58
                     have c58b1 : decide (((rd_T82 l2 x39_1).f2) ≤ (wrap64 (((rd_T82 l2 x39_1).f2) + ((rd_T82 l2 x39_1).f3)))) = true := decide_eq_true c58
                     by_cases c59 : (wrap64 (((rd_T82 l2 x39_1).f2) + ((rd_T82 l2 x39_1).f3))) ≤ (l1.length : Int)
                     ·rw [if_pos c59] at H
                      have c59b0 := eq_true c59
                      have c59b1 : decide ((wrap64 (((rd_T82 l2 x39_1).f2) + ((rd_T82 l2 x39_1).f3))) ≤ (l1.length : Int)) = true := decide_eq_true c59
                      obtain ⟨y244, hy244⟩ : ∃ y_ : List ByteArray, y_ = ((l1.take ((wrap64 (((rd_T82 l2 x39_1).f2) + ((rd_T82 l2 x39_1).f3))) : Int).toNat).drop (((rd_T82 l2 x39_1).f2) : Int).toNat) := ⟨_, rfl⟩
                      replace H : (hunks_hunk.l3 k3 l0 l1 a3 l2 (l2.length : Int) x39_1 y244 (y244.length : Int) 0 (wrap64 (((rd_T82 l2 0).f0) - (ji6))) 0 (wrap64 (((rd_T82 l2 0).f2) - (ji6))) 0 x220004_3 ((rd_T82 l2 x39_1).f0) ((rd_T82 l2 x39_1).f1) ((rd_T82 l2 x39_1).f2) ((rd_T82 l2 x39_1).f3)) = some (r1, r2, r3, r4, r5) := by first | (rw [hy244]; with_reducible exact H) | (have H2_ := (Option.bind_some _ _).symm.trans H; rw [hy244]; with_reducible exact H2_) | (have H2_ := (Option.bind_some _ _).symm.trans H; with_reducible exact H2_) | with_reducible exact H | (rw [hy244]; exact H) | exact H
                      have Ny244 := Aside0.mk hy244
                      clear hy244
                      have H' := Aside0.mk H
                      clear H
                      have hnb60 := NB221_215.out
                      have hnc60 := NB215_221.out
                      have hnb61 := NB221_219.out
                      have hnc61 := NB219_221.out
                      have hcz62_0 : wr.cell? ⟨gb221, 0, none⟩ = some (.int .i64 ((rd_T82 l2 x39_1).f0)) := (blk_cell BK221.out 0).trans rfl
                      have hcz62_1 : wr.cell? ⟨gb221, 1, none⟩ = some (.int .i64 ((rd_T82 l2 x39_1).f1)) := (blk_cell BK221.out 1).trans rfl
                      have hcz62_2 : wr.cell? ⟨gb221, 2, none⟩ = some (.int .i64 ((rd_T82 l2 x39_1).f2)) := (blk_cell BK221.out 2).trans rfl
                      have hcz62_3 : wr.cell? ⟨gb221, 3, none⟩ = some (.int .i64 ((rd_T82 l2 x39_1).f3)) := (blk_cell BK221.out 3).trans rfl
                      have hfz62_0 := blk_frozen BK221.out 0
                      have hfz62_1 := blk_frozen BK221.out 1
                      have hfz62_2 := blk_frozen BK221.out 2
                      have hfz62_3 := blk_frozen BK221.out 3
                      have q63 : ((wrap64 (((rd_T82 l2 x39_1).f2) + ((rd_T82 l2 x39_1).f3))) : Int) ≤ ((l1.length : Int) : Int) := of_decide_eq_true (by first | (with_reducible assumption) | assumption)
                      obtain ⟨i063, hi063, _, hsz63, _⟩ := info_parts info9
                      have hroom63 : l1.length ≤ c1 := HC1.out
                      have hC63 : Kd.C Kd.string _ A1 l1.length l1 := HR1.out
                      have ql63 : (((rd_T82 l2 x39_1).f2) : Int) ≤ ((wrap64 (((rd_T82 l2 x39_1).f2) + ((rd_T82 l2 x39_1).f3))) : Int) := of_decide_eq_true (by first | (with_reducible assumption) | assumption)
                      have q063 : (0 : Int) ≤ (((rd_T82 l2 x39_1).f2) : Int) := of_decide_eq_true (by first | (with_reducible assumption) | assumption)
                      have hcut63 := cut_mid (P := Tryd.prog) 77 9 .i64 .i64 Tryd.underlying77 hi063 1 hsz63 A1 l1.length c1 ((rd_T82 l2 x39_1).f2) (wrap64 (((rd_T82 l2 x39_1).f2) + ((rd_T82 l2 x39_1).f3))) q063 ql63 q63 hroom63
                      have hr63 := Kd.C_mid (lo := (((rd_T82 l2 x39_1).f2) : Int).toNat) (hi := ((wrap64 (((rd_T82 l2 x39_1).f2) + ((rd_T82 l2 x39_1).f3))) : Int).toNat) (c := c1) hC63 (by omega) (by omega) hroom63
                      obtain ⟨A63, hA63⟩ : ∃ A1z_, A1z_ = (if c1 = (((rd_T82 l2 x39_1).f2) : Int).toNat then A1 else (A1 : Option Addr).map (·.add ((((rd_T82 l2 x39_1).f2) : Int).toNat * 1))) := ⟨_, rfl⟩
                      obtain ⟨c63, hc63⟩ : ∃ c1z_, c1z_ = c1 - (((rd_T82 l2 x39_1).f2) : Int).toNat := ⟨_, rfl⟩
                      have hy63 : y244.length = ((wrap64 (((rd_T82 l2 x39_1).f2) + ((rd_T82 l2 x39_1).f3))) : Int).toNat - (((rd_T82 l2 x39_1).f2) : Int).toNat := (by rw [Ny244.out, List.length_drop, List.length_take] <;> omega)
                      rw [show ((l1).take ((wrap64 (((rd_T82 l2 x39_1).f2) + ((rd_T82 l2 x39_1).f3))) : Int).toNat).drop (((rd_T82 l2 x39_1).f2) : Int).toNat = y244 from Ny244.out.symm] at hr63
                      replace hr63 : Kd.C Kd.string _ A63 y244.length y244 := (by rw [hA63]; exact hr63)
                      rw [← hy63, ← hA63, ← hc63] at hcut63
                      have HR247 := Aside0.mk hr63
                      have HC247 := Aside0.mk (show y244.length ≤ c63 from by rw [hy63, hc63]; exact Nat.sub_le_sub_right (Nat.le_trans (by omega) hroom63) _)
                      clear hr63 hC63 hroom63 hi063 hsz63 hc63
                      have KY63 := Aside0.mk hy63
                      have KA63 := Aside0.mk hA63
                      clear hy63 hA63
                      replace q63 := eq_true q63
                      go_wp2
                      (try (refine bodyPost_end (results_none rfl _ _ _) rfl ?_; (try dsimp only); (try go_wp2); repeat (go_quiet (fail); try go_wp2)))
                      go_loopg [9] k3 (fun kq v175 w' => ∃ (x175_4 : Int) (x220004_4 : List (S29)) (u220004 : Value), v175 = .int .i64 x175_4 ∧ Aside0 (hunks_hunk.l3 kq l0 l1 a3 l2 (l2.length : Int) x39_1 y244 (y244.length : Int) x175_4 (wrap64 (((rd_T82 l2 0).f0) - (ji6))) 0 (wrap64 (((rd_T82 l2 0).f2) - (ji6))) 0 x220004_4 ((rd_T82 l2 x39_1).f0) ((rd_T82 l2 x39_1).f1) ((rd_T82 l2 x39_1).f2) ((rd_T82 l2 x39_1).f3) = some (r1, r2, r3, r4, r5)) ∧ Aside0 (kq ≤ k3) ∧ Aside0 (Kd.R k29 29 w' w.heap.size (fun _ => True) u220004 x220004_4) ∧ Aside0 (w'.heap[gb215]? = some (.cells #[.int .i64 0, .int .i64 0, .int .i64 0, .int .i64 0, (.slice none 0 0)] 26 (0, 0))) ∧ Aside0 (w'.heap[gb219]? = some (.cells #[.int .i64 (wrap64 (((rd_T82 l2 0).f0) - (ji6))), .int .i64 0, .int .i64 (wrap64 (((rd_T82 l2 0).f2) - (ji6))), .int .i64 0, u220004] 26 (0, 0))) ∧ Aside0 (w'.heap[gb221]? = some (.cells #[.int .i64 ((rd_T82 l2 x39_1).f0), .int .i64 ((rd_T82 l2 x39_1).f1), .int .i64 ((rd_T82 l2 x39_1).f2), .int .i64 ((rd_T82 l2 x39_1).f3)] 82 (0, 0))) ∧ Aside0 (Below w.heap.size w w'))
                      case atStart => exact ⟨(0), (x220004_3), (u220004), (by first | rfl | (simp; done) | (simp [*]; done) | (simp [wrap64, wrap32]; done)), H', ⟨Nat.le_refl _⟩, ⟨by (with_reducible repeat (first | apply Kd.R_alloc | apply Kd.R_drewN | apply Kd.R_drew)); exact HO_220004.out⟩, ⟨by (with_reducible repeat (first | refine blk_drewN ?_ _ | refine blk_drew ?_ | refine blk_alloc ?_ _)); exact BK215.out⟩, ⟨by (with_reducible repeat (first | refine blk_drewN ?_ _ | refine blk_drew ?_ | refine blk_alloc ?_ _)); exact BK219.out⟩, ⟨by (with_reducible repeat (first | refine blk_drewN ?_ _ | refine blk_drew ?_ | refine blk_alloc ?_ _)); exact BK221.out⟩, ⟨by repeat (first | (with_reducible first | exact HB.out | apply below_alloc | apply pw_below_drewN | apply below_drew1 | refine below_set ?_ GE215.out | refine below_set ?_ GE219.out | refine below_set ?_ GE221.out) | exact HB.out)⟩⟩
                      case round =>
                       clear H'
                       (try clear c1); (try clear c2); (try clear p2); (try clear q2); (try clear hx2); (try clear qi2); (try clear c3); (try clear c4); (try clear q4); (try clear c5); (try clear c5b0); (try clear c5b1); (try clear c6); (try clear p6); (try clear q6); (try clear c15); (try clear c17); (try clear c17b0); (try clear c18); (try clear c18b0); (try clear c19); (try clear c19b0); (try clear c20); (try clear c20b0); (try clear c20b1); (try clear c21); (try clear c21b0); (try clear c21b1); (try clear p21); (try clear q21); (try clear hx21); (try clear qi21); (try clear c22); (try clear c22b0); (try clear c22b1); (try clear p22); (try clear q22); (try clear hx22); (try clear p23); (try clear q23); (try clear hx23); (try clear c24); (try clear c25); (try clear c29); (try clear q29); (try clear c30); (try clear c30b0); (try clear c31); (try clear c31b0); (try clear c32); (try clear c32b0); (try clear c34); (try clear c40); (try clear c40b0); (try clear c40b1); (try clear c41); (try clear c41b0); (try clear c41b1); (try clear c42); (try clear c42b0); (try clear c42b1); (try clear c43); (try clear c44); (try clear c46); (try clear q46); (try clear c47); (try clear c47b0); (try clear c48); (try clear c48b0); (try clear c49); (try clear c49b0); (try clear c51); (try clear c57); (try clear c57b0); (try clear c57b1); (try clear c58); (try clear c58b0); (try clear c58b1); (try clear c59); (try clear c59b0); (try clear c59b1); (try clear c60); (try clear c61); (try clear c63); (try clear q63); (try clear hcz16_0); (try clear hcz16_1); (try clear hcz16_2); (try clear hcz16_3); (try clear hcz16_4); (try clear hcz26_0); (try clear hcz26_1); (try clear hcz26_2); (try clear hcz26_3); (try clear hcz28_0); (try clear hcz28_1); (try clear hcz28_2); (try clear hcz28_3); (try clear hcz45_0); (try clear hcz45_1); (try clear hcz45_2); (try clear hcz45_3); (try clear hcz62_0); (try clear hcz62_1); (try clear hcz62_2); (try clear hcz62_3); (try clear hfz16_0); (try clear hfz16_1); (try clear hfz16_2); (try clear hfz16_3); (try clear hfz16_4); (try clear hfz26_0); (try clear hfz26_1); (try clear hfz26_2); (try clear hfz26_3); (try clear hfz28_0); (try clear hfz28_1); (try clear hfz28_2); (try clear hfz28_3); (try clear hfz45_0); (try clear hfz45_1); (try clear hfz45_2); (try clear hfz45_3); (try clear hfz62_0); (try clear hfz62_1); (try clear hfz62_2); (try clear hfz62_3); (try clear hx216_0); (try clear hx216_1); (try clear hx216_2); (try clear hx216_3); (try clear hx217_0); (try clear hx217_1); (try clear hx217_2); (try clear hx217_3); (try clear hx218_0); (try clear hx218_1); (try clear hx218_2); (try clear hx218_3); (try clear hx220_0); (try clear hx220_1); (try clear hx220_2); (try clear hx220_3); (try clear hx226_0); (try clear hx237_0); (try clear p2); (try clear p21); (try clear p216); (try clear p217); (try clear p218); (try clear p22); (try clear p220); (try clear p226); (try clear p237); (try clear p6); (try clear q029); (try clear q046); (try clear q063); (try clear q2); (try clear q21); (try clear q216); (try clear q217); (try clear q218); (try clear q22); (try clear q220); (try clear q226); (try clear q237); (try clear q29); (try clear q4); (try clear q46); (try clear q63)
                       obtain ⟨x175_4, x220004_4, u220004, rfl, HA, HK4, HO_220004, BK215, BK219, BK221, HB⟩ := hrel
                       cases gk with
                       | zero => exact absurd HA.out (by simp [hunks_hunk.l3])
                       | succ k4 =>
                        have H := HA.out
                        clear HA
                        simp only [hunks_hunk.l3] at H
                        by_cases c64 : x175_4 < (y244.length : Int)
                        ·rw [if_pos c64] at H
                         have c64b0 : decide (x175_4 < (y244.length : Int)) = true := decide_eq_true c64
                         clear c64
                         by_cases c65 : 0 ≤ x175_4
                         ·rw [if_pos c65] at H
                          have c65b0 : decide (0 ≤ x175_4) = true := decide_eq_true c65
                          clear c65
                          by_cases c66 : x175_4 < (y244.length : Int)
                          ·rw [if_pos c66] at H
                           have c66b0 : decide (x175_4 < (y244.length : Int)) = true := decide_eq_true c66
                           clear c66
                           replace H := Option.bind_eq_some_iff.mp H
                           obtain ⟨⟨t249, t250, t251⟩, A670, H⟩ := H
                           replace H : (if x220004_4.length < 4398046511104 then (hunks_hunk.l3 k4 l0 l1 a3 l2 (l2.length : Int) x39_1 y244 (y244.length : Int) (wrap64 (x175_4 + 1)) (wrap64 (((rd_T82 l2 0).f0) - (ji6))) 0 (wrap64 (((rd_T82 l2 0).f2) - (ji6))) 0 (x220004_4 ++ [(⟨t249, t250, t251⟩ : S29)]) ((rd_T82 l2 x39_1).f0) ((rd_T82 l2 x39_1).f1) ((rd_T82 l2 x39_1).f2) ((rd_T82 l2 x39_1).f3)) else (none)) = some (r1, r2, r3, r4, r5) := H
                           have A67 := Aside0.mk A670
                           clear A670
                           by_cases c68 : x220004_4.length < 4398046511104
                           ·rw [if_pos c68] at H
                            have LMc68 := Aside0.mk c68
                            clear c68
                            obtain ⟨y252, hy252⟩ : ∃ y_ : List (S29), y_ = (x220004_4 ++ [(⟨t249, t250, t251⟩ : S29)]) := ⟨_, rfl⟩
                            replace H : (hunks_hunk.l3 k4 l0 l1 a3 l2 (l2.length : Int) x39_1 y244 (y244.length : Int) (wrap64 (x175_4 + 1)) (wrap64 (((rd_T82 l2 0).f0) - (ji6))) 0 (wrap64 (((rd_T82 l2 0).f2) - (ji6))) 0 y252 ((rd_T82 l2 x39_1).f0) ((rd_T82 l2 x39_1).f1) ((rd_T82 l2 x39_1).f2) ((rd_T82 l2 x39_1).f3)) = some (r1, r2, r3, r4, r5) := by first | (rw [hy252]; with_reducible exact H) | (have H2_ := (Option.bind_some _ _).symm.trans H; rw [hy252]; with_reducible exact H2_) | (have H2_ := (Option.bind_some _ _).symm.trans H; with_reducible exact H2_) | with_reducible exact H | (rw [hy252]; exact H) | exact H
                            have Ny252 := Aside0.mk hy252
                            clear hy252
                            have H' := Aside0.mk H
                            clear H
                            have p248 : 0 ≤ (x175_4 : Int) := of_decide_eq_true (by first | (with_reducible assumption) | assumption)
                            have q248 : x175_4 < (y244.length : Int) := of_decide_eq_true (by first | (with_reducible assumption) | assumption)
                            obtain ⟨ad248, e248, hx248_0⟩ := Kd.at_string HR247.out x175_4 p248 q248
                            cases e248
                            replace hx248_0 := (HB.out.cell (World.block_lt_of_cell? w _ hx248_0)).trans hx248_0
                            replace p248 := eq_true p248
                            replace q248 := eq_true q248
                            try go_wp2
                            (try (refine bodyPost_end (results_none rfl _ _ _) rfl ?_; (try dsimp only); (try go_wp2); repeat (go_quiet (fail); try go_wp2)))
                            have n0_ := Aside0.mk (Kd.R_drew HO_220004.out)
                            have n1_ := Aside0.mk (blk_drew BK215.out)
                            have n2_ := Aside0.mk (blk_drew BK219.out)
                            have n3_ := Aside0.mk (blk_drew BK221.out)
                            have n4_ := Aside0.mk (below_drew1 HB.out)
                            clear HO_220004
                            clear BK215
                            clear BK219
                            clear BK221
                            clear HB
                            have HO_220004 := n0_
                            have BK215 := n1_
                            have BK219 := n2_
                            have BK221 := n3_
                            have HB := n4_
                            clear n0_ n1_ n2_ n3_ n4_
                            refine start_ (n := 9) (S := fun w' => w'.cell? ⟨gb219, 0, none⟩ = some (.int .i64 (wrap64 (((rd_T82 l2 0).f0) - (ji6)))) ∧ w'.cell? ⟨gb219, 1, none⟩ = some (.int .i64 0) ∧ w'.cell? ⟨gb219, 2, none⟩ = some (.int .i64 (wrap64 (((rd_T82 l2 0).f2) - (ji6)))) ∧ w'.cell? ⟨gb219, 3, none⟩ = some (.int .i64 0) ∧ w'.cell? ⟨gb219, 4, none⟩ = some (u220004)) (ds := [8]) (bs 9 0) (by kernel_rfl) rfl rfl ⟨(blk_cell BK219.out 0).trans rfl, (blk_cell BK219.out 1).trans rfl, (blk_cell BK219.out 2).trans rfl, (blk_cell BK219.out 3).trans rfl, (blk_cell BK219.out 4).trans rfl⟩ (fun hHeld => ?_); refine with_tabW hunks_hunk.tab303 hunks_hunk.bits303 (fun HT_ HW_ => ?_)
                            generalize wr.drew = w69 at HO_220004 BK215 BK219 BK221 HB hHeld ⊢
                            refine pu_ 0 (some 13) ?_ (bs 9 1) HT_.out (by kernel_rfl) rfl rfl (fun _ _ _ h => h) (Or.inl ⟨by rfl, ?_⟩) ?_ ?_ ?_; rotate_left; (· intro w'; go_simp; with_reducible rfl); rotate_left; (· simp only [Act.put, sit, scz, scs, i64_w, i32_w]; rfl)
                            refine pu_ 2 (some 15) ?_ (bs 9 5) HT_.out (by kernel_rfl) rfl rfl (fun _ _ _ h => h) (Or.inl ⟨by rfl, ?_⟩) ?_ ?_ ?_; rotate_left; (· intro w'; go_simp; with_reducible rfl); rotate_left; (· simp only [Act.put, sit, scz, scs, i64_w, i32_w]; rfl)
                            refine pu_ 3 (some 16) ?_ (bs 9 13) HT_.out (by kernel_rfl) rfl rfl (fun _ _ _ h => h) (Or.inl ⟨by rfl, ?_⟩) ?_ ?_ ?_; rotate_left; (· intro w'; go_simp; with_reducible rfl); rotate_left; (· simp only [Act.put, sit, scz, scs, i64_w, i32_w]; rfl)
                            refine take_ (i := 1) (N := some 14) (v := ?_) (a' := ?_) (bs 9 15) rfl rfl (take_ofW HT_.out HW_.out (by kernel_rfl)) (fun _ _ _ h => h) (Or.inl ⟨by rfl, ?_⟩) hHeld ?_ ?_; rotate_left; (· rintro w' ⟨s0, s1, s2, s3, s4⟩; go_simp; with_reducible rfl); rotate_left; (· simp only [Act.put, sit, scz, scs, i64_w, i32_w]; rfl)
                            refine one_ (i := 4) (N := some 17) (bs 9 31) rfl rfl (one_of HT_.out (by kernel_rfl)) (by decide) (fun K hK => ?_)
                            refine goes_ Tryd.func64 (by kernel_rfl) rfl #[.int .u8 43, .string (rdOf ByteArray.empty y244 x175_4)] (by rfl) rfl rfl (by (try simp only [List.map_toArray, List.map_cons, List.map_nil]); first | done | rfl | (simp only [List.length_drop, List.length_take]; rfl)) ?_
                            with_reducible refine (hunks_line.calls 43 (rdOf ByteArray.empty y244 x175_4) t249 t250 t251 _ A67.out).mono ?_
                            rintro e w70 ⟨rfl, hb⟩
                            refine ⟨_, rfl, ?_⟩
                            have n0_ := Aside0.mk (Kd.R_below (by (with_reducible repeat (first | apply Kd.R_alloc | apply Kd.R_drewN | apply Kd.R_drew)); exact HO_220004.out) hb)
                            have n1_ := Aside0.mk (blk_below (g := gb215) (o := .cells #[.int .i64 0, .int .i64 0, .int .i64 0, .int .i64 0, .slice none 0 0] 26 (0, 0)) (by (with_reducible repeat (first | refine blk_drewN ?_ _ | refine blk_drew ?_ | refine blk_alloc ?_ _)); exact BK215.out) hb)
                            have n2_ := Aside0.mk (blk_below (g := gb219) (o := .cells #[.int .i64 (wrap64 (((rd_T82 l2 0).f0) - (ji6))), .int .i64 0, .int .i64 (wrap64 (((rd_T82 l2 0).f2) - (ji6))), .int .i64 0, u220004] 26 (0, 0)) (by (with_reducible repeat (first | refine blk_drewN ?_ _ | refine blk_drew ?_ | refine blk_alloc ?_ _)); exact BK219.out) hb)
                            have n3_ := Aside0.mk (blk_below (g := gb221) (o := .cells #[.int .i64 ((rd_T82 l2 x39_1).f0), .int .i64 ((rd_T82 l2 x39_1).f1), .int .i64 ((rd_T82 l2 x39_1).f2), .int .i64 ((rd_T82 l2 x39_1).f3)] 82 (0, 0)) (by (with_reducible repeat (first | refine blk_drewN ?_ _ | refine blk_drew ?_ | refine blk_alloc ?_ _)); exact BK221.out) hb)
                            have n4_ := Aside0.mk (below_step (by repeat (first | (with_reducible first | exact HB.out | apply below_alloc | apply pw_below_drewN | apply below_drew1 | refine below_set ?_ GE215.out | refine below_set ?_ GE219.out | refine below_set ?_ GE221.out) | exact HB.out)) hb)
                            clear HO_220004
                            clear BK215
                            clear BK219
                            clear BK221
                            clear HB
                            have HO_220004 := n0_
                            have BK215 := n1_
                            have BK219 := n2_
                            have BK221 := n3_
                            have HB := n4_
                            clear n0_ n1_ n2_ n3_ n4_
                            (try clear hb)
                            (try clear hb2)
                            (try clear hk)
                            (try clear hi)
                            refine hK.out _ _ ⟨(blk_cell BK219.out 0).trans rfl, (blk_cell BK219.out 1).trans rfl, (blk_cell BK219.out 2).trans rfl, (blk_cell BK219.out 3).trans rfl, (blk_cell BK219.out 4).trans rfl⟩ (fun hHeld => ?_)
                            clear hK K
                            refine norm_ (a' := ?_) ?_ ?_
                            rotate_left
                            ·show Act.put _ (some 17) _ = _
                             simp only [Act.put, List.setIfInBounds_toArray, List.set_cons_zero, List.set_cons_succ, i64_w, i32_w]
                             rfl
                            refine one_ (i := 5) (N := some 18) (bs 9 63) rfl rfl (one_of HT_.out (by kernel_rfl)) (by decide) (fun K hK => ?_)
                            refine value_ (w1 := ?_) (v := ?_) (by rfl) rfl ?_ ?_
                            rotate_left 2
                            ·go_simp
                             constructor
                             ·rfl
                             ·rfl
                            refine hK.out _ _ ⟨(blk_cell (blk_alloc BK219.out _) 0).trans rfl, (blk_cell (blk_alloc BK219.out _) 1).trans rfl, (blk_cell (blk_alloc BK219.out _) 2).trans rfl, (blk_cell (blk_alloc BK219.out _) 3).trans rfl, (blk_cell (blk_alloc BK219.out _) 4).trans rfl⟩ (fun hHeld => ?_)
                            clear hK K
                            refine norm_ (a' := ?_) ?_ ?_
                            rotate_left
                            ·show Act.put _ (some 18) _ = _
                             simp only [Act.put, List.setIfInBounds_toArray, List.set_cons_zero, List.set_cons_succ, i64_w, i32_w]
                             rfl
                            refine one_ (i := 6) (N := some 19) (bs 9 127) rfl rfl (one_of HT_.out (by kernel_rfl)) (by decide) (fun K hK => ?_)
                            refine Kd.R_append_step k29 (w0 := w) w.heap.size (by rfl) (.tmp 14) (.tmp 18) 24 29 (.agg #[(.int .u8 0), (.string ⟨#[]⟩), (.bool false)]) 32 rfl Tryd.underlying24 info29 rfl (by decide) (by omega) u220004 x220004_4 (⟨t249, t250, t251⟩ : S29) [.int .u8 t249, .string t250, .bool t251] (fun _ => True) (fun _ => False) rfl rfl ?aP (fun _ hk => hk.elim) ?aF ?aO ?aB ?aS ?aL ?_
                            (case aP => exact k29_mkM _ _ _ (⟨t249, t250, t251⟩ : S29))
                            (case aB => exact (by repeat (first | (with_reducible first | exact HB.out | apply below_alloc | apply pw_below_drewN | apply below_drew1 | refine below_set ?_ GE215.out | refine below_set ?_ GE219.out | refine below_set ?_ GE221.out) | exact HB.out)))
                            (case aF => exact (fun _ _ => trivial))
                            (case aO => exact (by (with_reducible repeat (first | apply Kd.R_alloc | apply Kd.R_drewN | apply Kd.R_drew)); exact HO_220004.out))
                            (case aS => exact (below_size (by repeat (first | (with_reducible first | exact HB.out | apply below_alloc | apply pw_below_drewN | apply below_drew1 | refine below_set ?_ GE215.out | refine below_set ?_ GE219.out | refine below_set ?_ GE221.out) | exact HB.out))))
                            (case aL => have := LMc68.out; omega)
                            intro v253 w71 ho hb hg hat
                            rw [← Ny252.out] at ho
                            have n0_ := Aside0.mk (blk_grown (g := gb215) (o := .cells #[.int .i64 0, .int .i64 0, .int .i64 0, .int .i64 0, .slice none 0 0] 26 (0, 0)) (by (with_reducible repeat (first | refine blk_drewN ?_ _ | refine blk_drew ?_ | refine blk_alloc ?_ _)); exact BK215.out) hg (Kd.R_ne HO_220004.out BK215.out (by decide)))
                            have n1_ := Aside0.mk (blk_grown (g := gb219) (o := .cells #[.int .i64 (wrap64 (((rd_T82 l2 0).f0) - (ji6))), .int .i64 0, .int .i64 (wrap64 (((rd_T82 l2 0).f2) - (ji6))), .int .i64 0, u220004] 26 (0, 0)) (by (with_reducible repeat (first | refine blk_drewN ?_ _ | refine blk_drew ?_ | refine blk_alloc ?_ _)); exact BK219.out) hg (Kd.R_ne HO_220004.out BK219.out (by decide)))
                            have n2_ := Aside0.mk (blk_grown (g := gb221) (o := .cells #[.int .i64 ((rd_T82 l2 x39_1).f0), .int .i64 ((rd_T82 l2 x39_1).f1), .int .i64 ((rd_T82 l2 x39_1).f2), .int .i64 ((rd_T82 l2 x39_1).f3)] 82 (0, 0)) (by (with_reducible repeat (first | refine blk_drewN ?_ _ | refine blk_drew ?_ | refine blk_alloc ?_ _)); exact BK221.out) hg (Kd.R_ne HO_220004.out BK221.out (by decide)))
                            have n3_ := Aside0.mk (hb)
                            have n4_ := Aside0.mk (ho)
                            clear BK215
                            clear BK219
                            clear BK221
                            clear HB
                            clear HO_220004
                            have BK215 := n0_
                            have BK219 := n1_
                            have BK221 := n2_
                            have HB := n3_
                            have HO254 := n4_
                            clear n0_ n1_ n2_ n3_ n4_
                            clear ho hb hg hat
                            obtain ⟨Ao72, co72, eo72⟩ := Kd.R_slice HO254.out
                            (first | subst eo72 | (injection eo72 with f1_ f2_ f3_; have f4_ := f1_.symm; have f5_ := f3_.symm; clear f1_ f2_ f3_; subst f4_; subst f5_))
                            refine hK.out _ _ ⟨(blk_cell BK219.out 0).trans rfl, (blk_cell BK219.out 1).trans rfl, (blk_cell BK219.out 2).trans rfl, (blk_cell BK219.out 3).trans rfl, (blk_cell BK219.out 4).trans rfl⟩ (fun hHeld => ?_)
                            clear hK K
                            refine norm_ (a' := ?_) ?_ ?_
                            rotate_left
                            ·show Act.put _ (some 19) _ = _
                             simp only [Act.put, List.setIfInBounds_toArray, List.set_cons_zero, List.set_cons_succ, i64_w, i32_w]
                             rfl
                            refine pu_ 7 (some 20) ?_ (bs 9 255) HT_.out (by kernel_rfl) rfl rfl (fun _ _ _ h => h) (Or.inl ⟨by rfl, ?_⟩) ?_ ?_ ?_; rotate_left; (· intro w'; go_simp; with_reducible rfl); rotate_left; (· simp only [Act.put, sit, scz, scs, i64_w, i32_w]; rfl)
                            refine last_ (i := 8) (N := none) (bs 9 511) rfl rfl (one_of HT_.out (by kernel_rfl)) (by decide) (fun K hK => ?_)
                            have hs73 : w71.cell? ⟨gb219, 4, none⟩ = some (u220004) := (blk_cell BK219.out 4).trans rfl
                            have hfs73 := blk_frozen BK219.out 4
                            have hns73_0 := NB215_219.out
                            have hns73_2 := NB221_219.out
                            have hms73_0 := NB219_215.out
                            have hms73_2 := NB219_221.out
                            refine skip_ (w1 := ?_) (by rfl) rfl ?_ ?_
                            rotate_left
                            ·go_simp
                             rfl
                            refine hK.out _ _ ?_
                            clear hK K
                            refine done_ (done_of HT_.out (by kernel_rfl)) ?_
                            try go_wp2
                            (try (refine bodyPost_end (results_none rfl _ _ _) rfl ?_; (try dsimp only); (try go_wp2); repeat (go_quiet (fail); try go_wp2)))
                            (try (refine bodyPost_end (results_none rfl _ _ _) rfl ?_; (try dsimp only); (try go_wp2); repeat (go_quiet (fail); try go_wp2)))
                            go_roundg k4
                            case measure => have := HK1.out; have := HK2.out; have := HK3.out; have := HK4.out; omega
                            case rel => exact ⟨(wrap64 (x175_4 + 1)), (y252), (.slice Ao72 y252.length co72), (by first | rfl | (simp; done) | (simp [*]; done) | (simp [wrap64, wrap32]; done)), H', ⟨by have := HK1.out; have := HK2.out; have := HK3.out; have := HK4.out; omega⟩, ⟨by (with_reducible repeat (first | apply Kd.R_alloc | apply Kd.R_drewN | apply Kd.R_drew)); exact Kd.R_mono (Kd.R_far (p := ⟨gb219, 4, none⟩) (Kd.R_types HO254.out BK219.out (by decide)) (fun _ hk => hk.2) (.slice Ao72 y252.length co72)) (fun _ hk => trivial)⟩, ⟨by (with_reducible repeat (first | refine blk_drewN ?_ _ | refine blk_drew ?_ | refine blk_alloc ?_ _)); refine blk_far ?_ NB215_219.out _; (with_reducible repeat (first | refine blk_drewN ?_ _ | refine blk_drew ?_ | refine blk_alloc ?_ _)); exact BK215.out⟩, ⟨by (with_reducible repeat (first | refine blk_drewN ?_ _ | refine blk_drew ?_ | refine blk_alloc ?_ _)); refine blk_put (cs := #[.int .i64 (wrap64 (((rd_T82 l2 0).f0) - (ji6))), .int .i64 0, .int .i64 (wrap64 (((rd_T82 l2 0).f2) - (ji6))), .int .i64 0, u220004]) ?_ 4 _ rfl; (with_reducible repeat (first | refine blk_drewN ?_ _ | refine blk_drew ?_ | refine blk_alloc ?_ _)); exact BK219.out⟩, ⟨by (with_reducible repeat (first | refine blk_drewN ?_ _ | refine blk_drew ?_ | refine blk_alloc ?_ _)); refine blk_far ?_ NB221_219.out _; (with_reducible repeat (first | refine blk_drewN ?_ _ | refine blk_drew ?_ | refine blk_alloc ?_ _)); exact BK221.out⟩, ⟨by repeat (first | (with_reducible first | exact HB.out | apply below_alloc | apply pw_below_drewN | apply below_drew1 | refine below_set ?_ GE215.out | refine below_set ?_ GE219.out | refine below_set ?_ GE221.out) | exact HB.out)⟩⟩
                           ·rw [if_neg c68] at H
                            exact absurd H (by simp)
                          ·rw [if_neg c66] at H
                           exact absurd H (by simp)
                         ·rw [if_neg c65] at H
                          exact absurd H (by simp)
                        ·rw [if_neg c64] at H
                         have c64b0 : decide (x175_4 < (y244.length : Int)) = false := decide_eq_false c64
                         clear c64
                         have H' := Aside0.mk H
                         clear H
                         have hnb74 := NB221_215.out
                         have hnc74 := NB215_221.out
                         have hnb75 := NB221_219.out
                         have hnc75 := NB219_221.out
                         have hcz76_0 : wr.cell? ⟨gb221, 0, none⟩ = some (.int .i64 ((rd_T82 l2 x39_1).f0)) := (blk_cell BK221.out 0).trans rfl
                         have hcz76_1 : wr.cell? ⟨gb221, 1, none⟩ = some (.int .i64 ((rd_T82 l2 x39_1).f1)) := (blk_cell BK221.out 1).trans rfl
                         have hcz76_2 : wr.cell? ⟨gb221, 2, none⟩ = some (.int .i64 ((rd_T82 l2 x39_1).f2)) := (blk_cell BK221.out 2).trans rfl
                         have hcz76_3 : wr.cell? ⟨gb221, 3, none⟩ = some (.int .i64 ((rd_T82 l2 x39_1).f3)) := (blk_cell BK221.out 3).trans rfl
                         have hfz76_0 := blk_frozen BK221.out 0
                         have hfz76_1 := blk_frozen BK221.out 1
                         have hfz76_2 := blk_frozen BK221.out 2
                         have hfz76_3 := blk_frozen BK221.out 3
                         go_wp2
                         (try (refine bodyPost_end (results_none rfl _ _ _) rfl ?_; (try dsimp only); (try go_wp2); repeat (go_quiet (fail); try go_wp2)))
                         go_roundg k4
                         case measure => have := HK1.out; have := HK2.out; have := HK3.out; have := HK4.out; omega
                         case rel => exact ⟨(wrap64 (((rd_T82 l2 x39_1).f0) + ((rd_T82 l2 x39_1).f1))), (wrap64 (x39_1 + 1)), (x220004_4), (u220004), (by first | rfl | (simp; done) | (simp [*]; done) | (simp [wrap64, wrap32]; done)), (by first | rfl | (simp; done) | (simp [*]; done) | (simp [wrap64, wrap32]; done)), H', ⟨by have := HK1.out; have := HK2.out; have := HK3.out; have := HK4.out; omega⟩, ⟨by (with_reducible repeat (first | apply Kd.R_alloc | apply Kd.R_drewN | apply Kd.R_drew)); exact HO_220004.out⟩, ⟨by (with_reducible repeat (first | refine blk_drewN ?_ _ | refine blk_drew ?_ | refine blk_alloc ?_ _)); exact BK215.out⟩, ⟨by (with_reducible repeat (first | refine blk_drewN ?_ _ | refine blk_drew ?_ | refine blk_alloc ?_ _)); exact BK219.out⟩, ⟨by repeat (first | (with_reducible first | exact HB.out | apply below_alloc | apply pw_below_drewN | apply below_drew1 | refine below_set ?_ GE215.out | refine below_set ?_ GE219.out | refine below_set ?_ GE221.out) | exact HB.out)⟩⟩
                     ·rw [if_neg c59] at H
                      exact absurd H (by simp)
                    ·rw [if_neg c58] at H
                     exact absurd H (by simp)
                   ·rw [if_neg c57] at H
                    exact absurd H (by simp)
               ·rw [if_neg c42] at H
                exact absurd H (by simp)
              ·rw [if_neg c41] at H
               exact absurd H (by simp)
             ·rw [if_neg c40] at H
              exact absurd H (by simp)
         ·rw [if_neg c22] at H
          exact absurd H (by simp)
        ·rw [if_neg c21] at H
         exact absurd H (by simp)
       ·rw [if_neg c20] at H
        exact absurd H (by simp)
      ·rw [if_neg c19] at H
       exact absurd H (by simp)
     ·rw [if_neg c18] at H
      exact absurd H (by simp)
    ·rw [if_neg c17] at H
     have c17b0 : decide (x39_1 < (l2.length : Int)) = false := decide_eq_false c17
     clear c17
     obtain ⟨ji77, hji77⟩ : ∃ j_ : Int, (mn (wrap64 (x11_1 + a3)) (l0.length : Int)) = j_ := ⟨_, rfl⟩
     replace H : (if 0 ≤ x11_1 then (if x11_1 ≤ (ji77) then (if (ji77) ≤ (l0.length : Int) then ((some ((l0.take ((ji77) : Int).toNat).drop (x11_1 : Int).toNat : List ByteArray)).bind fun y255 => (hunks_hunk.l4 k1 y255 (y255.length : Int) 0 (wrap64 (((rd_T82 l2 0).f0) - (ji6))) 0 (wrap64 (((rd_T82 l2 0).f2) - (ji6))) 0 x220004_1)) else (none)) else (none)) else (none)) = some (r1, r2, r3, r4, r5) := by first | (rw [hji77] at H; exact H) | (simp only [hji77] at H ⊢; exact H)
     have hji77_ : (if (l0.length : Int) < (wrap64 (x11_1 + a3)) then (l0.length : Int) else (wrap64 (x11_1 + a3))) = ji77 := hji77
     by_cases c78 : 0 ≤ x11_1
     ·rw [if_pos c78] at H
      have c78b0 := eq_true c78
      have c78b1 : decide (0 ≤ x11_1) = true := decide_eq_true c78
      clear c78
      by_cases c79 : x11_1 ≤ (ji77)
      ·rw [if_pos c79] at H
       have c79b0 := eq_true c79
       have c79b1 : decide (x11_1 ≤ (ji77)) = true := decide_eq_true c79
       clear c79
       by_cases c80 : (ji77) ≤ (l0.length : Int)
       ·rw [if_pos c80] at H
        have c80b0 := eq_true c80
        have c80b1 : decide ((ji77) ≤ (l0.length : Int)) = true := decide_eq_true c80
        clear c80
        obtain ⟨y255, hy255⟩ : ∃ y_ : List ByteArray, y_ = ((l0.take ((ji77) : Int).toNat).drop (x11_1 : Int).toNat) := ⟨_, rfl⟩
        replace H : (hunks_hunk.l4 k1 y255 (y255.length : Int) 0 (wrap64 (((rd_T82 l2 0).f0) - (ji6))) 0 (wrap64 (((rd_T82 l2 0).f2) - (ji6))) 0 x220004_1) = some (r1, r2, r3, r4, r5) := by first | (rw [hy255]; with_reducible exact H) | (have H2_ := (Option.bind_some _ _).symm.trans H; rw [hy255]; with_reducible exact H2_) | (have H2_ := (Option.bind_some _ _).symm.trans H; with_reducible exact H2_) | with_reducible exact H | (rw [hy255]; exact H) | exact H
        have Ny255 := Aside0.mk hy255
        clear hy255
        have H' := Aside0.mk H
        clear H
        have q81 : ((ji77) : Int) ≤ ((l0.length : Int) : Int) := of_decide_eq_true (by first | (with_reducible assumption) | assumption)
        obtain ⟨i081, hi081, _, hsz81, _⟩ := info_parts info9
        have hroom81 : l0.length ≤ c0 := HC0.out
        have hC81 : Kd.C Kd.string _ A0 l0.length l0 := HR0.out
        have ql81 : (x11_1 : Int) ≤ ((ji77) : Int) := of_decide_eq_true (by first | (with_reducible assumption) | assumption)
        have q081 : (0 : Int) ≤ (x11_1 : Int) := of_decide_eq_true (by first | (with_reducible assumption) | assumption)
        have hcut81 := cut_mid (P := Tryd.prog) 77 9 .i64 .i64 Tryd.underlying77 hi081 1 hsz81 A0 l0.length c0 x11_1 (ji77) q081 ql81 q81 hroom81
        have hr81 := Kd.C_mid (lo := (x11_1 : Int).toNat) (hi := ((ji77) : Int).toNat) (c := c0) hC81 (by omega) (by omega) hroom81
        obtain ⟨A81, hA81⟩ : ∃ A1z_, A1z_ = (if c0 = (x11_1 : Int).toNat then A0 else (A0 : Option Addr).map (·.add ((x11_1 : Int).toNat * 1))) := ⟨_, rfl⟩
        obtain ⟨c81, hc81⟩ : ∃ c1z_, c1z_ = c0 - (x11_1 : Int).toNat := ⟨_, rfl⟩
        have hy81 : y255.length = ((ji77) : Int).toNat - (x11_1 : Int).toNat := (by rw [Ny255.out, List.length_drop, List.length_take] <;> omega)
        rw [show ((l0).take ((ji77) : Int).toNat).drop (x11_1 : Int).toNat = y255 from Ny255.out.symm] at hr81
        replace hr81 : Kd.C Kd.string _ A81 y255.length y255 := (by rw [hA81]; exact hr81)
        rw [← hy81, ← hA81, ← hc81] at hcut81
        have HR258 := Aside0.mk hr81
        have HC258 := Aside0.mk (show y255.length ≤ c81 from by rw [hy81, hc81]; exact Nat.sub_le_sub_right (Nat.le_trans (by omega) hroom81) _)
        clear hr81 hC81 hroom81 hi081 hsz81 hc81
        have KY81 := Aside0.mk hy81
        have KA81 := Aside0.mk hA81
        clear hy81 hA81
        replace q81 := eq_true q81
        go_wp2
        (try (refine bodyPost_end (results_none rfl _ _ _) rfl ?_; (try dsimp only); (try go_wp2); repeat (go_quiet (fail); try go_wp2)))
        go_loopg [9] k1 (fun kq v205 w' => ∃ (x205_2 : Int) (x220004_2 : List (S29)) (u220004 : Value), v205 = .int .i64 x205_2 ∧ Aside0 (hunks_hunk.l4 kq y255 (y255.length : Int) x205_2 (wrap64 (((rd_T82 l2 0).f0) - (ji6))) 0 (wrap64 (((rd_T82 l2 0).f2) - (ji6))) 0 x220004_2 = some (r1, r2, r3, r4, r5)) ∧ Aside0 (kq ≤ k1) ∧ Aside0 (Kd.R k29 29 w' w.heap.size (fun _ => True) u220004 x220004_2) ∧ Aside0 (w'.heap[gb215]? = some (.cells #[.int .i64 0, .int .i64 0, .int .i64 0, .int .i64 0, (.slice none 0 0)] 26 (0, 0))) ∧ Aside0 (w'.heap[gb219]? = some (.cells #[.int .i64 (wrap64 (((rd_T82 l2 0).f0) - (ji6))), .int .i64 0, .int .i64 (wrap64 (((rd_T82 l2 0).f2) - (ji6))), .int .i64 0, u220004] 26 (0, 0))) ∧ Aside0 (Below w.heap.size w w'))
        case atStart => exact ⟨(0), (x220004_1), (u220004), (by first | rfl | (simp; done) | (simp [*]; done) | (simp [wrap64, wrap32]; done)), H', ⟨Nat.le_refl _⟩, ⟨by (with_reducible repeat (first | apply Kd.R_alloc | apply Kd.R_drewN | apply Kd.R_drew)); exact HO_220004.out⟩, ⟨by (with_reducible repeat (first | refine blk_drewN ?_ _ | refine blk_drew ?_ | refine blk_alloc ?_ _)); exact BK215.out⟩, ⟨by (with_reducible repeat (first | refine blk_drewN ?_ _ | refine blk_drew ?_ | refine blk_alloc ?_ _)); exact BK219.out⟩, ⟨by repeat (first | (with_reducible first | exact HB.out | apply below_alloc | apply pw_below_drewN | apply below_drew1 | refine below_set ?_ GE215.out | refine below_set ?_ GE219.out) | exact HB.out)⟩⟩
        case round =>
         clear H'
         (try clear c1); (try clear c2); (try clear p2); (try clear q2); (try clear hx2); (try clear qi2); (try clear c3); (try clear c4); (try clear q4); (try clear c5); (try clear c5b0); (try clear c5b1); (try clear c6); (try clear p6); (try clear q6); (try clear c7); (try clear c8); (try clear q8); (try clear c15); (try clear c17); (try clear c17b0); (try clear c18); (try clear c18b0); (try clear c19); (try clear c19b0); (try clear c20); (try clear c20b0); (try clear c20b1); (try clear c21); (try clear c21b0); (try clear c21b1); (try clear p21); (try clear q21); (try clear hx21); (try clear qi21); (try clear c22); (try clear c22b0); (try clear c22b1); (try clear p22); (try clear q22); (try clear hx22); (try clear p23); (try clear q23); (try clear hx23); (try clear c24); (try clear p24); (try clear q24); (try clear hx24); (try clear c25); (try clear c29); (try clear q29); (try clear c30); (try clear c30b0); (try clear c31); (try clear c31b0); (try clear c32); (try clear c32b0); (try clear c34); (try clear c40); (try clear c40b0); (try clear c40b1); (try clear c41); (try clear c41b0); (try clear c41b1); (try clear c42); (try clear c42b0); (try clear c42b1); (try clear c43); (try clear c44); (try clear c46); (try clear q46); (try clear c47); (try clear c47b0); (try clear c48); (try clear c48b0); (try clear c49); (try clear c49b0); (try clear c51); (try clear c57); (try clear c57b0); (try clear c57b1); (try clear c58); (try clear c58b0); (try clear c58b1); (try clear c59); (try clear c59b0); (try clear c59b1); (try clear c60); (try clear c61); (try clear c63); (try clear q63); (try clear c64); (try clear c64b0); (try clear p64); (try clear c65); (try clear c65b0); (try clear c66); (try clear c66b0); (try clear c68); (try clear c74); (try clear c75); (try clear c78); (try clear c78b0); (try clear c78b1); (try clear c79); (try clear c79b0); (try clear c79b1); (try clear c80); (try clear c80b0); (try clear c80b1); (try clear c81); (try clear q81); (try clear hcz16_0); (try clear hcz16_1); (try clear hcz16_2); (try clear hcz16_3); (try clear hcz16_4); (try clear hcz26_0); (try clear hcz26_1); (try clear hcz26_2); (try clear hcz26_3); (try clear hcz28_0); (try clear hcz28_1); (try clear hcz28_2); (try clear hcz28_3); (try clear hcz45_0); (try clear hcz45_1); (try clear hcz45_2); (try clear hcz45_3); (try clear hcz62_0); (try clear hcz62_1); (try clear hcz62_2); (try clear hcz62_3); (try clear hcz76_0); (try clear hcz76_1); (try clear hcz76_2); (try clear hcz76_3); (try clear hfz16_0); (try clear hfz16_1); (try clear hfz16_2); (try clear hfz16_3); (try clear hfz16_4); (try clear hfz26_0); (try clear hfz26_1); (try clear hfz26_2); (try clear hfz26_3); (try clear hfz28_0); (try clear hfz28_1); (try clear hfz28_2); (try clear hfz28_3); (try clear hfz45_0); (try clear hfz45_1); (try clear hfz45_2); (try clear hfz45_3); (try clear hfz62_0); (try clear hfz62_1); (try clear hfz62_2); (try clear hfz62_3); (try clear hfz76_0); (try clear hfz76_1); (try clear hfz76_2); (try clear hfz76_3); (try clear hx216_0); (try clear hx216_1); (try clear hx216_2); (try clear hx216_3); (try clear hx217_0); (try clear hx217_1); (try clear hx217_2); (try clear hx217_3); (try clear hx218_0); (try clear hx218_1); (try clear hx218_2); (try clear hx218_3); (try clear hx220_0); (try clear hx220_1); (try clear hx220_2); (try clear hx220_3); (try clear hx226_0); (try clear hx237_0); (try clear hx248_0); (try clear p2); (try clear p21); (try clear p216); (try clear p217); (try clear p218); (try clear p22); (try clear p220); (try clear p226); (try clear p23); (try clear p237); (try clear p248); (try clear p6); (try clear q029); (try clear q046); (try clear q063); (try clear q081); (try clear q2); (try clear q21); (try clear q216); (try clear q217); (try clear q218); (try clear q22); (try clear q220); (try clear q226); (try clear q23); (try clear q237); (try clear q248); (try clear q29); (try clear q4); (try clear q46); (try clear q6); (try clear q63); (try clear q81)
         obtain ⟨x205_2, x220004_2, u220004, rfl, HA, HK2, HO_220004, BK215, BK219, HB⟩ := hrel
         cases gk with
         | zero => exact absurd HA.out (by simp [hunks_hunk.l4])
         | succ k2 =>
          have H := HA.out
          clear HA
          simp only [hunks_hunk.l4] at H
          by_cases c82 : x205_2 < (y255.length : Int)
          ·rw [if_pos c82] at H
           have c82b0 : decide (x205_2 < (y255.length : Int)) = true := decide_eq_true c82
           clear c82
           by_cases c83 : 0 ≤ x205_2
           ·rw [if_pos c83] at H
            have c83b0 : decide (0 ≤ x205_2) = true := decide_eq_true c83
            clear c83
            by_cases c84 : x205_2 < (y255.length : Int)
            ·rw [if_pos c84] at H
             have c84b0 : decide (x205_2 < (y255.length : Int)) = true := decide_eq_true c84
             clear c84
             replace H := Option.bind_eq_some_iff.mp H
             obtain ⟨⟨t260, t261, t262⟩, A850, H⟩ := H
             replace H : (if x220004_2.length < 4398046511104 then (hunks_hunk.l4 k2 y255 (y255.length : Int) (wrap64 (x205_2 + 1)) (wrap64 (((rd_T82 l2 0).f0) - (ji6))) 0 (wrap64 (((rd_T82 l2 0).f2) - (ji6))) 0 (x220004_2 ++ [(⟨t260, t261, t262⟩ : S29)])) else (none)) = some (r1, r2, r3, r4, r5) := H
             have A85 := Aside0.mk A850
             clear A850
             by_cases c86 : x220004_2.length < 4398046511104
             ·rw [if_pos c86] at H
              have LMc86 := Aside0.mk c86
              clear c86
              obtain ⟨y263, hy263⟩ : ∃ y_ : List (S29), y_ = (x220004_2 ++ [(⟨t260, t261, t262⟩ : S29)]) := ⟨_, rfl⟩
              replace H : (hunks_hunk.l4 k2 y255 (y255.length : Int) (wrap64 (x205_2 + 1)) (wrap64 (((rd_T82 l2 0).f0) - (ji6))) 0 (wrap64 (((rd_T82 l2 0).f2) - (ji6))) 0 y263) = some (r1, r2, r3, r4, r5) := by first | (rw [hy263]; with_reducible exact H) | (have H2_ := (Option.bind_some _ _).symm.trans H; rw [hy263]; with_reducible exact H2_) | (have H2_ := (Option.bind_some _ _).symm.trans H; with_reducible exact H2_) | with_reducible exact H | (rw [hy263]; exact H) | exact H
              have Ny263 := Aside0.mk hy263
              clear hy263
              have H' := Aside0.mk H
              clear H
              have p259 : 0 ≤ (x205_2 : Int) := of_decide_eq_true (by first | (with_reducible assumption) | assumption)
              have q259 : x205_2 < (y255.length : Int) := of_decide_eq_true (by first | (with_reducible assumption) | assumption)
              obtain ⟨ad259, e259, hx259_0⟩ := Kd.at_string HR258.out x205_2 p259 q259
              cases e259
              replace hx259_0 := (HB.out.cell (World.block_lt_of_cell? w _ hx259_0)).trans hx259_0
              replace p259 := eq_true p259
              replace q259 := eq_true q259
              try go_wp2
              (try (refine bodyPost_end (results_none rfl _ _ _) rfl ?_; (try dsimp only); (try go_wp2); repeat (go_quiet (fail); try go_wp2)))
              have n0_ := Aside0.mk (Kd.R_drew HO_220004.out)
              have n1_ := Aside0.mk (blk_drew BK215.out)
              have n2_ := Aside0.mk (blk_drew BK219.out)
              have n3_ := Aside0.mk (below_drew1 HB.out)
              clear HO_220004
              clear BK215
              clear BK219
              clear HB
              have HO_220004 := n0_
              have BK215 := n1_
              have BK219 := n2_
              have HB := n3_
              clear n0_ n1_ n2_ n3_
              refine start_ (n := 9) (S := fun w' => w'.cell? ⟨gb219, 0, none⟩ = some (.int .i64 (wrap64 (((rd_T82 l2 0).f0) - (ji6)))) ∧ w'.cell? ⟨gb219, 1, none⟩ = some (.int .i64 0) ∧ w'.cell? ⟨gb219, 2, none⟩ = some (.int .i64 (wrap64 (((rd_T82 l2 0).f2) - (ji6)))) ∧ w'.cell? ⟨gb219, 3, none⟩ = some (.int .i64 0) ∧ w'.cell? ⟨gb219, 4, none⟩ = some (u220004)) (ds := [8]) (bs 9 0) (by kernel_rfl) rfl rfl ⟨(blk_cell BK219.out 0).trans rfl, (blk_cell BK219.out 1).trans rfl, (blk_cell BK219.out 2).trans rfl, (blk_cell BK219.out 3).trans rfl, (blk_cell BK219.out 4).trans rfl⟩ (fun hHeld => ?_); refine with_tabW hunks_hunk.tab403 hunks_hunk.bits403 (fun HT_ HW_ => ?_)
              generalize wr.drew = w87 at HO_220004 BK215 BK219 HB hHeld ⊢
              refine pu_ 0 (some 13) ?_ (bs 9 1) HT_.out (by kernel_rfl) rfl rfl (fun _ _ _ h => h) (Or.inl ⟨by rfl, ?_⟩) ?_ ?_ ?_; rotate_left; (· intro w'; go_simp; with_reducible rfl); rotate_left; (· simp only [Act.put, sit, scz, scs, i64_w, i32_w]; rfl)
              refine pu_ 2 (some 15) ?_ (bs 9 5) HT_.out (by kernel_rfl) rfl rfl (fun _ _ _ h => h) (Or.inl ⟨by rfl, ?_⟩) ?_ ?_ ?_; rotate_left; (· intro w'; go_simp; with_reducible rfl); rotate_left; (· simp only [Act.put, sit, scz, scs, i64_w, i32_w]; rfl)
              refine pu_ 3 (some 16) ?_ (bs 9 13) HT_.out (by kernel_rfl) rfl rfl (fun _ _ _ h => h) (Or.inl ⟨by rfl, ?_⟩) ?_ ?_ ?_; rotate_left; (· intro w'; go_simp; with_reducible rfl); rotate_left; (· simp only [Act.put, sit, scz, scs, i64_w, i32_w]; rfl)
              refine take_ (i := 1) (N := some 14) (v := ?_) (a' := ?_) (bs 9 15) rfl rfl (take_ofW HT_.out HW_.out (by kernel_rfl)) (fun _ _ _ h => h) (Or.inl ⟨by rfl, ?_⟩) hHeld ?_ ?_; rotate_left; (· rintro w' ⟨s0, s1, s2, s3, s4⟩; go_simp; with_reducible rfl); rotate_left; (· simp only [Act.put, sit, scz, scs, i64_w, i32_w]; rfl)
              refine one_ (i := 4) (N := some 17) (bs 9 31) rfl rfl (one_of HT_.out (by kernel_rfl)) (by decide) (fun K hK => ?_)
              refine goes_ Tryd.func64 (by kernel_rfl) rfl #[.int .u8 32, .string (rdOf ByteArray.empty y255 x205_2)] (by rfl) rfl rfl (by (try simp only [List.map_toArray, List.map_cons, List.map_nil]); first | done | rfl | (simp only [List.length_drop, List.length_take]; rfl)) ?_
              with_reducible refine (hunks_line.calls 32 (rdOf ByteArray.empty y255 x205_2) t260 t261 t262 _ A85.out).mono ?_
              rintro e w88 ⟨rfl, hb⟩
              refine ⟨_, rfl, ?_⟩
              have n0_ := Aside0.mk (Kd.R_below (by (with_reducible repeat (first | apply Kd.R_alloc | apply Kd.R_drewN | apply Kd.R_drew)); exact HO_220004.out) hb)
              have n1_ := Aside0.mk (blk_below (g := gb215) (o := .cells #[.int .i64 0, .int .i64 0, .int .i64 0, .int .i64 0, .slice none 0 0] 26 (0, 0)) (by (with_reducible repeat (first | refine blk_drewN ?_ _ | refine blk_drew ?_ | refine blk_alloc ?_ _)); exact BK215.out) hb)
              have n2_ := Aside0.mk (blk_below (g := gb219) (o := .cells #[.int .i64 (wrap64 (((rd_T82 l2 0).f0) - (ji6))), .int .i64 0, .int .i64 (wrap64 (((rd_T82 l2 0).f2) - (ji6))), .int .i64 0, u220004] 26 (0, 0)) (by (with_reducible repeat (first | refine blk_drewN ?_ _ | refine blk_drew ?_ | refine blk_alloc ?_ _)); exact BK219.out) hb)
              have n3_ := Aside0.mk (below_step (by repeat (first | (with_reducible first | exact HB.out | apply below_alloc | apply pw_below_drewN | apply below_drew1 | refine below_set ?_ GE215.out | refine below_set ?_ GE219.out) | exact HB.out)) hb)
              clear HO_220004
              clear BK215
              clear BK219
              clear HB
              have HO_220004 := n0_
              have BK215 := n1_
              have BK219 := n2_
              have HB := n3_
              clear n0_ n1_ n2_ n3_
              (try clear hb)
              (try clear hb2)
              (try clear hk)
              (try clear hi)
              refine hK.out _ _ ⟨(blk_cell BK219.out 0).trans rfl, (blk_cell BK219.out 1).trans rfl, (blk_cell BK219.out 2).trans rfl, (blk_cell BK219.out 3).trans rfl, (blk_cell BK219.out 4).trans rfl⟩ (fun hHeld => ?_)
              clear hK K
              refine norm_ (a' := ?_) ?_ ?_
              rotate_left
              ·show Act.put _ (some 17) _ = _
               simp only [Act.put, List.setIfInBounds_toArray, List.set_cons_zero, List.set_cons_succ, i64_w, i32_w]
               rfl
              refine one_ (i := 5) (N := some 18) (bs 9 63) rfl rfl (one_of HT_.out (by kernel_rfl)) (by decide) (fun K hK => ?_)
              refine value_ (w1 := ?_) (v := ?_) (by rfl) rfl ?_ ?_
              rotate_left 2
              ·go_simp
               constructor
               ·rfl
               ·rfl
              refine hK.out _ _ ⟨(blk_cell (blk_alloc BK219.out _) 0).trans rfl, (blk_cell (blk_alloc BK219.out _) 1).trans rfl, (blk_cell (blk_alloc BK219.out _) 2).trans rfl, (blk_cell (blk_alloc BK219.out _) 3).trans rfl, (blk_cell (blk_alloc BK219.out _) 4).trans rfl⟩ (fun hHeld => ?_)
              clear hK K
              refine norm_ (a' := ?_) ?_ ?_
              rotate_left
              ·show Act.put _ (some 18) _ = _
               simp only [Act.put, List.setIfInBounds_toArray, List.set_cons_zero, List.set_cons_succ, i64_w, i32_w]
               rfl
              refine one_ (i := 6) (N := some 19) (bs 9 127) rfl rfl (one_of HT_.out (by kernel_rfl)) (by decide) (fun K hK => ?_)
              refine Kd.R_append_step k29 (w0 := w) w.heap.size (by rfl) (.tmp 14) (.tmp 18) 24 29 (.agg #[(.int .u8 0), (.string ⟨#[]⟩), (.bool false)]) 32 rfl Tryd.underlying24 info29 rfl (by decide) (by omega) u220004 x220004_2 (⟨t260, t261, t262⟩ : S29) [.int .u8 t260, .string t261, .bool t262] (fun _ => True) (fun _ => False) rfl rfl ?aP (fun _ hk => hk.elim) ?aF ?aO ?aB ?aS ?aL ?_
              (case aP => exact k29_mkM _ _ _ (⟨t260, t261, t262⟩ : S29))
              (case aB => exact (by repeat (first | (with_reducible first | exact HB.out | apply below_alloc | apply pw_below_drewN | apply below_drew1 | refine below_set ?_ GE215.out | refine below_set ?_ GE219.out) | exact HB.out)))
              (case aF => exact (fun _ _ => trivial))
              (case aO => exact (by (with_reducible repeat (first | apply Kd.R_alloc | apply Kd.R_drewN | apply Kd.R_drew)); exact HO_220004.out))
              (case aS => exact (below_size (by repeat (first | (with_reducible first | exact HB.out | apply below_alloc | apply pw_below_drewN | apply below_drew1 | refine below_set ?_ GE215.out | refine below_set ?_ GE219.out) | exact HB.out))))
              (case aL => have := LMc86.out; omega)
              intro v264 w89 ho hb hg hat
              rw [← Ny263.out] at ho
              have n0_ := Aside0.mk (blk_grown (g := gb215) (o := .cells #[.int .i64 0, .int .i64 0, .int .i64 0, .int .i64 0, .slice none 0 0] 26 (0, 0)) (by (with_reducible repeat (first | refine blk_drewN ?_ _ | refine blk_drew ?_ | refine blk_alloc ?_ _)); exact BK215.out) hg (Kd.R_ne HO_220004.out BK215.out (by decide)))
              have n1_ := Aside0.mk (blk_grown (g := gb219) (o := .cells #[.int .i64 (wrap64 (((rd_T82 l2 0).f0) - (ji6))), .int .i64 0, .int .i64 (wrap64 (((rd_T82 l2 0).f2) - (ji6))), .int .i64 0, u220004] 26 (0, 0)) (by (with_reducible repeat (first | refine blk_drewN ?_ _ | refine blk_drew ?_ | refine blk_alloc ?_ _)); exact BK219.out) hg (Kd.R_ne HO_220004.out BK219.out (by decide)))
              have n2_ := Aside0.mk (hb)
              have n3_ := Aside0.mk (ho)
              clear BK215
              clear BK219
              clear HB
              clear HO_220004
              have BK215 := n0_
              have BK219 := n1_
              have HB := n2_
              have HO265 := n3_
              clear n0_ n1_ n2_ n3_
              clear ho hb hg hat
              obtain ⟨Ao90, co90, eo90⟩ := Kd.R_slice HO265.out
              (first | subst eo90 | (injection eo90 with f1_ f2_ f3_; have f4_ := f1_.symm; have f5_ := f3_.symm; clear f1_ f2_ f3_; subst f4_; subst f5_))
              refine hK.out _ _ ⟨(blk_cell BK219.out 0).trans rfl, (blk_cell BK219.out 1).trans rfl, (blk_cell BK219.out 2).trans rfl, (blk_cell BK219.out 3).trans rfl, (blk_cell BK219.out 4).trans rfl⟩ (fun hHeld => ?_)
              clear hK K
              refine norm_ (a' := ?_) ?_ ?_
              rotate_left
              ·show Act.put _ (some 19) _ = _
               simp only [Act.put, List.setIfInBounds_toArray, List.set_cons_zero, List.set_cons_succ, i64_w, i32_w]
               rfl
              refine pu_ 7 (some 20) ?_ (bs 9 255) HT_.out (by kernel_rfl) rfl rfl (fun _ _ _ h => h) (Or.inl ⟨by rfl, ?_⟩) ?_ ?_ ?_; rotate_left; (· intro w'; go_simp; with_reducible rfl); rotate_left; (· simp only [Act.put, sit, scz, scs, i64_w, i32_w]; rfl)
              refine last_ (i := 8) (N := none) (bs 9 511) rfl rfl (one_of HT_.out (by kernel_rfl)) (by decide) (fun K hK => ?_)
              have hs91 : w89.cell? ⟨gb219, 4, none⟩ = some (u220004) := (blk_cell BK219.out 4).trans rfl
              have hfs91 := blk_frozen BK219.out 4
              have hns91_0 := NB215_219.out
              have hms91_0 := NB219_215.out
              refine skip_ (w1 := ?_) (by rfl) rfl ?_ ?_
              rotate_left
              ·go_simp
               rfl
              refine hK.out _ _ ?_
              clear hK K
              refine done_ (done_of HT_.out (by kernel_rfl)) ?_
              try go_wp2
              (try (refine bodyPost_end (results_none rfl _ _ _) rfl ?_; (try dsimp only); (try go_wp2); repeat (go_quiet (fail); try go_wp2)))
              (try (refine bodyPost_end (results_none rfl _ _ _) rfl ?_; (try dsimp only); (try go_wp2); repeat (go_quiet (fail); try go_wp2)))
              go_roundg k2
              case measure => have := HK1.out; have := HK2.out; omega
              case rel => exact ⟨(wrap64 (x205_2 + 1)), (y263), (.slice Ao90 y263.length co90), (by first | rfl | (simp; done) | (simp [*]; done) | (simp [wrap64, wrap32]; done)), H', ⟨by have := HK1.out; have := HK2.out; omega⟩, ⟨by (with_reducible repeat (first | apply Kd.R_alloc | apply Kd.R_drewN | apply Kd.R_drew)); exact Kd.R_mono (Kd.R_far (p := ⟨gb219, 4, none⟩) (Kd.R_types HO265.out BK219.out (by decide)) (fun _ hk => hk.2) (.slice Ao90 y263.length co90)) (fun _ hk => trivial)⟩, ⟨by (with_reducible repeat (first | refine blk_drewN ?_ _ | refine blk_drew ?_ | refine blk_alloc ?_ _)); refine blk_far ?_ NB215_219.out _; (with_reducible repeat (first | refine blk_drewN ?_ _ | refine blk_drew ?_ | refine blk_alloc ?_ _)); exact BK215.out⟩, ⟨by (with_reducible repeat (first | refine blk_drewN ?_ _ | refine blk_drew ?_ | refine blk_alloc ?_ _)); refine blk_put (cs := #[.int .i64 (wrap64 (((rd_T82 l2 0).f0) - (ji6))), .int .i64 0, .int .i64 (wrap64 (((rd_T82 l2 0).f2) - (ji6))), .int .i64 0, u220004]) ?_ 4 _ rfl; (with_reducible repeat (first | refine blk_drewN ?_ _ | refine blk_drew ?_ | refine blk_alloc ?_ _)); exact BK219.out⟩, ⟨by repeat (first | (with_reducible first | exact HB.out | apply below_alloc | apply pw_below_drewN | apply below_drew1 | refine below_set ?_ GE215.out | refine below_set ?_ GE219.out) | exact HB.out)⟩⟩
             ·rw [if_neg c86] at H
              exact absurd H (by simp)
            ·rw [if_neg c84] at H
             exact absurd H (by simp)
           ·rw [if_neg c83] at H
            exact absurd H (by simp)
          ·rw [if_neg c82] at H
           have c82b0 : decide (x205_2 < (y255.length : Int)) = false := decide_eq_false c82
           clear c82
           replace H := Option.bind_eq_some_iff.mp H
           obtain ⟨t266, A920, H⟩ := H
           replace H : ((hunks_count.f k2 x220004_2 45).bind fun t267 => (some ((wrap64 (((rd_T82 l2 0).f0) - (ji6))), wrap64 ((x220004_2.length : Int) - t266), (wrap64 (((rd_T82 l2 0).f2) - (ji6))), wrap64 ((x220004_2.length : Int) - t267), x220004_2))) = some (r1, r2, r3, r4, r5) := H
           have A92 := Aside0.mk A920
           clear A920
           replace H := Option.bind_eq_some_iff.mp H
           obtain ⟨t267, A930, H⟩ := H
           replace H : (some ((wrap64 (((rd_T82 l2 0).f0) - (ji6))), wrap64 ((x220004_2.length : Int) - t266), (wrap64 (((rd_T82 l2 0).f2) - (ji6))), wrap64 ((x220004_2.length : Int) - t267), x220004_2)) = some (r1, r2, r3, r4, r5) := H
           have A93 := Aside0.mk A930
           clear A930
           simp only [Option.some.injEq, Prod.mk.injEq] at H
           obtain ⟨rfl, rfl, rfl, rfl, rfl⟩ := H
           try go_wp2
           (try (refine bodyPost_end (results_none rfl _ _ _) rfl ?_; (try dsimp only); (try go_wp2); repeat (go_quiet (fail); try go_wp2)))
           have n0_ := Aside0.mk (Kd.R_drew HO_220004.out)
           have n1_ := Aside0.mk (blk_drew BK215.out)
           have n2_ := Aside0.mk (blk_drew BK219.out)
           have n3_ := Aside0.mk (below_drew1 HB.out)
           clear HO_220004
           clear BK215
           clear BK219
           clear HB
           have HO_220004 := n0_
           have BK215 := n1_
           have BK219 := n2_
           have HB := n3_
           clear n0_ n1_ n2_ n3_
           obtain ⟨Ao95, co95, eo95⟩ := Kd.R_slice HO_220004.out
           (first | subst eo95 | (injection eo95 with f1_ f2_ f3_; have f4_ := f1_.symm; have f5_ := f3_.symm; clear f1_ f2_ f3_; subst f4_; subst f5_))
           refine start_ (n := 9) (S := fun w' => w'.cell? ⟨gb219, 0, none⟩ = some (.int .i64 (wrap64 (((rd_T82 l2 0).f0) - (ji6)))) ∧ w'.cell? ⟨gb219, 1, none⟩ = some (.int .i64 0) ∧ w'.cell? ⟨gb219, 2, none⟩ = some (.int .i64 (wrap64 (((rd_T82 l2 0).f2) - (ji6)))) ∧ w'.cell? ⟨gb219, 3, none⟩ = some (.int .i64 0) ∧ w'.cell? ⟨gb219, 4, none⟩ = some (.slice Ao95 x220004_2.length co95)) (ds := [8]) (bs 9 0) (by kernel_rfl) rfl rfl ⟨(blk_cell BK219.out 0).trans rfl, (blk_cell BK219.out 1).trans rfl, (blk_cell BK219.out 2).trans rfl, (blk_cell BK219.out 3).trans rfl, (blk_cell BK219.out 4).trans rfl⟩ (fun hHeld => ?_); refine with_tabW hunks_hunk.tab14 hunks_hunk.bits14 (fun HT_ HW_ => ?_)
           generalize wr.drew = w94 at HO_220004 BK215 BK219 HB hHeld ⊢
           refine pu_ 0 (some 89) ?_ (bs 9 1) HT_.out (by kernel_rfl) rfl rfl (fun _ _ _ h => h) (Or.inl ⟨by rfl, ?_⟩) ?_ ?_ ?_; rotate_left; (· intro w'; go_simp; with_reducible rfl); rotate_left; (· simp only [Act.put, sit, scz, scs, i64_w, i32_w]; rfl)
           refine pu_ 3 (some 92) ?_ (bs 9 9) HT_.out (by kernel_rfl) rfl rfl (fun _ _ _ h => h) (Or.inl ⟨by rfl, ?_⟩) ?_ ?_ ?_; rotate_left; (· intro w'; go_simp; with_reducible rfl); rotate_left; (· simp only [Act.put, sit, scz, scs, i64_w, i32_w]; rfl)
           refine take_ (i := 1) (N := some 90) (v := ?_) (a' := ?_) (bs 9 11) rfl rfl (take_ofW HT_.out HW_.out (by kernel_rfl)) (fun _ _ _ h => h) (Or.inl ⟨by rfl, ?_⟩) hHeld ?_ ?_; rotate_left; (· rintro w' ⟨s0, s1, s2, s3, s4⟩; go_simp; with_reducible rfl); rotate_left; (· simp only [Act.put, sit, scz, scs, i64_w, i32_w]; rfl)
           refine pu_ 2 (some 91) ?_ (bs 9 15) HT_.out (by kernel_rfl) rfl rfl (fun _ _ _ h => h) (Or.inl ⟨by rfl, ?_⟩) ?_ ?_ ?_; rotate_left; (· intro w'; go_simp; with_reducible rfl); rotate_left; (· simp only [Act.put, sit, scz, scs, i64_w, i32_w]; rfl)
           refine take_ (i := 4) (N := some 93) (v := ?_) (a' := ?_) (bs 9 31) rfl rfl (take_ofW HT_.out HW_.out (by kernel_rfl)) (fun _ _ _ h => h) (Or.inl ⟨by rfl, ?_⟩) hHeld ?_ ?_; rotate_left; (· rintro w' ⟨s0, s1, s2, s3, s4⟩; go_simp; with_reducible rfl); rotate_left; (· simp only [Act.put, sit, scz, scs, i64_w, i32_w]; rfl)
           refine one_ (i := 5) (N := some 94) (bs 9 63) rfl rfl (one_of HT_.out (by kernel_rfl)) (by decide) (fun K hK => ?_)
           refine goes_ Tryd.func65 (by kernel_rfl) rfl #[.slice Ao95 x220004_2.length co95, .int .u8 43] (by rfl) rfl rfl (by (try simp only [List.map_toArray, List.map_cons, List.map_nil]); first | done | rfl | (simp only [List.length_drop, List.length_take]; rfl)) ?_
           with_reducible refine (hunks_count.calls k2 _ _ x220004_2 43 t266 _ ?side1 ?side2 A92.out).mono ?_
           (case side1 => repeat (first | exact (Kd.R_reads' HO_220004.out).2.2 | (with_reducible refine Kd.C_alloc ?_ _) | (with_reducible refine Kd.C_drewN ?_ _) | (with_reducible refine Kd.C_drew ?_)))
           (case side2 => exact (Kd.R_reads' HO_220004.out).2.1)
           rintro e w96 ⟨rfl, hb⟩
           refine ⟨_, rfl, ?_⟩
           have n0_ := Aside0.mk (Kd.R_below (by (with_reducible repeat (first | apply Kd.R_alloc | apply Kd.R_drewN | apply Kd.R_drew)); exact HO_220004.out) hb)
           have n1_ := Aside0.mk (blk_below (g := gb215) (o := .cells #[.int .i64 0, .int .i64 0, .int .i64 0, .int .i64 0, .slice none 0 0] 26 (0, 0)) (by (with_reducible repeat (first | refine blk_drewN ?_ _ | refine blk_drew ?_ | refine blk_alloc ?_ _)); exact BK215.out) hb)
           have n2_ := Aside0.mk (blk_below (g := gb219) (o := .cells #[.int .i64 (wrap64 (((rd_T82 l2 0).f0) - (ji6))), .int .i64 0, .int .i64 (wrap64 (((rd_T82 l2 0).f2) - (ji6))), .int .i64 0, .slice Ao95 x220004_2.length co95] 26 (0, 0)) (by (with_reducible repeat (first | refine blk_drewN ?_ _ | refine blk_drew ?_ | refine blk_alloc ?_ _)); exact BK219.out) hb)
           have n3_ := Aside0.mk (below_step (by repeat (first | (with_reducible first | exact HB.out | apply below_alloc | apply pw_below_drewN | apply below_drew1 | refine below_set ?_ GE215.out | refine below_set ?_ GE219.out) | exact HB.out)) hb)
           clear HO_220004
           clear BK215
           clear BK219
           clear HB
           have HO_220004 := n0_
           have BK215 := n1_
           have BK219 := n2_
           have HB := n3_
           clear n0_ n1_ n2_ n3_
           (try clear hb)
           (try clear hb2)
           (try clear hk)
           (try clear hi)
           refine hK.out _ _ ⟨(blk_cell BK219.out 0).trans rfl, (blk_cell BK219.out 1).trans rfl, (blk_cell BK219.out 2).trans rfl, (blk_cell BK219.out 3).trans rfl, (blk_cell BK219.out 4).trans rfl⟩ (fun hHeld => ?_)
           clear hK K
           refine norm_ (a' := ?_) ?_ ?_
           rotate_left
           ·show Act.put _ (some 94) _ = _
            simp only [Act.put, List.setIfInBounds_toArray, List.set_cons_zero, List.set_cons_succ, i64_w, i32_w]
            rfl
           refine pu_ 6 (some 95) ?_ (bs 9 127) HT_.out (by kernel_rfl) rfl rfl (fun _ _ _ h => h) (Or.inl ⟨by rfl, ?_⟩) ?_ ?_ ?_; rotate_left; (· intro w'; go_simp; with_reducible rfl); rotate_left; (· simp only [Act.put, sit, scz, scs, i64_w, i32_w]; rfl)
           refine pu_ 7 (some 96) ?_ (bs 9 255) HT_.out (by kernel_rfl) rfl rfl (fun _ _ _ h => h) (Or.inl ⟨by rfl, ?_⟩) ?_ ?_ ?_; rotate_left; (· intro w'; go_simp; with_reducible rfl); rotate_left; (· simp only [Act.put, sit, scz, scs, i64_w, i32_w]; rfl)
           refine last_ (i := 8) (N := none) (bs 9 511) rfl rfl (one_of HT_.out (by kernel_rfl)) (by decide) (fun K hK => ?_)
           have hs97 : w96.cell? ⟨gb219, 1, none⟩ = some (.int .i64 0) := (blk_cell BK219.out 1).trans rfl
           have hfs97 := blk_frozen BK219.out 1
           have hns97_0 := NB215_219.out
           have hms97_0 := NB219_215.out
           refine skip_ (w1 := ?_) (by rfl) rfl ?_ ?_
           rotate_left
           ·go_simp
            rfl
           refine hK.out _ _ ?_
           clear hK K
           refine done_ (done_of HT_.out (by kernel_rfl)) ?_
           try go_wp2
           (try (refine bodyPost_end (results_none rfl _ _ _) rfl ?_; (try dsimp only); (try go_wp2); repeat (go_quiet (fail); try go_wp2)))
           have n0_ : Aside0 (Kd.R k29 29 (w96.setCell ⟨gb219, 1, none⟩ (.int .i64 (wrap64 ((x220004_2.length : Int) - t266)))) w.heap.size (fun _ => True) (.slice Ao95 x220004_2.length co95) x220004_2) := ⟨by (with_reducible repeat (first | apply Kd.R_alloc | apply Kd.R_drewN | apply Kd.R_drew)); exact Kd.R_mono (Kd.R_far (p := ⟨gb219, 1, none⟩) (Kd.R_types HO_220004.out BK219.out (by decide)) (fun _ hk => hk.2) (.int .i64 (wrap64 ((x220004_2.length : Int) - t266)))) (fun _ hk => trivial)⟩
           have n1_ : Aside0 ((w96.setCell ⟨gb219, 1, none⟩ (.int .i64 (wrap64 ((x220004_2.length : Int) - t266)))).heap[gb215]? = some (.cells #[.int .i64 0, .int .i64 0, .int .i64 0, .int .i64 0, .slice none 0 0] 26 (0, 0))) := ⟨by (with_reducible repeat (first | refine blk_drewN ?_ _ | refine blk_drew ?_ | refine blk_alloc ?_ _)); refine blk_far ?_ NB215_219.out _; (with_reducible repeat (first | refine blk_drewN ?_ _ | refine blk_drew ?_ | refine blk_alloc ?_ _)); exact BK215.out⟩
           have n2_ : Aside0 ((w96.setCell ⟨gb219, 1, none⟩ (.int .i64 (wrap64 ((x220004_2.length : Int) - t266)))).heap[gb219]? = some (.cells #[.int .i64 (wrap64 (((rd_T82 l2 0).f0) - (ji6))), .int .i64 (wrap64 ((x220004_2.length : Int) - t266)), .int .i64 (wrap64 (((rd_T82 l2 0).f2) - (ji6))), .int .i64 0, .slice Ao95 x220004_2.length co95] 26 (0, 0))) := ⟨by (with_reducible repeat (first | refine blk_drewN ?_ _ | refine blk_drew ?_ | refine blk_alloc ?_ _)); refine blk_put (cs := #[.int .i64 (wrap64 (((rd_T82 l2 0).f0) - (ji6))), .int .i64 0, .int .i64 (wrap64 (((rd_T82 l2 0).f2) - (ji6))), .int .i64 0, .slice Ao95 x220004_2.length co95]) ?_ 1 _ rfl; (with_reducible repeat (first | refine blk_drewN ?_ _ | refine blk_drew ?_ | refine blk_alloc ?_ _)); exact BK219.out⟩
           have n3_ : Aside0 (Below w.heap.size w (w96.setCell ⟨gb219, 1, none⟩ (.int .i64 (wrap64 ((x220004_2.length : Int) - t266))))) := ⟨by repeat (first | (with_reducible first | exact HB.out | apply below_alloc | apply pw_below_drewN | apply below_drew1 | refine below_set ?_ GE215.out | refine below_set ?_ GE219.out) | exact HB.out)⟩
           (try clear HO_220004)
           (try clear BK215)
           (try clear BK219)
           (try clear HB)
           generalize (w96.setCell ⟨gb219, 1, none⟩ (.int .i64 (wrap64 ((x220004_2.length : Int) - t266)))) = w98 at n0_ n1_ n2_ n3_ ⊢
           have HO_220004 := n0_
           have BK215 := n1_
           have BK219 := n2_
           have HB := n3_
           clear n0_ n1_ n2_ n3_
           have n0_ := Aside0.mk (Kd.R_drew HO_220004.out)
           have n1_ := Aside0.mk (blk_drew BK215.out)
           have n2_ := Aside0.mk (blk_drew BK219.out)
           have n3_ := Aside0.mk (below_drew1 HB.out)
           clear HO_220004
           clear BK215
           clear BK219
           clear HB
           have HO_220004 := n0_
           have BK215 := n1_
           have BK219 := n2_
           have HB := n3_
           clear n0_ n1_ n2_ n3_
           refine start_ (n := 9) (S := fun w' => w'.cell? ⟨gb219, 0, none⟩ = some (.int .i64 (wrap64 (((rd_T82 l2 0).f0) - (ji6)))) ∧ w'.cell? ⟨gb219, 1, none⟩ = some (.int .i64 (wrap64 ((x220004_2.length : Int) - t266))) ∧ w'.cell? ⟨gb219, 2, none⟩ = some (.int .i64 (wrap64 (((rd_T82 l2 0).f2) - (ji6)))) ∧ w'.cell? ⟨gb219, 3, none⟩ = some (.int .i64 0) ∧ w'.cell? ⟨gb219, 4, none⟩ = some (.slice Ao95 x220004_2.length co95)) (ds := [8]) (bs 9 0) (by kernel_rfl) rfl rfl ⟨(blk_cell BK219.out 0).trans rfl, (blk_cell BK219.out 1).trans rfl, (blk_cell BK219.out 2).trans rfl, (blk_cell BK219.out 3).trans rfl, (blk_cell BK219.out 4).trans rfl⟩ (fun hHeld => ?_); refine with_tabW hunks_hunk.tab15 hunks_hunk.bits15 (fun HT_ HW_ => ?_)
           generalize w98.drew = w99 at HO_220004 BK215 BK219 HB hHeld ⊢
           refine pu_ 0 (some 97) ?_ (bs 9 1) HT_.out (by kernel_rfl) rfl rfl (fun _ _ _ h => h) (Or.inl ⟨by rfl, ?_⟩) ?_ ?_ ?_; rotate_left; (· intro w'; go_simp; with_reducible rfl); rotate_left; (· simp only [Act.put, sit, scz, scs, i64_w, i32_w]; rfl)
           refine pu_ 3 (some 100) ?_ (bs 9 9) HT_.out (by kernel_rfl) rfl rfl (fun _ _ _ h => h) (Or.inl ⟨by rfl, ?_⟩) ?_ ?_ ?_; rotate_left; (· intro w'; go_simp; with_reducible rfl); rotate_left; (· simp only [Act.put, sit, scz, scs, i64_w, i32_w]; rfl)
           refine take_ (i := 1) (N := some 98) (v := ?_) (a' := ?_) (bs 9 11) rfl rfl (take_ofW HT_.out HW_.out (by kernel_rfl)) (fun _ _ _ h => h) (Or.inl ⟨by rfl, ?_⟩) hHeld ?_ ?_; rotate_left; (· rintro w' ⟨s0, s1, s2, s3, s4⟩; go_simp; with_reducible rfl); rotate_left; (· simp only [Act.put, sit, scz, scs, i64_w, i32_w]; rfl)
           refine pu_ 2 (some 99) ?_ (bs 9 15) HT_.out (by kernel_rfl) rfl rfl (fun _ _ _ h => h) (Or.inl ⟨by rfl, ?_⟩) ?_ ?_ ?_; rotate_left; (· intro w'; go_simp; with_reducible rfl); rotate_left; (· simp only [Act.put, sit, scz, scs, i64_w, i32_w]; rfl)
           refine take_ (i := 4) (N := some 101) (v := ?_) (a' := ?_) (bs 9 31) rfl rfl (take_ofW HT_.out HW_.out (by kernel_rfl)) (fun _ _ _ h => h) (Or.inl ⟨by rfl, ?_⟩) hHeld ?_ ?_; rotate_left; (· rintro w' ⟨s0, s1, s2, s3, s4⟩; go_simp; with_reducible rfl); rotate_left; (· simp only [Act.put, sit, scz, scs, i64_w, i32_w]; rfl)
           refine one_ (i := 5) (N := some 102) (bs 9 63) rfl rfl (one_of HT_.out (by kernel_rfl)) (by decide) (fun K hK => ?_)
           refine goes_ Tryd.func65 (by kernel_rfl) rfl #[.slice Ao95 x220004_2.length co95, .int .u8 45] (by rfl) rfl rfl (by (try simp only [List.map_toArray, List.map_cons, List.map_nil]); first | done | rfl | (simp only [List.length_drop, List.length_take]; rfl)) ?_
           with_reducible refine (hunks_count.calls k2 _ _ x220004_2 45 t267 _ ?side1 ?side2 A93.out).mono ?_
           (case side1 => repeat (first | exact (Kd.R_reads' HO_220004.out).2.2 | (with_reducible refine Kd.C_alloc ?_ _) | (with_reducible refine Kd.C_drewN ?_ _) | (with_reducible refine Kd.C_drew ?_)))
           (case side2 => exact (Kd.R_reads' HO_220004.out).2.1)
           rintro e w100 ⟨rfl, hb⟩
           refine ⟨_, rfl, ?_⟩
           have n0_ := Aside0.mk (Kd.R_below (by (with_reducible repeat (first | apply Kd.R_alloc | apply Kd.R_drewN | apply Kd.R_drew)); exact HO_220004.out) hb)
           have n1_ := Aside0.mk (blk_below (g := gb215) (o := .cells #[.int .i64 0, .int .i64 0, .int .i64 0, .int .i64 0, .slice none 0 0] 26 (0, 0)) (by (with_reducible repeat (first | refine blk_drewN ?_ _ | refine blk_drew ?_ | refine blk_alloc ?_ _)); exact BK215.out) hb)
           have n2_ := Aside0.mk (blk_below (g := gb219) (o := .cells #[.int .i64 (wrap64 (((rd_T82 l2 0).f0) - (ji6))), .int .i64 (wrap64 ((x220004_2.length : Int) - t266)), .int .i64 (wrap64 (((rd_T82 l2 0).f2) - (ji6))), .int .i64 0, .slice Ao95 x220004_2.length co95] 26 (0, 0)) (by (with_reducible repeat (first | refine blk_drewN ?_ _ | refine blk_drew ?_ | refine blk_alloc ?_ _)); exact BK219.out) hb)
           have n3_ := Aside0.mk (below_step (by repeat (first | (with_reducible first | exact HB.out | apply below_alloc | apply pw_below_drewN | apply below_drew1 | refine below_set ?_ GE215.out | refine below_set ?_ GE219.out) | exact HB.out)) hb)
           clear HO_220004
           clear BK215
           clear BK219
           clear HB
           have HO_220004 := n0_
           have BK215 := n1_
           have BK219 := n2_
           have HB := n3_
           clear n0_ n1_ n2_ n3_
           (try clear hb)
           (try clear hb2)
           (try clear hk)
           (try clear hi)
           refine hK.out _ _ ⟨(blk_cell BK219.out 0).trans rfl, (blk_cell BK219.out 1).trans rfl, (blk_cell BK219.out 2).trans rfl, (blk_cell BK219.out 3).trans rfl, (blk_cell BK219.out 4).trans rfl⟩ (fun hHeld => ?_)
           clear hK K
           refine norm_ (a' := ?_) ?_ ?_
           rotate_left
           ·show Act.put _ (some 102) _ = _
            simp only [Act.put, List.setIfInBounds_toArray, List.set_cons_zero, List.set_cons_succ, i64_w, i32_w]
            rfl
           refine pu_ 6 (some 103) ?_ (bs 9 127) HT_.out (by kernel_rfl) rfl rfl (fun _ _ _ h => h) (Or.inl ⟨by rfl, ?_⟩) ?_ ?_ ?_; rotate_left; (· intro w'; go_simp; with_reducible rfl); rotate_left; (· simp only [Act.put, sit, scz, scs, i64_w, i32_w]; rfl)
           refine pu_ 7 (some 104) ?_ (bs 9 255) HT_.out (by kernel_rfl) rfl rfl (fun _ _ _ h => h) (Or.inl ⟨by rfl, ?_⟩) ?_ ?_ ?_; rotate_left; (· intro w'; go_simp; with_reducible rfl); rotate_left; (· simp only [Act.put, sit, scz, scs, i64_w, i32_w]; rfl)
           refine last_ (i := 8) (N := none) (bs 9 511) rfl rfl (one_of HT_.out (by kernel_rfl)) (by decide) (fun K hK => ?_)
           have hs101 : w100.cell? ⟨gb219, 3, none⟩ = some (.int .i64 0) := (blk_cell BK219.out 3).trans rfl
           have hfs101 := blk_frozen BK219.out 3
           have hns101_0 := NB215_219.out
           have hms101_0 := NB219_215.out
           refine skip_ (w1 := ?_) (by rfl) rfl ?_ ?_
           rotate_left
           ·go_simp
            rfl
           refine hK.out _ _ ?_
           clear hK K
           refine done_ (done_of HT_.out (by kernel_rfl)) ?_
           have hnb102 := NB219_215.out
           have hnc102 := NB215_219.out
           have hcz103_0 : w100.cell? ⟨gb219, 0, none⟩ = some (.int .i64 (wrap64 (((rd_T82 l2 0).f0) - (ji6)))) := (blk_cell BK219.out 0).trans rfl
           have hcz103_1 : w100.cell? ⟨gb219, 1, none⟩ = some (.int .i64 (wrap64 ((x220004_2.length : Int) - t266))) := (blk_cell BK219.out 1).trans rfl
           have hcz103_2 : w100.cell? ⟨gb219, 2, none⟩ = some (.int .i64 (wrap64 (((rd_T82 l2 0).f2) - (ji6)))) := (blk_cell BK219.out 2).trans rfl
           have hcz103_3 : w100.cell? ⟨gb219, 3, none⟩ = some (.int .i64 0) := (blk_cell BK219.out 3).trans rfl
           have hcz103_4 : w100.cell? ⟨gb219, 4, none⟩ = some (.slice Ao95 x220004_2.length co95) := (blk_cell BK219.out 4).trans rfl
           have hfz103_0 := blk_frozen BK219.out 0
           have hfz103_1 := blk_frozen BK219.out 1
           have hfz103_2 := blk_frozen BK219.out 2
           have hfz103_3 := blk_frozen BK219.out 3
           have hfz103_4 := blk_frozen BK219.out 4
           have hcz104_0 : w100.cell? ⟨gb215, 0, none⟩ = some (.int .i64 0) := (blk_cell BK215.out 0).trans rfl
           have hcz104_1 : w100.cell? ⟨gb215, 1, none⟩ = some (.int .i64 0) := (blk_cell BK215.out 1).trans rfl
           have hcz104_2 : w100.cell? ⟨gb215, 2, none⟩ = some (.int .i64 0) := (blk_cell BK215.out 2).trans rfl
           have hcz104_3 : w100.cell? ⟨gb215, 3, none⟩ = some (.int .i64 0) := (blk_cell BK215.out 3).trans rfl
           have hcz104_4 : w100.cell? ⟨gb215, 4, none⟩ = some (.slice none 0 0) := (blk_cell BK215.out 4).trans rfl
           have hfz104_0 := blk_frozen BK215.out 0
           have hfz104_1 := blk_frozen BK215.out 1
           have hfz104_2 := blk_frozen BK215.out 2
           have hfz104_3 := blk_frozen BK215.out 3
           have hfz104_4 := blk_frozen BK215.out 4
           try go_wp2
           (try (refine bodyPost_end (results_none rfl _ _ _) rfl ?_; (try dsimp only); (try go_wp2); repeat (go_quiet (fail); try go_wp2)))
           refine bodyPost_ret (results_cell_row rfl _ _ gb215 26 #[.int .i64 (wrap64 (((rd_T82 l2 0).f0) - (ji6))), .int .i64 (wrap64 ((x220004_2.length : Int) - t266)), .int .i64 (wrap64 (((rd_T82 l2 0).f2) - (ji6))), .int .i64 (wrap64 ((x220004_2.length : Int) - t267)), .slice Ao95 x220004_2.length co95] (0, 0) _ rfl (by (with_reducible repeat (first | refine blk_drewN ?_ _ | refine blk_drew ?_ | refine blk_alloc ?_ _)); refine blk_put (cs := #[.int .i64 (wrap64 (((rd_T82 l2 0).f0) - (ji6))), .int .i64 (wrap64 ((x220004_2.length : Int) - t266)), .int .i64 (wrap64 (((rd_T82 l2 0).f2) - (ji6))), .int .i64 (wrap64 ((x220004_2.length : Int) - t267)), .slice none 0 0]) ?_ 4 _ rfl; (with_reducible repeat (first | refine blk_drewN ?_ _ | refine blk_drew ?_ | refine blk_alloc ?_ _)); refine blk_put (cs := #[.int .i64 (wrap64 (((rd_T82 l2 0).f0) - (ji6))), .int .i64 (wrap64 ((x220004_2.length : Int) - t266)), .int .i64 (wrap64 (((rd_T82 l2 0).f2) - (ji6))), .int .i64 0, .slice none 0 0]) ?_ 3 _ rfl; (with_reducible repeat (first | refine blk_drewN ?_ _ | refine blk_drew ?_ | refine blk_alloc ?_ _)); refine blk_put (cs := #[.int .i64 (wrap64 (((rd_T82 l2 0).f0) - (ji6))), .int .i64 (wrap64 ((x220004_2.length : Int) - t266)), .int .i64 0, .int .i64 0, .slice none 0 0]) ?_ 2 _ rfl; (with_reducible repeat (first | refine blk_drewN ?_ _ | refine blk_drew ?_ | refine blk_alloc ?_ _)); refine blk_put (cs := #[.int .i64 (wrap64 (((rd_T82 l2 0).f0) - (ji6))), .int .i64 0, .int .i64 0, .int .i64 0, .slice none 0 0]) ?_ 1 _ rfl; (with_reducible repeat (first | refine blk_drewN ?_ _ | refine blk_drew ?_ | refine blk_alloc ?_ _)); refine blk_put (cs := #[.int .i64 0, .int .i64 0, .int .i64 0, .int .i64 0, .slice none 0 0]) ?_ 0 _ rfl; (with_reducible repeat (first | refine blk_drewN ?_ _ | refine blk_drew ?_ | refine blk_alloc ?_ _)); refine blk_far ?_ NB215_219.out _; (with_reducible repeat (first | refine blk_drewN ?_ _ | refine blk_drew ?_ | refine blk_alloc ?_ _)); exact BK215.out) Tryd.underlying26 rfl (by kernel_rfl)) rfl ?_
           exact ⟨_, by first | rfl | (simp [errW_none, errW_some] <;> rfl) | (simp only [← hji6, ← hji77]; first | rfl | (simp [errW_none, errW_some] <;> rfl)) | (simp [*, errW_none, errW_some] <;> rfl), by (with_reducible repeat (first | apply Kd.R_alloc | apply Kd.R_drewN | apply Kd.R_drew)); exact Kd.R_mono (Kd.R_far (p := ⟨gb215, 4, none⟩) (Kd.R_far (p := ⟨gb215, 3, none⟩) (Kd.R_far (p := ⟨gb215, 2, none⟩) (Kd.R_far (p := ⟨gb215, 1, none⟩) (Kd.R_far (p := ⟨gb215, 0, none⟩) (Kd.R_far (p := ⟨gb219, 3, none⟩) (Kd.R_types (Kd.R_types HO_220004.out BK219.out (by decide)) BK215.out (by decide)) (fun _ hk => hk.1.2) (.int .i64 (wrap64 ((x220004_2.length : Int) - t267)))) (fun _ hk => hk.2) (.int .i64 (wrap64 (((rd_T82 l2 0).f0) - (ji6))))) (fun _ hk => hk.2) (.int .i64 (wrap64 ((x220004_2.length : Int) - t266)))) (fun _ hk => hk.2) (.int .i64 (wrap64 (((rd_T82 l2 0).f2) - (ji6))))) (fun _ hk => hk.2) (.int .i64 (wrap64 ((x220004_2.length : Int) - t267)))) (fun _ hk => hk.2) (.slice Ao95 x220004_2.length co95)) (fun _ hk => trivial), by repeat (first | (with_reducible first | exact HB.out | apply below_alloc | apply pw_below_drewN | apply below_drew1 | refine below_set ?_ GE215.out | refine below_set ?_ GE219.out) | exact HB.out)⟩
       ·rw [if_neg c80] at H
        exact absurd H (by simp)
      ·rw [if_neg c79] at H
       exact absurd H (by simp)
     ·rw [if_neg c78] at H
      exact absurd H (by simp)
 ·rw [if_neg c5] at H
  exact absurd H (by simp)

end Go.Proofs.YtjabpbnlpljlkaaDoor.PShowMade
