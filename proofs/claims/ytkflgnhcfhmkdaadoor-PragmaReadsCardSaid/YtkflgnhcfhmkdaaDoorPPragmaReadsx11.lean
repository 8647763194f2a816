-- x
import Derived.Test.YtkflgnhcfhmkdaaDoorPPragmaReadsx0
import Derived.Test.YtkflgnhcfhmkdaaDoorXSq
import Derived.Test.YtkflgnhcfhmkdaaDoorPPragmaReadsx9
import Derived.Test.YtkflgnhcfhmkdaaDoorPPragmaReadsx10
namespace Go.Proofs.YtkflgnhcfhmkdaaDoor.PPragmaReads
open Go.RowKit Go.Proofs.YtkflgnhcfhmkdaaDoor.X Go.Proofs.YtkflgnhcfhmkdaaDoorW.PrintWords Go.Proofs.YtkflgnhcfhmkdaaDoorW.PrintLast Go.Proofs.YtkflgnhcfhmkdaaDoorW.PrintMore
attribute [local go_sem] max2_int min2_int max_two min_two max_three min_three max_four min_four   -- for this text's walks alone
set_option linter.unusedVariables false
set_option linter.unusedSimpArgs false
mutual
def redpenref15_words.j1 : Nat → ByteArray → Option (List ByteArray)
 | 0, _ => none
 | k + 1, x0 => (conv_bytes.f x0).bind fun t311 => ((redpenref01_Units.f k t311).bind fun t314 => (redpenref15_words.l1 k x0 t314 0))
def redpenref15_words.j3 : Nat → ByteArray → List (S73) → Int → Option (List ByteArray)
 | 0, _, _, _ => none
 | k + 1, x0, x3, x4 => if x4 > 0 then (if 0 ≤ (wrap64 (x4 - 1)) then (if (wrap64 (x4 - 1)) < (x3.length : Int) then (redpenref15_words.j4 k x0 (wrap64 (((rd_T73 x3 (wrap64 (x4 - 1))).f1.f0) + ((rd_T73 x3 (wrap64 (x4 - 1))).f1.f1)))) else (none)) else (none)) else (redpenref15_words.j4 k x0 0)
def redpenref15_words.j4 : Nat → ByteArray → Int → Option (List ByteArray)
 | 0, _, _ => none
 | k + 1, x0, x5 => if 0 ≤ x5 then (if x5 ≤ (x0.size : Int) then ((redpenref06_Check.f k (x0.extract 0 (x5 : Int).toNat)).bind fun t322 => (if t322 = 0 then ((redpenref01_Fold.f k (x0.extract 0 (x5 : Int).toNat)).bind fun t323 => ((some (([t323] : List ByteArray) : List ByteArray)).bind fun y324 => ((redpenref15_words.f k (x0.extract (x5 : Int).toNat x0.size)).bind fun t327 => (if y324.length + t327.length < 8796093022208 then (some (y324 ++ t327)) else (none))))) else (some ([] : List ByteArray)))) else (none)) else (none)
def redpenref15_words.l1 : Nat → ByteArray → List (S73) → Int → Option (List ByteArray)
 | 0, _, _, _ => none
 | k + 1, x0, x3, x4 => if x4 < (x3.length : Int) then (if 0 ≤ x4 then ((redpenref01_Letter.f ((rd_T73 x3 x4).f0)).bind fun t318 => (if t318 = true then (redpenref15_words.l1 k x0 x3 (wrap64 (x4 + 1))) else (if ((rd_T73 x3 x4).f0) = 39 then (redpenref15_words.l1 k x0 x3 (wrap64 (x4 + 1))) else (redpenref15_words.j3 k x0 x3 x4)))) else (none)) else (redpenref15_words.j3 k x0 x3 x4)
def redpenref15_words.l0 : Nat → ByteArray → Option (List ByteArray)
 | 0, _ => none
 | k + 1, x0 => if (x0.size : Int) > 0 then (if 0 < (x0.size : Int) then (if (bt x0 0) = 32 then (if 1 ≤ (x0.size : Int) then (redpenref15_words.l0 k (x0.extract 1 x0.size)) else (none)) else (if (bt x0 0) = 9 then (if 1 ≤ (x0.size : Int) then (redpenref15_words.l0 k (x0.extract 1 x0.size)) else (none)) else (if (bt x0 0) = 44 then (if 1 ≤ (x0.size : Int) then (redpenref15_words.l0 k (x0.extract 1 x0.size)) else (none)) else (redpenref15_words.j1 k x0)))) else (none)) else (redpenref15_words.j1 k x0)
def redpenref15_words.f : Nat → ByteArray → Option (List ByteArray)
 | 0, _ => none
 | k + 1, a0 => redpenref15_words.l0 k a0
end
theorem redpenref15_words.mono_l : ∀ k, (∀ y0, LeO (redpenref15_words.f k y0) (redpenref15_words.f (k + 1) y0)) ∧ (∀ y0, LeO (redpenref15_words.j1 k y0) (redpenref15_words.j1 (k + 1) y0)) ∧ (∀ y0 y1 y2, LeO (redpenref15_words.j3 k y0 y1 y2) (redpenref15_words.j3 (k + 1) y0 y1 y2)) ∧ (∀ y0 y1, LeO (redpenref15_words.j4 k y0 y1) (redpenref15_words.j4 (k + 1) y0 y1)) ∧ (∀ y0 y1 y2, LeO (redpenref15_words.l1 k y0 y1 y2) (redpenref15_words.l1 (k + 1) y0 y1 y2)) ∧ (∀ y0, LeO (redpenref15_words.l0 k y0) (redpenref15_words.l0 (k + 1) y0))
 | 0 => ⟨fun _ r h => by simp [redpenref15_words.f] at h, fun _ r h => by simp [redpenref15_words.j1] at h, fun _ _ _ r h => by simp [redpenref15_words.j3] at h, fun _ _ r h => by simp [redpenref15_words.j4] at h, fun _ _ _ r h => by simp [redpenref15_words.l1] at h, fun _ r h => by simp [redpenref15_words.l0] at h⟩
 | k + 1 => by
  obtain ⟨ih0, ih1, ih2, ih3, ih4, ih5⟩ := redpenref15_words.mono_l k
  refine ⟨?_, ?_, ?_, ?_, ?_, ?_⟩
  ·intro y0
   unfold redpenref15_words.f
   repeat' first
   | (with_reducible exact ih0 _)
   | (with_reducible exact ih1 _)
   | (with_reducible exact ih2 _ _ _)
   | (with_reducible exact ih3 _ _)
   | (with_reducible exact ih4 _ _ _)
   | (with_reducible exact ih5 _)
   | (with_reducible exact redpenref01_Fold.mono _ _)
   | (with_reducible exact redpenref01_Units.mono _ _)
   | (with_reducible exact redpenref06_Check.mono _ _)
   | (with_reducible exact LeO.refl _)
   | (with_reducible exact LeO.none _)
   | (with_reducible refine LeO.ite ?_ ?_)
   | (with_reducible refine LeO.bind ?_ (fun _ => ?_))
  ·intro y0
   unfold redpenref15_words.j1
   repeat' first
   | (with_reducible exact ih0 _)
   | (with_reducible exact ih1 _)
   | (with_reducible exact ih2 _ _ _)
   | (with_reducible exact ih3 _ _)
   | (with_reducible exact ih4 _ _ _)
   | (with_reducible exact ih5 _)
   | (with_reducible exact redpenref01_Fold.mono _ _)
   | (with_reducible exact redpenref01_Units.mono _ _)
   | (with_reducible exact redpenref06_Check.mono _ _)
   | (with_reducible exact LeO.refl _)
   | (with_reducible exact LeO.none _)
   | (with_reducible refine LeO.ite ?_ ?_)
   | (with_reducible refine LeO.bind ?_ (fun _ => ?_))
  ·intro y0 y1 y2
   unfold redpenref15_words.j3
   repeat' first
   | (with_reducible exact ih0 _)
   | (with_reducible exact ih1 _)
   | (with_reducible exact ih2 _ _ _)
   | (with_reducible exact ih3 _ _)
   | (with_reducible exact ih4 _ _ _)
   | (with_reducible exact ih5 _)
   | (with_reducible exact redpenref01_Fold.mono _ _)
   | (with_reducible exact redpenref01_Units.mono _ _)
   | (with_reducible exact redpenref06_Check.mono _ _)
   | (with_reducible exact LeO.refl _)
   | (with_reducible exact LeO.none _)
   | (with_reducible refine LeO.ite ?_ ?_)
   | (with_reducible refine LeO.bind ?_ (fun _ => ?_))
  ·intro y0 y1
   unfold redpenref15_words.j4
   repeat' first
   | (with_reducible exact ih0 _)
   | (with_reducible exact ih1 _)
   | (with_reducible exact ih2 _ _ _)
   | (with_reducible exact ih3 _ _)
   | (with_reducible exact ih4 _ _ _)
   | (with_reducible exact ih5 _)
   | (with_reducible exact redpenref01_Fold.mono _ _)
   | (with_reducible exact redpenref01_Units.mono _ _)
   | (with_reducible exact redpenref06_Check.mono _ _)
   | (with_reducible exact LeO.refl _)
   | (with_reducible exact LeO.none _)
   | (with_reducible refine LeO.ite ?_ ?_)
   | (with_reducible refine LeO.bind ?_ (fun _ => ?_))
  ·intro y0 y1 y2
   unfold redpenref15_words.l1
   repeat' first
   | (with_reducible exact ih0 _)
   | (with_reducible exact ih1 _)
   | (with_reducible exact ih2 _ _ _)
   | (with_reducible exact ih3 _ _)
   | (with_reducible exact ih4 _ _ _)
   | (with_reducible exact ih5 _)
   | (with_reducible exact redpenref01_Fold.mono _ _)
   | (with_reducible exact redpenref01_Units.mono _ _)
   | (with_reducible exact redpenref06_Check.mono _ _)
   | (with_reducible exact LeO.refl _)
   | (with_reducible exact LeO.none _)
   | (with_reducible refine LeO.ite ?_ ?_)
   | (with_reducible refine LeO.bind ?_ (fun _ => ?_))
  ·intro y0
   unfold redpenref15_words.l0
   repeat' first
   | (with_reducible exact ih0 _)
   | (with_reducible exact ih1 _)
   | (with_reducible exact ih2 _ _ _)
   | (with_reducible exact ih3 _ _)
   | (with_reducible exact ih4 _ _ _)
   | (with_reducible exact ih5 _)
   | (with_reducible exact redpenref01_Fold.mono _ _)
   | (with_reducible exact redpenref01_Units.mono _ _)
   | (with_reducible exact redpenref06_Check.mono _ _)
   | (with_reducible exact LeO.refl _)
   | (with_reducible exact LeO.none _)
   | (with_reducible refine LeO.ite ?_ ?_)
   | (with_reducible refine LeO.bind ?_ (fun _ => ?_))
theorem redpenref15_words.mono : ∀ a0 k, LeO (redpenref15_words.f k a0) (redpenref15_words.f (k + 1) a0) := by
 intro a0 k
 obtain ⟨ih0, ih1, ih2, ih3, ih4, ih5⟩ := redpenref15_words.mono_l k
 exact ih0 a0
def redpenref15_words.T9 : Bool × List (List Nat × List Nat) := (true, [([], []), ([], []), ([1], [1]), ([0, 2], [0, 2]), ([3], [3]), ([4], [4]), ([5], [5]), ([], []), ([], []), ([8], [8]), ([7, 9], [7, 9]), ([10], [10]), ([11], [11]), ([12], [12]), ([6, 13], [6, 13]), ([14, 0, 1, 2, 3, 4, 5, 6, 7, 8, 9, 10, 11, 12, 13, 14], [14])])
def redpenref15_words.B9 : List Nat := [0, 0, 2, 7, 15, 31, 63, 0, 0, 256, 896, 1920, 3968, 8064, 16383, 32767]
theorem redpenref15_words.tab9 : rtab .any (opsOf Tryd.f24 9) = redpenref15_words.T9 := by kernel_rfl
theorem redpenref15_words.bits9 : waitsOk redpenref15_words.T9.2 redpenref15_words.B9 = true := by kernel_rfl
def redpenref15_words.T12 : Bool × List (List Nat × List Nat) := (true, [([], []), ([], []), ([0, 1], [0, 1]), ([2], [2]), ([3], [3]), ([], []), ([], []), ([5, 6], [5, 6]), ([7, 3], [7]), ([4, 8, 8], [4, 8]), ([9, 9, 0, 1, 2, 3, 4, 5, 6, 7, 8, 9], [9])])
def redpenref15_words.B12 : List Nat := [0, 0, 3, 7, 15, 0, 0, 96, 239, 511, 1023]
theorem redpenref15_words.tab12 : rtab .any (opsOf Tryd.f24 12) = redpenref15_words.T12 := by kernel_rfl
theorem redpenref15_words.bits12 : waitsOk redpenref15_words.T12.2 redpenref15_words.B12 = true := by kernel_rfl
set_option maxHeartbeats 8000000 in
set_option maxRecDepth 100000 in
theorem redpenref15_words.calls (k : Nat) : ∀ (a0 : ByteArray) (r : List ByteArray) (w : World) (h : redpenref15_words.f k a0 = some r),
  Calls Tryd.prog 24 #[.string a0] w fun e w' => ∃ v0_ : Value, e = .returned (v0_) ∧ Kd.R Kd.string 9 w' w.heap.size (fun _ => True) v0_ r ∧ Below w.heap.size w w' := by
 induction k using Nat.strongRecOn with
 | _ k ih =>
 intro a0 r w h
 cases k with
 | zero => exact absurd h (by simp [redpenref15_words.f])
 | succ k =>
 simp only [redpenref15_words.f] at h
 have HB := Aside0.mk (Below.refl w.heap.size w)
 have H : (redpenref15_words.l0 k a0) = some r := h
 clear h
 have HC2 := Aside0.mk H
 clear H
 go_enter Tryd.func24, Tryd.ntmps24
 go_upto_block 0 with (fail)
 go_cut [0] (fun v0 wc => ∃ (kq : Nat) (x0_1 : ByteArray), v0 = .string x0_1 ∧ Aside0 (redpenref15_words.j1 kq x0_1 = some r) ∧ Aside0 (kq ≤ k) ∧ Aside0 (Below w.heap.size w wc))
 case first =>
  have H := HC2.out
  clear HC2
  have H' := Aside0.mk H
  clear H
  go_wp2
  go_loopg [0] k (fun kq v0 w' => ∃ (x0_1 : ByteArray), v0 = .string x0_1 ∧ Aside0 (redpenref15_words.l0 kq x0_1 = some r) ∧ Aside0 (kq ≤ k) ∧ Aside0 (Below w.heap.size w w'))
  case atStart => exact ⟨(a0), (by first | rfl | (simp; done) | (simp [*]; done) | (simp [wrap64, wrap32]; done)), H', ⟨Nat.le_refl _⟩, ⟨by repeat (first | (with_reducible first | exact HB.out | apply below_alloc | apply pw_below_drewN | apply below_drew1) | exact HB.out)⟩⟩
  case round =>
   clear H'
   (try clear c2); (try clear p2)
   obtain ⟨x0_1, rfl, HA, HK1, HB⟩ := hrel
   cases gk with
   | zero => exact absurd HA.out (by simp [redpenref15_words.l0])
   | succ k1 =>
    have H := HA.out
    clear HA
    simp only [redpenref15_words.l0] at H
    by_cases c3 : (x0_1.size : Int) > 0
    ·rw [if_pos c3] at H
     have c3b0 : decide (0 < (x0_1.size : Int)) = true := decide_eq_true c3
     have c3b1 : decide (0 < x0_1.size) = true := decide_eq_true (by omega)
     clear c3
     (first | rw [c3b0] | (simp only [i64_w, i32_w]; rw [c3b0]) | skip)
     by_cases c4 : 0 < (x0_1.size : Int)
     ·rw [if_pos c4] at H
      have c4b0 : decide (0 < (x0_1.size : Int)) = true := decide_eq_true c4
      have c4b1 : decide (0 < x0_1.size) = true := decide_eq_true (by omega)
      clear c4
      by_cases c6 : (bt x0_1 0) = 32
      ·rw [if_pos c6] at H
       have c6b0 : ((bt x0_1 0) == 32) = true := beq_iff_eq.mpr c6
       have c6b1 : ((bt x0_1 0) != 32) = false := bne_eq_false_iff_eq.mpr c6
       clear c6
       by_cases c7 : 1 ≤ (x0_1.size : Int)
       ·rw [if_pos c7] at H
        have c7b0 := eq_true c7
        have c7b1 : decide (1 ≤ (x0_1.size : Int)) = true := decide_eq_true c7
        clear c7
        have H' := Aside0.mk H
        clear H
        have p5 : 0 ≤ (0 : Int) := (by omega)
        have q5 : 0 < x0_1.size := (by have : (0 : Int) < (x0_1.size : Int) := of_decide_eq_true (by first | (with_reducible assumption) | assumption); omega)
        have hx5 : ∀ h : 0 < x0_1.size, ((x0_1[0]'h).toNat : Int) = bt x0_1 0 := bt_at x0_1 0
        clear p5
        have qi5 : (0 < (x0_1.size : Int)) = True := eq_true (of_decide_eq_true (by first | (with_reducible assumption) | assumption))
        replace q5 := eq_true q5
        go_wp2
        go_roundg k1
        case measure => have := HK1.out; omega
        case rel => exact ⟨(x0_1.extract 1 x0_1.size), (by first | rfl | (simp; done) | (simp [*]; done) | (simp [wrap64, wrap32]; done)), H', ⟨by have := HK1.out; omega⟩, ⟨by repeat (first | (with_reducible first | exact HB.out | apply below_alloc | apply pw_below_drewN | apply below_drew1) | exact HB.out)⟩⟩
       ·rw [if_neg c7] at H
        exact absurd H (by simp)
      ·rw [if_neg c6] at H
       have c6b0 : ((bt x0_1 0) == 32) = false := beq_eq_false_iff_ne.mpr c6
       have c6b1 : ((bt x0_1 0) != 32) = true := bne_iff_ne.mpr c6
       by_cases c9 : (bt x0_1 0) = 9
       ·rw [if_pos c9] at H
        have c9b0 : ((bt x0_1 0) == 9) = true := beq_iff_eq.mpr c9
        have c9b1 : ((bt x0_1 0) != 9) = false := bne_eq_false_iff_eq.mpr c9
        clear c9
        by_cases c10 : 1 ≤ (x0_1.size : Int)
        ·rw [if_pos c10] at H
         have c10b0 := eq_true c10
         have c10b1 : decide (1 ≤ (x0_1.size : Int)) = true := decide_eq_true c10
         clear c10
         have H' := Aside0.mk H
         clear H
         have p5 : 0 ≤ (0 : Int) := (by omega)
         have q5 : 0 < x0_1.size := (by have : (0 : Int) < (x0_1.size : Int) := of_decide_eq_true (by first | (with_reducible assumption) | assumption); omega)
         have hx5 : ∀ h : 0 < x0_1.size, ((x0_1[0]'h).toNat : Int) = bt x0_1 0 := bt_at x0_1 0
         clear p5
         have qi5 : (0 < (x0_1.size : Int)) = True := eq_true (of_decide_eq_true (by first | (with_reducible assumption) | assumption))
         replace q5 := eq_true q5
         have p8 : 0 ≤ (0 : Int) := (by omega)
         have q8 : 0 < x0_1.size := (by have : (0 : Int) < (x0_1.size : Int) := of_decide_eq_true (by first | (with_reducible assumption) | assumption); omega)
         have hx8 : ∀ h : 0 < x0_1.size, ((x0_1[0]'h).toNat : Int) = bt x0_1 0 := bt_at x0_1 0
         clear p8
         have qi8 : (0 < (x0_1.size : Int)) = True := eq_true (of_decide_eq_true (by first | (with_reducible assumption) | assumption))
         replace q8 := eq_true q8
         go_wp2
         go_roundg k1
         case measure => have := HK1.out; omega
         case rel => exact ⟨(x0_1.extract 1 x0_1.size), (by first | rfl | (simp; done) | (simp [*]; done) | (simp [wrap64, wrap32]; done)), H', ⟨by have := HK1.out; omega⟩, ⟨by repeat (first | (with_reducible first | exact HB.out | apply below_alloc | apply pw_below_drewN | apply below_drew1) | exact HB.out)⟩⟩
        ·rw [if_neg c10] at H
         exact absurd H (by simp)
       ·rw [if_neg c9] at H
        have c9b0 : ((bt x0_1 0) == 9) = false := beq_eq_false_iff_ne.mpr c9
        have c9b1 : ((bt x0_1 0) != 9) = true := bne_iff_ne.mpr c9
        by_cases c12 : (bt x0_1 0) = 44
        ·rw [if_pos c12] at H
         have c12b0 : ((bt x0_1 0) == 44) = true := beq_iff_eq.mpr c12
         have c12b1 : ((bt x0_1 0) != 44) = false := bne_eq_false_iff_eq.mpr c12
         clear c12
         by_cases c13 : 1 ≤ (x0_1.size : Int)
         ·rw [if_pos c13] at H
          have c13b0 := eq_true c13
          have c13b1 : decide (1 ≤ (x0_1.size : Int)) = true := decide_eq_true c13
          clear c13
          have H' := Aside0.mk H
          clear H
          have p5 : 0 ≤ (0 : Int) := (by omega)
          have q5 : 0 < x0_1.size := (by have : (0 : Int) < (x0_1.size : Int) := of_decide_eq_true (by first | (with_reducible assumption) | assumption); omega)
          have hx5 : ∀ h : 0 < x0_1.size, ((x0_1[0]'h).toNat : Int) = bt x0_1 0 := bt_at x0_1 0
          clear p5
          have qi5 : (0 < (x0_1.size : Int)) = True := eq_true (of_decide_eq_true (by first | (with_reducible assumption) | assumption))
          replace q5 := eq_true q5
          have p8 : 0 ≤ (0 : Int) := (by omega)
          have q8 : 0 < x0_1.size := (by have : (0 : Int) < (x0_1.size : Int) := of_decide_eq_true (by first | (with_reducible assumption) | assumption); omega)
          have hx8 : ∀ h : 0 < x0_1.size, ((x0_1[0]'h).toNat : Int) = bt x0_1 0 := bt_at x0_1 0
          clear p8
          have qi8 : (0 < (x0_1.size : Int)) = True := eq_true (of_decide_eq_true (by first | (with_reducible assumption) | assumption))
          replace q8 := eq_true q8
          have p11 : 0 ≤ (0 : Int) := (by omega)
          have q11 : 0 < x0_1.size := (by have : (0 : Int) < (x0_1.size : Int) := of_decide_eq_true (by first | (with_reducible assumption) | assumption); omega)
          have hx11 : ∀ h : 0 < x0_1.size, ((x0_1[0]'h).toNat : Int) = bt x0_1 0 := bt_at x0_1 0
          clear p11
          have qi11 : (0 < (x0_1.size : Int)) = True := eq_true (of_decide_eq_true (by first | (with_reducible assumption) | assumption))
          replace q11 := eq_true q11
          go_wp2
          go_roundg k1
          case measure => have := HK1.out; omega
          case rel => exact ⟨(x0_1.extract 1 x0_1.size), (by first | rfl | (simp; done) | (simp [*]; done) | (simp [wrap64, wrap32]; done)), H', ⟨by have := HK1.out; omega⟩, ⟨by repeat (first | (with_reducible first | exact HB.out | apply below_alloc | apply pw_below_drewN | apply below_drew1) | exact HB.out)⟩⟩
         ·rw [if_neg c13] at H
          exact absurd H (by simp)
        ·rw [if_neg c12] at H
         have c12b0 : ((bt x0_1 0) == 44) = false := beq_eq_false_iff_ne.mpr c12
         have c12b1 : ((bt x0_1 0) != 44) = true := bne_iff_ne.mpr c12
         have H' := Aside0.mk H
         clear H
         have p5 : 0 ≤ (0 : Int) := (by omega)
         have q5 : 0 < x0_1.size := (by have : (0 : Int) < (x0_1.size : Int) := of_decide_eq_true (by first | (with_reducible assumption) | assumption); omega)
         have hx5 : ∀ h : 0 < x0_1.size, ((x0_1[0]'h).toNat : Int) = bt x0_1 0 := bt_at x0_1 0
         clear p5
         have qi5 : (0 < (x0_1.size : Int)) = True := eq_true (of_decide_eq_true (by first | (with_reducible assumption) | assumption))
         replace q5 := eq_true q5
         have p8 : 0 ≤ (0 : Int) := (by omega)
         have q8 : 0 < x0_1.size := (by have : (0 : Int) < (x0_1.size : Int) := of_decide_eq_true (by first | (with_reducible assumption) | assumption); omega)
         have hx8 : ∀ h : 0 < x0_1.size, ((x0_1[0]'h).toNat : Int) = bt x0_1 0 := bt_at x0_1 0
         clear p8
         have qi8 : (0 < (x0_1.size : Int)) = True := eq_true (of_decide_eq_true (by first | (with_reducible assumption) | assumption))
         replace q8 := eq_true q8
         have p11 : 0 ≤ (0 : Int) := (by omega)
         have q11 : 0 < x0_1.size := (by have : (0 : Int) < (x0_1.size : Int) := of_decide_eq_true (by first | (with_reducible assumption) | assumption); omega)
         have hx11 : ∀ h : 0 < x0_1.size, ((x0_1[0]'h).toNat : Int) = bt x0_1 0 := bt_at x0_1 0
         clear p11
         have qi11 : (0 < (x0_1.size : Int)) = True := eq_true (of_decide_eq_true (by first | (with_reducible assumption) | assumption))
         replace q11 := eq_true q11
         go_wp2
         go_meet
         case rel => exact ⟨_, (x0_1), (by first | rfl | (simp; done) | (simp [*]; done) | (simp [wrap64, wrap32]; done)), H', ⟨by have := HK1.out; first | omega | exact Nat.le_refl _⟩, ⟨by repeat (first | (with_reducible first | exact HB.out | apply below_alloc | apply pw_below_drewN | apply below_drew1) | exact HB.out)⟩⟩
     ·rw [if_neg c4] at H
      exact absurd H (by simp)
    ·rw [if_neg c3] at H
     have c3b0 : decide (0 < (x0_1.size : Int)) = false := decide_eq_false c3
     have c3b1 : decide (0 < x0_1.size) = false := decide_eq_false (by omega)
     clear c3
     (first | rw [c3b0] | (simp only [i64_w, i32_w]; rw [c3b0]) | skip)
     have H' := Aside0.mk H
     clear H
     go_wp2
     go_meet
     case rel => exact ⟨_, (x0_1), (by first | rfl | (simp; done) | (simp [*]; done) | (simp [wrap64, wrap32]; done)), H', ⟨by have := HK1.out; first | omega | exact Nat.le_refl _⟩, ⟨by repeat (first | (with_reducible first | exact HB.out | apply below_alloc | apply pw_below_drewN | apply below_drew1) | exact HB.out)⟩⟩
 case rest =>
  clear HC2
  (try clear c1); (try clear p1); (try clear q1); (try clear hx1); (try clear qi1); (try clear c2); (try clear p2); (try clear c3); (try clear c3b0); (try clear c3b1); (try clear c4); (try clear c4b0); (try clear c4b1); (try clear p5); (try clear q5); (try clear hx5); (try clear qi5); (try clear c6); (try clear c6b0); (try clear c6b1); (try clear c7); (try clear c7b0); (try clear c7b1); (try clear p8); (try clear q8); (try clear hx8); (try clear qi8); (try clear c9); (try clear c9b0); (try clear c9b1); (try clear c10); (try clear c10b0); (try clear c10b1); (try clear p11); (try clear q11); (try clear hx11); (try clear qi11); (try clear c12); (try clear c12b0); (try clear c12b1); (try clear c13); (try clear c13b0); (try clear c13b1); (try clear p11); (try clear p2); (try clear p5); (try clear p8); (try clear q11); (try clear q5); (try clear q8)
  obtain ⟨kq, x0_1, rfl, HA, HJ1, HB⟩ := hcut
  cases kq with
  | zero => exact absurd HA.out (by simp [redpenref15_words.j1])
  | succ kj1 =>
   have H := HA.out
   clear HA
   simp only [redpenref15_words.j1] at H
   replace H := Option.bind_eq_some_iff.mp H
   obtain ⟨t311, A140, H⟩ := H
   replace H : ((redpenref01_Units.f kj1 t311).bind fun t314 => (redpenref15_words.l1 kj1 x0_1 t314 0)) = some r := H
   have A14 := Aside0.mk A140
   clear A140
   replace H := Option.bind_eq_some_iff.mp H
   obtain ⟨t314, A150, H⟩ := H
   replace H : (redpenref15_words.l1 kj1 x0_1 t314 0) = some r := H
   have A15 := Aside0.mk A150
   clear A150
   have HC16 := Aside0.mk H
   clear H
   go_upto_block 2 with (first | ((with_reducible refine gate_dst (N := 27) rfl ?_); refine cv_goes (N := some 27) rfl rfl (s := x0_1) rfl (by first | rfl | (simp; done)) Tryd.underlying9 Tryd.underlying22 Tryd.underlying5 ?_; (with_reducible refine (conv_bytes.calls x0_1 t311 _ A14.out).mono ?_); rintro e w17 ⟨v312, rfl, ho0, hb⟩; refine ⟨_, rfl, ?_⟩; have n0_ := Aside0.mk (Kd.V_lower (Kd.V_mono (ok' := fun k_ => True) ho0 (fun k_ hk_ => trivial)) (below_size (by repeat (first | (with_reducible first | exact HB.out | apply below_alloc | apply pw_below_drewN | apply below_drew1) | exact HB.out)))); have n1_ := Aside0.mk (below_step (by repeat (first | (with_reducible first | exact HB.out | apply below_alloc | apply pw_below_drewN | apply below_drew1) | exact HB.out)) hb); clear HB; have HO313 := n0_; have HB := n1_; clear n0_ n1_; (try clear hb); (try clear hb2); (try clear hk); (try clear hi); (try clear ho0); obtain ⟨Ao18, co18, eo18⟩ := Kd.V_slice HO313.out; subst eo18) | ((with_reducible refine gate_callee (f := 33) rfl ?_); refine goesL_ (some 28) rfl rfl Tryd.func33 (by kernel_rfl) rfl #[.slice Ao18 t311.length co18] rfl (by (try simp only [List.map_toArray, List.map_cons, List.map_nil]); first | done | rfl | (simp only [List.length_drop, List.length_take]; rfl)) ?_; (with_reducible refine (redpenref01_Units.calls kj1 _ _ t311 t314 _ ?side1 ?side2 A15.out).mono ?_); (case side1 => repeat (first | exact (Kd.V_reads' HO313.out).2.2 | (with_reducible refine Kd.C_alloc ?_ _) | (with_reducible refine Kd.C_drewN ?_ _) | (with_reducible refine Kd.C_drew ?_))); (case side2 => exact (Kd.V_reads' HO313.out).2.1); rintro e w19 ⟨v315, rfl, ho0, hb⟩; refine ⟨_, rfl, ?_⟩; have n0_ := Aside0.mk (Kd.V_elder' (by (with_reducible repeat (first | apply Kd.V_alloc | apply Kd.V_drewN | apply Kd.V_drew)); exact HO313.out) (Kd.R_base ho0) hb); have n1_ := Aside0.mk (Kd.R_lower ho0 (below_size (by repeat (first | (with_reducible first | exact HB.out | apply below_alloc | apply pw_below_drewN | apply below_drew1) | exact HB.out)))); have n2_ := Aside0.mk (below_step (by repeat (first | (with_reducible first | exact HB.out | apply below_alloc | apply pw_below_drewN | apply below_drew1) | exact HB.out)) hb); clear HO313; clear HB; have HO313 := n0_; have HO316 := n1_; have HB := n2_; clear n0_ n1_ n2_; (try clear hb); (try clear hb2); (try clear hk); (try clear hi); (try clear ho0)))
   (try simp only [Act.put, List.setIfInBounds_toArray, List.set_cons_zero, List.set_cons_succ])
   go_cut [4] (fun v4 wc => ∃ (kq : Nat) (x4_15 : Int), v4 = .int .i64 x4_15 ∧ Aside0 (redpenref15_words.j3 kq x0_1 t314 x4_15 = some r) ∧ Aside0 (kq ≤ kj1) ∧ Aside0 (Kd.R k73 73 wc w.heap.size (fun _ => True) v315 t314) ∧ Aside0 (Below w.heap.size w wc))
   case first =>
    have H := HC16.out
    clear HC16
    have H' := Aside0.mk H
    clear H
    go_wp2
    go_loopg [4] kj1 (fun kq v4 w' => ∃ (x4_2 : Int), v4 = .int .i64 x4_2 ∧ Aside0 (redpenref15_words.l1 kq x0_1 t314 x4_2 = some r) ∧ Aside0 (kq ≤ kj1) ∧ Aside0 (Kd.R k73 73 w' w.heap.size (fun _ => True) v315 t314) ∧ Aside0 (Below w.heap.size w w'))
    case atStart => exact ⟨(0), (by first | rfl | (simp; done) | (simp [*]; done) | (simp [wrap64, wrap32]; done)), H', ⟨Nat.le_refl _⟩, ⟨by (with_reducible repeat (first | apply Kd.R_alloc | apply Kd.R_drewN | apply Kd.R_drew)); exact HO316.out⟩, ⟨by repeat (first | (with_reducible first | exact HB.out | apply below_alloc | apply pw_below_drewN | apply below_drew1) | exact HB.out)⟩⟩
    case round =>
     clear H'
     (try clear c1); (try clear p1); (try clear q1); (try clear hx1); (try clear qi1); (try clear c2); (try clear p2); (try clear c3); (try clear c3b0); (try clear c3b1); (try clear c4); (try clear c4b0); (try clear c4b1); (try clear p5); (try clear q5); (try clear hx5); (try clear qi5); (try clear c6); (try clear c6b0); (try clear c6b1); (try clear c7); (try clear c7b0); (try clear c7b1); (try clear p8); (try clear q8); (try clear hx8); (try clear qi8); (try clear c9); (try clear c9b0); (try clear c9b1); (try clear c10); (try clear c10b0); (try clear c10b1); (try clear p11); (try clear q11); (try clear hx11); (try clear qi11); (try clear c12); (try clear c12b0); (try clear c12b1); (try clear c13); (try clear c13b0); (try clear c13b1); (try clear p1); (try clear p11); (try clear p2); (try clear p5); (try clear p8); (try clear q1); (try clear q11); (try clear q5); (try clear q8)
     obtain ⟨x4_2, rfl, HA, HK2, HO_3, HB⟩ := hrel
     cases gk with
     | zero => exact absurd HA.out (by simp [redpenref15_words.l1])
     | succ k2 =>
      have H := HA.out
      clear HA
      simp only [redpenref15_words.l1] at H
      by_cases c20 : x4_2 < (t314.length : Int)
      ·rw [if_pos c20] at H
       have c20b0 : decide (x4_2 < (t314.length : Int)) = true := decide_eq_true c20
       clear c20
       (first | rw [c20b0] | (simp only [i64_w, i32_w]; rw [c20b0]) | skip)
       by_cases c21 : 0 ≤ x4_2
       ·rw [if_pos c21] at H
        have c21b0 : decide (0 ≤ x4_2) = true := decide_eq_true c21
        clear c21
        replace H := Option.bind_eq_some_iff.mp H
        obtain ⟨t318, A220, H⟩ := H
        replace H : (if t318 = true then (redpenref15_words.l1 k2 x0_1 t314 (wrap64 (x4_2 + 1))) else (if ((rd_T73 t314 x4_2).f0) = 39 then (redpenref15_words.l1 k2 x0_1 t314 (wrap64 (x4_2 + 1))) else (redpenref15_words.j3 k2 x0_1 t314 x4_2))) = some r := H
        have A22 := Aside0.mk A220
        clear A220
        by_cases c23 : t318 = true
        ·subst c23
         have H1 : (redpenref15_words.l1 k2 x0_1 t314 (wrap64 (x4_2 + 1))) = some r := by rw [if_pos rfl] at H; exact H
         clear H
         have H := H1
         clear H1
         have H' := Aside0.mk H
         clear H
         obtain ⟨Ao24, co24, eo24⟩ := Kd.R_slice HO_3.out
         subst eo24
         have p317 : 0 ≤ (x4_2 : Int) := of_decide_eq_true (by first | (with_reducible assumption) | assumption)
         have q317 : x4_2 < (t314.length : Int) := of_decide_eq_true (by first | (with_reducible assumption) | assumption)
         obtain ⟨ad317, e317, hx317_0, hx317_1, hx317_2⟩ := at_T73 (Kd.R_reads' HO_3.out).2.2 x4_2 p317 q317
         cases e317
         replace p317 := eq_true p317
         replace q317 := eq_true q317
         go_wp2_with (first | (go_at_call 34; (with_reducible refine (redpenref01_Letter.calls ((rd_T73 t314 x4_2).f0) true _ A22.out).mono ?_); rintro e w' ⟨rfl, ⟨nd, rfl⟩⟩))
         go_roundg k2
         case measure => have := HJ1.out; have := HK2.out; omega
         case rel => exact ⟨(wrap64 (x4_2 + 1)), (by first | rfl | (simp; done) | (simp [*]; done) | (simp [wrap64, wrap32]; done)), H', ⟨by have := HJ1.out; have := HK2.out; omega⟩, ⟨by (with_reducible repeat (first | apply Kd.R_alloc | apply Kd.R_drewN | apply Kd.R_drew)); exact HO_3.out⟩, ⟨by repeat (first | (with_reducible first | exact HB.out | apply below_alloc | apply pw_below_drewN | apply below_drew1) | exact HB.out)⟩⟩
        ·replace c23 := Bool.eq_false_iff.mpr c23
         subst c23
         have H1 : (if ((rd_T73 t314 x4_2).f0) = 39 then (redpenref15_words.l1 k2 x0_1 t314 (wrap64 (x4_2 + 1))) else (redpenref15_words.j3 k2 x0_1 t314 x4_2)) = some r := by rw [if_neg (show ¬ (false = true) by decide)] at H; exact H
         clear H
         have H := H1
         clear H1
         by_cases c25 : ((rd_T73 t314 x4_2).f0) = 39
         ·rw [if_pos c25] at H
          have c25b0 : (((rd_T73 t314 x4_2).f0) == 39) = true := beq_iff_eq.mpr c25
          have c25b1 : (((rd_T73 t314 x4_2).f0) != 39) = false := bne_eq_false_iff_eq.mpr c25
          clear c25
          have H' := Aside0.mk H
          clear H
          obtain ⟨Ao26, co26, eo26⟩ := Kd.R_slice HO_3.out
          subst eo26
          have p317 : 0 ≤ (x4_2 : Int) := of_decide_eq_true (by first | (with_reducible assumption) | assumption)
          have q317 : x4_2 < (t314.length : Int) := of_decide_eq_true (by first | (with_reducible assumption) | assumption)
          obtain ⟨ad317, e317, hx317_0, hx317_1, hx317_2⟩ := at_T73 (Kd.R_reads' HO_3.out).2.2 x4_2 p317 q317
          cases e317
          replace p317 := eq_true p317
          replace q317 := eq_true q317
          go_wp2_with (first | (go_at_call 34; (with_reducible refine (redpenref01_Letter.calls ((rd_T73 t314 x4_2).f0) false _ A22.out).mono ?_); rintro e w' ⟨rfl, ⟨nd, rfl⟩⟩; have p319 : 0 ≤ (x4_2 : Int) := of_decide_eq_true (by first | (with_reducible assumption) | assumption); have q319 : x4_2 < (t314.length : Int) := of_decide_eq_true (by first | (with_reducible assumption) | assumption); obtain ⟨ad319, e319, hx319_0, hx319_1, hx319_2⟩ := at_T73 (Kd.R_reads' HO_3.out).2.2 x4_2 p319 q319; obtain rfl : ad317 = ad319 := (by injection e319); replace p319 := eq_true p319; replace q319 := eq_true q319))
          go_roundg k2
          case measure => have := HJ1.out; have := HK2.out; omega
          case rel => exact ⟨(wrap64 (x4_2 + 1)), (by first | rfl | (simp; done) | (simp [*]; done) | (simp [wrap64, wrap32]; done)), H', ⟨by have := HJ1.out; have := HK2.out; omega⟩, ⟨by (with_reducible repeat (first | apply Kd.R_alloc | apply Kd.R_drewN | apply Kd.R_drew)); exact HO_3.out⟩, ⟨by repeat (first | (with_reducible first | exact HB.out | apply below_alloc | apply pw_below_drewN | apply below_drew1) | exact HB.out)⟩⟩
         ·rw [if_neg c25] at H
          have c25b0 : (((rd_T73 t314 x4_2).f0) == 39) = false := beq_eq_false_iff_ne.mpr c25
          have c25b1 : (((rd_T73 t314 x4_2).f0) != 39) = true := bne_iff_ne.mpr c25
          have H' := Aside0.mk H
          clear H
          obtain ⟨Ao27, co27, eo27⟩ := Kd.R_slice HO_3.out
          subst eo27
          have p317 : 0 ≤ (x4_2 : Int) := of_decide_eq_true (by first | (with_reducible assumption) | assumption)
          have q317 : x4_2 < (t314.length : Int) := of_decide_eq_true (by first | (with_reducible assumption) | assumption)
          obtain ⟨ad317, e317, hx317_0, hx317_1, hx317_2⟩ := at_T73 (Kd.R_reads' HO_3.out).2.2 x4_2 p317 q317
          cases e317
          replace p317 := eq_true p317
          replace q317 := eq_true q317
          go_wp2_with (first | (go_at_call 34; (with_reducible refine (redpenref01_Letter.calls ((rd_T73 t314 x4_2).f0) false _ A22.out).mono ?_); rintro e w' ⟨rfl, ⟨nd, rfl⟩⟩; have p319 : 0 ≤ (x4_2 : Int) := of_decide_eq_true (by first | (with_reducible assumption) | assumption); have q319 : x4_2 < (t314.length : Int) := of_decide_eq_true (by first | (with_reducible assumption) | assumption); obtain ⟨ad319, e319, hx319_0, hx319_1, hx319_2⟩ := at_T73 (Kd.R_reads' HO_3.out).2.2 x4_2 p319 q319; obtain rfl : ad317 = ad319 := (by injection e319); replace p319 := eq_true p319; replace q319 := eq_true q319))
          go_meet
          case rel => exact ⟨_, (x4_2), (by first | rfl | (simp; done) | (simp [*]; done) | (simp [wrap64, wrap32]; done)), H', ⟨by have := HJ1.out; have := HK2.out; first | omega | exact Nat.le_refl _⟩, ⟨by (with_reducible repeat (first | apply Kd.R_alloc | apply Kd.R_drewN | apply Kd.R_drew)); exact HO_3.out⟩, ⟨by repeat (first | (with_reducible first | exact HB.out | apply below_alloc | apply pw_below_drewN | apply below_drew1) | exact HB.out)⟩⟩
       ·rw [if_neg c21] at H
        exact absurd H (by simp)
      ·rw [if_neg c20] at H
       have c20b0 : decide (x4_2 < (t314.length : Int)) = false := decide_eq_false c20
       clear c20
       (first | rw [c20b0] | (simp only [i64_w, i32_w]; rw [c20b0]) | skip)
       have H' := Aside0.mk H
       clear H
       obtain ⟨Ao28, co28, eo28⟩ := Kd.R_slice HO_3.out
       subst eo28
       go_wp2
       go_meet
       case rel => exact ⟨_, (x4_2), (by first | rfl | (simp; done) | (simp [*]; done) | (simp [wrap64, wrap32]; done)), H', ⟨by have := HJ1.out; have := HK2.out; first | omega | exact Nat.le_refl _⟩, ⟨by (with_reducible repeat (first | apply Kd.R_alloc | apply Kd.R_drewN | apply Kd.R_drew)); exact HO_3.out⟩, ⟨by repeat (first | (with_reducible first | exact HB.out | apply below_alloc | apply pw_below_drewN | apply below_drew1) | exact HB.out)⟩⟩
   case rest =>
    clear HC16
    (try clear c1); (try clear p1); (try clear q1); (try clear hx1); (try clear qi1); (try clear c2); (try clear p2); (try clear c3); (try clear c3b0); (try clear c3b1); (try clear p3); (try clear q3); (try clear hx3); (try clear c4); (try clear c4b0); (try clear c4b1); (try clear p5); (try clear q5); (try clear hx5); (try clear qi5); (try clear c6); (try clear c6b0); (try clear c6b1); (try clear p6); (try clear c7); (try clear c7b0); (try clear c7b1); (try clear p8); (try clear q8); (try clear hx8); (try clear qi8); (try clear c9); (try clear c9b0); (try clear c9b1); (try clear c10); (try clear c10b0); (try clear c10b1); (try clear p11); (try clear q11); (try clear hx11); (try clear qi11); (try clear c12); (try clear c12b0); (try clear c12b1); (try clear c13); (try clear c13b0); (try clear c13b1); (try clear c20); (try clear c20b0); (try clear c21); (try clear c21b0); (try clear c23); (try clear c24); (try clear c25); (try clear c25b0); (try clear c25b1); (try clear hx317_0); (try clear hx317_1); (try clear hx317_2); (try clear hx319_0); (try clear hx319_1); (try clear hx319_2); (try clear p1); (try clear p11); (try clear p2); (try clear p317); (try clear p319); (try clear p5); (try clear p8); (try clear q1); (try clear q11); (try clear q317); (try clear q319); (try clear q5); (try clear q8)
    obtain ⟨kq, x4_15, rfl, HA, HJ15, HO_3, HB⟩ := hcut
    cases kq with
    | zero => exact absurd HA.out (by simp [redpenref15_words.j3])
    | succ kj15 =>
     have H := HA.out
     clear HA
     simp only [redpenref15_words.j3] at H
     have HC29 := Aside0.mk H
     clear H
     go_upto_if 52 with (fail)
     go_cut [5] (fun v5 wc => ∃ (kq : Nat) (x5_28 : Int), v5 = .int .i64 x5_28 ∧ Aside0 (redpenref15_words.j4 kq x0_1 x5_28 = some r) ∧ Aside0 (kq ≤ kj15) ∧ Aside0 (Below w.heap.size w wc))
     case first =>
      have H := HC29.out
      clear HC29
      by_cases c30 : x4_15 > 0
      ·rw [if_pos c30] at H
       have c30b0 : decide (0 < x4_15) = true := decide_eq_true c30
       clear c30
       (first | rw [c30b0] | (simp only [i64_w, i32_w]; rw [c30b0]) | skip)
       obtain ⟨ji31, hji31⟩ : ∃ j_ : Int, (wrap64 (x4_15 - 1)) = j_ := ⟨_, rfl⟩
       replace H : (if 0 ≤ (ji31) then (if (ji31) < (t314.length : Int) then (redpenref15_words.j4 kj15 x0_1 (wrap64 (((rd_T73 t314 (ji31)).f1.f0) + ((rd_T73 t314 (ji31)).f1.f1)))) else (none)) else (none)) = some r := by first | (rw [hji31] at H; exact H) | (simp only [hji31] at H ⊢; exact H)
       have hji31w : (IntKind.i64.wrap (x4_15 - 1)) = ji31 := (i64_w _).trans hji31
       by_cases c32 : 0 ≤ (ji31)
       ·rw [if_pos c32] at H
        have c32b0 : decide (0 ≤ (ji31)) = true := decide_eq_true c32
        clear c32
        by_cases c33 : (ji31) < (t314.length : Int)
        ·rw [if_pos c33] at H
         have c33b0 : decide ((ji31) < (t314.length : Int)) = true := decide_eq_true c33
         clear c33
         have H' := Aside0.mk H
         clear H
         try go_wp2
         have n0_ := Aside0.mk (Kd.R_drew HO_3.out)
         have n1_ := Aside0.mk (below_drew1 HB.out)
         clear HO_3
         clear HB
         have HO_3 := n0_
         have HB := n1_
         clear n0_ n1_
         obtain ⟨Ao35, co35, eo35⟩ := Kd.R_slice HO_3.out
         (first | subst eo35 | (injection eo35 with f1_ f2_ f3_; have f4_ := f1_.symm; have f5_ := f3_.symm; clear f1_ f2_ f3_; subst f4_; subst f5_))
         have p320 : 0 ≤ ((ji31) : Int) := of_decide_eq_true (by first | (with_reducible assumption) | assumption)
         have q320 : (ji31) < (t314.length : Int) := of_decide_eq_true (by first | (with_reducible assumption) | assumption)
         obtain ⟨ad320, e320, hx320_0, hx320_1, hx320_2⟩ := at_T73 (Kd.R_reads' HO_3.out).2.2 (ji31) p320 q320
         cases e320
         replace p320 := eq_true p320
         replace q320 := eq_true q320
         have p321 : 0 ≤ ((ji31) : Int) := of_decide_eq_true (by first | (with_reducible assumption) | assumption)
         have q321 : (ji31) < (t314.length : Int) := of_decide_eq_true (by first | (with_reducible assumption) | assumption)
         obtain ⟨ad321, e321, hx321_0, hx321_1, hx321_2⟩ := at_T73 (Kd.R_reads' HO_3.out).2.2 (ji31) p321 q321
         obtain rfl : ad320 = ad321 := (by injection e321)
         replace p321 := eq_true p321
         replace q321 := eq_true q321
         refine start_ (n := 16) (S := fun w' => w'.cell? (ad320.add (((ji31)).toNat * 3)) = some (.int .i32 ((rd_T73 t314 (ji31)).f0)) ∧ w'.cell? ⟨(ad320.add (((ji31)).toNat * 3)).block, (ad320.add (((ji31)).toNat * 3)).off + 1, none⟩ = some (.int .i64 ((rd_T73 t314 (ji31)).f1.f0)) ∧ w'.cell? ⟨(ad320.add (((ji31)).toNat * 3)).block, (ad320.add (((ji31)).toNat * 3)).off + 2, none⟩ = some (.int .i64 ((rd_T73 t314 (ji31)).f1.f1)) ∧ w'.cell? (ad320.add (((ji31)).toNat * 3)) = some (.int .i32 ((rd_T73 t314 (ji31)).f0)) ∧ w'.cell? ⟨(ad320.add (((ji31)).toNat * 3)).block, (ad320.add (((ji31)).toNat * 3)).off + 1, none⟩ = some (.int .i64 ((rd_T73 t314 (ji31)).f1.f0)) ∧ w'.cell? ⟨(ad320.add (((ji31)).toNat * 3)).block, (ad320.add (((ji31)).toNat * 3)).off + 2, none⟩ = some (.int .i64 ((rd_T73 t314 (ji31)).f1.f1))) (ds := []) (bs 16 0) (by kernel_rfl) rfl rfl ⟨hx320_0, hx320_1, hx320_2, hx321_0, hx321_1, hx321_2⟩ (fun hHeld => ?_); refine with_tabW redpenref15_words.tab9 redpenref15_words.bits9 (fun HT_ HW_ => ?_)
         generalize wc.drew = w34 at HO_3 HB hx320_0 hx320_1 hx320_2 hx321_0 hx321_1 hx321_2 hHeld ⊢
         refine pu_ 0 (some 53) ?_ (bs 16 1) HT_.out (by kernel_rfl) rfl rfl (fun _ _ _ h => h) (Or.inl ⟨by rfl, ?_⟩) ?_ ?_ ?_; rotate_left; (· intro w'; go_simp; with_reducible rfl); rotate_left; (· simp only [Act.put, sit, scz, scs, i64_w, i32_w]; rfl)
         refine pu_ 1 (some 54) ?_ (bs 16 3) HT_.out (by kernel_rfl) rfl rfl (fun _ _ _ h => h) (Or.inl ⟨by rfl, ?_⟩) ?_ ?_ ?_; rotate_left; (· intro w'; go_simp; with_reducible rfl); rotate_left; (· simp only [Act.put, sit, scz, scs, i64_w, i32_w]; rfl)
         refine pu_ 2 (some 55) ?_ (bs 16 7) HT_.out (by kernel_rfl) rfl rfl (fun _ _ _ h => h) (Or.inl ⟨by rfl, ?_⟩) ?_ ?_ ?_; rotate_left; (· intro w'; go_simp; with_reducible rfl); rotate_left; (· simp only [Act.put, sit, scz, scs, i64_w, i32_w]; rfl)
         refine pu_ 3 (some 56) ?_ (bs 16 15) HT_.out (by kernel_rfl) rfl rfl (fun _ _ _ h => h) (Or.inl ⟨by rfl, ?_⟩) ?_ ?_ ?_; rotate_left; (· intro w'; go_simp; with_reducible rfl); rotate_left; (· simp only [Act.put, sit, scz, scs, i64_w, i32_w]; rfl)
         refine pu_ 4 (some 57) ?_ (bs 16 31) HT_.out (by kernel_rfl) rfl rfl (fun _ _ _ h => h) (Or.inl ⟨by rfl, ?_⟩) ?_ ?_ ?_; rotate_left; (· intro w'; go_simp; with_reducible rfl); rotate_left; (· simp only [Act.put, sit, scz, scs, i64_w, i32_w]; rfl)
         refine pu_ 5 (some 58) ?_ (bs 16 63) HT_.out (by kernel_rfl) rfl rfl (fun _ _ _ h => h) (Or.inl ⟨by rfl, ?_⟩) ?_ ?_ ?_; rotate_left; (· intro w'; go_simp; with_reducible rfl); rotate_left; (· simp only [Act.put, sit, scz, scs, i64_w, i32_w]; rfl)
         refine pu_ 7 (some 60) ?_ (bs 16 191) HT_.out (by kernel_rfl) rfl rfl (fun _ _ _ h => h) (Or.inl ⟨by rfl, ?_⟩) ?_ ?_ ?_; rotate_left; (· intro w'; go_simp; with_reducible rfl); rotate_left; (· simp only [Act.put, sit, scz, scs, i64_w, i32_w]; rfl)
         refine pu_ 8 (some 61) ?_ (bs 16 447) HT_.out (by kernel_rfl) rfl rfl (fun _ _ _ h => h) (Or.inl ⟨by rfl, ?_⟩) ?_ ?_ ?_; rotate_left; (· intro w'; go_simp; with_reducible rfl); rotate_left; (· simp only [Act.put, sit, scz, scs, i64_w, i32_w]; rfl)
         refine pu_ 9 (some 62) ?_ (bs 16 959) HT_.out (by kernel_rfl) rfl rfl (fun _ _ _ h => h) (Or.inl ⟨by rfl, ?_⟩) ?_ ?_ ?_; rotate_left; (· intro w'; go_simp; with_reducible rfl); rotate_left; (· simp only [Act.put, sit, scz, scs, i64_w, i32_w]; rfl)
         refine pu_ 10 (some 63) ?_ (bs 16 1983) HT_.out (by kernel_rfl) rfl rfl (fun _ _ _ h => h) (Or.inl ⟨by rfl, ?_⟩) ?_ ?_ ?_; rotate_left; (· intro w'; go_simp; with_reducible rfl); rotate_left; (· simp only [Act.put, sit, scz, scs, i64_w, i32_w]; rfl)
         refine pu_ 11 (some 64) ?_ (bs 16 4031) HT_.out (by kernel_rfl) rfl rfl (fun _ _ _ h => h) (Or.inl ⟨by rfl, ?_⟩) ?_ ?_ ?_; rotate_left; (· intro w'; go_simp; with_reducible rfl); rotate_left; (· simp only [Act.put, sit, scz, scs, i64_w, i32_w]; rfl)
         refine pu_ 12 (some 65) ?_ (bs 16 8127) HT_.out (by kernel_rfl) rfl rfl (fun _ _ _ h => h) (Or.inl ⟨by rfl, ?_⟩) ?_ ?_ ?_; rotate_left; (· intro w'; go_simp; with_reducible rfl); rotate_left; (· simp only [Act.put, sit, scz, scs, i64_w, i32_w]; rfl)
         refine take_ (i := 6) (N := some 59) (v := ?_) (a' := ?_) (bs 16 8191) rfl rfl (take_ofW HT_.out HW_.out (by kernel_rfl)) (fun _ _ _ h => h) (Or.inl ⟨by rfl, ?_⟩) hHeld ?_ ?_; rotate_left; (· rintro w' ⟨s0, s1, s2, s3, s4, s5⟩; go_simp; with_reducible rfl); rotate_left; (· simp only [Act.put, sit, scz, scs, i64_w, i32_w]; rfl)
         refine take_ (i := 13) (N := some 66) (v := ?_) (a' := ?_) (bs 16 16383) rfl rfl (take_ofW HT_.out HW_.out (by kernel_rfl)) (fun _ _ _ h => h) (Or.inl ⟨by rfl, ?_⟩) hHeld ?_ ?_; rotate_left; (· rintro w' ⟨s0, s1, s2, s3, s4, s5⟩; go_simp; with_reducible rfl); rotate_left; (· simp only [Act.put, sit, scz, scs, i64_w, i32_w]; rfl)
         refine pu_ 14 (some 67) ?_ (bs 16 32767) HT_.out (by kernel_rfl) rfl rfl (fun _ _ _ h => h) (Or.inl ⟨by rfl, ?_⟩) ?_ ?_ ?_; rotate_left; (· intro w'; go_simp; with_reducible rfl); rotate_left; (· simp only [Act.put, sit, scz, scs, i64_w, i32_w]; rfl)
         refine pu_ 15 (some 5) ?_ (bs 16 65535) HT_.out (by kernel_rfl) rfl rfl (fun _ _ _ h => h) (Or.inl ⟨by rfl, ?_⟩) ?_ ?_ ?_; rotate_left; (· intro w'; go_simp; with_reducible rfl); rotate_left; (· simp only [Act.put, sit, scz, scs, i64_w, i32_w]; rfl)
         refine done_ (done_of HT_.out (by kernel_rfl)) ?_
         try go_wp2
         go_meet
         case rel => exact ⟨_, (wrap64 (((rd_T73 t314 (ji31)).f1.f0) + ((rd_T73 t314 (ji31)).f1.f1))), (by first | rfl | (simp; done) | (simp only [← hji31] <;> (first | rfl | simp)) | (simp [*]; done)), (by first | exact H' | (rw [hji31]; exact H') | (simp only [hji31]; exact H')), ⟨by have := HJ1.out; have := HJ15.out; first | omega | exact Nat.le_refl _⟩, ⟨by repeat (first | (with_reducible first | exact HB.out | apply below_alloc | apply pw_below_drewN | apply below_drew1) | exact HB.out)⟩⟩
        ·rw [if_neg c33] at H
         exact absurd H (by simp)
       ·rw [if_neg c32] at H
        exact absurd H (by simp)
      ·rw [if_neg c30] at H
       have c30b0 : decide (0 < x4_15) = false := decide_eq_false c30
       clear c30
       (first | rw [c30b0] | (simp only [i64_w, i32_w]; rw [c30b0]) | skip)
       have H' := Aside0.mk H
       clear H
       go_wp2
       go_meet
       case rel => exact ⟨_, (0), (by first | rfl | (simp; done) | (simp [*]; done) | (simp [wrap64, wrap32]; done)), H', ⟨by have := HJ1.out; have := HJ15.out; first | omega | exact Nat.le_refl _⟩, ⟨by repeat (first | (with_reducible first | exact HB.out | apply below_alloc | apply pw_below_drewN | apply below_drew1) | exact HB.out)⟩⟩
     case rest =>
      clear HC29
      (try clear c1); (try clear p1); (try clear q1); (try clear hx1); (try clear qi1); (try clear c2); (try clear p2); (try clear c3); (try clear c3b0); (try clear c3b1); (try clear p3); (try clear q3); (try clear hx3); (try clear c4); (try clear c4b0); (try clear c4b1); (try clear p5); (try clear q5); (try clear hx5); (try clear qi5); (try clear c6); (try clear c6b0); (try clear c6b1); (try clear p6); (try clear c7); (try clear c7b0); (try clear c7b1); (try clear p8); (try clear q8); (try clear hx8); (try clear qi8); (try clear c9); (try clear c9b0); (try clear c9b1); (try clear c10); (try clear c10b0); (try clear c10b1); (try clear p11); (try clear q11); (try clear hx11); (try clear qi11); (try clear c12); (try clear c12b0); (try clear c12b1); (try clear c13); (try clear c13b0); (try clear c13b1); (try clear c20); (try clear c20b0); (try clear c21); (try clear c21b0); (try clear c23); (try clear c24); (try clear c25); (try clear c25b0); (try clear c25b1); (try clear c30); (try clear c30b0); (try clear p31); (try clear q31); (try clear hx31); (try clear c32); (try clear c32b0); (try clear p32); (try clear q32); (try clear hx32); (try clear c33); (try clear c33b0); (try clear hx317_0); (try clear hx317_1); (try clear hx317_2); (try clear hx319_0); (try clear hx319_1); (try clear hx319_2); (try clear hx320_0); (try clear hx320_1); (try clear hx320_2); (try clear hx321_0); (try clear hx321_1); (try clear hx321_2); (try clear p1); (try clear p11); (try clear p2); (try clear p3); (try clear p317); (try clear p319); (try clear p320); (try clear p321); (try clear p5); (try clear p6); (try clear p8); (try clear q1); (try clear q11); (try clear q3); (try clear q317); (try clear q319); (try clear q320); (try clear q321); (try clear q5); (try clear q8)
      obtain ⟨kq, x5_28, rfl, HA, HJ28, HB⟩ := hcut
      cases kq with
      | zero => exact absurd HA.out (by simp [redpenref15_words.j4])
      | succ kj28 =>
       have H := HA.out
       clear HA
       simp only [redpenref15_words.j4] at H
       by_cases c36 : 0 ≤ x5_28
       ·rw [if_pos c36] at H
        have c36b0 := eq_true c36
        have c36b1 : decide (0 ≤ x5_28) = true := decide_eq_true c36
        clear c36
        by_cases c37 : x5_28 ≤ (x0_1.size : Int)
        ·rw [if_pos c37] at H
         have c37b0 := eq_true c37
         have c37b1 : decide (x5_28 ≤ (x0_1.size : Int)) = true := decide_eq_true c37
         clear c37
         replace H := Option.bind_eq_some_iff.mp H
         obtain ⟨t322, A380, H⟩ := H
         replace H : (if t322 = 0 then ((redpenref01_Fold.f kj28 (x0_1.extract 0 (x5_28 : Int).toNat)).bind fun t323 => ((some (([t323] : List ByteArray) : List ByteArray)).bind fun y324 => ((redpenref15_words.f kj28 (x0_1.extract (x5_28 : Int).toNat x0_1.size)).bind fun t327 => (if y324.length + t327.length < 8796093022208 then (some (y324 ++ t327)) else (none))))) else (some ([] : List ByteArray))) = some r := H
         have A38 := Aside0.mk A380
         clear A380
         by_cases c39 : t322 = 0
         ·rw [if_pos c39] at H
          have c39b0 : (t322 == 0) = true := beq_iff_eq.mpr c39
          have c39b1 : (t322 != 0) = false := bne_eq_false_iff_eq.mpr c39
          clear c39
          have c40b0 := eq_true (of_decide_eq_true (by first | (with_reducible assumption) | assumption) : 0 ≤ x5_28)
          have c41b0 := eq_true (of_decide_eq_true (by first | (with_reducible assumption) | assumption) : x5_28 ≤ (x0_1.size : Int))
          replace H := Option.bind_eq_some_iff.mp H
          obtain ⟨t323, A420, H⟩ := H
          replace H : ((some (([t323] : List ByteArray) : List ByteArray)).bind fun y324 => ((redpenref15_words.f kj28 (x0_1.extract (x5_28 : Int).toNat x0_1.size)).bind fun t327 => (if y324.length + t327.length < 8796093022208 then (some (y324 ++ t327)) else (none)))) = some r := H
          have A42 := Aside0.mk A420
          clear A420
          obtain ⟨y324, hy324⟩ : ∃ y_ : List ByteArray, y_ = (([t323] : List ByteArray)) := ⟨_, rfl⟩
          replace H : ((redpenref15_words.f kj28 (x0_1.extract (x5_28 : Int).toNat x0_1.size)).bind fun t327 => (if y324.length + t327.length < 8796093022208 then (some (y324 ++ t327)) else (none))) = some r := by first | (rw [hy324]; with_reducible exact H) | (have H2_ := (Option.bind_some _ _).symm.trans H; rw [hy324]; with_reducible exact H2_) | (have H2_ := (Option.bind_some _ _).symm.trans H; with_reducible exact H2_) | with_reducible exact H | (rw [hy324]; exact H) | exact H
          have Ny324 := Aside0.mk hy324
          clear hy324
          have c43b0 := eq_true (of_decide_eq_true (by first | (with_reducible assumption) | assumption) : 0 ≤ x5_28)
          have c44b0 := eq_true (of_decide_eq_true (by first | (with_reducible assumption) | assumption) : x5_28 ≤ (x0_1.size : Int))
          replace H := Option.bind_eq_some_iff.mp H
          obtain ⟨t327, A450, H⟩ := H
          replace H : (if y324.length + t327.length < 8796093022208 then (some (y324 ++ t327)) else (none)) = some r := H
          have A45 := Aside0.mk A450
          clear A450
          by_cases c46 : y324.length + t327.length < 8796093022208
          ·rw [if_pos c46] at H
           have LMc46 := Aside0.mk c46
           clear c46
           obtain ⟨y330, hy330⟩ : ∃ y_ : List ByteArray, y_ = (y324 ++ t327) := ⟨_, rfl⟩
           replace H : (some y330) = some r := by first | (rw [hy330]; with_reducible exact H) | (have H2_ := (Option.bind_some _ _).symm.trans H; rw [hy330]; with_reducible exact H2_) | (have H2_ := (Option.bind_some _ _).symm.trans H; with_reducible exact H2_) | with_reducible exact H | (rw [hy330]; exact H) | exact H
           have Ny330 := Aside0.mk hy330
           clear hy330
           obtain rfl := Option.some.inj H
           try go_wp2_with (first | ((with_reducible refine gate_callee (f := 35) rfl ?_); refine goesL_ (some 71) rfl rfl Tryd.func35 (by kernel_rfl) rfl #[.string (x0_1.extract 0 (x5_28 : Int).toNat)] rfl (by (try simp only [List.map_toArray, List.map_cons, List.map_nil]); first | done | rfl | (simp only [List.length_drop, List.length_take]; rfl)) ?_; (with_reducible refine (redpenref06_Check.calls kj28 (x0_1.extract 0 (x5_28 : Int).toNat) t322 _ A38.out).mono ?_); rintro e w47 ⟨rfl, hb⟩; refine ⟨_, rfl, ?_⟩; have n0_ := Aside0.mk (below_step (by repeat (first | (with_reducible first | exact HB.out | apply below_alloc | apply pw_below_drewN | apply below_drew1) | exact HB.out)) hb); clear HB; have HB := n0_; clear n0_; (try clear hb); (try clear hb2); (try clear hk); (try clear hi)))
           have n0_ := Aside0.mk (below_drew1 HB.out)
           clear HB
           have HB := n0_
           clear n0_
           refine start_ (n := 11) (S := fun w' => True) (ds := []) (bs 11 0) (by kernel_rfl) rfl rfl trivial (fun hHeld => ?_); refine with_tabW redpenref15_words.tab12 redpenref15_words.bits12 (fun HT_ HW_ => ?_)
           generalize w47.drew = w48 at HB hHeld ⊢
           refine pu_ 0 (some 73) ?_ (bs 11 1) HT_.out (by kernel_rfl) rfl rfl (fun _ _ _ h => h) (Or.inl ⟨by rfl, ?_⟩) ?_ ?_ ?_; rotate_left; (· intro w'; go_simp; with_reducible rfl); rotate_left; (· simp only [Act.put, sit, scz, scs, i64_w, i32_w]; rfl)
           refine pu_ 1 (some 74) ?_ (bs 11 3) HT_.out (by kernel_rfl) rfl rfl (fun _ _ _ h => h) (Or.inl ⟨by rfl, ?_⟩) ?_ ?_ ?_; rotate_left; (· intro w'; go_simp; with_reducible rfl); rotate_left; (· simp only [Act.put, sit, scz, scs, i64_w, i32_w]; rfl)
           refine pu_ 2 (some 75) ?_ (bs 11 7) HT_.out (by kernel_rfl) rfl rfl (fun _ _ _ h => h) (Or.inl ⟨by rfl, ?_⟩) ?_ ?_ ?_; rotate_left; (· intro w'; go_simp; with_reducible rfl); rotate_left; (· simp only [Act.put, sit, scz, scs, i64_w, i32_w]; rfl)
           refine pu_ 5 (some 78) ?_ (bs 11 39) HT_.out (by kernel_rfl) rfl rfl (fun _ _ _ h => h) (Or.inl ⟨by rfl, ?_⟩) ?_ ?_ ?_; rotate_left; (· intro w'; go_simp; with_reducible rfl); rotate_left; (· simp only [Act.put, sit, scz, scs, i64_w, i32_w]; rfl)
           refine pu_ 6 (some 79) ?_ (bs 11 103) HT_.out (by kernel_rfl) rfl rfl (fun _ _ _ h => h) (Or.inl ⟨by rfl, ?_⟩) ?_ ?_ ?_; rotate_left; (· intro w'; go_simp; with_reducible rfl); rotate_left; (· simp only [Act.put, sit, scz, scs, i64_w, i32_w]; rfl)
           refine pu_ 7 (some 80) ?_ (bs 11 231) HT_.out (by kernel_rfl) rfl rfl (fun _ _ _ h => h) (Or.inl ⟨by rfl, ?_⟩) ?_ ?_ ?_; rotate_left; (· intro w'; go_simp; with_reducible rfl); rotate_left; (· simp only [Act.put, sit, scz, scs, i64_w, i32_w]; rfl)
           refine one_ (i := 3) (N := some 76) (bs 11 239) rfl rfl (one_of HT_.out (by kernel_rfl)) (by decide) (fun K hK => ?_)
           refine goes_ Tryd.func26 (by kernel_rfl) rfl #[.string (x0_1.extract 0 (x5_28 : Int).toNat)] (by rfl) rfl rfl (by (try simp only [List.map_toArray, List.map_cons, List.map_nil]); first | done | rfl | (simp only [List.length_drop, List.length_take]; rfl)) ?_
           with_reducible refine (redpenref01_Fold.calls kj28 (x0_1.extract 0 (x5_28 : Int).toNat) t323 _ A42.out).mono ?_
           rintro e w49 ⟨rfl, hb⟩
           refine ⟨_, rfl, ?_⟩
           have n0_ := Aside0.mk (below_step (by repeat (first | (with_reducible first | exact HB.out | apply below_alloc | apply pw_below_drewN | apply below_drew1) | exact HB.out)) hb)
           clear HB
           have HB := n0_
           clear n0_
           (try clear hb)
           (try clear hb2)
           (try clear hk)
           (try clear hi)
           refine hK.out _ _ trivial (fun hHeld => ?_)
           clear hK K
           refine norm_ (a' := ?_) ?_ ?_
           rotate_left
           ·show Act.put _ (some 76) _ = _
            simp only [Act.put, List.setIfInBounds_toArray, List.set_cons_zero, List.set_cons_succ, i64_w, i32_w]
            rfl
           refine join_ (σ := Value × Value) 2 (bs 11 511) (fun s_ => [(77, s_.1), (81, s_.2)]) (fun s_ w' => (Kd.R Kd.string 9 w' w.heap.size (fun k_ => some k_ ≠ (s_.2 : Value).ownBlock) s_.1 y324) ∧ (Kd.R Kd.string 9 w' w.heap.size (fun k_ => some k_ ≠ (s_.1 : Value).ownBlock) s_.2 t327) ∧ (Below w.heap.size w w')) ?_ ?_
           rotate_left
           ·intro hCont
            refine two_ (i := 4) (j := 8) (Ni := some 77) (Nj := some 81) (bs 11 255) (bs 11 495) rfl rfl rfl rfl (two_of HT_.out (by kernel_rfl)) (by decide) (by decide) (fun K hK => ?_) (fun K hK => ?_)
            ·skip
             refine Kd.R_lit_step Kd.string _ 9 ?hg (N := 77) ?hd (xs := ([t323] : List ByteArray)) (inner := [.string t323]) (ok := fun _ => True) (okp := fun _ => True) ?hr ?hp (fun _ hk => hk) trivial (Below.refl _ _) (Nat.le_refl _) (by simp) ?_; (case hd => rfl); (case hg => rfl); (case hr => first | (go_simp; done) | (go_simp; rfl)); (case hp => exact (Reps.one (show Kd.M Kd.string _ _ _ t323 [.string t323] from rfl) (Reps.none _ _)))
             intro v325 w50 ho51 hb hg_ hnew_
             clear hg_ hnew_
             (first | rw [← Ny324.out] at ho51 | (simp only [Int.reduceToNat] at ho51; rw [← Ny324.out] at ho51))
             have n0_ := Aside0.mk (Kd.R_lower ho51 (below_size (by repeat (first | (with_reducible first | exact HB.out | apply below_alloc | apply pw_below_drewN | apply below_drew1) | exact HB.out))))
             have n1_ := Aside0.mk (below_step (by repeat (first | (with_reducible first | exact HB.out | apply below_alloc | apply pw_below_drewN | apply below_drew1) | exact HB.out)) hb)
             clear HB
             have HO326 := n0_
             have HB := n1_
             clear n0_ n1_
             clear hb ho51
             refine hK.out _ _ trivial (fun hHeld => ?_)
             clear hK K
             refine norm_ (a' := ?_) ?_ ?_
             rotate_left
             ·show Act.put _ (some 77) _ = _
              simp only [Act.put, List.setIfInBounds_toArray, List.set_cons_zero, List.set_cons_succ, i64_w, i32_w]
              rfl
             refine one_ (i := 8) (N := some 81) (bs 11 511) rfl rfl (one_of HT_.out (by kernel_rfl)) (by decide) (fun K hK => ?_)
             refine goes_ Tryd.func24 (by kernel_rfl) rfl #[.string (x0_1.extract (x5_28 : Int).toNat x0_1.size)] (by rfl) rfl rfl (by (try simp only [List.map_toArray, List.map_cons, List.map_nil]); first | done | rfl | (simp only [List.length_drop, List.length_take]; rfl)) ?_
             with_reducible refine (ih kj28 (by have := HJ1.out; have := HJ15.out; have := HJ28.out; omega) (x0_1.extract (x5_28 : Int).toNat x0_1.size) t327 _ A45.out).mono ?_
             rintro e w52 ⟨v328, rfl, ho0, hb⟩
             refine ⟨_, rfl, ?_⟩
             have n0_ := Aside0.mk (Kd.R_elder' (by (with_reducible repeat (first | apply Kd.R_alloc | apply Kd.R_drewN | apply Kd.R_drew)); exact HO326.out) (Kd.R_base ho0) hb)
             have n1_ := Aside0.mk (Kd.R_lower (Kd.R_new' ho0 (Kd.R_lt (by (with_reducible repeat (first | apply Kd.R_alloc | apply Kd.R_drewN | apply Kd.R_drew)); exact HO326.out))) (below_size (by repeat (first | (with_reducible first | exact HB.out | apply below_alloc | apply pw_below_drewN | apply below_drew1) | exact HB.out))))
             have n2_ := Aside0.mk (below_step (by repeat (first | (with_reducible first | exact HB.out | apply below_alloc | apply pw_below_drewN | apply below_drew1) | exact HB.out)) hb)
             clear HO326
             clear HB
             have HO326 := n0_
             have HO329 := n1_
             have HB := n2_
             clear n0_ n1_ n2_
             (try clear hb)
             (try clear hb2)
             (try clear hk)
             (try clear hi)
             (try clear ho0)
             refine hK.out _ _ trivial (fun hHeld => ?_)
             clear hK K
             refine norm_ (a' := ?_) ?_ ?_
             rotate_left
             ·show Act.put _ (some 81) _ = _
              simp only [Act.put, List.setIfInBounds_toArray, List.set_cons_zero, List.set_cons_succ, i64_w, i32_w]
              rfl
             exact norm_ (by simp only [putAll, Act.put, List.setIfInBounds_toArray, List.set_cons_zero, List.set_cons_succ]) (hCont (v325, v328) _ ⟨(by (with_reducible repeat (first | apply Kd.R_alloc | apply Kd.R_drewN | apply Kd.R_drew)); exact Kd.R_mono HO326.out (fun _ hk => hk.2)), (by (with_reducible repeat (first | apply Kd.R_alloc | apply Kd.R_drewN | apply Kd.R_drew)); exact Kd.R_mono HO329.out (fun _ hk => hk.2)), (by repeat (first | (with_reducible first | exact HB.out | apply below_alloc | apply pw_below_drewN | apply below_drew1) | exact HB.out))⟩)
            ·skip
             refine goes_ Tryd.func24 (by kernel_rfl) rfl #[.string (x0_1.extract (x5_28 : Int).toNat x0_1.size)] (by rfl) rfl rfl (by (try simp only [List.map_toArray, List.map_cons, List.map_nil]); first | done | rfl | (simp only [List.length_drop, List.length_take]; rfl)) ?_
             with_reducible refine (ih kj28 (by have := HJ1.out; have := HJ15.out; have := HJ28.out; omega) (x0_1.extract (x5_28 : Int).toNat x0_1.size) t327 _ A45.out).mono ?_
             rintro e w50 ⟨v328, rfl, ho0, hb⟩
             refine ⟨_, rfl, ?_⟩
             have n0_ := Aside0.mk (Kd.R_lower ho0 (below_size (by repeat (first | (with_reducible first | exact HB.out | apply below_alloc | apply pw_below_drewN | apply below_drew1) | exact HB.out))))
             have n1_ := Aside0.mk (below_step (by repeat (first | (with_reducible first | exact HB.out | apply below_alloc | apply pw_below_drewN | apply below_drew1) | exact HB.out)) hb)
             clear HB
             have HO329 := n0_
             have HB := n1_
             clear n0_ n1_
             (try clear hb)
             (try clear hb2)
             (try clear hk)
             (try clear hi)
             (try clear ho0)
             refine hK.out _ _ trivial (fun hHeld => ?_)
             clear hK K
             refine norm_ (a' := ?_) ?_ ?_
             rotate_left
             ·show Act.put _ (some 81) _ = _
              simp only [Act.put, List.setIfInBounds_toArray, List.set_cons_zero, List.set_cons_succ, i64_w, i32_w]
              rfl
             refine one_ (i := 4) (N := some 77) (bs 11 511) rfl rfl (one_of HT_.out (by kernel_rfl)) (by decide) (fun K hK => ?_)
             refine Kd.R_lit_step Kd.string _ 9 ?hg (N := 77) ?hd (xs := ([t323] : List ByteArray)) (inner := [.string t323]) (ok := fun _ => True) (okp := fun _ => True) ?hr ?hp (fun _ hk => hk) trivial (Below.refl _ _) (Nat.le_refl _) (by simp) ?_; (case hd => rfl); (case hg => rfl); (case hr => first | (go_simp; done) | (go_simp; rfl)); (case hp => exact (Reps.one (show Kd.M Kd.string _ _ _ t323 [.string t323] from rfl) (Reps.none _ _)))
             intro v325 w51 ho52 hb hg_ hnew_
             clear hg_ hnew_
             (first | rw [← Ny324.out] at ho52 | (simp only [Int.reduceToNat] at ho52; rw [← Ny324.out] at ho52))
             have n0_ := Aside0.mk (Kd.R_elder' (by (with_reducible repeat (first | apply Kd.R_alloc | apply Kd.R_drewN | apply Kd.R_drew)); exact HO329.out) (Kd.R_base ho52) hb)
             have n1_ := Aside0.mk (Kd.R_lower (Kd.R_new' ho52 (Kd.R_lt (by (with_reducible repeat (first | apply Kd.R_alloc | apply Kd.R_drewN | apply Kd.R_drew)); exact HO329.out))) (below_size (by repeat (first | (with_reducible first | exact HB.out | apply below_alloc | apply pw_below_drewN | apply below_drew1) | exact HB.out))))
             have n2_ := Aside0.mk (below_step (by repeat (first | (with_reducible first | exact HB.out | apply below_alloc | apply pw_below_drewN | apply below_drew1) | exact HB.out)) hb)
             clear HO329
             clear HB
             have HO329 := n0_
             have HO326 := n1_
             have HB := n2_
             clear n0_ n1_ n2_
             clear hb ho52
             refine hK.out _ _ trivial (fun hHeld => ?_)
             clear hK K
             refine norm_ (a' := ?_) ?_ ?_
             rotate_left
             ·show Act.put _ (some 77) _ = _
              simp only [Act.put, List.setIfInBounds_toArray, List.set_cons_zero, List.set_cons_succ, i64_w, i32_w]
              rfl
             exact norm_ (by simp only [putAll, Act.put, List.setIfInBounds_toArray, List.set_cons_zero, List.set_cons_succ]) (hCont (v325, v328) _ ⟨(by (with_reducible repeat (first | apply Kd.R_alloc | apply Kd.R_drewN | apply Kd.R_drew)); exact Kd.R_mono HO326.out (fun _ hk => hk.2)), (by (with_reducible repeat (first | apply Kd.R_alloc | apply Kd.R_drewN | apply Kd.R_drew)); exact Kd.R_mono HO329.out (fun _ hk => hk.2)), (by repeat (first | (with_reducible first | exact HB.out | apply below_alloc | apply pw_below_drewN | apply below_drew1) | exact HB.out))⟩)
           rintro ⟨v325, v328⟩ w53 ⟨h0_, h1_, h2_⟩
           have n0_ : Aside0 (Kd.R Kd.string 9 w53 w.heap.size (fun k_ => some k_ ≠ (v328 : Value).ownBlock) v325 y324) := ⟨h0_⟩
           have n1_ : Aside0 (Kd.R Kd.string 9 w53 w.heap.size (fun k_ => some k_ ≠ (v325 : Value).ownBlock) v328 t327) := ⟨h1_⟩
           have n2_ : Aside0 (Below w.heap.size w w53) := ⟨h2_⟩
           clear HB
           clear h0_ h1_ h2_
           have HO326 := n0_
           have HO329 := n1_
           have HB := n2_
           clear n0_ n1_ n2_
           have hHeld := trivial
           obtain ⟨Ao55, co55, eo55⟩ := Kd.R_slice HO329.out
           (first | subst eo55 | (injection eo55 with f1_ f2_ f3_; have f4_ := f1_.symm; have f5_ := f3_.symm; clear f1_ f2_ f3_; subst f4_; subst f5_))
           refine norm_ (a' := ?_) ?_ ?_
           rotate_left
           ·simp only [putAll, Act.put, List.setIfInBounds_toArray, List.set_cons_zero, List.set_cons_succ]
            rfl
           refine one_ (i := 9) (N := some 82) (bs 11 1023) rfl rfl (one_of HT_.out (by kernel_rfl)) (by decide) (fun K hK => ?_)
           refine Kd.R_append_rows_step Kd.string (w0 := w) w.heap.size (by rfl) (.tmp 77) (.tmp 81) 33 9 (.string ⟨#[]⟩) 16 rfl Tryd.underlying33 info9 rfl (by decide) (by omega) v325 y324 t327 _ _ _ (fun k_ => some k_ ≠ (.slice Ao55 t327.length co55 : Value).ownBlock) (fun _ => False) rfl rfl ?aO ?aR (fun _ _ h => h) (fun _ h => h.elim) ?aF ?aB ?aS ?aL ?_
           (case aR => repeat (first | exact (Kd.R_reads' HO329.out).2.2 | (with_reducible refine Kd.C_alloc ?_ _) | (with_reducible refine Kd.C_drewN ?_ _) | (with_reducible refine Kd.C_drew ?_)))
           (case aB => exact (by repeat (first | (with_reducible first | exact HB.out | apply below_alloc | apply pw_below_drewN | apply below_drew1) | exact HB.out)))
           (case aF => exact (fun k_ hk => Kd.fresh' (Kd.R_lt (by (with_reducible repeat (first | apply Kd.R_alloc | apply Kd.R_drewN | apply Kd.R_drew)); exact HO329.out)) k_ hk))
           (case aO => exact (by (with_reducible repeat (first | apply Kd.R_alloc | apply Kd.R_drewN | apply Kd.R_drew)); exact HO326.out))
           (case aS => exact (below_size (by repeat (first | (with_reducible first | exact HB.out | apply below_alloc | apply pw_below_drewN | apply below_drew1) | exact HB.out))))
           (case aL => have := LMc46.out; omega)
           intro v331 w54 ho hb hg hat
           rw [← Ny330.out] at ho
           have n0_ := Aside0.mk (Kd.R_after (ok := (fun _ => True)) (by (with_reducible repeat (first | apply Kd.R_alloc | apply Kd.R_drewN | apply Kd.R_drew)); exact Kd.R_mono HO329.out (fun _ hk => ⟨trivial, hk⟩)) hg hat)
           have n1_ := Aside0.mk (hb)
           have n2_ := Aside0.mk (ho)
           clear HO329
           clear HB
           clear HO326
           have HO329 := n0_
           have HB := n1_
           have HO332 := n2_
           clear n0_ n1_ n2_
           clear ho hb hg hat
           refine hK.out _ _ trivial (fun hHeld => ?_)
           clear hK K
           refine norm_ (a' := ?_) ?_ ?_
           rotate_left
           ·show Act.put _ (some 82) _ = _
            simp only [Act.put, List.setIfInBounds_toArray, List.set_cons_zero, List.set_cons_succ, i64_w, i32_w]
            rfl
           refine pu_ 10 (some 2) ?_ (bs 11 2047) HT_.out (by kernel_rfl) rfl rfl (fun _ _ _ h => h) (Or.inl ⟨by rfl, ?_⟩) ?_ ?_ ?_; rotate_left; (· intro w'; go_simp; with_reducible rfl); rotate_left; (· simp only [Act.put, sit, scz, scs, i64_w, i32_w]; rfl)
           refine done_ (done_of HT_.out (by kernel_rfl)) ?_
           try go_wp2
           go_ret
           exact ⟨_, by first | rfl | (simp [errW_none, errW_some] <;> rfl) | (simp [*, errW_none, errW_some] <;> rfl), by (with_reducible repeat (first | apply Kd.R_alloc | apply Kd.R_drewN | apply Kd.R_drew)); exact Kd.R_mono HO332.out (fun _ hk => trivial), by repeat (first | (with_reducible first | exact HB.out | apply below_alloc | apply pw_below_drewN | apply below_drew1) | exact HB.out)⟩
          ·rw [if_neg c46] at H
           exact absurd H (by simp)
         ·rw [if_neg c39] at H
          have c39b0 : (t322 == 0) = false := beq_eq_false_iff_ne.mpr c39
          have c39b1 : (t322 != 0) = true := bne_iff_ne.mpr c39
          obtain rfl := Option.some.inj H
          go_wp2_with (first | ((with_reducible refine gate_callee (f := 35) rfl ?_); refine goesL_ (some 71) rfl rfl Tryd.func35 (by kernel_rfl) rfl #[.string (x0_1.extract 0 (x5_28 : Int).toNat)] rfl (by (try simp only [List.map_toArray, List.map_cons, List.map_nil]); first | done | rfl | (simp only [List.length_drop, List.length_take]; rfl)) ?_; (with_reducible refine (redpenref06_Check.calls kj28 (x0_1.extract 0 (x5_28 : Int).toNat) t322 _ A38.out).mono ?_); rintro e w56 ⟨rfl, hb⟩; refine ⟨_, rfl, ?_⟩; have n0_ := Aside0.mk (below_step (by repeat (first | (with_reducible first | exact HB.out | apply below_alloc | apply pw_below_drewN | apply below_drew1) | exact HB.out)) hb); clear HB; have HB := n0_; clear n0_; (try clear hb); (try clear hb2); (try clear hk); (try clear hi)))
          go_ret
          exact ⟨_, by first | rfl | (simp [errW_none, errW_some] <;> rfl) | (simp [*, errW_none, errW_some] <;> rfl), by first | exact Kd.R_nil _ _ _ _ _ | exact Kd.N_nil _ _ _ _ _ | exact Kd.V_nil _ _ _ _ _ | exact Kd.Q_nil _ _ _ _ _ | exact Kd.S_nil _ _ _ _ _, by repeat (first | (with_reducible first | exact HB.out | apply below_alloc | apply pw_below_drewN | apply below_drew1) | exact HB.out)⟩
        ·rw [if_neg c37] at H
         exact absurd H (by simp)
       ·rw [if_neg c36] at H
        exact absurd H (by simp)
end Go.Proofs.YtkflgnhcfhmkdaaDoor.PPragmaReads
