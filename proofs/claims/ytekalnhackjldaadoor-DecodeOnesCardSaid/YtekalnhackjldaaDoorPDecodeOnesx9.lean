-- x
import Derived.Test.YtekalnhackjldaaDoorPDecodeOnesx0
import Derived.Test.YtekalnhackjldaaDoorPDecodeOnesx7
namespace Go.Proofs.YtekalnhackjldaaDoor.PDecodeOnes
open Go.RowKit Go.Proofs.YtekalnhackjldaaDoor.X Go.Proofs.YtekalnhackjldaaDoorW.PrintWords Go.Proofs.YtekalnhackjldaaDoorW.PrintLast Go.Proofs.YtekalnhackjldaaDoorW.PrintMore
attribute [local go_sem] max2_int min2_int max_two min_two max_three min_three max_four min_four   -- for this text's walks alone
set_option linter.unusedVariables false
set_option linter.unusedSimpArgs false

/-! ### redpenref15_Escape: function 15 -/
mutual
def redpenref15_Escape.j0 : Nat → Int → List Int → Bool → Option (Int × Int × Bool)
 | 0, _, _, _ => none
 | k + 1, x0, x1, x24 => if x24 = true then (some (0, 0, false)) else (if 1 < (x1.length : Int) then (if x0 = 7 then (if (rd x1 1) = 34 then (some (wrap32 (rd x1 1), 2, true)) else (if (rd x1 1) = 92 then (some (wrap32 (rd x1 1), 2, true)) else (if (rd x1 1) = 36 then (some (wrap32 (rd x1 1), 2, true)) else (if (rd x1 1) = 96 then (some (wrap32 (rd x1 1), 2, true)) else (some (0, 0, false)))))) else (if (rd x1 1) = 110 then (some (10, 2, true)) else (if (rd x1 1) = 114 then (some (13, 2, true)) else (if (rd x1 1) = 116 then (some (9, 2, true)) else (if (rd x1 1) = 120 then (redpenref15_Escape.j1 k x1 2) else (if (rd x1 1) = 117 then (redpenref15_Escape.j1 k x1 4) else (if (rd x1 1) = 85 then (redpenref15_Escape.j1 k x1 8) else (some (wrap32 (rd x1 1), 2, true))))))))) else (none))
def redpenref15_Escape.j1 : Nat → List Int → Int → Option (Int × Int × Bool)
 | 0, _, _ => none
 | k + 1, x1, x8 => if (x1.length : Int) < (wrap64 (2 + x8)) then (some (0, 0, false)) else (if 2 ≤ (wrap64 (2 + x8)) then (if (wrap64 (2 + x8)) ≤ (x1.length : Int) then ((redpenref15_number.f k (strOfNums ((x1.take ((wrap64 (2 + x8)) : Int).toNat).drop 2)) 16).bind fun t194 => ((redpenref15_valid.f t194).bind fun t195 => (if t195 = true then (some (wrap32 (t194), wrap64 (2 + x8), true)) else (some (0, 0, false))))) else (none)) else (none))
end
def redpenref15_Escape.f (k : Nat) (a0 : Int) (l1 : List Int) : Option (Int × Int × Bool) := if (l1.length : Int) < 2 then (redpenref15_Escape.j0 k a0 l1 true) else (if 0 < (l1.length : Int) then (if (rd l1 0) = 92 then (if 1 < (l1.length : Int) then (redpenref15_Escape.j0 k a0 l1 (decide ((rd l1 1) > 127))) else (none)) else (redpenref15_Escape.j0 k a0 l1 true)) else (none))
theorem redpenref15_Escape.mono_l : ∀ k, (∀ y0 y1 y2, LeO (redpenref15_Escape.j0 k y0 y1 y2) (redpenref15_Escape.j0 (k + 1) y0 y1 y2)) ∧ (∀ y0 y1, LeO (redpenref15_Escape.j1 k y0 y1) (redpenref15_Escape.j1 (k + 1) y0 y1))
 | 0 => ⟨fun _ _ _ r h => by simp [redpenref15_Escape.j0] at h, fun _ _ r h => by simp [redpenref15_Escape.j1] at h⟩
 | k + 1 => by
  obtain ⟨ih0, ih1⟩ := redpenref15_Escape.mono_l k
  refine ⟨?_, ?_⟩
  ·intro y0 y1 y2
   unfold redpenref15_Escape.j0
   repeat' first
   | (with_reducible exact ih0 _ _ _)
   | (with_reducible exact ih1 _ _)
   | (with_reducible exact redpenref15_number.mono _ _ _)
   | (with_reducible exact LeO.refl _)
   | (with_reducible exact LeO.none _)
   | (with_reducible refine LeO.ite ?_ ?_)
   | (with_reducible refine LeO.bind ?_ (fun _ => ?_))
   | exact ih0 _ _ _
   | exact ih1 _ _
   | exact redpenref15_number.mono _ _ _
   | exact LeO.none _
   | refine LeO.ite ?_ ?_
   | refine LeO.bind ?_ (fun _ => ?_)
  ·intro y0 y1
   unfold redpenref15_Escape.j1
   repeat' first
   | (with_reducible exact ih0 _ _ _)
   | (with_reducible exact ih1 _ _)
   | (with_reducible exact redpenref15_number.mono _ _ _)
   | (with_reducible exact LeO.refl _)
   | (with_reducible exact LeO.none _)
   | (with_reducible refine LeO.ite ?_ ?_)
   | (with_reducible refine LeO.bind ?_ (fun _ => ?_))
   | exact ih0 _ _ _
   | exact ih1 _ _
   | exact redpenref15_number.mono _ _ _
   | exact LeO.none _
   | refine LeO.ite ?_ ?_
   | refine LeO.bind ?_ (fun _ => ?_)
theorem redpenref15_Escape.mono : ∀ a0 a1 k, LeO (redpenref15_Escape.f k a0 a1) (redpenref15_Escape.f (k + 1) a0 a1) := by
 intro a0 a1 k
 obtain ⟨ih0, ih1⟩ := redpenref15_Escape.mono_l k
 unfold redpenref15_Escape.f
 repeat' first
   | (with_reducible exact ih0 _ _ _)
   | (with_reducible exact ih1 _ _)
   | (with_reducible exact redpenref15_number.mono _ _ _)
   | (with_reducible exact LeO.refl _)
   | (with_reducible exact LeO.none _)
   | (with_reducible refine LeO.ite ?_ ?_)
   | (with_reducible refine LeO.bind ?_ (fun _ => ?_))
   | exact ih0 _ _ _
   | exact ih1 _ _
   | exact redpenref15_number.mono _ _ _
   | exact LeO.none _
   | refine LeO.ite ?_ ?_
   | refine LeO.bind ?_ (fun _ => ?_)
set_option maxHeartbeats 8000000 in
set_option maxRecDepth 100000 in
theorem redpenref15_Escape.calls (k : Nat) (a0 : Int) (A1 : Option Addr) (c1 : Nat) (l1 : List Int) (r1 : Int) (r2 : Int) (r3 : Bool) (w : World) (hr1 : Kd.C (Kd.int .u8) w A1 l1.length l1) (hc1 : l1.length ≤ c1) (h : redpenref15_Escape.f k a0 l1 = some (r1, r2, r3)) :
  Calls Tryd.prog 15 #[.int .u8 a0, .slice A1 l1.length c1] w fun e w' => e = .returned (.tuple #[.int .i32 r1, .int .i64 r2, .bool r3]) ∧ Drawn0 w w' := by
 have HR1 := Aside0.mk hr1
 have HC1 := Aside0.mk hc1
 clear hr1 hc1
 have H : (if (l1.length : Int) < 2 then (redpenref15_Escape.j0 k a0 l1 true) else (if 0 < (l1.length : Int) then (if (rd l1 0) = 92 then (if 1 < (l1.length : Int) then (redpenref15_Escape.j0 k a0 l1 (decide ((rd l1 1) > 127))) else (none)) else (redpenref15_Escape.j0 k a0 l1 true)) else (none))) = some (r1, r2, r3) := h
 clear h
 have HC3 := Aside0.mk H
 clear H
 go_enter Tryd.func15, Tryd.ntmps15
 go_upto_region 1 with (fail)
 go_cut [24] (fun v24 wc => ∃ (kq : Nat) (x24_2 : Bool), v24 = .bool x24_2 ∧ Aside0 (redpenref15_Escape.j0 kq a0 l1 x24_2 = some (r1, r2, r3)) ∧ Aside0 (kq ≤ k) ∧ Drawn0 w wc)
 case first =>
  have H := HC3.out
  clear HC3
  by_cases c4 : (l1.length : Int) < 2
  ·rw [if_pos c4] at H
   have c4b0 : decide ((l1.length : Int) < 2) = true := decide_eq_true c4
   have c4b1 : decide (l1.length < 2) = true := decide_eq_true (by omega)
   clear c4
   (first | rw [c4b0] | (simp only [i64_w, i32_w]; rw [c4b0]) | skip)
   have H' := Aside0.mk H
   clear H
   go_wp2
   go_meet
   case rel => exact ⟨_, (true), (by first | rfl | (simp; done) | (simp [*]; done) | (simp [wrap64, wrap32]; done)), H', ⟨by first | omega | exact Nat.le_refl _⟩, by repeat (first | exact Drawn0.refl _ | apply Drawn0.step)⟩
  ·rw [if_neg c4] at H
   have c4b0 : decide ((l1.length : Int) < 2) = false := decide_eq_false c4
   have c4b1 : decide (l1.length < 2) = false := decide_eq_false (by omega)
   clear c4
   (first | rw [c4b0] | (simp only [i64_w, i32_w]; rw [c4b0]) | skip)
   by_cases c5 : 0 < (l1.length : Int)
   ·rw [if_pos c5] at H
    have c5b0 : decide (0 < (l1.length : Int)) = true := decide_eq_true c5
    have c5b1 : decide (0 < l1.length) = true := decide_eq_true (by omega)
    clear c5
    by_cases c6 : (rd l1 0) = 92
    ·rw [if_pos c6] at H
     have c6b0 : ((rd l1 0) == 92) = true := beq_iff_eq.mpr c6
     have c6b1 : ((rd l1 0) != 92) = false := bne_eq_false_iff_eq.mpr c6
     clear c6
     by_cases c7 : 1 < (l1.length : Int)
     ·rw [if_pos c7] at H
      have c7b0 : decide (1 < (l1.length : Int)) = true := decide_eq_true c7
      have c7b1 : decide (1 < l1.length) = true := decide_eq_true (by omega)
      clear c7
      have H' := Aside0.mk H
      clear H
      have p187 : 0 ≤ (0 : Int) := (by omega)
      have q187 : 0 < (l1.length : Int) := of_decide_eq_true (by first | (with_reducible assumption) | assumption)
      obtain ⟨ad187, e187, hx187_0⟩ := Kd.at_int HR1.out 0 p187 q187
      cases e187
      have qi187 : (0 < l1.length) = True := eq_true (by omega)
      (try rw [show ((0 : Int)).toNat = 0 from rfl] at hx187_0)
      (try rw [Addr.add_zero'] at hx187_0)
      replace p187 := eq_true p187
      replace q187 := eq_true q187
      have p188 : 0 ≤ (1 : Int) := (by omega)
      have q188 : 1 < (l1.length : Int) := of_decide_eq_true (by first | (with_reducible assumption) | assumption)
      obtain ⟨ad188, e188, hx188_0⟩ := Kd.at_int HR1.out 1 p188 q188
      obtain rfl : ad187 = ad188 := (by injection e188)
      (try simp only [show (1 : Int).toNat = 1 from rfl, Nat.reduceMul, Nat.reduceEqDiff, Go.Addr.add, ↓reduceIte] at hx188_0)
      have qi188 : (1 < l1.length) = True := eq_true (by omega)
      (try rw [show ((1 : Int)).toNat = 1 from rfl] at hx188_0)
      replace p188 := eq_true p188
      replace q188 := eq_true q188
      go_wp2
      go_meet
      case rel => exact ⟨_, (decide ((rd l1 1) > 127)), (by first | rfl | (simp; done) | (simp [*]; done) | (simp [wrap64, wrap32]; done)), H', ⟨by first | omega | exact Nat.le_refl _⟩, by repeat (first | exact Drawn0.refl _ | apply Drawn0.step)⟩
     ·rw [if_neg c7] at H
      exact absurd H (by simp)
    ·rw [if_neg c6] at H
     have c6b0 : ((rd l1 0) == 92) = false := beq_eq_false_iff_ne.mpr c6
     have c6b1 : ((rd l1 0) != 92) = true := bne_iff_ne.mpr c6
     have H' := Aside0.mk H
     clear H
     have p187 : 0 ≤ (0 : Int) := (by omega)
     have q187 : 0 < (l1.length : Int) := of_decide_eq_true (by first | (with_reducible assumption) | assumption)
     obtain ⟨ad187, e187, hx187_0⟩ := Kd.at_int HR1.out 0 p187 q187
     cases e187
     have qi187 : (0 < l1.length) = True := eq_true (by omega)
     (try rw [show ((0 : Int)).toNat = 0 from rfl] at hx187_0)
     (try rw [Addr.add_zero'] at hx187_0)
     replace p187 := eq_true p187
     replace q187 := eq_true q187
     go_wp2
     go_meet
     case rel => exact ⟨_, (true), (by first | rfl | (simp; done) | (simp [*]; done) | (simp [wrap64, wrap32]; done)), H', ⟨by first | omega | exact Nat.le_refl _⟩, by repeat (first | exact Drawn0.refl _ | apply Drawn0.step)⟩
   ·rw [if_neg c5] at H
    exact absurd H (by simp)
 case rest =>
  clear HC3
  try clear c1
  try clear p1
  try clear q1
  try clear hx1
  try clear qi1
  try clear p2
  try clear c4
  try clear c4b0
  try clear c4b1
  try clear c5
  try clear c5b0
  try clear c5b1
  try clear c6
  try clear c6b0
  try clear c6b1
  try clear c7
  try clear c7b0
  try clear c7b1
  try clear hx187_0
  try clear hx188_0
  try clear p187
  try clear p188
  try clear q187
  try clear q188
  obtain ⟨kq, x24_2, rfl, HA, HJ2, ⟨mc2, rfl⟩⟩ := hcut
  cases kq with
  | zero => exact absurd HA.out (by simp [redpenref15_Escape.j0])
  | succ kj2 =>
   have H := HA.out
   clear HA
   simp only [redpenref15_Escape.j0] at H
   by_cases c8 : x24_2 = true
   ·subst c8
    have H1 : (some (0, 0, false)) = some (r1, r2, r3) := by rw [if_pos rfl] at H; exact H
    clear H
    have H := H1
    clear H1
    simp only [Option.some.injEq, Prod.mk.injEq] at H
    obtain ⟨rfl, rfl, rfl⟩ := H
    go_wp2
    go_ret3
    exact ⟨by first | rfl | (simp; done) | (simp [*]; done) | (simp [wrap64, wrap32]; done), by repeat (first | exact Drawn0.refl _ | apply Drawn0.step)⟩
   ·replace c8 := Bool.eq_false_iff.mpr c8
    subst c8
    have H1 : (if 1 < (l1.length : Int) then (if a0 = 7 then (if (rd l1 1) = 34 then (some (wrap32 (rd l1 1), 2, true)) else (if (rd l1 1) = 92 then (some (wrap32 (rd l1 1), 2, true)) else (if (rd l1 1) = 36 then (some (wrap32 (rd l1 1), 2, true)) else (if (rd l1 1) = 96 then (some (wrap32 (rd l1 1), 2, true)) else (some (0, 0, false)))))) else (if (rd l1 1) = 110 then (some (10, 2, true)) else (if (rd l1 1) = 114 then (some (13, 2, true)) else (if (rd l1 1) = 116 then (some (9, 2, true)) else (if (rd l1 1) = 120 then (redpenref15_Escape.j1 kj2 l1 2) else (if (rd l1 1) = 117 then (redpenref15_Escape.j1 kj2 l1 4) else (if (rd l1 1) = 85 then (redpenref15_Escape.j1 kj2 l1 8) else (some (wrap32 (rd l1 1), 2, true))))))))) else (none)) = some (r1, r2, r3) := by rw [if_neg (show ¬ (false = true) by decide)] at H; exact H
    clear H
    have H := H1
    clear H1
    by_cases c9 : 1 < (l1.length : Int)
    ·rw [if_pos c9] at H
     have c9b0 : decide (1 < (l1.length : Int)) = true := decide_eq_true c9
     have c9b1 : decide (1 < l1.length) = true := decide_eq_true (by omega)
     clear c9
     by_cases c10 : a0 = 7
     ·rw [if_pos c10] at H
      have c10b0 : (a0 == 7) = true := beq_iff_eq.mpr c10
      have c10b1 : (a0 != 7) = false := bne_eq_false_iff_eq.mpr c10
      clear c10
      by_cases c11 : (rd l1 1) = 34
      ·rw [if_pos c11] at H
       have c11b0 : ((rd l1 1) == 34) = true := beq_iff_eq.mpr c11
       have c11b1 : ((rd l1 1) != 34) = false := bne_eq_false_iff_eq.mpr c11
       clear c11
       simp only [Option.some.injEq, Prod.mk.injEq] at H
       obtain ⟨rfl, rfl, rfl⟩ := H
       have p189 : 0 ≤ (1 : Int) := (by omega)
       have q189 : 1 < (l1.length : Int) := of_decide_eq_true (by first | (with_reducible assumption) | assumption)
       obtain ⟨ad189, e189, hx189_0⟩ := Kd.at_int HR1.out 1 p189 q189
       cases e189
       (try simp only [show (1 : Int).toNat = 1 from rfl, Nat.reduceMul, Nat.reduceEqDiff, Go.Addr.add, ↓reduceIte] at hx189_0)
       have qi189 : (1 < l1.length) = True := eq_true (by omega)
       (try rw [show ((1 : Int)).toNat = 1 from rfl] at hx189_0)
       replace p189 := eq_true p189
       replace q189 := eq_true q189
       go_wp2
       go_ret3
       exact ⟨by first | rfl | (simp; done) | (simp [*]; done) | (simp [wrap64, wrap32]; done), by repeat (first | exact Drawn0.refl _ | apply Drawn0.step)⟩
      ·rw [if_neg c11] at H
       have c11b0 : ((rd l1 1) == 34) = false := beq_eq_false_iff_ne.mpr c11
       have c11b1 : ((rd l1 1) != 34) = true := bne_iff_ne.mpr c11
       by_cases c12 : (rd l1 1) = 92
       ·rw [if_pos c12] at H
        have c12b0 : ((rd l1 1) == 92) = true := beq_iff_eq.mpr c12
        have c12b1 : ((rd l1 1) != 92) = false := bne_eq_false_iff_eq.mpr c12
        clear c12
        simp only [Option.some.injEq, Prod.mk.injEq] at H
        obtain ⟨rfl, rfl, rfl⟩ := H
        have p189 : 0 ≤ (1 : Int) := (by omega)
        have q189 : 1 < (l1.length : Int) := of_decide_eq_true (by first | (with_reducible assumption) | assumption)
        obtain ⟨ad189, e189, hx189_0⟩ := Kd.at_int HR1.out 1 p189 q189
        cases e189
        (try simp only [show (1 : Int).toNat = 1 from rfl, Nat.reduceMul, Nat.reduceEqDiff, Go.Addr.add, ↓reduceIte] at hx189_0)
        have qi189 : (1 < l1.length) = True := eq_true (by omega)
        (try rw [show ((1 : Int)).toNat = 1 from rfl] at hx189_0)
        replace p189 := eq_true p189
        replace q189 := eq_true q189
        go_wp2
        go_ret3
        exact ⟨by first | rfl | (simp; done) | (simp [*]; done) | (simp [wrap64, wrap32]; done), by repeat (first | exact Drawn0.refl _ | apply Drawn0.step)⟩
       ·rw [if_neg c12] at H
        have c12b0 : ((rd l1 1) == 92) = false := beq_eq_false_iff_ne.mpr c12
        have c12b1 : ((rd l1 1) != 92) = true := bne_iff_ne.mpr c12
        by_cases c13 : (rd l1 1) = 36
        ·rw [if_pos c13] at H
         have c13b0 : ((rd l1 1) == 36) = true := beq_iff_eq.mpr c13
         have c13b1 : ((rd l1 1) != 36) = false := bne_eq_false_iff_eq.mpr c13
         clear c13
         simp only [Option.some.injEq, Prod.mk.injEq] at H
         obtain ⟨rfl, rfl, rfl⟩ := H
         have p189 : 0 ≤ (1 : Int) := (by omega)
         have q189 : 1 < (l1.length : Int) := of_decide_eq_true (by first | (with_reducible assumption) | assumption)
         obtain ⟨ad189, e189, hx189_0⟩ := Kd.at_int HR1.out 1 p189 q189
         cases e189
         (try simp only [show (1 : Int).toNat = 1 from rfl, Nat.reduceMul, Nat.reduceEqDiff, Go.Addr.add, ↓reduceIte] at hx189_0)
         have qi189 : (1 < l1.length) = True := eq_true (by omega)
         (try rw [show ((1 : Int)).toNat = 1 from rfl] at hx189_0)
         replace p189 := eq_true p189
         replace q189 := eq_true q189
         go_wp2
         go_ret3
         exact ⟨by first | rfl | (simp; done) | (simp [*]; done) | (simp [wrap64, wrap32]; done), by repeat (first | exact Drawn0.refl _ | apply Drawn0.step)⟩
        ·rw [if_neg c13] at H
         have c13b0 : ((rd l1 1) == 36) = false := beq_eq_false_iff_ne.mpr c13
         have c13b1 : ((rd l1 1) != 36) = true := bne_iff_ne.mpr c13
         by_cases c14 : (rd l1 1) = 96
         ·rw [if_pos c14] at H
          have c14b0 : ((rd l1 1) == 96) = true := beq_iff_eq.mpr c14
          have c14b1 : ((rd l1 1) != 96) = false := bne_eq_false_iff_eq.mpr c14
          clear c14
          simp only [Option.some.injEq, Prod.mk.injEq] at H
          obtain ⟨rfl, rfl, rfl⟩ := H
          have p189 : 0 ≤ (1 : Int) := (by omega)
          have q189 : 1 < (l1.length : Int) := of_decide_eq_true (by first | (with_reducible assumption) | assumption)
          obtain ⟨ad189, e189, hx189_0⟩ := Kd.at_int HR1.out 1 p189 q189
          cases e189
          (try simp only [show (1 : Int).toNat = 1 from rfl, Nat.reduceMul, Nat.reduceEqDiff, Go.Addr.add, ↓reduceIte] at hx189_0)
          have qi189 : (1 < l1.length) = True := eq_true (by omega)
          (try rw [show ((1 : Int)).toNat = 1 from rfl] at hx189_0)
          replace p189 := eq_true p189
          replace q189 := eq_true q189
          go_wp2
          go_ret3
          exact ⟨by first | rfl | (simp; done) | (simp [*]; done) | (simp [wrap64, wrap32]; done), by repeat (first | exact Drawn0.refl _ | apply Drawn0.step)⟩
         ·rw [if_neg c14] at H
          have c14b0 : ((rd l1 1) == 96) = false := beq_eq_false_iff_ne.mpr c14
          have c14b1 : ((rd l1 1) != 96) = true := bne_iff_ne.mpr c14
          simp only [Option.some.injEq, Prod.mk.injEq] at H
          obtain ⟨rfl, rfl, rfl⟩ := H
          have p189 : 0 ≤ (1 : Int) := (by omega)
          have q189 : 1 < (l1.length : Int) := of_decide_eq_true (by first | (with_reducible assumption) | assumption)
          obtain ⟨ad189, e189, hx189_0⟩ := Kd.at_int HR1.out 1 p189 q189
          cases e189
          (try simp only [show (1 : Int).toNat = 1 from rfl, Nat.reduceMul, Nat.reduceEqDiff, Go.Addr.add, ↓reduceIte] at hx189_0)
          have qi189 : (1 < l1.length) = True := eq_true (by omega)
          (try rw [show ((1 : Int)).toNat = 1 from rfl] at hx189_0)
          replace p189 := eq_true p189
          replace q189 := eq_true q189
          go_wp2
          go_ret3
          exact ⟨by first | rfl | (simp; done) | (simp [*]; done) | (simp [wrap64, wrap32]; done), by repeat (first | exact Drawn0.refl _ | apply Drawn0.step)⟩
     ·rw [if_neg c10] at H
      have c10b0 : (a0 == 7) = false := beq_eq_false_iff_ne.mpr c10
      have c10b1 : (a0 != 7) = true := bne_iff_ne.mpr c10
      have HC15 := Aside0.mk H
      clear H
      have p189 : 0 ≤ (1 : Int) := (by omega)
      have q189 : 1 < (l1.length : Int) := of_decide_eq_true (by first | (with_reducible assumption) | assumption)
      obtain ⟨ad189, e189, hx189_0⟩ := Kd.at_int HR1.out 1 p189 q189
      cases e189
      (try simp only [show (1 : Int).toNat = 1 from rfl, Nat.reduceMul, Nat.reduceEqDiff, Go.Addr.add, ↓reduceIte] at hx189_0)
      have qi189 : (1 < l1.length) = True := eq_true (by omega)
      (try rw [show ((1 : Int)).toNat = 1 from rfl] at hx189_0)
      replace p189 := eq_true p189
      replace q189 := eq_true q189
      go_upto_block 0 with (fail)
      go_cut [8] (fun v8 wc => ∃ (kq : Nat) (x8_14 : Int), v8 = .int .i64 x8_14 ∧ Aside0 (redpenref15_Escape.j1 kq l1 x8_14 = some (r1, r2, r3)) ∧ Aside0 (kq ≤ kj2) ∧ Drawn0 w wc)
      case first =>
       have H := HC15.out
       clear HC15
       by_cases c16 : (rd l1 1) = 110
       ·rw [if_pos c16] at H
        have c16b0 : ((rd l1 1) == 110) = true := beq_iff_eq.mpr c16
        have c16b1 : ((rd l1 1) != 110) = false := bne_eq_false_iff_eq.mpr c16
        clear c16
        (first | rw [c16b0] | (simp only [i64_w, i32_w]; rw [c16b0]) | skip)
        simp only [Option.some.injEq, Prod.mk.injEq] at H
        obtain ⟨rfl, rfl, rfl⟩ := H
        go_wp2
        go_ret3
        exact ⟨by first | rfl | (simp; done) | (simp [*]; done) | (simp [wrap64, wrap32]; done), by repeat (first | exact Drawn0.refl _ | apply Drawn0.step)⟩
       ·rw [if_neg c16] at H
        have c16b0 : ((rd l1 1) == 110) = false := beq_eq_false_iff_ne.mpr c16
        have c16b1 : ((rd l1 1) != 110) = true := bne_iff_ne.mpr c16
        (first | rw [c16b0] | (simp only [i64_w, i32_w]; rw [c16b0]) | skip)
        by_cases c17 : (rd l1 1) = 114
        ·rw [if_pos c17] at H
         have c17b0 : ((rd l1 1) == 114) = true := beq_iff_eq.mpr c17
         have c17b1 : ((rd l1 1) != 114) = false := bne_eq_false_iff_eq.mpr c17
         clear c17
         simp only [Option.some.injEq, Prod.mk.injEq] at H
         obtain ⟨rfl, rfl, rfl⟩ := H
         go_wp2
         go_ret3
         exact ⟨by first | rfl | (simp; done) | (simp [*]; done) | (simp [wrap64, wrap32]; done), by repeat (first | exact Drawn0.refl _ | apply Drawn0.step)⟩
        ·rw [if_neg c17] at H
         have c17b0 : ((rd l1 1) == 114) = false := beq_eq_false_iff_ne.mpr c17
         have c17b1 : ((rd l1 1) != 114) = true := bne_iff_ne.mpr c17
         by_cases c18 : (rd l1 1) = 116
         ·rw [if_pos c18] at H
          have c18b0 : ((rd l1 1) == 116) = true := beq_iff_eq.mpr c18
          have c18b1 : ((rd l1 1) != 116) = false := bne_eq_false_iff_eq.mpr c18
          clear c18
          simp only [Option.some.injEq, Prod.mk.injEq] at H
          obtain ⟨rfl, rfl, rfl⟩ := H
          go_wp2
          go_ret3
          exact ⟨by first | rfl | (simp; done) | (simp [*]; done) | (simp [wrap64, wrap32]; done), by repeat (first | exact Drawn0.refl _ | apply Drawn0.step)⟩
         ·rw [if_neg c18] at H
          have c18b0 : ((rd l1 1) == 116) = false := beq_eq_false_iff_ne.mpr c18
          have c18b1 : ((rd l1 1) != 116) = true := bne_iff_ne.mpr c18
          by_cases c19 : (rd l1 1) = 120
          ·rw [if_pos c19] at H
           have c19b0 : ((rd l1 1) == 120) = true := beq_iff_eq.mpr c19
           have c19b1 : ((rd l1 1) != 120) = false := bne_eq_false_iff_eq.mpr c19
           clear c19
           have H' := Aside0.mk H
           clear H
           go_wp2
           go_meet
           case rel => exact ⟨_, (2), (by first | rfl | (simp; done) | (simp [*]; done) | (simp [wrap64, wrap32]; done)), H', ⟨by have := HJ2.out; first | omega | exact Nat.le_refl _⟩, by repeat (first | exact Drawn0.refl _ | apply Drawn0.step)⟩
          ·rw [if_neg c19] at H
           have c19b0 : ((rd l1 1) == 120) = false := beq_eq_false_iff_ne.mpr c19
           have c19b1 : ((rd l1 1) != 120) = true := bne_iff_ne.mpr c19
           by_cases c20 : (rd l1 1) = 117
           ·rw [if_pos c20] at H
            have c20b0 : ((rd l1 1) == 117) = true := beq_iff_eq.mpr c20
            have c20b1 : ((rd l1 1) != 117) = false := bne_eq_false_iff_eq.mpr c20
            clear c20
            have H' := Aside0.mk H
            clear H
            go_wp2
            go_meet
            case rel => exact ⟨_, (4), (by first | rfl | (simp; done) | (simp [*]; done) | (simp [wrap64, wrap32]; done)), H', ⟨by have := HJ2.out; first | omega | exact Nat.le_refl _⟩, by repeat (first | exact Drawn0.refl _ | apply Drawn0.step)⟩
           ·rw [if_neg c20] at H
            have c20b0 : ((rd l1 1) == 117) = false := beq_eq_false_iff_ne.mpr c20
            have c20b1 : ((rd l1 1) != 117) = true := bne_iff_ne.mpr c20
            by_cases c21 : (rd l1 1) = 85
            ·rw [if_pos c21] at H
             have c21b0 : ((rd l1 1) == 85) = true := beq_iff_eq.mpr c21
             have c21b1 : ((rd l1 1) != 85) = false := bne_eq_false_iff_eq.mpr c21
             clear c21
             have H' := Aside0.mk H
             clear H
             go_wp2
             go_meet
             case rel => exact ⟨_, (8), (by first | rfl | (simp; done) | (simp [*]; done) | (simp [wrap64, wrap32]; done)), H', ⟨by have := HJ2.out; first | omega | exact Nat.le_refl _⟩, by repeat (first | exact Drawn0.refl _ | apply Drawn0.step)⟩
            ·rw [if_neg c21] at H
             have c21b0 : ((rd l1 1) == 85) = false := beq_eq_false_iff_ne.mpr c21
             have c21b1 : ((rd l1 1) != 85) = true := bne_iff_ne.mpr c21
             simp only [Option.some.injEq, Prod.mk.injEq] at H
             obtain ⟨rfl, rfl, rfl⟩ := H
             go_wp2
             go_ret3
             exact ⟨by first | rfl | (simp; done) | (simp [*]; done) | (simp [wrap64, wrap32]; done), by repeat (first | exact Drawn0.refl _ | apply Drawn0.step)⟩
      case rest =>
       clear HC15
       try clear c1
       try clear p1
       try clear q1
       try clear hx1
       try clear qi1
       try clear c2
       try clear p2
       try clear p3
       try clear c4
       try clear c4b0
       try clear c4b1
       try clear c5
       try clear c5b0
       try clear c5b1
       try clear c6
       try clear c6b0
       try clear c6b1
       try clear c7
       try clear c7b0
       try clear c7b1
       try clear c8
       try clear c9
       try clear c9b0
       try clear c9b1
       try clear c10
       try clear c10b0
       try clear c10b1
       try clear c11
       try clear c11b0
       try clear c11b1
       try clear c12
       try clear c12b0
       try clear c12b1
       try clear c13
       try clear c13b0
       try clear c13b1
       try clear c14
       try clear c14b0
       try clear c14b1
       try clear c15
       try clear c16
       try clear c16b0
       try clear c16b1
       try clear c17
       try clear c17b0
       try clear c17b1
       try clear c18
       try clear c18b0
       try clear c18b1
       try clear p18
       try clear q18
       try clear hx18
       try clear qi18
       try clear c19
       try clear c19b0
       try clear c19b1
       try clear c20
       try clear c20b0
       try clear c20b1
       try clear c21
       try clear c21b0
       try clear c21b1
       try clear hx187_0
       try clear hx188_0
       try clear hx189_0
       try clear p1
       try clear p187
       try clear p188
       try clear p189
       try clear p2
       try clear q1
       try clear q187
       try clear q188
       try clear q189
       obtain ⟨kq, x8_14, rfl, HA, HJ14, ⟨mc14, rfl⟩⟩ := hcut
       cases kq with
       | zero => exact absurd HA.out (by simp [redpenref15_Escape.j1])
       | succ kj14 =>
        have H := HA.out
        clear HA
        simp only [redpenref15_Escape.j1] at H
        by_cases c22 : (l1.length : Int) < (wrap64 (2 + x8_14))
        ·rw [if_pos c22] at H
         have c22b0 : decide ((l1.length : Int) < (wrap64 (2 + x8_14))) = true := decide_eq_true c22
         clear c22
         simp only [Option.some.injEq, Prod.mk.injEq] at H
         obtain ⟨rfl, rfl, rfl⟩ := H
         go_wp2
         go_ret3
         exact ⟨by first | rfl | (simp; done) | (simp [*]; done) | (simp [wrap64, wrap32]; done), by repeat (first | exact Drawn0.refl _ | apply Drawn0.step)⟩
        ·rw [if_neg c22] at H
         have c22b0 : decide ((l1.length : Int) < (wrap64 (2 + x8_14))) = false := decide_eq_false c22
         clear c22
         by_cases c23 : 2 ≤ (wrap64 (2 + x8_14))
         ·rw [if_pos c23] at H
          have c23b0 := eq_true c23
          have c23b1 : decide (2 ≤ (wrap64 (2 + x8_14))) = true := decide_eq_true c23
          by_cases c24 : (wrap64 (2 + x8_14)) ≤ (l1.length : Int)
          ·rw [if_pos c24] at H
           have c24b0 := eq_true c24
           have c24b1 : decide ((wrap64 (2 + x8_14)) ≤ (l1.length : Int)) = true := decide_eq_true c24
           obtain ⟨y190, hy190⟩ : ∃ y_ : List Int, y_ = ((l1.take ((wrap64 (2 + x8_14)) : Int).toNat).drop 2) := ⟨_, rfl⟩
           replace H : ((redpenref15_number.f kj14 (strOfNums y190) 16).bind fun t194 => ((redpenref15_valid.f t194).bind fun t195 => (if t195 = true then (some (wrap32 (t194), wrap64 (2 + x8_14), true)) else (some (0, 0, false))))) = some (r1, r2, r3) := by first | (rw [hy190]; with_reducible exact H) | (have H2_ := (Option.bind_some _ _).symm.trans H; rw [hy190]; with_reducible exact H2_) | (have H2_ := (Option.bind_some _ _).symm.trans H; with_reducible exact H2_) | with_reducible exact H | (rw [hy190]; exact H) | exact H
           have Ny190 := Aside0.mk hy190
           clear hy190
           replace H := Option.bind_eq_some_iff.mp H
           obtain ⟨t194, A250, H⟩ := H
           replace H : ((redpenref15_valid.f t194).bind fun t195 => (if t195 = true then (some (wrap32 (t194), wrap64 (2 + x8_14), true)) else (some (0, 0, false)))) = some (r1, r2, r3) := H
           have A25 := Aside0.mk A250
           clear A250
           replace H := Option.bind_eq_some_iff.mp H
           obtain ⟨t195, A260, H⟩ := H
           replace H : (if t195 = true then (some (wrap32 (t194), wrap64 (2 + x8_14), true)) else (some (0, 0, false))) = some (r1, r2, r3) := H
           have A26 := Aside0.mk A260
           clear A260
           by_cases c27 : t195 = true
           ·subst c27
            have H1 : (some (wrap32 (t194), wrap64 (2 + x8_14), true)) = some (r1, r2, r3) := by rw [if_pos rfl] at H; exact H
            clear H
            have H := H1
            clear H1
            simp only [Option.some.injEq, Prod.mk.injEq] at H
            obtain ⟨rfl, rfl, rfl⟩ := H
            have q28 : ((wrap64 (2 + x8_14)) : Int) ≤ ((l1.length : Int) : Int) := of_decide_eq_true (by first | (with_reducible assumption) | assumption)
            obtain ⟨i028, hi028, _, hsz28, _⟩ := info_parts info5
            have hroom28 : l1.length ≤ c1 := HC1.out
            have hC28 : Kd.C (Kd.int .u8) _ (some ad189) l1.length l1 := HR1.out
            have ql28 : (2 : Int) ≤ ((wrap64 (2 + x8_14)) : Int) := of_decide_eq_true (by first | (with_reducible assumption) | assumption)
            have hcut28 := cut_mid (P := Tryd.prog) 22 5 .i64 .i64 Tryd.underlying22 hi028 1 hsz28 (some ad189) l1.length c1 2 (wrap64 (2 + x8_14)) (by omega) ql28 q28 hroom28
            have hr28 := Kd.C_mid (lo := (2 : Int).toNat) (hi := ((wrap64 (2 + x8_14)) : Int).toNat) (c := c1) hC28 (by omega) (by omega) hroom28
            obtain ⟨A28, hA28⟩ : ∃ A1z_, A1z_ = (if c1 = (2 : Int).toNat then (some ad189) else ((some ad189) : Option Addr).map (·.add ((2 : Int).toNat * 1))) := ⟨_, rfl⟩
            obtain ⟨c28, hc28⟩ : ∃ c1z_, c1z_ = c1 - (2 : Int).toNat := ⟨_, rfl⟩
            have hy28 : y190.length = ((wrap64 (2 + x8_14)) : Int).toNat - (2 : Int).toNat := (by rw [Ny190.out, List.length_drop, List.length_take] <;> omega)
            rw [show ((l1).take ((wrap64 (2 + x8_14)) : Int).toNat).drop (2 : Int).toNat = y190 from Ny190.out.symm] at hr28
            replace hr28 : Kd.C (Kd.int .u8) _ A28 y190.length y190 := (by rw [hA28]; exact hr28)
            rw [← hy28, ← hA28, ← hc28] at hcut28
            have HR193 := Aside0.mk hr28
            have HC193 := Aside0.mk (show y190.length ≤ c28 from by rw [hy28, hc28]; exact Nat.sub_le_sub_right (Nat.le_trans (by omega) hroom28) _)
            clear hr28 hC28 hroom28 hi028 hsz28 hc28
            have KY28 := Aside0.mk hy28
            have KA28 := Aside0.mk hA28
            clear hy28 hA28
            replace q28 := eq_true q28
            have hcv29 := Kd.C_string (P := Tryd.prog) (A := A28) (c := c28) Tryd.underlying22 Tryd.underlying5 Tryd.underlying9 HR193.out
            (try (have hcv29n := fun (n_ : Nat) => Kd.C_string (P := Tryd.prog) (A := A28) (c := c28) Tryd.underlying22 Tryd.underlying5 Tryd.underlying9 (Kd.C_drewN HR193.out n_)))
            (try simp only [List.length_drop] at hcv29)
            go_wp2_with (first | ((with_reducible refine gate_callee (f := 35) rfl ?_); refine goesL_ (some 71) rfl rfl Tryd.func35 (by kernel_rfl) rfl #[.string (strOfNums y190), .int .i64 16] rfl (by (try simp only [List.map_toArray, List.map_cons, List.map_nil]); first | done | rfl | (simp only [List.length_drop, List.length_take]; rfl)) ?_; (with_reducible refine (redpenref15_number.calls kj14 (strOfNums y190) 16 t194 _ A25.out).mono ?_); rintro e w' ⟨rfl, ⟨nd, rfl⟩⟩; refine ⟨_, rfl, ?_⟩) | ((with_reducible refine gate_callee (f := 36) rfl ?_); refine goesL_ (some 73) rfl rfl Tryd.func36 (by kernel_rfl) rfl #[.int .i64 t194] rfl (by (try simp only [List.map_toArray, List.map_cons, List.map_nil]); first | done | rfl | (simp only [List.length_drop, List.length_take]; rfl)) ?_; (with_reducible refine (redpenref15_valid.calls t194 true _ A26.out).mono ?_); rintro e w' ⟨rfl, ⟨nd, rfl⟩⟩; refine ⟨_, rfl, ?_⟩))
            go_ret3
            exact ⟨by first | rfl | (simp; done) | (simp [*]; done) | (simp [wrap64, wrap32]; done), by repeat (first | exact Drawn0.refl _ | apply Drawn0.step)⟩
           ·replace c27 := Bool.eq_false_iff.mpr c27
            subst c27
            have H1 : (some (0, 0, false)) = some (r1, r2, r3) := by rw [if_neg (show ¬ (false = true) by decide)] at H; exact H
            clear H
            have H := H1
            clear H1
            simp only [Option.some.injEq, Prod.mk.injEq] at H
            obtain ⟨rfl, rfl, rfl⟩ := H
            have q30 : ((wrap64 (2 + x8_14)) : Int) ≤ ((l1.length : Int) : Int) := of_decide_eq_true (by first | (with_reducible assumption) | assumption)
            obtain ⟨i030, hi030, _, hsz30, _⟩ := info_parts info5
            have hroom30 : l1.length ≤ c1 := HC1.out
            have hC30 : Kd.C (Kd.int .u8) _ (some ad189) l1.length l1 := HR1.out
            have ql30 : (2 : Int) ≤ ((wrap64 (2 + x8_14)) : Int) := of_decide_eq_true (by first | (with_reducible assumption) | assumption)
            have hcut30 := cut_mid (P := Tryd.prog) 22 5 .i64 .i64 Tryd.underlying22 hi030 1 hsz30 (some ad189) l1.length c1 2 (wrap64 (2 + x8_14)) (by omega) ql30 q30 hroom30
            have hr30 := Kd.C_mid (lo := (2 : Int).toNat) (hi := ((wrap64 (2 + x8_14)) : Int).toNat) (c := c1) hC30 (by omega) (by omega) hroom30
            obtain ⟨A30, hA30⟩ : ∃ A1z_, A1z_ = (if c1 = (2 : Int).toNat then (some ad189) else ((some ad189) : Option Addr).map (·.add ((2 : Int).toNat * 1))) := ⟨_, rfl⟩
            obtain ⟨c30, hc30⟩ : ∃ c1z_, c1z_ = c1 - (2 : Int).toNat := ⟨_, rfl⟩
            have hy30 : y190.length = ((wrap64 (2 + x8_14)) : Int).toNat - (2 : Int).toNat := (by rw [Ny190.out, List.length_drop, List.length_take] <;> omega)
            rw [show ((l1).take ((wrap64 (2 + x8_14)) : Int).toNat).drop (2 : Int).toNat = y190 from Ny190.out.symm] at hr30
            replace hr30 : Kd.C (Kd.int .u8) _ A30 y190.length y190 := (by rw [hA30]; exact hr30)
            rw [← hy30, ← hA30, ← hc30] at hcut30
            have HR193 := Aside0.mk hr30
            have HC193 := Aside0.mk (show y190.length ≤ c30 from by rw [hy30, hc30]; exact Nat.sub_le_sub_right (Nat.le_trans (by omega) hroom30) _)
            clear hr30 hC30 hroom30 hi030 hsz30 hc30
            have KY30 := Aside0.mk hy30
            have KA30 := Aside0.mk hA30
            clear hy30 hA30
            replace q30 := eq_true q30
            have hcv31 := Kd.C_string (P := Tryd.prog) (A := A30) (c := c30) Tryd.underlying22 Tryd.underlying5 Tryd.underlying9 HR193.out
            (try (have hcv31n := fun (n_ : Nat) => Kd.C_string (P := Tryd.prog) (A := A30) (c := c30) Tryd.underlying22 Tryd.underlying5 Tryd.underlying9 (Kd.C_drewN HR193.out n_)))
            (try simp only [List.length_drop] at hcv31)
            go_wp2_with (first | ((with_reducible refine gate_callee (f := 35) rfl ?_); refine goesL_ (some 71) rfl rfl Tryd.func35 (by kernel_rfl) rfl #[.string (strOfNums y190), .int .i64 16] rfl (by (try simp only [List.map_toArray, List.map_cons, List.map_nil]); first | done | rfl | (simp only [List.length_drop, List.length_take]; rfl)) ?_; (with_reducible refine (redpenref15_number.calls kj14 (strOfNums y190) 16 t194 _ A25.out).mono ?_); rintro e w' ⟨rfl, ⟨nd, rfl⟩⟩; refine ⟨_, rfl, ?_⟩) | ((with_reducible refine gate_callee (f := 36) rfl ?_); refine goesL_ (some 73) rfl rfl Tryd.func36 (by kernel_rfl) rfl #[.int .i64 t194] rfl (by (try simp only [List.map_toArray, List.map_cons, List.map_nil]); first | done | rfl | (simp only [List.length_drop, List.length_take]; rfl)) ?_; (with_reducible refine (redpenref15_valid.calls t194 false _ A26.out).mono ?_); rintro e w' ⟨rfl, ⟨nd, rfl⟩⟩; refine ⟨_, rfl, ?_⟩))
            go_ret3
            exact ⟨by first | rfl | (simp; done) | (simp [*]; done) | (simp [wrap64, wrap32]; done), by repeat (first | exact Drawn0.refl _ | apply Drawn0.step)⟩
          ·rw [if_neg c24] at H
           exact absurd H (by simp)
         ·rw [if_neg c23] at H
          exact absurd H (by simp)
    ·rw [if_neg c9] at H
     exact absurd H (by simp)

end Go.Proofs.YtekalnhackjldaaDoor.PDecodeOnes
