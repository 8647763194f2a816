-- Laid by a program of ours (the kit's print with words and contracts of our own beside it).
import Derived.Test.YtekalnhackjldaaDoorPDecodeBackx0
import Derived.Test.YtekalnhackjldaaDoorPDecodeBackx2
namespace Go.Proofs.YtekalnhackjldaaDoor.PDecodeBack
open Go.RowKit Go.Proofs.YtekalnhackjldaaDoor.X Go.Proofs.YtekalnhackjldaaDoorW.PrintWords Go.Proofs.YtekalnhackjldaaDoorW.PrintLast Go.Proofs.YtekalnhackjldaaDoorW.PrintMore
attribute [local go_sem] max2_int min2_int max_two min_two max_three min_three max_four min_four   -- for this text's walks alone
set_option linter.unusedVariables false
set_option linter.unusedSimpArgs false

/-! ### decode_Escape: function 14 -/
mutual
def decode_Escape.j0 : Nat → Int → List Int → Bool → Option (Int × Int × Bool)
 | 0, _, _, _ => none
 | k + 1, x0, x1, x26 => if x26 = true then (some (0, 0, false)) else (if 1 < (x1.length : Int) then (if x0 = 7 then (if (rd x1 1) = 34 then (decode_Escape.j1 k x0 x1 0 (rd x1 1) false) else (if (rd x1 1) = 92 then (decode_Escape.j1 k x0 x1 0 (rd x1 1) false) else (if (rd x1 1) = 36 then (decode_Escape.j1 k x0 x1 0 (rd x1 1) false) else (decode_Escape.j1 k x0 x1 0 (rd x1 1) ((rd x1 1) != 96))))) else (decode_Escape.j1 k x0 x1 0 (rd x1 1) false)) else (none))
def decode_Escape.j1 : Nat → Int → List Int → Int → Int → Bool → Option (Int × Int × Bool)
 | 0, _, _, _, _, _ => none
 | k + 1, x0, x1, x7, x8, x30 => if x30 = true then (some (0, 0, false)) else (if x0 = 7 then (some (wrap32 (x8), 2, true)) else (if 1 < (x1.length : Int) then (if (rd x1 1) = 110 then (some (10, 2, true)) else (if (rd x1 1) = 114 then (some (13, 2, true)) else (if (rd x1 1) = 116 then (some (9, 2, true)) else (if (rd x1 1) = 85 then (decode_Escape.j2 k x1 (wrap64 ((wrap64 ((wrap64 (x7 + 4)) + 2)) + 2))) else (if (rd x1 1) = 117 then (decode_Escape.j2 k x1 (wrap64 ((wrap64 (x7 + 2)) + 2))) else (if (rd x1 1) = 120 then (decode_Escape.j2 k x1 (wrap64 (x7 + 2))) else (some (wrap32 (rd x1 1), 2, true)))))))) else (none)))
def decode_Escape.j2 : Nat → List Int → Int → Option (Int × Int × Bool)
 | 0, _, _ => none
 | k + 1, x1, x7 => if 2 ≤ (x1.length : Int) then ((decode_digits.f k (x1.drop 2) x7).bind fun bt111 => (if bt111.2 = true then ((decode_valid.f bt111.1).bind fun t113 => (if t113 = true then (some (wrap32 (bt111.1), wrap64 (2 + x7), true)) else (some (0, 0, false)))) else (some (0, 0, false)))) else (none)
end
def decode_Escape.f (k : Nat) (a0 : Int) (l1 : List Int) : Option (Int × Int × Bool) := if (l1.length : Int) < 2 then (decode_Escape.j0 k a0 l1 true) else (if 0 < (l1.length : Int) then (if (rd l1 0) = 92 then (if 1 < (l1.length : Int) then (decode_Escape.j0 k a0 l1 (decide ((rd l1 1) ≥ 128))) else (none)) else (decode_Escape.j0 k a0 l1 true)) else (none))
theorem decode_Escape.mono_l : ∀ k, (∀ y0 y1 y2, LeO (decode_Escape.j0 k y0 y1 y2) (decode_Escape.j0 (k + 1) y0 y1 y2)) ∧ (∀ y0 y1 y2 y3 y4, LeO (decode_Escape.j1 k y0 y1 y2 y3 y4) (decode_Escape.j1 (k + 1) y0 y1 y2 y3 y4)) ∧ (∀ y0 y1, LeO (decode_Escape.j2 k y0 y1) (decode_Escape.j2 (k + 1) y0 y1))
 | 0 => ⟨fun _ _ _ r h => by simp [decode_Escape.j0] at h, fun _ _ _ _ _ r h => by simp [decode_Escape.j1] at h, fun _ _ r h => by simp [decode_Escape.j2] at h⟩
 | k + 1 => by
  obtain ⟨ih0, ih1, ih2⟩ := decode_Escape.mono_l k
  refine ⟨?_, ?_, ?_⟩
  ·intro y0 y1 y2
   unfold decode_Escape.j0
   repeat' first
   | (with_reducible exact ih0 _ _ _)
   | (with_reducible exact ih1 _ _ _ _ _)
   | (with_reducible exact ih2 _ _)
   | (with_reducible exact decode_digits.mono _ _ _)
   | (with_reducible exact LeO.refl _)
   | (with_reducible exact LeO.none _)
   | (with_reducible refine LeO.ite ?_ ?_)
   | (with_reducible refine LeO.bind ?_ (fun _ => ?_))
   | exact ih0 _ _ _
   | exact ih1 _ _ _ _ _
   | exact ih2 _ _
   | exact decode_digits.mono _ _ _
   | exact LeO.none _
   | refine LeO.ite ?_ ?_
   | refine LeO.bind ?_ (fun _ => ?_)
  ·intro y0 y1 y2 y3 y4
   unfold decode_Escape.j1
   repeat' first
   | (with_reducible exact ih0 _ _ _)
   | (with_reducible exact ih1 _ _ _ _ _)
   | (with_reducible exact ih2 _ _)
   | (with_reducible exact decode_digits.mono _ _ _)
   | (with_reducible exact LeO.refl _)
   | (with_reducible exact LeO.none _)
   | (with_reducible refine LeO.ite ?_ ?_)
   | (with_reducible refine LeO.bind ?_ (fun _ => ?_))
   | exact ih0 _ _ _
   | exact ih1 _ _ _ _ _
   | exact ih2 _ _
   | exact decode_digits.mono _ _ _
   | exact LeO.none _
   | refine LeO.ite ?_ ?_
   | refine LeO.bind ?_ (fun _ => ?_)
  ·intro y0 y1
   unfold decode_Escape.j2
   repeat' first
   | (with_reducible exact ih0 _ _ _)
   | (with_reducible exact ih1 _ _ _ _ _)
   | (with_reducible exact ih2 _ _)
   | (with_reducible exact decode_digits.mono _ _ _)
   | (with_reducible exact LeO.refl _)
   | (with_reducible exact LeO.none _)
   | (with_reducible refine LeO.ite ?_ ?_)
   | (with_reducible refine LeO.bind ?_ (fun _ => ?_))
   | exact ih0 _ _ _
   | exact ih1 _ _ _ _ _
   | exact ih2 _ _
   | exact decode_digits.mono _ _ _
   | exact LeO.none _
   | refine LeO.ite ?_ ?_
   | refine LeO.bind ?_ (fun _ => ?_)
theorem decode_Escape.mono : ∀ a0 a1 k, LeO (decode_Escape.f k a0 a1) (decode_Escape.f (k + 1) a0 a1) := by
 intro a0 a1 k
 obtain ⟨ih0, ih1, ih2⟩ := decode_Escape.mono_l k
 unfold decode_Escape.f
 repeat' first
   | (with_reducible exact ih0 _ _ _)
   | (with_reducible exact ih1 _ _ _ _ _)
   | (with_reducible exact ih2 _ _)
   | (with_reducible exact decode_digits.mono _ _ _)
   | (with_reducible exact LeO.refl _)
   | (with_reducible exact LeO.none _)
   | (with_reducible refine LeO.ite ?_ ?_)
   | (with_reducible refine LeO.bind ?_ (fun _ => ?_))
   | exact ih0 _ _ _
   | exact ih1 _ _ _ _ _
   | exact ih2 _ _
   | exact decode_digits.mono _ _ _
   | exact LeO.none _
   | refine LeO.ite ?_ ?_
   | refine LeO.bind ?_ (fun _ => ?_)
set_option maxHeartbeats 8000000 in
set_option maxRecDepth 100000 in
theorem decode_Escape.calls (k : Nat) (a0 : Int) (A1 : Option Addr) (c1 : Nat) (l1 : List Int) (r1 : Int) (r2 : Int) (r3 : Bool) (w : World) (hr1 : Kd.C (Kd.int .u8) w A1 l1.length l1) (hc1 : l1.length ≤ c1) (h : decode_Escape.f k a0 l1 = some (r1, r2, r3)) :
  Calls Tryd.prog 14 #[.int .u8 a0, .slice A1 l1.length c1] w fun e w' => e = .returned (.tuple #[.int .i32 r1, .int .i64 r2, .bool r3]) ∧ Drawn0 w w' := by
 have HR1 := Aside0.mk hr1
 have HC1 := Aside0.mk hc1
 clear hr1 hc1
 have H : (if (l1.length : Int) < 2 then (decode_Escape.j0 k a0 l1 true) else (if 0 < (l1.length : Int) then (if (rd l1 0) = 92 then (if 1 < (l1.length : Int) then (decode_Escape.j0 k a0 l1 (decide ((rd l1 1) ≥ 128))) else (none)) else (decode_Escape.j0 k a0 l1 true)) else (none))) = some (r1, r2, r3) := h
 clear h
 have HC3 := Aside0.mk H
 clear H
 go_enter Tryd.func14, Tryd.ntmps14
 go_upto_region 1 with (fail)
 go_cut [26] (fun v26 wc => ∃ (kq : Nat) (x26_2 : Bool), v26 = .bool x26_2 ∧ Aside0 (decode_Escape.j0 kq a0 l1 x26_2 = some (r1, r2, r3)) ∧ Aside0 (kq ≤ k) ∧ Drawn0 w wc)
 case first =>
  have H := HC3.out
  clear HC3
  by_cases c4 : (l1.length : Int) < 2
  ·rw [if_pos c4] at H
   have c4b0 : decide ((l1.length : Int) < 2) = true := decide_eq_true c4
   have c4b1 : decide (l1.length < 2) = true := decide_eq_true (by omega)
   clear c4
   (first | rw [c4b0] | (simp only [i64_w, i32_w]; rw [c4b0]) | skip)
   have H' := Aside0.mk H
   clear H
   go_wp2
   go_meet
   case rel => exact ⟨_, (true), (by first | rfl | (simp; done) | (simp [*]; done) | (simp [wrap64, wrap32]; done)), H', ⟨by first | omega | exact Nat.le_refl _⟩, by repeat (first | exact Drawn0.refl _ | apply Drawn0.step)⟩
  ·rw [if_neg c4] at H
   have c4b0 : decide ((l1.length : Int) < 2) = false := decide_eq_false c4
   have c4b1 : decide (l1.length < 2) = false := decide_eq_false (by omega)
   clear c4
   (first | rw [c4b0] | (simp only [i64_w, i32_w]; rw [c4b0]) | skip)
   by_cases c5 : 0 < (l1.length : Int)
   ·rw [if_pos c5] at H
    have c5b0 : decide (0 < (l1.length : Int)) = true := decide_eq_true c5
    have c5b1 : decide (0 < l1.length) = true := decide_eq_true (by omega)
    clear c5
    by_cases c6 : (rd l1 0) = 92
    ·rw [if_pos c6] at H
     have c6b0 : ((rd l1 0) == 92) = true := beq_iff_eq.mpr c6
     have c6b1 : ((rd l1 0) != 92) = false := bne_eq_false_iff_eq.mpr c6
     clear c6
     by_cases c7 : 1 < (l1.length : Int)
     ·rw [if_pos c7] at H
      have c7b0 : decide (1 < (l1.length : Int)) = true := decide_eq_true c7
      have c7b1 : decide (1 < l1.length) = true := decide_eq_true (by omega)
      clear c7
      have H' := Aside0.mk H
      clear H
      have p106 : 0 ≤ (0 : Int) := (by omega)
      have q106 : 0 < (l1.length : Int) := of_decide_eq_true (by first | (with_reducible assumption) | assumption)
      obtain ⟨ad106, e106, hx106_0⟩ := Kd.at_int HR1.out 0 p106 q106
      cases e106
      have qi106 : (0 < l1.length) = True := eq_true (by omega)
      (try rw [show ((0 : Int)).toNat = 0 from rfl] at hx106_0)
      (try rw [Addr.add_zero'] at hx106_0)
      replace p106 := eq_true p106
      replace q106 := eq_true q106
      have p107 : 0 ≤ (1 : Int) := (by omega)
      have q107 : 1 < (l1.length : Int) := of_decide_eq_true (by first | (with_reducible assumption) | assumption)
      obtain ⟨ad107, e107, hx107_0⟩ := Kd.at_int HR1.out 1 p107 q107
      obtain rfl : ad106 = ad107 := (by injection e107)
      (try simp only [show (1 : Int).toNat = 1 from rfl, Nat.reduceMul, Nat.reduceEqDiff, Go.Addr.add, ↓reduceIte] at hx107_0)
      have qi107 : (1 < l1.length) = True := eq_true (by omega)
      (try rw [show ((1 : Int)).toNat = 1 from rfl] at hx107_0)
      replace p107 := eq_true p107
      replace q107 := eq_true q107
      go_wp2
      go_meet
      case rel => exact ⟨_, (decide ((rd l1 1) ≥ 128)), (by first | rfl | (simp; done) | (simp [*]; done) | (simp [wrap64, wrap32]; done)), H', ⟨by first | omega | exact Nat.le_refl _⟩, by repeat (first | exact Drawn0.refl _ | apply Drawn0.step)⟩
     ·rw [if_neg c7] at H
      exact absurd H (by simp)
    ·rw [if_neg c6] at H
     have c6b0 : ((rd l1 0) == 92) = false := beq_eq_false_iff_ne.mpr c6
     have c6b1 : ((rd l1 0) != 92) = true := bne_iff_ne.mpr c6
     have H' := Aside0.mk H
     clear H
     have p106 : 0 ≤ (0 : Int) := (by omega)
     have q106 : 0 < (l1.length : Int) := of_decide_eq_true (by first | (with_reducible assumption) | assumption)
     obtain ⟨ad106, e106, hx106_0⟩ := Kd.at_int HR1.out 0 p106 q106
     cases e106
     have qi106 : (0 < l1.length) = True := eq_true (by omega)
     (try rw [show ((0 : Int)).toNat = 0 from rfl] at hx106_0)
     (try rw [Addr.add_zero'] at hx106_0)
     replace p106 := eq_true p106
     replace q106 := eq_true q106
     go_wp2
     go_meet
     case rel => exact ⟨_, (true), (by first | rfl | (simp; done) | (simp [*]; done) | (simp [wrap64, wrap32]; done)), H', ⟨by first | omega | exact Nat.le_refl _⟩, by repeat (first | exact Drawn0.refl _ | apply Drawn0.step)⟩
   ·rw [if_neg c5] at H
    exact absurd H (by simp)
 case rest =>
  clear HC3
  try clear c1
  try clear p1
  try clear q1
  try clear hx1
  try clear qi1
  try clear p2
  try clear c4
  try clear c4b0
  try clear c4b1
  try clear c5
  try clear c5b0
  try clear c5b1
  try clear c6
  try clear c6b0
  try clear c6b1
  try clear c7
  try clear c7b0
  try clear c7b1
  try clear hx106_0
  try clear hx107_0
  try clear p106
  try clear p107
  try clear q106
  try clear q107
  obtain ⟨kq, x26_2, rfl, HA, HJ2, ⟨mc2, rfl⟩⟩ := hcut
  cases kq with
  | zero => exact absurd HA.out (by simp [decode_Escape.j0])
  | succ kj2 =>
   have H := HA.out
   clear HA
   simp only [decode_Escape.j0] at H
   by_cases c8 : x26_2 = true
   ·subst c8
    have H1 : (some (0, 0, false)) = some (r1, r2, r3) := by rw [if_pos rfl] at H; exact H
    clear H
    have H := H1
    clear H1
    simp only [Option.some.injEq, Prod.mk.injEq] at H
    obtain ⟨rfl, rfl, rfl⟩ := H
    go_wp2
    go_ret3
    exact ⟨by first | rfl | (simp; done) | (simp [*]; done) | (simp [wrap64, wrap32]; done), by repeat (first | exact Drawn0.refl _ | apply Drawn0.step)⟩
   ·replace c8 := Bool.eq_false_iff.mpr c8
    subst c8
    have H1 : (if 1 < (l1.length : Int) then (if a0 = 7 then (if (rd l1 1) = 34 then (decode_Escape.j1 kj2 a0 l1 0 (rd l1 1) false) else (if (rd l1 1) = 92 then (decode_Escape.j1 kj2 a0 l1 0 (rd l1 1) false) else (if (rd l1 1) = 36 then (decode_Escape.j1 kj2 a0 l1 0 (rd l1 1) false) else (decode_Escape.j1 kj2 a0 l1 0 (rd l1 1) ((rd l1 1) != 96))))) else (decode_Escape.j1 kj2 a0 l1 0 (rd l1 1) false)) else (none)) = some (r1, r2, r3) := by rw [if_neg (show ¬ (false = true) by decide)] at H; exact H
    clear H
    have H := H1
    clear H1
    by_cases c9 : 1 < (l1.length : Int)
    ·rw [if_pos c9] at H
     have c9b0 : decide (1 < (l1.length : Int)) = true := decide_eq_true c9
     have c9b1 : decide (1 < l1.length) = true := decide_eq_true (by omega)
     clear c9
     have HC10 := Aside0.mk H
     clear H
     have p108 : 0 ≤ (1 : Int) := (by omega)
     have q108 : 1 < (l1.length : Int) := of_decide_eq_true (by first | (with_reducible assumption) | assumption)
     obtain ⟨ad108, e108, hx108_0⟩ := Kd.at_int HR1.out 1 p108 q108
     cases e108
     (try simp only [show (1 : Int).toNat = 1 from rfl, Nat.reduceMul, Nat.reduceEqDiff, Go.Addr.add, ↓reduceIte] at hx108_0)
     have qi108 : (1 < l1.length) = True := eq_true (by omega)
     (try rw [show ((1 : Int)).toNat = 1 from rfl] at hx108_0)
     replace p108 := eq_true p108
     replace q108 := eq_true q108
     go_upto_region 5 with (fail)
     go_cut [30] (fun v30 wc => ∃ (kq : Nat) (x30_9 : Bool), v30 = .bool x30_9 ∧ Aside0 (decode_Escape.j1 kq a0 l1 0 (rd l1 1) x30_9 = some (r1, r2, r3)) ∧ Aside0 (kq ≤ kj2) ∧ Drawn0 w wc)
     case first =>
      have H := HC10.out
      clear HC10
      by_cases c11 : a0 = 7
      ·rw [if_pos c11] at H
       have c11b0 : (a0 == 7) = true := beq_iff_eq.mpr c11
       have c11b1 : (a0 != 7) = false := bne_eq_false_iff_eq.mpr c11
       clear c11
       (first | rw [c11b0] | (simp only [i64_w, i32_w]; rw [c11b0]) | skip)
       by_cases c12 : (rd l1 1) = 34
       ·rw [if_pos c12] at H
        have c12b0 : ((rd l1 1) == 34) = true := beq_iff_eq.mpr c12
        have c12b1 : ((rd l1 1) != 34) = false := bne_eq_false_iff_eq.mpr c12
        clear c12
        have H' := Aside0.mk H
        clear H
        go_wp2
        go_meet
        case rel => exact ⟨_, (false), (by first | rfl | (simp; done) | (simp [*]; done) | (simp [wrap64, wrap32]; done)), H', ⟨by have := HJ2.out; first | omega | exact Nat.le_refl _⟩, by repeat (first | exact Drawn0.refl _ | apply Drawn0.step)⟩
       ·rw [if_neg c12] at H
        have c12b0 : ((rd l1 1) == 34) = false := beq_eq_false_iff_ne.mpr c12
        have c12b1 : ((rd l1 1) != 34) = true := bne_iff_ne.mpr c12
        by_cases c13 : (rd l1 1) = 92
        ·rw [if_pos c13] at H
         have c13b0 : ((rd l1 1) == 92) = true := beq_iff_eq.mpr c13
         have c13b1 : ((rd l1 1) != 92) = false := bne_eq_false_iff_eq.mpr c13
         clear c13
         have H' := Aside0.mk H
         clear H
         go_wp2
         go_meet
         case rel => exact ⟨_, (false), (by first | rfl | (simp; done) | (simp [*]; done) | (simp [wrap64, wrap32]; done)), H', ⟨by have := HJ2.out; first | omega | exact Nat.le_refl _⟩, by repeat (first | exact Drawn0.refl _ | apply Drawn0.step)⟩
        ·rw [if_neg c13] at H
         have c13b0 : ((rd l1 1) == 92) = false := beq_eq_false_iff_ne.mpr c13
         have c13b1 : ((rd l1 1) != 92) = true := bne_iff_ne.mpr c13
         by_cases c14 : (rd l1 1) = 36
         ·rw [if_pos c14] at H
          have c14b0 : ((rd l1 1) == 36) = true := beq_iff_eq.mpr c14
          have c14b1 : ((rd l1 1) != 36) = false := bne_eq_false_iff_eq.mpr c14
          clear c14
          have H' := Aside0.mk H
          clear H
          go_wp2
          go_meet
          case rel => exact ⟨_, (false), (by first | rfl | (simp; done) | (simp [*]; done) | (simp [wrap64, wrap32]; done)), H', ⟨by have := HJ2.out; first | omega | exact Nat.le_refl _⟩, by repeat (first | exact Drawn0.refl _ | apply Drawn0.step)⟩
         ·rw [if_neg c14] at H
          have c14b0 : ((rd l1 1) == 36) = false := beq_eq_false_iff_ne.mpr c14
          have c14b1 : ((rd l1 1) != 36) = true := bne_iff_ne.mpr c14
          have H' := Aside0.mk H
          clear H
          go_wp2
          go_meet
          case rel => exact ⟨_, (((rd l1 1) != 96)), (by first | rfl | (simp; done) | (simp [*]; done) | (simp [wrap64, wrap32]; done)), H', ⟨by have := HJ2.out; first | omega | exact Nat.le_refl _⟩, by repeat (first | exact Drawn0.refl _ | apply Drawn0.step)⟩
      ·rw [if_neg c11] at H
       have c11b0 : (a0 == 7) = false := beq_eq_false_iff_ne.mpr c11
       have c11b1 : (a0 != 7) = true := bne_iff_ne.mpr c11
       (first | rw [c11b0] | (simp only [i64_w, i32_w]; rw [c11b0]) | skip)
       have H' := Aside0.mk H
       clear H
       go_wp2
       go_meet
       case rel => exact ⟨_, (false), (by first | rfl | (simp; done) | (simp [*]; done) | (simp [wrap64, wrap32]; done)), H', ⟨by have := HJ2.out; first | omega | exact Nat.le_refl _⟩, by repeat (first | exact Drawn0.refl _ | apply Drawn0.step)⟩
     case rest =>
      clear HC10
      try clear c1
      try clear p1
      try clear q1
      try clear hx1
      try clear qi1
      try clear c2
      try clear p2
      try clear c4
      try clear c4b0
      try clear c4b1
      try clear c5
      try clear c5b0
      try clear c5b1
      try clear c6
      try clear c6b0
      try clear c6b1
      try clear c7
      try clear c7b0
      try clear c7b1
      try clear c8
      try clear c9
      try clear c9b0
      try clear c9b1
      try clear p10
      try clear q10
      try clear hx10
      try clear qi10
      try clear c11
      try clear c11b0
      try clear c11b1
      try clear c12
      try clear c12b0
      try clear c12b1
      try clear c13
      try clear c13b0
      try clear c13b1
      try clear c14
      try clear c14b0
      try clear c14b1
      try clear hx106_0
      try clear hx107_0
      try clear hx108_0
      try clear p1
      try clear p106
      try clear p107
      try clear p108
      try clear p2
      try clear q1
      try clear q106
      try clear q107
      try clear q108
      obtain ⟨kq, x30_9, rfl, HA, HJ9, ⟨mc9, rfl⟩⟩ := hcut
      cases kq with
      | zero => exact absurd HA.out (by simp [decode_Escape.j1])
      | succ kj9 =>
       have H := HA.out
       clear HA
       simp only [decode_Escape.j1] at H
       by_cases c15 : x30_9 = true
       ·subst c15
        have H1 : (some (0, 0, false)) = some (r1, r2, r3) := by rw [if_pos rfl] at H; exact H
        clear H
        have H := H1
        clear H1
        simp only [Option.some.injEq, Prod.mk.injEq] at H
        obtain ⟨rfl, rfl, rfl⟩ := H
        go_wp2
        go_ret3
        exact ⟨by first | rfl | (simp; done) | (simp [*]; done) | (simp [wrap64, wrap32]; done), by repeat (first | exact Drawn0.refl _ | apply Drawn0.step)⟩
       ·replace c15 := Bool.eq_false_iff.mpr c15
        subst c15
        have H1 : (if a0 = 7 then (some (wrap32 ((rd l1 1)), 2, true)) else (if 1 < (l1.length : Int) then (if (rd l1 1) = 110 then (some (10, 2, true)) else (if (rd l1 1) = 114 then (some (13, 2, true)) else (if (rd l1 1) = 116 then (some (9, 2, true)) else (if (rd l1 1) = 85 then (decode_Escape.j2 kj9 l1 (wrap64 ((wrap64 ((wrap64 (0 + 4)) + 2)) + 2))) else (if (rd l1 1) = 117 then (decode_Escape.j2 kj9 l1 (wrap64 ((wrap64 (0 + 2)) + 2))) else (if (rd l1 1) = 120 then (decode_Escape.j2 kj9 l1 (wrap64 (0 + 2))) else (some (wrap32 (rd l1 1), 2, true)))))))) else (none))) = some (r1, r2, r3) := by rw [if_neg (show ¬ (false = true) by decide)] at H; exact H
        clear H
        have H := H1
        clear H1
        by_cases c16 : a0 = 7
        ·rw [if_pos c16] at H
         have c16b0 : (a0 == 7) = true := beq_iff_eq.mpr c16
         have c16b1 : (a0 != 7) = false := bne_eq_false_iff_eq.mpr c16
         clear c16
         simp only [Option.some.injEq, Prod.mk.injEq] at H
         obtain ⟨rfl, rfl, rfl⟩ := H
         go_wp2
         go_ret3
         exact ⟨by first | rfl | (simp; done) | (simp [*]; done) | (simp [wrap64, wrap32]; done), by repeat (first | exact Drawn0.refl _ | apply Drawn0.step)⟩
        ·rw [if_neg c16] at H
         have c16b0 : (a0 == 7) = false := beq_eq_false_iff_ne.mpr c16
         have c16b1 : (a0 != 7) = true := bne_iff_ne.mpr c16
         by_cases c17 : 1 < (l1.length : Int)
         ·rw [if_pos c17] at H
          have c17b0 : decide (1 < (l1.length : Int)) = true := decide_eq_true c17
          have c17b1 : decide (1 < l1.length) = true := decide_eq_true (by omega)
          clear c17
          have HC18 := Aside0.mk H
          clear H
          have p109 : 0 ≤ (1 : Int) := (by omega)
          have q109 : 1 < (l1.length : Int) := of_decide_eq_true (by first | (with_reducible assumption) | assumption)
          obtain ⟨ad109, e109, hx109_0⟩ := Kd.at_int HR1.out 1 p109 q109
          obtain rfl : ad108 = ad109 := (by injection e109)
          (try simp only [show (1 : Int).toNat = 1 from rfl, Nat.reduceMul, Nat.reduceEqDiff, Go.Addr.add, ↓reduceIte] at hx109_0)
          have qi109 : (1 < l1.length) = True := eq_true (by omega)
          (try rw [show ((1 : Int)).toNat = 1 from rfl] at hx109_0)
          replace p109 := eq_true p109
          replace q109 := eq_true q109
          go_upto_block 1 with (fail)
          go_cut [7] (fun v7 wc => ∃ (kq : Nat) (x7_17 : Int), v7 = .int .i64 x7_17 ∧ Aside0 (decode_Escape.j2 kq l1 x7_17 = some (r1, r2, r3)) ∧ Aside0 (kq ≤ kj9) ∧ Drawn0 w wc)
          case first =>
           have H := HC18.out
           clear HC18
           by_cases c19 : (rd l1 1) = 110
           ·rw [if_pos c19] at H
            have c19b0 : ((rd l1 1) == 110) = true := beq_iff_eq.mpr c19
            have c19b1 : ((rd l1 1) != 110) = false := bne_eq_false_iff_eq.mpr c19
            clear c19
            (first | rw [c19b0] | (simp only [i64_w, i32_w]; rw [c19b0]) | skip)
            simp only [Option.some.injEq, Prod.mk.injEq] at H
            obtain ⟨rfl, rfl, rfl⟩ := H
            go_wp2
            go_ret3
            exact ⟨by first | rfl | (simp; done) | (simp [*]; done) | (simp [wrap64, wrap32]; done), by repeat (first | exact Drawn0.refl _ | apply Drawn0.step)⟩
           ·rw [if_neg c19] at H
            have c19b0 : ((rd l1 1) == 110) = false := beq_eq_false_iff_ne.mpr c19
            have c19b1 : ((rd l1 1) != 110) = true := bne_iff_ne.mpr c19
            (first | rw [c19b0] | (simp only [i64_w, i32_w]; rw [c19b0]) | skip)
            by_cases c20 : (rd l1 1) = 114
            ·rw [if_pos c20] at H
             have c20b0 : ((rd l1 1) == 114) = true := beq_iff_eq.mpr c20
             have c20b1 : ((rd l1 1) != 114) = false := bne_eq_false_iff_eq.mpr c20
             clear c20
             simp only [Option.some.injEq, Prod.mk.injEq] at H
             obtain ⟨rfl, rfl, rfl⟩ := H
             go_wp2
             go_ret3
             exact ⟨by first | rfl | (simp; done) | (simp [*]; done) | (simp [wrap64, wrap32]; done), by repeat (first | exact Drawn0.refl _ | apply Drawn0.step)⟩
            ·rw [if_neg c20] at H
             have c20b0 : ((rd l1 1) == 114) = false := beq_eq_false_iff_ne.mpr c20
             have c20b1 : ((rd l1 1) != 114) = true := bne_iff_ne.mpr c20
             by_cases c21 : (rd l1 1) = 116
             ·rw [if_pos c21] at H
              have c21b0 : ((rd l1 1) == 116) = true := beq_iff_eq.mpr c21
              have c21b1 : ((rd l1 1) != 116) = false := bne_eq_false_iff_eq.mpr c21
              clear c21
              simp only [Option.some.injEq, Prod.mk.injEq] at H
              obtain ⟨rfl, rfl, rfl⟩ := H
              go_wp2
              go_ret3
              exact ⟨by first | rfl | (simp; done) | (simp [*]; done) | (simp [wrap64, wrap32]; done), by repeat (first | exact Drawn0.refl _ | apply Drawn0.step)⟩
             ·rw [if_neg c21] at H
              have c21b0 : ((rd l1 1) == 116) = false := beq_eq_false_iff_ne.mpr c21
              have c21b1 : ((rd l1 1) != 116) = true := bne_iff_ne.mpr c21
              by_cases c22 : (rd l1 1) = 85
              ·rw [if_pos c22] at H
               have c22b0 : ((rd l1 1) == 85) = true := beq_iff_eq.mpr c22
               have c22b1 : ((rd l1 1) != 85) = false := bne_eq_false_iff_eq.mpr c22
               clear c22
               have H' := Aside0.mk H
               clear H
               go_wp2
               go_meet
               case rel => exact ⟨_, (wrap64 ((wrap64 ((wrap64 (0 + 4)) + 2)) + 2)), (by first | rfl | (simp; done) | (simp [*]; done) | (simp [wrap64, wrap32]; done)), H', ⟨by have := HJ2.out; have := HJ9.out; first | omega | exact Nat.le_refl _⟩, by repeat (first | exact Drawn0.refl _ | apply Drawn0.step)⟩
              ·rw [if_neg c22] at H
               have c22b0 : ((rd l1 1) == 85) = false := beq_eq_false_iff_ne.mpr c22
               have c22b1 : ((rd l1 1) != 85) = true := bne_iff_ne.mpr c22
               by_cases c23 : (rd l1 1) = 117
               ·rw [if_pos c23] at H
                have c23b0 : ((rd l1 1) == 117) = true := beq_iff_eq.mpr c23
                have c23b1 : ((rd l1 1) != 117) = false := bne_eq_false_iff_eq.mpr c23
                clear c23
                have H' := Aside0.mk H
                clear H
                go_wp2
                go_meet
                case rel => exact ⟨_, (wrap64 ((wrap64 (0 + 2)) + 2)), (by first | rfl | (simp; done) | (simp [*]; done) | (simp [wrap64, wrap32]; done)), H', ⟨by have := HJ2.out; have := HJ9.out; first | omega | exact Nat.le_refl _⟩, by repeat (first | exact Drawn0.refl _ | apply Drawn0.step)⟩
               ·rw [if_neg c23] at H
                have c23b0 : ((rd l1 1) == 117) = false := beq_eq_false_iff_ne.mpr c23
                have c23b1 : ((rd l1 1) != 117) = true := bne_iff_ne.mpr c23
                by_cases c24 : (rd l1 1) = 120
                ·rw [if_pos c24] at H
                 have c24b0 : ((rd l1 1) == 120) = true := beq_iff_eq.mpr c24
                 have c24b1 : ((rd l1 1) != 120) = false := bne_eq_false_iff_eq.mpr c24
                 clear c24
                 have H' := Aside0.mk H
                 clear H
                 go_wp2
                 go_meet
                 case rel => exact ⟨_, (wrap64 (0 + 2)), (by first | rfl | (simp; done) | (simp [*]; done) | (simp [wrap64, wrap32]; done)), H', ⟨by have := HJ2.out; have := HJ9.out; first | omega | exact Nat.le_refl _⟩, by repeat (first | exact Drawn0.refl _ | apply Drawn0.step)⟩
                ·rw [if_neg c24] at H
                 have c24b0 : ((rd l1 1) == 120) = false := beq_eq_false_iff_ne.mpr c24
                 have c24b1 : ((rd l1 1) != 120) = true := bne_iff_ne.mpr c24
                 simp only [Option.some.injEq, Prod.mk.injEq] at H
                 obtain ⟨rfl, rfl, rfl⟩ := H
                 go_wp2
                 go_ret3
                 exact ⟨by first | rfl | (simp; done) | (simp [*]; done) | (simp [wrap64, wrap32]; done), by repeat (first | exact Drawn0.refl _ | apply Drawn0.step)⟩
          case rest =>
           clear HC18
           try clear c1
           try clear p1
           try clear q1
           try clear hx1
           try clear qi1
           try clear c2
           try clear p2
           try clear p3
           try clear c4
           try clear c4b0
           try clear c4b1
           try clear c5
           try clear c5b0
           try clear c5b1
           try clear c6
           try clear c6b0
           try clear c6b1
           try clear p6
           try clear c7
           try clear c7b0
           try clear c7b1
           try clear c8
           try clear c9
           try clear c9b0
           try clear c9b1
           try clear p10
           try clear q10
           try clear hx10
           try clear qi10
           try clear c11
           try clear c11b0
           try clear c11b1
           try clear c12
           try clear c12b0
           try clear c12b1
           try clear c13
           try clear c13b0
           try clear c13b1
           try clear c14
           try clear c14b0
           try clear c14b1
           try clear c15
           try clear c16
           try clear c16b0
           try clear c16b1
           try clear c17
           try clear c17b0
           try clear c17b1
           try clear c19
           try clear c19b0
           try clear c19b1
           try clear c20
           try clear c20b0
           try clear c20b1
           try clear c21
           try clear c21b0
           try clear c21b1
           try clear c22
           try clear c22b0
           try clear c22b1
           try clear c23
           try clear c23b0
           try clear c23b1
           try clear c24
           try clear c24b0
           try clear c24b1
           try clear hx106_0
           try clear hx107_0
           try clear hx108_0
           try clear hx109_0
           try clear p1
           try clear p10
           try clear p106
           try clear p107
           try clear p108
           try clear p109
           try clear p2
           try clear q1
           try clear q10
           try clear q106
           try clear q107
           try clear q108
           try clear q109
           obtain ⟨kq, x7_17, rfl, HA, HJ17, ⟨mc17, rfl⟩⟩ := hcut
           cases kq with
           | zero => exact absurd HA.out (by simp [decode_Escape.j2])
           | succ kj17 =>
            have H := HA.out
            clear HA
            simp only [decode_Escape.j2] at H
            by_cases c25 : 2 ≤ (l1.length : Int)
            ·rw [if_pos c25] at H
             have c25b0 := eq_true c25
             have c25b1 : decide (2 ≤ (l1.length : Int)) = true := decide_eq_true c25
             clear c25
             replace H := Option.bind_eq_some_iff.mp H
             obtain ⟨⟨t111, t112⟩, A260, H⟩ := H
             replace H : (if t112 = true then ((decode_valid.f t111).bind fun t113 => (if t113 = true then (some (wrap32 (t111), wrap64 (2 + x7_17), true)) else (some (0, 0, false)))) else (some (0, 0, false))) = some (r1, r2, r3) := H
             have A26 := Aside0.mk A260
             clear A260
             by_cases c27 : t112 = true
             ·subst c27
              have H1 : ((decode_valid.f t111).bind fun t113 => (if t113 = true then (some (wrap32 (t111), wrap64 (2 + x7_17), true)) else (some (0, 0, false)))) = some (r1, r2, r3) := by rw [if_pos rfl] at H; exact H
              clear H
              have H := H1
              clear H1
              replace H := Option.bind_eq_some_iff.mp H
              obtain ⟨t113, A280, H⟩ := H
              replace H : (if t113 = true then (some (wrap32 (t111), wrap64 (2 + x7_17), true)) else (some (0, 0, false))) = some (r1, r2, r3) := H
              have A28 := Aside0.mk A280
              clear A280
              by_cases c29 : t113 = true
              ·subst c29
               have H1 : (some (wrap32 (t111), wrap64 (2 + x7_17), true)) = some (r1, r2, r3) := by rw [if_pos rfl] at H; exact H
               clear H
               have H := H1
               clear H1
               simp only [Option.some.injEq, Prod.mk.injEq] at H
               obtain ⟨rfl, rfl, rfl⟩ := H
               obtain ⟨i030, hi030, _, hsz30, _⟩ := info_parts info5
               obtain ⟨A30, hcut30, hA30, hC30⟩ := print_drop_of (P := Tryd.prog) (Value.int .u8) 0 22 5 .i64 Tryd.underlying22 hi030 hsz30 (some ad108) c1 l1 2 (by omega) (of_decide_eq_true (by first | (with_reducible assumption) | assumption)) HC1.out
               have HR110 := Aside0.mk (Kd.C_of_reads (h1 := fun _ => rfl) (hA30 _ (Kd.reads_of_C HR1.out)))
               have HC110 := Aside0.mk hC30
               clear hA30 hC30 hi030 hsz30
               go_wp2_with (first | ((with_reducible refine gate_callee (f := 37) rfl ?_); refine goesL_ (some 82) rfl rfl Tryd.func37 (by kernel_rfl) rfl #[.slice A30 (l1.drop 2).length (c1 - 2), .int .i64 x7_17] rfl (by (try simp only [List.map_toArray, List.map_cons, List.map_nil]); first | done | (rw [show (l1.drop 2).length = (l1.length - 2) from List.length_drop] <;> rfl) | rfl | (simp only [List.length_drop, List.length_take]; rfl)) ?_; (with_reducible refine (decode_digits.calls kj17 _ _ (l1.drop 2) x7_17 t111 true _ ?side1 ?side2 A26.out).mono ?_); (case side1 => repeat (first | exact HR110.out | (with_reducible refine Kd.C_alloc ?_ _) | (with_reducible refine Kd.C_drewN ?_ _) | (with_reducible refine Kd.C_drew ?_))); (case side2 => exact HC110.out); rintro e w' ⟨rfl, ⟨nd, rfl⟩⟩; refine ⟨_, rfl, ?_⟩) | (go_at_call 34; (with_reducible refine (decode_valid.calls t111 true _ A28.out).mono ?_); rintro e w' ⟨rfl, ⟨nd, rfl⟩⟩))
               go_ret3
               exact ⟨by first | rfl | (simp; done) | (simp [*]; done) | (simp [wrap64, wrap32]; done), by repeat (first | exact Drawn0.refl _ | apply Drawn0.step)⟩
              ·replace c29 := Bool.eq_false_iff.mpr c29
               subst c29
               have H1 : (some (0, 0, false)) = some (r1, r2, r3) := by rw [if_neg (show ¬ (false = true) by decide)] at H; exact H
               clear H
               have H := H1
               clear H1
               simp only [Option.some.injEq, Prod.mk.injEq] at H
               obtain ⟨rfl, rfl, rfl⟩ := H
               obtain ⟨i031, hi031, _, hsz31, _⟩ := info_parts info5
               obtain ⟨A31, hcut31, hA31, hC31⟩ := print_drop_of (P := Tryd.prog) (Value.int .u8) 0 22 5 .i64 Tryd.underlying22 hi031 hsz31 (some ad108) c1 l1 2 (by omega) (of_decide_eq_true (by first | (with_reducible assumption) | assumption)) HC1.out
               have HR110 := Aside0.mk (Kd.C_of_reads (h1 := fun _ => rfl) (hA31 _ (Kd.reads_of_C HR1.out)))
               have HC110 := Aside0.mk hC31
               clear hA31 hC31 hi031 hsz31
               go_wp2_with (first | ((with_reducible refine gate_callee (f := 37) rfl ?_); refine goesL_ (some 82) rfl rfl Tryd.func37 (by kernel_rfl) rfl #[.slice A31 (l1.drop 2).length (c1 - 2), .int .i64 x7_17] rfl (by (try simp only [List.map_toArray, List.map_cons, List.map_nil]); first | done | (rw [show (l1.drop 2).length = (l1.length - 2) from List.length_drop] <;> rfl) | rfl | (simp only [List.length_drop, List.length_take]; rfl)) ?_; (with_reducible refine (decode_digits.calls kj17 _ _ (l1.drop 2) x7_17 t111 true _ ?side1 ?side2 A26.out).mono ?_); (case side1 => repeat (first | exact HR110.out | (with_reducible refine Kd.C_alloc ?_ _) | (with_reducible refine Kd.C_drewN ?_ _) | (with_reducible refine Kd.C_drew ?_))); (case side2 => exact HC110.out); rintro e w' ⟨rfl, ⟨nd, rfl⟩⟩; refine ⟨_, rfl, ?_⟩) | (go_at_call 34; (with_reducible refine (decode_valid.calls t111 false _ A28.out).mono ?_); rintro e w' ⟨rfl, ⟨nd, rfl⟩⟩))
               go_ret3
               exact ⟨by first | rfl | (simp; done) | (simp [*]; done) | (simp [wrap64, wrap32]; done), by repeat (first | exact Drawn0.refl _ | apply Drawn0.step)⟩
             ·replace c27 := Bool.eq_false_iff.mpr c27
              subst c27
              have H1 : (some (0, 0, false)) = some (r1, r2, r3) := by rw [if_neg (show ¬ (false = true) by decide)] at H; exact H
              clear H
              have H := H1
              clear H1
              simp only [Option.some.injEq, Prod.mk.injEq] at H
              obtain ⟨rfl, rfl, rfl⟩ := H
              obtain ⟨i032, hi032, _, hsz32, _⟩ := info_parts info5
              obtain ⟨A32, hcut32, hA32, hC32⟩ := print_drop_of (P := Tryd.prog) (Value.int .u8) 0 22 5 .i64 Tryd.underlying22 hi032 hsz32 (some ad108) c1 l1 2 (by omega) (of_decide_eq_true (by first | (with_reducible assumption) | assumption)) HC1.out
              have HR110 := Aside0.mk (Kd.C_of_reads (h1 := fun _ => rfl) (hA32 _ (Kd.reads_of_C HR1.out)))
              have HC110 := Aside0.mk hC32
              clear hA32 hC32 hi032 hsz32
              go_wp2_with (first | ((with_reducible refine gate_callee (f := 37) rfl ?_); refine goesL_ (some 82) rfl rfl Tryd.func37 (by kernel_rfl) rfl #[.slice A32 (l1.drop 2).length (c1 - 2), .int .i64 x7_17] rfl (by (try simp only [List.map_toArray, List.map_cons, List.map_nil]); first | done | (rw [show (l1.drop 2).length = (l1.length - 2) from List.length_drop] <;> rfl) | rfl | (simp only [List.length_drop, List.length_take]; rfl)) ?_; (with_reducible refine (decode_digits.calls kj17 _ _ (l1.drop 2) x7_17 t111 false _ ?side1 ?side2 A26.out).mono ?_); (case side1 => repeat (first | exact HR110.out | (with_reducible refine Kd.C_alloc ?_ _) | (with_reducible refine Kd.C_drewN ?_ _) | (with_reducible refine Kd.C_drew ?_))); (case side2 => exact HC110.out); rintro e w' ⟨rfl, ⟨nd, rfl⟩⟩; refine ⟨_, rfl, ?_⟩))
              go_ret3
              exact ⟨by first | rfl | (simp; done) | (simp [*]; done) | (simp [wrap64, wrap32]; done), by repeat (first | exact Drawn0.refl _ | apply Drawn0.step)⟩
            ·rw [if_neg c25] at H
             exact absurd H (by simp)
         ·rw [if_neg c17] at H
          exact absurd H (by simp)
    ·rw [if_neg c9] at H
     exact absurd H (by simp)

end Go.Proofs.YtekalnhackjldaaDoor.PDecodeBack
