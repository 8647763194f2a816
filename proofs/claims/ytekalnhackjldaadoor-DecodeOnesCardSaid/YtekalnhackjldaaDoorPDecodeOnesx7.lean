-- x
import Derived.Test.YtekalnhackjldaaDoorPDecodeOnesx0
namespace Go.Proofs.YtekalnhackjldaaDoor.PDecodeOnes
open Go.RowKit Go.Proofs.YtekalnhackjldaaDoor.X Go.Proofs.YtekalnhackjldaaDoorW.PrintWords Go.Proofs.YtekalnhackjldaaDoorW.PrintLast Go.Proofs.YtekalnhackjldaaDoorW.PrintMore
attribute [local go_sem] max2_int min2_int max_two min_two max_three min_three max_four min_four   -- for this text's walks alone
set_option linter.unusedVariables false
set_option linter.unusedSimpArgs false

/-! ### redpenref15_number: function 35 -/
mutual
def redpenref15_number.l0 : Nat → ByteArray → Int → Int → Int → Option (Int)
 | 0, _, _, _, _ => none
 | k + 1, x0, x1, x5, x6 => if x6 < (x0.size : Int) then (if 0 ≤ x6 then (if (bt x0 x6) ≥ 48 then (redpenref15_number.j1 k x0 x1 x5 x6 (-1) (decide ((bt x0 x6) ≤ 57))) else (redpenref15_number.j1 k x0 x1 x5 x6 (-1) false)) else (none)) else (some x5)
def redpenref15_number.j3 : Nat → ByteArray → Int → Int → Int → Int → Option (Int)
 | 0, _, _, _, _, _ => none
 | k + 1, x0, x1, x5, x6, x7 => if x7 < 0 then (redpenref15_number.j4 k x0 x1 x5 x6 x7 true) else (redpenref15_number.j4 k x0 x1 x5 x6 x7 (decide (x7 ≥ x1)))
def redpenref15_number.j4 : Nat → ByteArray → Int → Int → Int → Int → Bool → Option (Int)
 | 0, _, _, _, _, _, _ => none
 | k + 1, x0, x1, x5, x6, x7, x73 => if x73 = true then (some (-1)) else (if x5 ≤ 1114111 then (redpenref15_number.l0 k x0 x1 (wrap64 ((wrap64 (x5 * x1)) + x7)) (wrap64 (x6 + 1))) else (redpenref15_number.l0 k x0 x1 x5 (wrap64 (x6 + 1))))
def redpenref15_number.j1 : Nat → ByteArray → Int → Int → Int → Int → Bool → Option (Int)
 | 0, _, _, _, _, _, _ => none
 | k + 1, x0, x1, x5, x6, x7, x17 => if x17 = true then (if 0 ≤ x6 then (if x6 < (x0.size : Int) then (redpenref15_number.j3 k x0 x1 x5 x6 (((bt x0 x6) - 48) % 256)) else (none)) else (none)) else (if 0 ≤ x6 then (if x6 < (x0.size : Int) then (if (bt x0 x6) ≥ 97 then (redpenref15_number.j2 k x0 x1 x5 x6 x7 (decide ((bt x0 x6) ≤ 102))) else (redpenref15_number.j2 k x0 x1 x5 x6 x7 false)) else (none)) else (none))
def redpenref15_number.j2 : Nat → ByteArray → Int → Int → Int → Int → Bool → Option (Int)
 | 0, _, _, _, _, _, _ => none
 | k + 1, x0, x1, x5, x6, x7, x33 => if x33 = true then (if 0 ≤ x6 then (if x6 < (x0.size : Int) then (redpenref15_number.j3 k x0 x1 x5 x6 ((((bt x0 x6) - 97) % 256) + 10)) else (none)) else (none)) else (if 0 ≤ x6 then (if x6 < (x0.size : Int) then (if (bt x0 x6) ≥ 65 then (if (bt x0 x6) ≤ 70 then (redpenref15_number.j3 k x0 x1 x5 x6 ((((bt x0 x6) - 65) % 256) + 10)) else (redpenref15_number.j3 k x0 x1 x5 x6 x7)) else (redpenref15_number.j3 k x0 x1 x5 x6 x7)) else (none)) else (none))
end
def redpenref15_number.f (k : Nat) (a0 : ByteArray) (a1 : Int) : Option (Int) := if (a0.size : Int) = 0 then (some (-1)) else (redpenref15_number.l0 k a0 a1 0 0)
theorem redpenref15_number.mono_l : ∀ k, (∀ y0 y1 y2 y3, LeO (redpenref15_number.l0 k y0 y1 y2 y3) (redpenref15_number.l0 (k + 1) y0 y1 y2 y3)) ∧ (∀ y0 y1 y2 y3 y4, LeO (redpenref15_number.j3 k y0 y1 y2 y3 y4) (redpenref15_number.j3 (k + 1) y0 y1 y2 y3 y4)) ∧ (∀ y0 y1 y2 y3 y4 y5, LeO (redpenref15_number.j4 k y0 y1 y2 y3 y4 y5) (redpenref15_number.j4 (k + 1) y0 y1 y2 y3 y4 y5)) ∧ (∀ y0 y1 y2 y3 y4 y5, LeO (redpenref15_number.j1 k y0 y1 y2 y3 y4 y5) (redpenref15_number.j1 (k + 1) y0 y1 y2 y3 y4 y5)) ∧ (∀ y0 y1 y2 y3 y4 y5, LeO (redpenref15_number.j2 k y0 y1 y2 y3 y4 y5) (redpenref15_number.j2 (k + 1) y0 y1 y2 y3 y4 y5))
 | 0 => ⟨fun _ _ _ _ r h => by simp [redpenref15_number.l0] at h, fun _ _ _ _ _ r h => by simp [redpenref15_number.j3] at h, fun _ _ _ _ _ _ r h => by simp [redpenref15_number.j4] at h, fun _ _ _ _ _ _ r h => by simp [redpenref15_number.j1] at h, fun _ _ _ _ _ _ r h => by simp [redpenref15_number.j2] at h⟩
 | k + 1 => by
  obtain ⟨ih0, ih1, ih2, ih3, ih4⟩ := redpenref15_number.mono_l k
  refine ⟨?_, ?_, ?_, ?_, ?_⟩
  ·intro y0 y1 y2 y3
   unfold redpenref15_number.l0
   repeat' first
   | (with_reducible exact ih0 _ _ _ _)
   | (with_reducible exact ih1 _ _ _ _ _)
   | (with_reducible exact ih2 _ _ _ _ _ _)
   | (with_reducible exact ih3 _ _ _ _ _ _)
   | (with_reducible exact ih4 _ _ _ _ _ _)
   | (with_reducible exact LeO.refl _)
   | (with_reducible exact LeO.none _)
   | (with_reducible refine LeO.ite ?_ ?_)
   | (with_reducible refine LeO.bind ?_ (fun _ => ?_))
   | exact ih0 _ _ _ _
   | exact ih1 _ _ _ _ _
   | exact ih2 _ _ _ _ _ _
   | exact ih3 _ _ _ _ _ _
   | exact ih4 _ _ _ _ _ _
   | exact LeO.none _
   | refine LeO.ite ?_ ?_
   | refine LeO.bind ?_ (fun _ => ?_)
  ·intro y0 y1 y2 y3 y4
   unfold redpenref15_number.j3
   repeat' first
   | (with_reducible exact ih0 _ _ _ _)
   | (with_reducible exact ih1 _ _ _ _ _)
   | (with_reducible exact ih2 _ _ _ _ _ _)
   | (with_reducible exact ih3 _ _ _ _ _ _)
   | (with_reducible exact ih4 _ _ _ _ _ _)
   | (with_reducible exact LeO.refl _)
   | (with_reducible exact LeO.none _)
   | (with_reducible refine LeO.ite ?_ ?_)
   | (with_reducible refine LeO.bind ?_ (fun _ => ?_))
   | exact ih0 _ _ _ _
   | exact ih1 _ _ _ _ _
   | exact ih2 _ _ _ _ _ _
   | exact ih3 _ _ _ _ _ _
   | exact ih4 _ _ _ _ _ _
   | exact LeO.none _
   | refine LeO.ite ?_ ?_
   | refine LeO.bind ?_ (fun _ => ?_)
  ·intro y0 y1 y2 y3 y4 y5
   unfold redpenref15_number.j4
   repeat' first
   | (with_reducible exact ih0 _ _ _ _)
   | (with_reducible exact ih1 _ _ _ _ _)
   | (with_reducible exact ih2 _ _ _ _ _ _)
   | (with_reducible exact ih3 _ _ _ _ _ _)
   | (with_reducible exact ih4 _ _ _ _ _ _)
   | (with_reducible exact LeO.refl _)
   | (with_reducible exact LeO.none _)
   | (with_reducible refine LeO.ite ?_ ?_)
   | (with_reducible refine LeO.bind ?_ (fun _ => ?_))
   | exact ih0 _ _ _ _
   | exact ih1 _ _ _ _ _
   | exact ih2 _ _ _ _ _ _
   | exact ih3 _ _ _ _ _ _
   | exact ih4 _ _ _ _ _ _
   | exact LeO.none _
   | refine LeO.ite ?_ ?_
   | refine LeO.bind ?_ (fun _ => ?_)
  ·intro y0 y1 y2 y3 y4 y5
   unfold redpenref15_number.j1
   repeat' first
   | (with_reducible exact ih0 _ _ _ _)
   | (with_reducible exact ih1 _ _ _ _ _)
   | (with_reducible exact ih2 _ _ _ _ _ _)
   | (with_reducible exact ih3 _ _ _ _ _ _)
   | (with_reducible exact ih4 _ _ _ _ _ _)
   | (with_reducible exact LeO.refl _)
   | (with_reducible exact LeO.none _)
   | (with_reducible refine LeO.ite ?_ ?_)
   | (with_reducible refine LeO.bind ?_ (fun _ => ?_))
   | exact ih0 _ _ _ _
   | exact ih1 _ _ _ _ _
   | exact ih2 _ _ _ _ _ _
   | exact ih3 _ _ _ _ _ _
   | exact ih4 _ _ _ _ _ _
   | exact LeO.none _
   | refine LeO.ite ?_ ?_
   | refine LeO.bind ?_ (fun _ => ?_)
  ·intro y0 y1 y2 y3 y4 y5
   unfold redpenref15_number.j2
   repeat' first
   | (with_reducible exact ih0 _ _ _ _)
   | (with_reducible exact ih1 _ _ _ _ _)
   | (with_reducible exact ih2 _ _ _ _ _ _)
   | (with_reducible exact ih3 _ _ _ _ _ _)
   | (with_reducible exact ih4 _ _ _ _ _ _)
   | (with_reducible exact LeO.refl _)
   | (with_reducible exact LeO.none _)
   | (with_reducible refine LeO.ite ?_ ?_)
   | (with_reducible refine LeO.bind ?_ (fun _ => ?_))
   | exact ih0 _ _ _ _
   | exact ih1 _ _ _ _ _
   | exact ih2 _ _ _ _ _ _
   | exact ih3 _ _ _ _ _ _
   | exact ih4 _ _ _ _ _ _
   | exact LeO.none _
   | refine LeO.ite ?_ ?_
   | refine LeO.bind ?_ (fun _ => ?_)
theorem redpenref15_number.mono : ∀ a0 a1 k, LeO (redpenref15_number.f k a0 a1) (redpenref15_number.f (k + 1) a0 a1) := by
 intro a0 a1 k
 obtain ⟨ih0, ih1, ih2, ih3, ih4⟩ := redpenref15_number.mono_l k
 unfold redpenref15_number.f
 repeat' first
   | (with_reducible exact ih0 _ _ _ _)
   | (with_reducible exact ih1 _ _ _ _ _)
   | (with_reducible exact ih2 _ _ _ _ _ _)
   | (with_reducible exact ih3 _ _ _ _ _ _)
   | (with_reducible exact ih4 _ _ _ _ _ _)
   | (with_reducible exact LeO.refl _)
   | (with_reducible exact LeO.none _)
   | (with_reducible refine LeO.ite ?_ ?_)
   | (with_reducible refine LeO.bind ?_ (fun _ => ?_))
   | exact ih0 _ _ _ _
   | exact ih1 _ _ _ _ _
   | exact ih2 _ _ _ _ _ _
   | exact ih3 _ _ _ _ _ _
   | exact ih4 _ _ _ _ _ _
   | exact LeO.none _
   | refine LeO.ite ?_ ?_
   | refine LeO.bind ?_ (fun _ => ?_)
set_option maxHeartbeats 8000000 in
set_option maxRecDepth 100000 in
theorem redpenref15_number.calls (k : Nat) (a0 : ByteArray) (a1 : Int) (r : Int) (w : World) (h : redpenref15_number.f k a0 a1 = some r) :
  Calls Tryd.prog 35 #[.string a0, .int .i64 a1] w fun e w' => e = .returned (.int .i64 r) ∧ Drawn0 w w' := by
 have H : (if (a0.size : Int) = 0 then (some (-1)) else (redpenref15_number.l0 k a0 a1 0 0)) = some r := h
 clear h
 by_cases c3 : (a0.size : Int) = 0
 ·rw [if_pos c3] at H
  have c3b0 : ((a0.size : Int) == 0) = true := beq_iff_eq.mpr c3
  have c3b1 : ((a0.size : Int) != 0) = false := bne_eq_false_iff_eq.mpr c3
  clear c3
  obtain rfl := Option.some.inj H
  go_enter Tryd.func35, Tryd.ntmps35
  go_wp2
  go_ret
  exact ⟨by first | rfl | (simp; done) | (simp [*]; done) | (simp [wrap64, wrap32]; done), by repeat (first | exact Drawn0.refl _ | apply Drawn0.step)⟩
 ·rw [if_neg c3] at H
  have c3b0 : ((a0.size : Int) == 0) = false := beq_eq_false_iff_ne.mpr c3
  have c3b1 : ((a0.size : Int) != 0) = true := bne_iff_ne.mpr c3
  have H' := Aside0.mk H
  clear H
  go_enter Tryd.func35, Tryd.ntmps35
  go_wp2
  go_loopg [5, 6] k (fun kq v5 v6 w' => ∃ (x5_1 : Int) (x6_1 : Int), v5 = .int .i64 x5_1 ∧ v6 = .int .i64 x6_1 ∧ Aside0 (redpenref15_number.l0 kq a0 a1 x5_1 x6_1 = some r) ∧ Aside0 (kq ≤ k) ∧ Drawn0 w w')
  case atStart => exact ⟨(0), (0), (by first | rfl | (simp; done) | (simp [*]; done) | (simp [wrap64, wrap32]; done)), (by first | rfl | (simp; done) | (simp [*]; done) | (simp [wrap64, wrap32]; done)), H', ⟨Nat.le_refl _⟩, by repeat (first | exact Drawn0.refl _ | apply Drawn0.step)⟩
  case round =>
   clear H'
   try clear p2
   try clear c3
   try clear c3b0
   try clear c3b1
   obtain ⟨x5_1, x6_1, rfl, rfl, HA, HK1, ⟨m1, rfl⟩⟩ := hrel
   cases gk with
   | zero => exact absurd HA.out (by simp [redpenref15_number.l0])
   | succ k1 =>
    have H := HA.out
    clear HA
    simp only [redpenref15_number.l0] at H
    by_cases c4 : x6_1 < (a0.size : Int)
    ·rw [if_pos c4] at H
     have c4b0 : decide (x6_1 < (a0.size : Int)) = true := decide_eq_true c4
     clear c4
     have HC5 := Aside0.mk H
     clear H
     go_upto_block 2 with (fail)
     go_cut [7] (fun v7 wc => ∃ (kq : Nat) (x7_4 : Int), v7 = .int .i64 x7_4 ∧ Aside0 (redpenref15_number.j3 kq a0 a1 x5_1 x6_1 x7_4 = some r) ∧ Aside0 (kq ≤ k1) ∧ Drawn0 w wc)
     case first =>
      have H := HC5.out
      clear HC5
      have HC6 := Aside0.mk H
      clear H
      go_upto_region 8 with (fail)
      go_cut [17] (fun v17 wc => ∃ (kq : Nat) (x17_5 : Bool), v17 = .bool x17_5 ∧ Aside0 (redpenref15_number.j1 kq a0 a1 x5_1 x6_1 (-1) x17_5 = some r) ∧ Aside0 (kq ≤ k1) ∧ Drawn0 w wc)
      case first =>
       have H := HC6.out
       clear HC6
       by_cases c7 : 0 ≤ x6_1
       ·rw [if_pos c7] at H
        have c7b0 : decide (0 ≤ x6_1) = true := decide_eq_true c7
        clear c7
        (first | rw [c7b0] | (simp only [i64_w, i32_w]; rw [c7b0]) | skip)
        by_cases c9 : (bt a0 x6_1) ≥ 48
        ·rw [if_pos c9] at H
         have c9b0 : decide (48 ≤ (bt a0 x6_1)) = true := decide_eq_true c9
         clear c9
         have H' := Aside0.mk H
         clear H
         have p8 : 0 ≤ (x6_1 : Int) := of_decide_eq_true (by first | (with_reducible assumption) | assumption)
         have q8 : x6_1 < (a0.size : Int) := of_decide_eq_true (by first | (with_reducible assumption) | assumption)
         have hx8 := bt_at a0 x6_1
         replace p8 := eq_true p8
         replace q8 := eq_true q8
         have p10 : 0 ≤ (x6_1 : Int) := of_decide_eq_true (by first | (with_reducible assumption) | assumption)
         have q10 : x6_1 < (a0.size : Int) := of_decide_eq_true (by first | (with_reducible assumption) | assumption)
         have hx10 := bt_at a0 x6_1
         replace p10 := eq_true p10
         replace q10 := eq_true q10
         go_wp2
         go_meet
         case rel => exact ⟨_, (decide ((bt a0 x6_1) ≤ 57)), (by first | rfl | (simp; done) | (simp [*]; done) | (simp [wrap64, wrap32]; done)), H', ⟨by have := HK1.out; first | omega | exact Nat.le_refl _⟩, by repeat (first | exact Drawn0.refl _ | apply Drawn0.step)⟩
        ·rw [if_neg c9] at H
         have c9b0 : decide (48 ≤ (bt a0 x6_1)) = false := decide_eq_false c9
         clear c9
         have H' := Aside0.mk H
         clear H
         have p8 : 0 ≤ (x6_1 : Int) := of_decide_eq_true (by first | (with_reducible assumption) | assumption)
         have q8 : x6_1 < (a0.size : Int) := of_decide_eq_true (by first | (with_reducible assumption) | assumption)
         have hx8 := bt_at a0 x6_1
         replace p8 := eq_true p8
         replace q8 := eq_true q8
         go_wp2
         go_meet
         case rel => exact ⟨_, (false), (by first | rfl | (simp; done) | (simp [*]; done) | (simp [wrap64, wrap32]; done)), H', ⟨by have := HK1.out; first | omega | exact Nat.le_refl _⟩, by repeat (first | exact Drawn0.refl _ | apply Drawn0.step)⟩
       ·rw [if_neg c7] at H
        exact absurd H (by simp)
      case rest =>
       clear HC6
       try clear p1
       try clear q1
       try clear hx1
       try clear p2
       try clear c3
       try clear c3b0
       try clear c3b1
       try clear c4
       try clear c4b0
       try clear c7
       try clear c7b0
       try clear p8
       try clear q8
       try clear hx8
       try clear c9
       try clear c9b0
       try clear p10
       try clear q10
       try clear hx10
       try clear p10
       try clear p2
       try clear p8
       try clear q10
       try clear q8
       obtain ⟨kq, x17_5, rfl, HA, HJ5, ⟨mc5, rfl⟩⟩ := hcut
       cases kq with
       | zero => exact absurd HA.out (by simp [redpenref15_number.j1])
       | succ kj5 =>
        have H := HA.out
        clear HA
        simp only [redpenref15_number.j1] at H
        by_cases c11 : x17_5 = true
        ·subst c11
         have H1 : (if 0 ≤ x6_1 then (if x6_1 < (a0.size : Int) then (redpenref15_number.j3 kj5 a0 a1 x5_1 x6_1 (((bt a0 x6_1) - 48) % 256)) else (none)) else (none)) = some r := by rw [if_pos rfl] at H; exact H
         clear H
         have H := H1
         clear H1
         by_cases c12 : 0 ≤ x6_1
         ·rw [if_pos c12] at H
          have c12b0 : decide (0 ≤ x6_1) = true := decide_eq_true c12
          clear c12
          by_cases c13 : x6_1 < (a0.size : Int)
          ·rw [if_pos c13] at H
           have c13b0 : decide (x6_1 < (a0.size : Int)) = true := decide_eq_true c13
           clear c13
           have H' := Aside0.mk H
           clear H
           have p14 : 0 ≤ (x6_1 : Int) := of_decide_eq_true (by first | (with_reducible assumption) | assumption)
           have q14 : x6_1 < (a0.size : Int) := of_decide_eq_true (by first | (with_reducible assumption) | assumption)
           have hx14 := bt_at a0 x6_1
           replace p14 := eq_true p14
           replace q14 := eq_true q14
           go_wp2
           go_meet
           case rel => exact ⟨_, (((bt a0 x6_1) - 48) % 256), (by first | rfl | (simp; done) | (simp [*]; done) | (simp [wrap64, wrap32]; done)), H', ⟨by have := HK1.out; have := HJ5.out; first | omega | exact Nat.le_refl _⟩, by repeat (first | exact Drawn0.refl _ | apply Drawn0.step)⟩
          ·rw [if_neg c13] at H
           exact absurd H (by simp)
         ·rw [if_neg c12] at H
          exact absurd H (by simp)
        ·replace c11 := Bool.eq_false_iff.mpr c11
         subst c11
         have H1 : (if 0 ≤ x6_1 then (if x6_1 < (a0.size : Int) then (if (bt a0 x6_1) ≥ 97 then (redpenref15_number.j2 kj5 a0 a1 x5_1 x6_1 (-1) (decide ((bt a0 x6_1) ≤ 102))) else (redpenref15_number.j2 kj5 a0 a1 x5_1 x6_1 (-1) false)) else (none)) else (none)) = some r := by rw [if_neg (show ¬ (false = true) by decide)] at H; exact H
         clear H
         have H := H1
         clear H1
         have HC15 := Aside0.mk H
         clear H
         go_upto_region 10 with (fail)
         go_cut [33] (fun v33 wc => ∃ (kq : Nat) (x33_14 : Bool), v33 = .bool x33_14 ∧ Aside0 (redpenref15_number.j2 kq a0 a1 x5_1 x6_1 (-1) x33_14 = some r) ∧ Aside0 (kq ≤ kj5) ∧ Drawn0 w wc)
         case first =>
          have H := HC15.out
          clear HC15
          by_cases c16 : 0 ≤ x6_1
          ·rw [if_pos c16] at H
           have c16b0 : decide (0 ≤ x6_1) = true := decide_eq_true c16
           clear c16
           (first | rw [c16b0] | (simp only [i64_w, i32_w]; rw [c16b0]) | skip)
           by_cases c17 : x6_1 < (a0.size : Int)
           ·rw [if_pos c17] at H
            have c17b0 : decide (x6_1 < (a0.size : Int)) = true := decide_eq_true c17
            clear c17
            by_cases c19 : (bt a0 x6_1) ≥ 97
            ·rw [if_pos c19] at H
             have c19b0 : decide (97 ≤ (bt a0 x6_1)) = true := decide_eq_true c19
             clear c19
             have H' := Aside0.mk H
             clear H
             have p18 : 0 ≤ (x6_1 : Int) := of_decide_eq_true (by first | (with_reducible assumption) | assumption)
             have q18 : x6_1 < (a0.size : Int) := of_decide_eq_true (by first | (with_reducible assumption) | assumption)
             have hx18 := bt_at a0 x6_1
             replace p18 := eq_true p18
             replace q18 := eq_true q18
             have p20 : 0 ≤ (x6_1 : Int) := of_decide_eq_true (by first | (with_reducible assumption) | assumption)
             have q20 : x6_1 < (a0.size : Int) := of_decide_eq_true (by first | (with_reducible assumption) | assumption)
             have hx20 := bt_at a0 x6_1
             replace p20 := eq_true p20
             replace q20 := eq_true q20
             go_wp2
             go_meet
             case rel => exact ⟨_, (decide ((bt a0 x6_1) ≤ 102)), (by first | rfl | (simp; done) | (simp [*]; done) | (simp [wrap64, wrap32]; done)), H', ⟨by have := HK1.out; have := HJ5.out; first | omega | exact Nat.le_refl _⟩, by repeat (first | exact Drawn0.refl _ | apply Drawn0.step)⟩
            ·rw [if_neg c19] at H
             have c19b0 : decide (97 ≤ (bt a0 x6_1)) = false := decide_eq_false c19
             clear c19
             have H' := Aside0.mk H
             clear H
             have p18 : 0 ≤ (x6_1 : Int) := of_decide_eq_true (by first | (with_reducible assumption) | assumption)
             have q18 : x6_1 < (a0.size : Int) := of_decide_eq_true (by first | (with_reducible assumption) | assumption)
             have hx18 := bt_at a0 x6_1
             replace p18 := eq_true p18
             replace q18 := eq_true q18
             go_wp2
             go_meet
             case rel => exact ⟨_, (false), (by first | rfl | (simp; done) | (simp [*]; done) | (simp [wrap64, wrap32]; done)), H', ⟨by have := HK1.out; have := HJ5.out; first | omega | exact Nat.le_refl _⟩, by repeat (first | exact Drawn0.refl _ | apply Drawn0.step)⟩
           ·rw [if_neg c17] at H
            exact absurd H (by simp)
          ·rw [if_neg c16] at H
           exact absurd H (by simp)
         case rest =>
          clear HC15
          try clear c1
          try clear p1
          try clear q1
          try clear hx1
          try clear p2
          try clear q2
          try clear hx2
          try clear c3
          try clear c3b0
          try clear c3b1
          try clear c4
          try clear c4b0
          try clear c5
          try clear c7
          try clear c7b0
          try clear p8
          try clear q8
          try clear hx8
          try clear c9
          try clear c9b0
          try clear p10
          try clear q10
          try clear hx10
          try clear c11
          try clear c12
          try clear c12b0
          try clear c13
          try clear c13b0
          try clear p14
          try clear q14
          try clear hx14
          try clear c16
          try clear c16b0
          try clear c17
          try clear c17b0
          try clear p18
          try clear q18
          try clear hx18
          try clear c19
          try clear c19b0
          try clear p20
          try clear q20
          try clear hx20
          try clear p1
          try clear p10
          try clear p14
          try clear p18
          try clear p2
          try clear p20
          try clear p8
          try clear q1
          try clear q10
          try clear q14
          try clear q18
          try clear q20
          try clear q8
          obtain ⟨kq, x33_14, rfl, HA, HJ14, ⟨mc14, rfl⟩⟩ := hcut
          cases kq with
          | zero => exact absurd HA.out (by simp [redpenref15_number.j2])
          | succ kj14 =>
           have H := HA.out
           clear HA
           simp only [redpenref15_number.j2] at H
           by_cases c21 : x33_14 = true
           ·subst c21
            have H1 : (if 0 ≤ x6_1 then (if x6_1 < (a0.size : Int) then (redpenref15_number.j3 kj14 a0 a1 x5_1 x6_1 ((((bt a0 x6_1) - 97) % 256) + 10)) else (none)) else (none)) = some r := by rw [if_pos rfl] at H; exact H
            clear H
            have H := H1
            clear H1
            by_cases c22 : 0 ≤ x6_1
            ·rw [if_pos c22] at H
             have c22b0 : decide (0 ≤ x6_1) = true := decide_eq_true c22
             clear c22
             by_cases c23 : x6_1 < (a0.size : Int)
             ·rw [if_pos c23] at H
              have c23b0 : decide (x6_1 < (a0.size : Int)) = true := decide_eq_true c23
              clear c23
              have H' := Aside0.mk H
              clear H
              have p24 : 0 ≤ (x6_1 : Int) := of_decide_eq_true (by first | (with_reducible assumption) | assumption)
              have q24 : x6_1 < (a0.size : Int) := of_decide_eq_true (by first | (with_reducible assumption) | assumption)
              have hx24 := bt_at a0 x6_1
              replace p24 := eq_true p24
              replace q24 := eq_true q24
              go_wp2
              go_meet
              case rel => exact ⟨_, ((((bt a0 x6_1) - 97) % 256) + 10), (by first | rfl | (simp; done) | (simp [*]; done) | (simp [wrap64, wrap32]; done)), H', ⟨by have := HK1.out; have := HJ5.out; have := HJ14.out; first | omega | exact Nat.le_refl _⟩, by repeat (first | exact Drawn0.refl _ | apply Drawn0.step)⟩
             ·rw [if_neg c23] at H
              exact absurd H (by simp)
            ·rw [if_neg c22] at H
             exact absurd H (by simp)
           ·replace c21 := Bool.eq_false_iff.mpr c21
            subst c21
            have H1 : (if 0 ≤ x6_1 then (if x6_1 < (a0.size : Int) then (if (bt a0 x6_1) ≥ 65 then (if (bt a0 x6_1) ≤ 70 then (redpenref15_number.j3 kj14 a0 a1 x5_1 x6_1 ((((bt a0 x6_1) - 65) % 256) + 10)) else (redpenref15_number.j3 kj14 a0 a1 x5_1 x6_1 (-1))) else (redpenref15_number.j3 kj14 a0 a1 x5_1 x6_1 (-1))) else (none)) else (none)) = some r := by rw [if_neg (show ¬ (false = true) by decide)] at H; exact H
            clear H
            have H := H1
            clear H1
            by_cases c25 : 0 ≤ x6_1
            ·rw [if_pos c25] at H
             have c25b0 : decide (0 ≤ x6_1) = true := decide_eq_true c25
             clear c25
             by_cases c26 : x6_1 < (a0.size : Int)
             ·rw [if_pos c26] at H
              have c26b0 : decide (x6_1 < (a0.size : Int)) = true := decide_eq_true c26
              clear c26
              by_cases c28 : (bt a0 x6_1) ≥ 65
              ·rw [if_pos c28] at H
               have c28b0 : decide (65 ≤ (bt a0 x6_1)) = true := decide_eq_true c28
               clear c28
               by_cases c30 : (bt a0 x6_1) ≤ 70
               ·rw [if_pos c30] at H
                have c30b0 : decide ((bt a0 x6_1) ≤ 70) = true := decide_eq_true c30
                clear c30
                have H' := Aside0.mk H
                clear H
                have p27 : 0 ≤ (x6_1 : Int) := of_decide_eq_true (by first | (with_reducible assumption) | assumption)
                have q27 : x6_1 < (a0.size : Int) := of_decide_eq_true (by first | (with_reducible assumption) | assumption)
                have hx27 := bt_at a0 x6_1
                replace p27 := eq_true p27
                replace q27 := eq_true q27
                have p29 : 0 ≤ (x6_1 : Int) := of_decide_eq_true (by first | (with_reducible assumption) | assumption)
                have q29 : x6_1 < (a0.size : Int) := of_decide_eq_true (by first | (with_reducible assumption) | assumption)
                have hx29 := bt_at a0 x6_1
                replace p29 := eq_true p29
                replace q29 := eq_true q29
                have p31 : 0 ≤ (x6_1 : Int) := of_decide_eq_true (by first | (with_reducible assumption) | assumption)
                have q31 : x6_1 < (a0.size : Int) := of_decide_eq_true (by first | (with_reducible assumption) | assumption)
                have hx31 := bt_at a0 x6_1
                replace p31 := eq_true p31
                replace q31 := eq_true q31
                go_wp2
                go_meet
                case rel => exact ⟨_, ((((bt a0 x6_1) - 65) % 256) + 10), (by first | rfl | (simp; done) | (simp [*]; done) | (simp [wrap64, wrap32]; done)), H', ⟨by have := HK1.out; have := HJ5.out; have := HJ14.out; first | omega | exact Nat.le_refl _⟩, by repeat (first | exact Drawn0.refl _ | apply Drawn0.step)⟩
               ·rw [if_neg c30] at H
                have c30b0 : decide ((bt a0 x6_1) ≤ 70) = false := decide_eq_false c30
                clear c30
                have H' := Aside0.mk H
                clear H
                have p27 : 0 ≤ (x6_1 : Int) := of_decide_eq_true (by first | (with_reducible assumption) | assumption)
                have q27 : x6_1 < (a0.size : Int) := of_decide_eq_true (by first | (with_reducible assumption) | assumption)
                have hx27 := bt_at a0 x6_1
                replace p27 := eq_true p27
                replace q27 := eq_true q27
                have p29 : 0 ≤ (x6_1 : Int) := of_decide_eq_true (by first | (with_reducible assumption) | assumption)
                have q29 : x6_1 < (a0.size : Int) := of_decide_eq_true (by first | (with_reducible assumption) | assumption)
                have hx29 := bt_at a0 x6_1
                replace p29 := eq_true p29
                replace q29 := eq_true q29
                go_wp2
                go_meet
                case rel => exact ⟨_, ((-1)), (by first | rfl | (simp; done) | (simp [*]; done) | (simp [wrap64, wrap32]; done)), H', ⟨by have := HK1.out; have := HJ5.out; have := HJ14.out; first | omega | exact Nat.le_refl _⟩, by repeat (first | exact Drawn0.refl _ | apply Drawn0.step)⟩
              ·rw [if_neg c28] at H
               have c28b0 : decide (65 ≤ (bt a0 x6_1)) = false := decide_eq_false c28
               clear c28
               have H' := Aside0.mk H
               clear H
               have p27 : 0 ≤ (x6_1 : Int) := of_decide_eq_true (by first | (with_reducible assumption) | assumption)
               have q27 : x6_1 < (a0.size : Int) := of_decide_eq_true (by first | (with_reducible assumption) | assumption)
               have hx27 := bt_at a0 x6_1
               replace p27 := eq_true p27
               replace q27 := eq_true q27
               go_wp2
               go_meet
               case rel => exact ⟨_, ((-1)), (by first | rfl | (simp; done) | (simp [*]; done) | (simp [wrap64, wrap32]; done)), H', ⟨by have := HK1.out; have := HJ5.out; have := HJ14.out; first | omega | exact Nat.le_refl _⟩, by repeat (first | exact Drawn0.refl _ | apply Drawn0.step)⟩
             ·rw [if_neg c26] at H
              exact absurd H (by simp)
            ·rw [if_neg c25] at H
             exact absurd H (by simp)
     case rest =>
      clear HC5
      try clear c1
      try clear p1
      try clear q1
      try clear hx1
      try clear c2
      try clear p2
      try clear q2
      try clear hx2
      try clear c3
      try clear c3b0
      try clear c3b1
      try clear p3
      try clear q3
      try clear hx3
      try clear c4
      try clear c4b0
      try clear c5
      try clear c7
      try clear c7b0
      try clear p8
      try clear q8
      try clear hx8
      try clear c9
      try clear c9b0
      try clear p10
      try clear q10
      try clear hx10
      try clear c11
      try clear c12
      try clear c12b0
      try clear c13
      try clear c13b0
      try clear c14
      try clear p14
      try clear q14
      try clear hx14
      try clear c16
      try clear c16b0
      try clear c17
      try clear c17b0
      try clear p18
      try clear q18
      try clear hx18
      try clear c19
      try clear c19b0
      try clear p20
      try clear q20
      try clear hx20
      try clear c21
      try clear c22
      try clear c22b0
      try clear c23
      try clear c23b0
      try clear p24
      try clear q24
      try clear hx24
      try clear c25
      try clear c25b0
      try clear c26
      try clear c26b0
      try clear p27
      try clear q27
      try clear hx27
      try clear c28
      try clear c28b0
      try clear p29
      try clear q29
      try clear hx29
      try clear c30
      try clear c30b0
      try clear p31
      try clear q31
      try clear hx31
      try clear p1
      try clear p10
      try clear p14
      try clear p18
      try clear p2
      try clear p20
      try clear p24
      try clear p27
      try clear p29
      try clear p31
      try clear p8
      try clear q1
      try clear q10
      try clear q14
      try clear q18
      try clear q2
      try clear q20
      try clear q24
      try clear q27
      try clear q29
      try clear q31
      try clear q8
      obtain ⟨kq, x7_4, rfl, HA, HJ4, ⟨mc4, rfl⟩⟩ := hcut
      cases kq with
      | zero => exact absurd HA.out (by simp [redpenref15_number.j3])
      | succ kj4 =>
       have H := HA.out
       clear HA
       simp only [redpenref15_number.j3] at H
       have HC32 := Aside0.mk H
       clear H
       go_upto_region 14 with (fail)
       go_cut [73] (fun v73 wc => ∃ (kq : Nat) (x73_31 : Bool), v73 = .bool x73_31 ∧ Aside0 (redpenref15_number.j4 kq a0 a1 x5_1 x6_1 x7_4 x73_31 = some r) ∧ Aside0 (kq ≤ kj4) ∧ Drawn0 w wc)
       case first =>
        have H := HC32.out
        clear HC32
        by_cases c33 : x7_4 < 0
        ·rw [if_pos c33] at H
         have c33b0 : decide (x7_4 < 0) = true := decide_eq_true c33
         clear c33
         (first | rw [c33b0] | (simp only [i64_w, i32_w]; rw [c33b0]) | skip)
         have H' := Aside0.mk H
         clear H
         go_wp2
         go_meet
         case rel => exact ⟨_, (true), (by first | rfl | (simp; done) | (simp [*]; done) | (simp [wrap64, wrap32]; done)), H', ⟨by have := HK1.out; have := HJ4.out; first | omega | exact Nat.le_refl _⟩, by repeat (first | exact Drawn0.refl _ | apply Drawn0.step)⟩
        ·rw [if_neg c33] at H
         have c33b0 : decide (x7_4 < 0) = false := decide_eq_false c33
         clear c33
         (first | rw [c33b0] | (simp only [i64_w, i32_w]; rw [c33b0]) | skip)
         have H' := Aside0.mk H
         clear H
         go_wp2
         go_meet
         case rel => exact ⟨_, (decide (x7_4 ≥ a1)), (by first | rfl | (simp; done) | (simp [*]; done) | (simp [wrap64, wrap32]; done)), H', ⟨by have := HK1.out; have := HJ4.out; first | omega | exact Nat.le_refl _⟩, by repeat (first | exact Drawn0.refl _ | apply Drawn0.step)⟩
       case rest =>
        clear HC32
        try clear c1
        try clear p1
        try clear q1
        try clear hx1
        try clear c2
        try clear p2
        try clear q2
        try clear hx2
        try clear c3
        try clear c3b0
        try clear c3b1
        try clear p3
        try clear q3
        try clear hx3
        try clear c4
        try clear c4b0
        try clear c5
        try clear c7
        try clear c7b0
        try clear p8
        try clear q8
        try clear hx8
        try clear c9
        try clear c9b0
        try clear p10
        try clear q10
        try clear hx10
        try clear c11
        try clear c12
        try clear c12b0
        try clear c13
        try clear c13b0
        try clear c14
        try clear p14
        try clear q14
        try clear hx14
        try clear c16
        try clear c16b0
        try clear c17
        try clear c17b0
        try clear p18
        try clear q18
        try clear hx18
        try clear c19
        try clear c19b0
        try clear p20
        try clear q20
        try clear hx20
        try clear c21
        try clear c22
        try clear c22b0
        try clear c23
        try clear c23b0
        try clear p24
        try clear q24
        try clear hx24
        try clear c25
        try clear c25b0
        try clear c26
        try clear c26b0
        try clear p27
        try clear q27
        try clear hx27
        try clear c28
        try clear c28b0
        try clear p29
        try clear q29
        try clear hx29
        try clear c30
        try clear c30b0
        try clear p31
        try clear q31
        try clear hx31
        try clear c33
        try clear c33b0
        try clear p1
        try clear p10
        try clear p14
        try clear p18
        try clear p2
        try clear p20
        try clear p24
        try clear p27
        try clear p29
        try clear p3
        try clear p31
        try clear p8
        try clear q1
        try clear q10
        try clear q14
        try clear q18
        try clear q2
        try clear q20
        try clear q24
        try clear q27
        try clear q29
        try clear q3
        try clear q31
        try clear q8
        obtain ⟨kq, x73_31, rfl, HA, HJ31, ⟨mc31, rfl⟩⟩ := hcut
        cases kq with
        | zero => exact absurd HA.out (by simp [redpenref15_number.j4])
        | succ kj31 =>
         have H := HA.out
         clear HA
         simp only [redpenref15_number.j4] at H
         by_cases c34 : x73_31 = true
         ·subst c34
          have H1 : (some (-1)) = some r := by rw [if_pos rfl] at H; exact H
          clear H
          have H := H1
          clear H1
          obtain rfl := Option.some.inj H
          go_wp2
          go_ret
          exact ⟨by first | rfl | (simp; done) | (simp [*]; done) | (simp [wrap64, wrap32]; done), by repeat (first | exact Drawn0.refl _ | apply Drawn0.step)⟩
         ·replace c34 := Bool.eq_false_iff.mpr c34
          subst c34
          have H1 : (if x5_1 ≤ 1114111 then (redpenref15_number.l0 kj31 a0 a1 (wrap64 ((wrap64 (x5_1 * a1)) + x7_4)) (wrap64 (x6_1 + 1))) else (redpenref15_number.l0 kj31 a0 a1 x5_1 (wrap64 (x6_1 + 1)))) = some r := by rw [if_neg (show ¬ (false = true) by decide)] at H; exact H
          clear H
          have H := H1
          clear H1
          by_cases c35 : x5_1 ≤ 1114111
          ·rw [if_pos c35] at H
           have c35b0 : decide (x5_1 ≤ 1114111) = true := decide_eq_true c35
           clear c35
           have H' := Aside0.mk H
           clear H
           go_wp2
           go_roundg kj31
           case measure => have := HK1.out; have := HJ4.out; have := HJ31.out; omega
           case rel => exact ⟨(wrap64 ((wrap64 (x5_1 * a1)) + x7_4)), (wrap64 (x6_1 + 1)), (by first | rfl | (simp; done) | (simp [*]; done) | (simp [wrap64, wrap32]; done)), (by first | rfl | (simp; done) | (simp [*]; done) | (simp [wrap64, wrap32]; done)), H', ⟨by have := HK1.out; have := HJ4.out; have := HJ31.out; omega⟩, by repeat (first | exact Drawn0.refl _ | apply Drawn0.step)⟩
          ·rw [if_neg c35] at H
           have c35b0 : decide (x5_1 ≤ 1114111) = false := decide_eq_false c35
           clear c35
           have H' := Aside0.mk H
           clear H
           go_wp2
           go_roundg kj31
           case measure => have := HK1.out; have := HJ4.out; have := HJ31.out; omega
           case rel => exact ⟨(x5_1), (wrap64 (x6_1 + 1)), (by first | rfl | (simp; done) | (simp [*]; done) | (simp [wrap64, wrap32]; done)), (by first | rfl | (simp; done) | (simp [*]; done) | (simp [wrap64, wrap32]; done)), H', ⟨by have := HK1.out; have := HJ4.out; have := HJ31.out; omega⟩, by repeat (first | exact Drawn0.refl _ | apply Drawn0.step)⟩
    ·rw [if_neg c4] at H
     have c4b0 : decide (x6_1 < (a0.size : Int)) = false := decide_eq_false c4
     clear c4
     obtain rfl := Option.some.inj H
     go_wp2
     go_ret
     exact ⟨by first | rfl | (simp; done) | (simp [*]; done) | (simp [wrap64, wrap32]; done), by repeat (first | exact Drawn0.refl _ | apply Drawn0.step)⟩

/-! ### redpenref15_valid: function 36 -/
def redpenref15_valid.f (a0 : Int) : Option (Bool) := if a0 ≥ 1 then (if a0 ≤ 1114111 then (if a0 < 55296 then (some true) else (some (decide (a0 > 57343)))) else (some false)) else (some false)
set_option maxHeartbeats 8000000 in
set_option maxRecDepth 100000 in
theorem redpenref15_valid.calls (a0 : Int) (r : Bool) (w : World) (h : redpenref15_valid.f a0 = some r) :
  Calls Tryd.prog 36 #[.int .i64 a0] w fun e w' => e = .returned (.bool r) ∧ Drawn0 w w' := by
 have H : (if a0 ≥ 1 then (if a0 ≤ 1114111 then (if a0 < 55296 then (some true) else (some (decide (a0 > 57343)))) else (some false)) else (some false)) = some r := h
 clear h
 by_cases c2 : a0 ≥ 1
 ·rw [if_pos c2] at H
  have c2b0 : decide (1 ≤ a0) = true := decide_eq_true c2
  clear c2
  by_cases c3 : a0 ≤ 1114111
  ·rw [if_pos c3] at H
   have c3b0 : decide (a0 ≤ 1114111) = true := decide_eq_true c3
   clear c3
   by_cases c4 : a0 < 55296
   ·rw [if_pos c4] at H
    have c4b0 : decide (a0 < 55296) = true := decide_eq_true c4
    clear c4
    obtain rfl := Option.some.inj H
    go_enter Tryd.func36, Tryd.ntmps36
    go_wp2
    go_ret
    exact ⟨by first | rfl | (simp; done) | (simp [*]; done) | (simp [wrap64, wrap32]; done), by repeat (first | exact Drawn0.refl _ | apply Drawn0.step)⟩
   ·rw [if_neg c4] at H
    have c4b0 : decide (a0 < 55296) = false := decide_eq_false c4
    clear c4
    obtain rfl := Option.some.inj H
    go_enter Tryd.func36, Tryd.ntmps36
    go_wp2
    go_ret
    exact ⟨by first | rfl | (simp; done) | (simp [*]; done) | (simp [wrap64, wrap32]; done), by repeat (first | exact Drawn0.refl _ | apply Drawn0.step)⟩
  ·rw [if_neg c3] at H
   have c3b0 : decide (a0 ≤ 1114111) = false := decide_eq_false c3
   clear c3
   obtain rfl := Option.some.inj H
   go_enter Tryd.func36, Tryd.ntmps36
   go_wp2
   go_ret
   exact ⟨by first | rfl | (simp; done) | (simp [*]; done) | (simp [wrap64, wrap32]; done), by repeat (first | exact Drawn0.refl _ | apply Drawn0.step)⟩
 ·rw [if_neg c2] at H
  have c2b0 : decide (1 ≤ a0) = false := decide_eq_false c2
  clear c2
  obtain rfl := Option.some.inj H
  go_enter Tryd.func36, Tryd.ntmps36
  go_wp2
  go_ret
  exact ⟨by first | rfl | (simp; done) | (simp [*]; done) | (simp [wrap64, wrap32]; done), by repeat (first | exact Drawn0.refl _ | apply Drawn0.step)⟩

end Go.Proofs.YtekalnhackjldaaDoor.PDecodeOnes
