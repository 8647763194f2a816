-- Laid by a program of ours (the kit's print with words and contracts of our own beside it).
import Derived.Test.YtekalnhackjldaaDoorPDecodeUnitsx0
import Derived.Test.YtekalnhackjldaaDoorPDecodeUnitsx8
namespace Go.Proofs.YtekalnhackjldaaDoor.PDecodeUnits
open Go.RowKit Go.Proofs.YtekalnhackjldaaDoor.X Go.Proofs.YtekalnhackjldaaDoorW.PrintWords Go.Proofs.YtekalnhackjldaaDoorW.PrintLast Go.Proofs.YtekalnhackjldaaDoorW.PrintMore
attribute [local go_sem] max2_int min2_int max_two min_two max_three min_three max_four min_four   -- for this text's walks alone
set_option linter.unusedVariables false
set_option linter.unusedSimpArgs false

/-! ### redpenref15_Escape: function 15 -/
mutual
def redpenref15_Escape.j0 : Nat → Int → List Int → Bool → Option (Int × Int × Bool)
 | 0, _, _, _ => none
 | k + 1, x0, x1, x24 => if x24 = true then (some (0, 0, false)) else (if 1 < (x1.length : Int) then (if x0 = 7 then (if (rd x1 1) = 34 then (some (wrap32 (rd x1 1), 2, true)) else (if (rd x1 1) = 92 then (some (wrap32 (rd x1 1), 2, true)) else (if (rd x1 1) = 36 then (some (wrap32 (rd x1 1), 2, true)) else (if (rd x1 1) = 96 then (some (wrap32 (rd x1 1), 2, true)) else (some (0, 0, false)))))) else (if (rd x1 1) = 110 then (some (10, 2, true)) else (if (rd x1 1) = 114 then (some (13, 2, true)) else (if (rd x1 1) = 116 then (some (9, 2, true)) else (if (rd x1 1) = 120 then (redpenref15_Escape.j1 k x1 2) else (if (rd x1 1) = 117 then (redpenref15_Escape.j1 k x1 4) else (if (rd x1 1) = 85 then (redpenref15_Escape.j1 k x1 8) else (some (wrap32 (rd x1 1), 2, true))))))))) else (none))
def redpenref15_Escape.j1 : Nat → List Int → Int → Option (Int × Int × Bool)
 | 0, _, _ => none
 | k + 1, x1, x8 => if (x1.length : Int) < (wrap64 (2 + x8)) then (some (0, 0, false)) else (if 2 ≤ (wrap64 (2 + x8)) then (if (wrap64 (2 + x8)) ≤ (x1.length : Int) then ((redpenref15_number.f k (strOfNums ((x1.take ((wrap64 (2 + x8)) : Int).toNat).drop 2)) 16).bind fun t196 => ((redpenref15_valid.f t196).bind fun t197 => (if t197 = true then (some (wrap32 (t196), wrap64 (2 + x8), true)) else (some (0, 0, false))))) else (none)) else (none))
end
def redpenref15_Escape.f (k : Nat) (a0 : Int) (l1 : List Int) : Option (Int × Int × Bool) := if (l1.length : Int) < 2 then (redpenref15_Escape.j0 k a0 l1 true) else (if 0 < (l1.length : Int) then (if (rd l1 0) = 92 then (if 1 < (l1.length : Int) then (redpenref15_Escape.j0 k a0 l1 (decide ((rd l1 1) > 127))) else (none)) else (redpenref15_Escape.j0 k a0 l1 true)) else (none))
theorem redpenref15_Escape.mono_l : ∀ k, (∀ y0 y1 y2, LeO (redpenref15_Escape.j0 k y0 y1 y2) (redpenref15_Escape.j0 (k + 1) y0 y1 y2)) ∧ (∀ y0 y1, LeO (redpenref15_Escape.j1 k y0 y1) (redpenref15_Escape.j1 (k + 1) y0 y1))
 | 0 => ⟨fun _ _ _ r h => by simp [redpenref15_Escape.j0] at h, fun _ _ r h => by simp [redpenref15_Escape.j1] at h⟩
 | k + 1 => by
  obtain ⟨ih0, ih1⟩ := redpenref15_Escape.mono_l k
  refine ⟨?_, ?_⟩
  ·intro y0 y1 y2
   unfold redpenref15_Escape.j0
   repeat' first
   | (with_reducible exact ih0 _ _ _)
   | (with_reducible exact ih1 _ _)
   | (with_reducible exact redpenref15_number.mono _ _ _)
   | (with_reducible exact LeO.refl _)
   | (with_reducible exact LeO.none _)
   | (with_reducible refine LeO.ite ?_ ?_)
   | (with_reducible refine LeO.bind ?_ (fun _ => ?_))
   | exact ih0 _ _ _
   | exact ih1 _ _
   | exact redpenref15_number.mono _ _ _
   | exact LeO.none _
   | refine LeO.ite ?_ ?_
   | refine LeO.bind ?_ (fun _ => ?_)
  ·intro y0 y1
   unfold redpenref15_Escape.j1
   repeat' first
   | (with_reducible exact ih0 _ _ _)
   | (with_reducible exact ih1 _ _)
   | (with_reducible exact redpenref15_number.mono _ _ _)
   | (with_reducible exact LeO.refl _)
   | (with_reducible exact LeO.none _)
   | (with_reducible refine LeO.ite ?_ ?_)
   | (with_reducible refine LeO.bind ?_ (fun _ => ?_))
   | exact ih0 _ _ _
   | exact ih1 _ _
   | exact redpenref15_number.mono _ _ _
   | exact LeO.none _
   | refine LeO.ite ?_ ?_
   | refine LeO.bind ?_ (fun _ => ?_)
theorem redpenref15_Escape.mono : ∀ a0 a1 k, LeO (redpenref15_Escape.f k a0 a1) (redpenref15_Escape.f (k + 1) a0 a1) := by
 intro a0 a1 k
 obtain ⟨ih0, ih1⟩ := redpenref15_Escape.mono_l k
 unfold redpenref15_Escape.f
 repeat' first
   | (with_reducible exact ih0 _ _ _)
   | (with_reducible exact ih1 _ _)
   | (with_reducible exact redpenref15_number.mono _ _ _)
   | (with_reducible exact LeO.refl _)
   | (with_reducible exact LeO.none _)
   | (with_reducible refine LeO.ite ?_ ?_)
   | (with_reducible refine LeO.bind ?_ (fun _ => ?_))
   | exact ih0 _ _ _
   | exact ih1 _ _
   | exact redpenref15_number.mono _ _ _
   | exact LeO.none _
   | refine LeO.ite ?_ ?_
   | refine LeO.bind ?_ (fun _ => ?_)
set_option maxHeartbeats 8000000 in
set_option maxRecDepth 100000 in
theorem redpenref15_Escape.calls (k : Nat) (a0 : Int) (A1 : Option Addr) (c1 : Nat) (l1 : List Int) (r1 : Int) (r2 : Int) (r3 : Bool) (w : World) (hr1 : Kd.C (Kd.int .u8) w A1 l1.length l1) (hc1 : l1.length ≤ c1) (h : redpenref15_Escape.f k a0 l1 = some (r1, r2, r3)) :
  Calls Tryd.prog 15 #[.int .u8 a0, .slice A1 l1.length c1] w fun e w' => e = .returned (.tuple #[.int .i32 r1, .int .i64 r2, .bool r3]) ∧ Drawn0 w w' := by
 have HR1 := Aside0.mk hr1
 have HC1 := Aside0.mk hc1
 clear hr1 hc1
 have H : (if (l1.length : Int) < 2 then (redpenref15_Escape.j0 k a0 l1 true) else (if 0 < (l1.length : Int) then (if (rd l1 0) = 92 then (if 1 < (l1.length : Int) then (redpenref15_Escape.j0 k a0 l1 (decide ((rd l1 1) > 127))) else (none)) else (redpenref15_Escape.j0 k a0 l1 true)) else (none))) = some (r1, r2, r3) := h
 clear h
 have HC3 := Aside0.mk H
 clear H
 go_enter Tryd.func15, Tryd.ntmps15
 go_upto_region 1 with (fail)
 go_cut [24] (fun v24 wc => ∃ (kq : Nat) (x24_2 : Bool), v24 = .bool x24_2 ∧ Aside0 (redpenref15_Escape.j0 kq a0 l1 x24_2 = some (r1, r2, r3)) ∧ Aside0 (kq ≤ k) ∧ Drawn0 w wc)
 case first =>
  have H := HC3.out
  clear HC3
  by_cases c4 : (l1.length : Int) < 2
  ·rw [if_pos c4] at H
   have c4b0 : decide ((l1.length : Int) < 2) = true := decide_eq_true c4
   have c4b1 : decide (l1.length < 2) = true := decide_eq_true (by omega)
   clear c4
   (first | rw [c4b0] | (simp only [i64_w, i32_w]; rw [c4b0]) | skip)
   have H' := Aside0.mk H
   clear H
   go_wp2
   go_meet
   case rel => exact ⟨_, (true), (by first | rfl | (simp; done) | (simp [*]; done) | (simp [wrap64, wrap32]; done)), H', ⟨by first | omega | exact Nat.le_refl _⟩, by repeat (first | exact Drawn0.refl _ | apply Drawn0.step)⟩
  ·rw [if_neg c4] at H
   have c4b0 : decide ((l1.length : Int) < 2) = false := decide_eq_false c4
   have c4b1 : decide (l1.length < 2) = false := decide_eq_false (by omega)
   clear c4
   (first | rw [c4b0] | (simp only [i64_w, i32_w]; rw [c4b0]) | skip)
   by_cases c5 : 0 < (l1.length : Int)
   ·rw [if_pos c5] at H
    have c5b0 : decide (0 < (l1.length : Int)) = true := decide_eq_true c5
    have c5b1 : decide (0 < l1.length) = true := decide_eq_true (by omega)
    clear c5
    by_cases c6 : (rd l1 0) = 92
    ·rw [if_pos c6] at H
     have c6b0 : ((rd l1 0) == 92) = true := beq_iff_eq.mpr c6
     have c6b1 : ((rd l1 0) != 92) = false := bne_eq_false_iff_eq.mpr c6
     clear c6
     by_cases c7 : 1 < (l1.length : Int)
     ·rw [if_pos c7] at H
      have c7b0 : decide (1 < (l1.length : Int)) = true := decide_eq_true c7
      have c7b1 : decide (1 < l1.length) = true := decide_eq_true (by omega)
      clear c7
      have H' := Aside0.mk H
      clear H
      have p189 : 0 ≤ (0 : Int) := (by omega)
      have q189 : 0 < (l1.length : Int) := of_decide_eq_true (by first | (with_reducible assumption) | assumption)
      obtain ⟨ad189, e189, hx189_0⟩ := Kd.at_int HR1.out 0 p189 q189
      cases e189
      have qi189 : (0 < l1.length) = True := eq_true (by omega)
      (try rw [show ((0 : Int)).toNat = 0 from rfl] at hx189_0)
      (try rw [Addr.add_zero'] at hx189_0)
      replace p189 := eq_true p189
      replace q189 := eq_true q189
      have p190 : 0 ≤ (1 : Int) := (by omega)
      have q190 : 1 < (l1.length : Int) := of_decide_eq_true (by first | (with_reducible assumption) | assumption)
      obtain ⟨ad190, e190, hx190_0⟩ := Kd.at_int HR1.out 1 p190 q190
      obtain rfl : ad189 = ad190 := (by injection e190)
      (try simp only [show (1 : Int).toNat = 1 from rfl, Nat.reduceMul, Nat.reduceEqDiff, Go.Addr.add, ↓reduceIte] at hx190_0)
      have qi190 : (1 < l1.length) = True := eq_true (by omega)
      (try rw [show ((1 : Int)).toNat = 1 from rfl] at hx190_0)
      replace p190 := eq_true p190
      replace q190 := eq_true q190
      go_wp2
      go_meet
      case rel => exact ⟨_, (decide ((rd l1 1) > 127)), (by first | rfl | (simp; done) | (simp [*]; done) | (simp [wrap64, wrap32]; done)), H', ⟨by first | omega | exact Nat.le_refl _⟩, by repeat (first | exact Drawn0.refl _ | apply Drawn0.step)⟩
     ·rw [if_neg c7] at H
      exact absurd H (by simp)
    ·rw [if_neg c6] at H
     have c6b0 : ((rd l1 0) == 92) = false := beq_eq_false_iff_ne.mpr c6
     have c6b1 : ((rd l1 0) != 92) = true := bne_iff_ne.mpr c6
     have H' := Aside0.mk H
     clear H
     have p189 : 0 ≤ (0 : Int) := (by omega)
     have q189 : 0 < (l1.length : Int) := of_decide_eq_true (by first | (with_reducible assumption) | assumption)
     obtain ⟨ad189, e189, hx189_0⟩ := Kd.at_int HR1.out 0 p189 q189
     cases e189
     have qi189 : (0 < l1.length) = True := eq_true (by omega)
     (try rw [show ((0 : Int)).toNat = 0 from rfl] at hx189_0)
     (try rw [Addr.add_zero'] at hx189_0)
     replace p189 := eq_true p189
     replace q189 := eq_true q189
     go_wp2
     go_meet
     case rel => exact ⟨_, (true), (by first | rfl | (simp; done) | (simp [*]; done) | (simp [wrap64, wrap32]; done)), H', ⟨by first | omega | exact Nat.le_refl _⟩, by repeat (first | exact Drawn0.refl _ | apply Drawn0.step)⟩
   ·rw [if_neg c5] at H
    exact absurd H (by simp)
 case rest =>
  clear HC3
  (try clear c1); (try clear p1); (try clear q1); (try clear hx1); (try clear qi1); (try clear p2); (try clear c4); (try clear c4b0); (try clear c4b1); (try clear c5); (try clear c5b0); (try clear c5b1); (try clear c6); (try clear c6b0); (try clear c6b1); (try clear c7); (try clear c7b0); (try clear c7b1); (try clear hx189_0); (try clear hx190_0); (try clear p189); (try clear p190); (try clear q189); (try clear q190)
  obtain ⟨kq, x24_2, rfl, HA, HJ2, ⟨mc2, rfl⟩⟩ := hcut
  cases kq with
  | zero => exact absurd HA.out (by simp [redpenref15_Escape.j0])
  | succ kj2 =>
   have H := HA.out
   clear HA
   simp only [redpenref15_Escape.j0] at H
   by_cases c8 : x24_2 = true
   ·subst c8
    have H1 : (some (0, 0, false)) = some (r1, r2, r3) := by rw [if_pos rfl] at H; exact H
    clear H
    have H := H1
    clear H1
    simp only [Option.some.injEq, Prod.mk.injEq] at H
    obtain ⟨rfl, rfl, rfl⟩ := H
    go_wp2
    go_ret3
    exact ⟨by first | rfl | (simp; done) | (simp [*]; done), by repeat (first | exact Drawn0.refl _ | apply Drawn0.step)⟩
   ·replace c8 := Bool.eq_false_iff.mpr c8
    subst c8
    have H1 : (if 1 < (l1.length : Int) then (if a0 = 7 then (if (rd l1 1) = 34 then (some (wrap32 (rd l1 1), 2, true)) else (if (rd l1 1) = 92 then (some (wrap32 (rd l1 1), 2, true)) else (if (rd l1 1) = 36 then (some (wrap32 (rd l1 1), 2, true)) else (if (rd l1 1) = 96 then (some (wrap32 (rd l1 1), 2, true)) else (some (0, 0, false)))))) else (if (rd l1 1) = 110 then (some (10, 2, true)) else (if (rd l1 1) = 114 then (some (13, 2, true)) else (if (rd l1 1) = 116 then (some (9, 2, true)) else (if (rd l1 1) = 120 then (redpenref15_Escape.j1 kj2 l1 2) else (if (rd l1 1) = 117 then (redpenref15_Escape.j1 kj2 l1 4) else (if (rd l1 1) = 85 then (redpenref15_Escape.j1 kj2 l1 8) else (some (wrap32 (rd l1 1), 2, true))))))))) else (none)) = some (r1, r2, r3) := by rw [if_neg (show ¬ (false = true) by decide)] at H; exact H
    clear H
    have H := H1
    clear H1
    by_cases c9 : 1 < (l1.length : Int)
    ·rw [if_pos c9] at H
     have c9b0 : decide (1 < (l1.length : Int)) = true := decide_eq_true c9
     have c9b1 : decide (1 < l1.length) = true := decide_eq_true (by omega)
     clear c9
     by_cases c10 : a0 = 7
     ·rw [if_pos c10] at H
      have c10b0 : (a0 == 7) = true := beq_iff_eq.mpr c10
      have c10b1 : (a0 != 7) = false := bne_eq_false_iff_eq.mpr c10
      clear c10
      by_cases c11 : (rd l1 1) = 34
      ·rw [if_pos c11] at H
       have c11b0 : ((rd l1 1) == 34) = true := beq_iff_eq.mpr c11
       have c11b1 : ((rd l1 1) != 34) = false := bne_eq_false_iff_eq.mpr c11
       clear c11
       simp only [Option.some.injEq, Prod.mk.injEq] at H
       obtain ⟨rfl, rfl, rfl⟩ := H
       have p191 : 0 ≤ (1 : Int) := (by omega)
       have q191 : 1 < (l1.length : Int) := of_decide_eq_true (by first | (with_reducible assumption) | assumption)
       obtain ⟨ad191, e191, hx191_0⟩ := Kd.at_int HR1.out 1 p191 q191
       cases e191
       (try simp only [show (1 : Int).toNat = 1 from rfl, Nat.reduceMul, Nat.reduceEqDiff, Go.Addr.add, ↓reduceIte] at hx191_0)
       have qi191 : (1 < l1.length) = True := eq_true (by omega)
       (try rw [show ((1 : Int)).toNat = 1 from rfl] at hx191_0)
       replace p191 := eq_true p191
       replace q191 := eq_true q191
       go_wp2
       go_ret3
       exact ⟨by first | rfl | (simp; done) | (simp [*]; done), by repeat (first | exact Drawn0.refl _ | apply Drawn0.step)⟩
      ·rw [if_neg c11] at H
       have c11b0 : ((rd l1 1) == 34) = false := beq_eq_false_iff_ne.mpr c11
       have c11b1 : ((rd l1 1) != 34) = true := bne_iff_ne.mpr c11
       by_cases c12 : (rd l1 1) = 92
       ·rw [if_pos c12] at H
        have c12b0 : ((rd l1 1) == 92) = true := beq_iff_eq.mpr c12
        have c12b1 : ((rd l1 1) != 92) = false := bne_eq_false_iff_eq.mpr c12
        clear c12
        simp only [Option.some.injEq, Prod.mk.injEq] at H
        obtain ⟨rfl, rfl, rfl⟩ := H
        have p191 : 0 ≤ (1 : Int) := (by omega)
        have q191 : 1 < (l1.length : Int) := of_decide_eq_true (by first | (with_reducible assumption) | assumption)
        obtain ⟨ad191, e191, hx191_0⟩ := Kd.at_int HR1.out 1 p191 q191
        cases e191
        (try simp only [show (1 : Int).toNat = 1 from rfl, Nat.reduceMul, Nat.reduceEqDiff, Go.Addr.add, ↓reduceIte] at hx191_0)
        have qi191 : (1 < l1.length) = True := eq_true (by omega)
        (try rw [show ((1 : Int)).toNat = 1 from rfl] at hx191_0)
        replace p191 := eq_true p191
        replace q191 := eq_true q191
        go_wp2
        go_ret3
        exact ⟨by first | rfl | (simp; done) | (simp [*]; done), by repeat (first | exact Drawn0.refl _ | apply Drawn0.step)⟩
       ·rw [if_neg c12] at H
        have c12b0 : ((rd l1 1) == 92) = false := beq_eq_false_iff_ne.mpr c12
        have c12b1 : ((rd l1 1) != 92) = true := bne_iff_ne.mpr c12
        by_cases c13 : (rd l1 1) = 36
        ·rw [if_pos c13] at H
         have c13b0 : ((rd l1 1) == 36) = true := beq_iff_eq.mpr c13
         have c13b1 : ((rd l1 1) != 36) = false := bne_eq_false_iff_eq.mpr c13
         clear c13
         simp only [Option.some.injEq, Prod.mk.injEq] at H
         obtain ⟨rfl, rfl, rfl⟩ := H
         have p191 : 0 ≤ (1 : Int) := (by omega)
         have q191 : 1 < (l1.length : Int) := of_decide_eq_true (by first | (with_reducible assumption) | assumption)
         obtain ⟨ad191, e191, hx191_0⟩ := Kd.at_int HR1.out 1 p191 q191
         cases e191
         (try simp only [show (1 : Int).toNat = 1 from rfl, Nat.reduceMul, Nat.reduceEqDiff, Go.Addr.add, ↓reduceIte] at hx191_0)
         have qi191 : (1 < l1.length) = True := eq_true (by omega)
         (try rw [show ((1 : Int)).toNat = 1 from rfl] at hx191_0)
         replace p191 := eq_true p191
         replace q191 := eq_true q191
         go_wp2
         go_ret3
         exact ⟨by first | rfl | (simp; done) | (simp [*]; done), by repeat (first | exact Drawn0.refl _ | apply Drawn0.step)⟩
        ·rw [if_neg c13] at H
         have c13b0 : ((rd l1 1) == 36) = false := beq_eq_false_iff_ne.mpr c13
         have c13b1 : ((rd l1 1) != 36) = true := bne_iff_ne.mpr c13
         by_cases c14 : (rd l1 1) = 96
         ·rw [if_pos c14] at H
          have c14b0 : ((rd l1 1) == 96) = true := beq_iff_eq.mpr c14
          have c14b1 : ((rd l1 1) != 96) = false := bne_eq_false_iff_eq.mpr c14
          clear c14
          simp only [Option.some.injEq, Prod.mk.injEq] at H
          obtain ⟨rfl, rfl, rfl⟩ := H
          have p191 : 0 ≤ (1 : Int) := (by omega)
          have q191 : 1 < (l1.length : Int) := of_decide_eq_true (by first | (with_reducible assumption) | assumption)
          obtain ⟨ad191, e191, hx191_0⟩ := Kd.at_int HR1.out 1 p191 q191
          cases e191
          (try simp only [show (1 : Int).toNat = 1 from rfl, Nat.reduceMul, Nat.reduceEqDiff, Go.Addr.add, ↓reduceIte] at hx191_0)
          have qi191 : (1 < l1.length) = True := eq_true (by omega)
          (try rw [show ((1 : Int)).toNat = 1 from rfl] at hx191_0)
          replace p191 := eq_true p191
          replace q191 := eq_true q191
          go_wp2
          go_ret3
          exact ⟨by first | rfl | (simp; done) | (simp [*]; done), by repeat (first | exact Drawn0.refl _ | apply Drawn0.step)⟩
         ·rw [if_neg c14] at H
          have c14b0 : ((rd l1 1) == 96) = false := beq_eq_false_iff_ne.mpr c14
          have c14b1 : ((rd l1 1) != 96) = true := bne_iff_ne.mpr c14
          simp only [Option.some.injEq, Prod.mk.injEq] at H
          obtain ⟨rfl, rfl, rfl⟩ := H
          have p191 : 0 ≤ (1 : Int) := (by omega)
          have q191 : 1 < (l1.length : Int) := of_decide_eq_true (by first | (with_reducible assumption) | assumption)
          obtain ⟨ad191, e191, hx191_0⟩ := Kd.at_int HR1.out 1 p191 q191
          cases e191
          (try simp only [show (1 : Int).toNat = 1 from rfl, Nat.reduceMul, Nat.reduceEqDiff, Go.Addr.add, ↓reduceIte] at hx191_0)
          have qi191 : (1 < l1.length) = True := eq_true (by omega)
          (try rw [show ((1 : Int)).toNat = 1 from rfl] at hx191_0)
          replace p191 := eq_true p191
          replace q191 := eq_true q191
          go_wp2
          go_ret3
          exact ⟨by first | rfl | (simp; done) | (simp [*]; done), by repeat (first | exact Drawn0.refl _ | apply Drawn0.step)⟩
     ·rw [if_neg c10] at H
      have c10b0 : (a0 == 7) = false := beq_eq_false_iff_ne.mpr c10
      have c10b1 : (a0 != 7) = true := bne_iff_ne.mpr c10
      have HC15 := Aside0.mk H
      clear H
      have p191 : 0 ≤ (1 : Int) := (by omega)
      have q191 : 1 < (l1.length : Int) := of_decide_eq_true (by first | (with_reducible assumption) | assumption)
      obtain ⟨ad191, e191, hx191_0⟩ := Kd.at_int HR1.out 1 p191 q191
      cases e191
      (try simp only [show (1 : Int).toNat = 1 from rfl, Nat.reduceMul, Nat.reduceEqDiff, Go.Addr.add, ↓reduceIte] at hx191_0)
      have qi191 : (1 < l1.length) = True := eq_true (by omega)
      (try rw [show ((1 : Int)).toNat = 1 from rfl] at hx191_0)
      replace p191 := eq_true p191
      replace q191 := eq_true q191
      go_upto_block 0 with (fail)
      go_cut [8] (fun v8 wc => ∃ (kq : Nat) (x8_14 : Int), v8 = .int .i64 x8_14 ∧ Aside0 (redpenref15_Escape.j1 kq l1 x8_14 = some (r1, r2, r3)) ∧ Aside0 (kq ≤ kj2) ∧ Drawn0 w wc)
      case first =>
       have H := HC15.out
       clear HC15
       by_cases c16 : (rd l1 1) = 110
       ·rw [if_pos c16] at H
        have c16b0 : ((rd l1 1) == 110) = true := beq_iff_eq.mpr c16
        have c16b1 : ((rd l1 1) != 110) = false := bne_eq_false_iff_eq.mpr c16
        clear c16
        (first | rw [c16b0] | (simp only [i64_w, i32_w]; rw [c16b0]) | skip)
        simp only [Option.some.injEq, Prod.mk.injEq] at H
        obtain ⟨rfl, rfl, rfl⟩ := H
        go_wp2
        go_ret3
        exact ⟨by first | rfl | (simp; done) | (simp [*]; done), by repeat (first | exact Drawn0.refl _ | apply Drawn0.step)⟩
       ·rw [if_neg c16] at H
        have c16b0 : ((rd l1 1) == 110) = false := beq_eq_false_iff_ne.mpr c16
        have c16b1 : ((rd l1 1) != 110) = true := bne_iff_ne.mpr c16
        (first | rw [c16b0] | (simp only [i64_w, i32_w]; rw [c16b0]) | skip)
        by_cases c17 : (rd l1 1) = 114
        ·rw [if_pos c17] at H
         have c17b0 : ((rd l1 1) == 114) = true := beq_iff_eq.mpr c17
         have c17b1 : ((rd l1 1) != 114) = false := bne_eq_false_iff_eq.mpr c17
         clear c17
         simp only [Option.some.injEq, Prod.mk.injEq] at H
         obtain ⟨rfl, rfl, rfl⟩ := H
         go_wp2
         go_ret3
         exact ⟨by first | rfl | (simp; done) | (simp [*]; done), by repeat (first | exact Drawn0.refl _ | apply Drawn0.step)⟩
        ·rw [if_neg c17] at H
         have c17b0 : ((rd l1 1) == 114) = false := beq_eq_false_iff_ne.mpr c17
         have c17b1 : ((rd l1 1) != 114) = true := bne_iff_ne.mpr c17
         by_cases c18 : (rd l1 1) = 116
         ·rw [if_pos c18] at H
          have c18b0 : ((rd l1 1) == 116) = true := beq_iff_eq.mpr c18
          have c18b1 : ((rd l1 1) != 116) = false := bne_eq_false_iff_eq.mpr c18
          clear c18
          simp only [Option.some.injEq, Prod.mk.injEq] at H
          obtain ⟨rfl, rfl, rfl⟩ := H
          go_wp2
          go_ret3
          exact ⟨by first | rfl | (simp; done) | (simp [*]; done), by repeat (first | exact Drawn0.refl _ | apply Drawn0.step)⟩
         ·rw [if_neg c18] at H
          have c18b0 : ((rd l1 1) == 116) = false := beq_eq_false_iff_ne.mpr c18
          have c18b1 : ((rd l1 1) != 116) = true := bne_iff_ne.mpr c18
          by_cases c19 : (rd l1 1) = 120
          ·rw [if_pos c19] at H
           have c19b0 : ((rd l1 1) == 120) = true := beq_iff_eq.mpr c19
           have c19b1 : ((rd l1 1) != 120) = false := bne_eq_false_iff_eq.mpr c19
           clear c19
           have H' := Aside0.mk H
           clear H
           go_wp2
           go_meet
           case rel => exact ⟨_, (2), (by first | rfl | (simp; done) | (simp [*]; done) | (simp [wrap64, wrap32]; done)), H', ⟨by have := HJ2.out; first | omega | exact Nat.le_refl _⟩, by repeat (first | exact Drawn0.refl _ | apply Drawn0.step)⟩
          ·rw [if_neg c19] at H
           have c19b0 : ((rd l1 1) == 120) = false := beq_eq_false_iff_ne.mpr c19
           have c19b1 : ((rd l1 1) != 120) = true := bne_iff_ne.mpr c19
           by_cases c20 : (rd l1 1) = 117
           ·rw [if_pos c20] at H
            have c20b0 : ((rd l1 1) == 117) = true := beq_iff_eq.mpr c20
            have c20b1 : ((rd l1 1) != 117) = false := bne_eq_false_iff_eq.mpr c20
            clear c20
            have H' := Aside0.mk H
            clear H
            go_wp2
            go_meet
            case rel => exact ⟨_, (4), (by first | rfl | (simp; done) | (simp [*]; done) | (simp [wrap64, wrap32]; done)), H', ⟨by have := HJ2.out; first | omega | exact Nat.le_refl _⟩, by repeat (first | exact Drawn0.refl _ | apply Drawn0.step)⟩
           ·rw [if_neg c20] at H
            have c20b0 : ((rd l1 1) == 117) = false := beq_eq_false_iff_ne.mpr c20
            have c20b1 : ((rd l1 1) != 117) = true := bne_iff_ne.mpr c20
            by_cases c21 : (rd l1 1) = 85
            ·rw [if_pos c21] at H
             have c21b0 : ((rd l1 1) == 85) = true := beq_iff_eq.mpr c21
             have c21b1 : ((rd l1 1) != 85) = false := bne_eq_false_iff_eq.mpr c21
             clear c21
             have H' := Aside0.mk H
             clear H
             go_wp2
             go_meet
             case rel => exact ⟨_, (8), (by first | rfl | (simp; done) | (simp [*]; done) | (simp [wrap64, wrap32]; done)), H', ⟨by have := HJ2.out; first | omega | exact Nat.le_refl _⟩, by repeat (first | exact Drawn0.refl _ | apply Drawn0.step)⟩
            ·rw [if_neg c21] at H
             have c21b0 : ((rd l1 1) == 85) = false := beq_eq_false_iff_ne.mpr c21
             have c21b1 : ((rd l1 1) != 85) = true := bne_iff_ne.mpr c21
             simp only [Option.some.injEq, Prod.mk.injEq] at H
             obtain ⟨rfl, rfl, rfl⟩ := H
             go_wp2
             go_ret3
             exact ⟨by first | rfl | (simp; done) | (simp [*]; done), by repeat (first | exact Drawn0.refl _ | apply Drawn0.step)⟩
      case rest =>
       clear HC15
       (try clear c1); (try clear p1); (try clear q1); (try clear hx1); (try clear qi1); (try clear c2); (try clear p2); (try clear p3); (try clear c4); (try clear c4b0); (try clear c4b1); (try clear c5); (try clear c5b0); (try clear c5b1); (try clear c6); (try clear c6b0); (try clear c6b1); (try clear c7); (try clear c7b0); (try clear c7b1); (try clear c8); (try clear c9); (try clear c9b0); (try clear c9b1); (try clear c10); (try clear c10b0); (try clear c10b1); (try clear c11); (try clear c11b0); (try clear c11b1); (try clear c12); (try clear c12b0); (try clear c12b1); (try clear c13); (try clear c13b0); (try clear c13b1); (try clear c14); (try clear c14b0); (try clear c14b1); (try clear c15); (try clear c16); (try clear c16b0); (try clear c16b1); (try clear c17); (try clear c17b0); (try clear c17b1); (try clear c18); (try clear c18b0); (try clear c18b1); (try clear p18); (try clear q18); (try clear hx18); (try clear qi18); (try clear c19); (try clear c19b0); (try clear c19b1); (try clear p19); (try clear q19); (try clear hx19); (try clear qi19); (try clear c20); (try clear c20b0); (try clear c20b1); (try clear c21); (try clear c21b0); (try clear c21b1); (try clear hx189_0); (try clear hx190_0); (try clear hx191_0); (try clear p1); (try clear p189); (try clear p190); (try clear p191); (try clear p2); (try clear q1); (try clear q189); (try clear q190); (try clear q191)
       obtain ⟨kq, x8_14, rfl, HA, HJ14, ⟨mc14, rfl⟩⟩ := hcut
       cases kq with
       | zero => exact absurd HA.out (by simp [redpenref15_Escape.j1])
       | succ kj14 =>
        have H := HA.out
        clear HA
        simp only [redpenref15_Escape.j1] at H
        by_cases c22 : (l1.length : Int) < (wrap64 (2 + x8_14))
        ·rw [if_pos c22] at H
         have c22b0 : decide ((l1.length : Int) < (wrap64 (2 + x8_14))) = true := decide_eq_true c22
         clear c22
         simp only [Option.some.injEq, Prod.mk.injEq] at H
         obtain ⟨rfl, rfl, rfl⟩ := H
         go_wp2
         go_ret3
         exact ⟨by first | rfl | (simp; done) | (simp [*]; done), by repeat (first | exact Drawn0.refl _ | apply Drawn0.step)⟩
        ·rw [if_neg c22] at H
         have c22b0 : decide ((l1.length : Int) < (wrap64 (2 + x8_14))) = false := decide_eq_false c22
         clear c22
         by_cases c23 : 2 ≤ (wrap64 (2 + x8_14))
         ·rw [if_pos c23] at H
          have c23b0 := eq_true c23
          have c23b1 : decide (2 ≤ (wrap64 (2 + x8_14))) = true := decide_eq_true c23
          by_cases c24 : (wrap64 (2 + x8_14)) ≤ (l1.length : Int)
          ·rw [if_pos c24] at H
           have c24b0 := eq_true c24
           have c24b1 : decide ((wrap64 (2 + x8_14)) ≤ (l1.length : Int)) = true := decide_eq_true c24
           obtain ⟨y192, hy192⟩ : ∃ y_ : List Int, y_ = ((l1.take ((wrap64 (2 + x8_14)) : Int).toNat).drop 2) := ⟨_, rfl⟩
           replace H : ((redpenref15_number.f kj14 (strOfNums y192) 16).bind fun t196 => ((redpenref15_valid.f t196).bind fun t197 => (if t197 = true then (some (wrap32 (t196), wrap64 (2 + x8_14), true)) else (some (0, 0, false))))) = some (r1, r2, r3) := by first | (rw [hy192]; with_reducible exact H) | (have H2_ := (Option.bind_some _ _).symm.trans H; rw [hy192]; with_reducible exact H2_) | (have H2_ := (Option.bind_some _ _).symm.trans H; with_reducible exact H2_) | with_reducible exact H | (rw [hy192]; exact H) | exact H
           have Ny192 := Aside0.mk hy192
           clear hy192
           replace H := Option.bind_eq_some_iff.mp H
           obtain ⟨t196, A250, H⟩ := H
           replace H : ((redpenref15_valid.f t196).bind fun t197 => (if t197 = true then (some (wrap32 (t196), wrap64 (2 + x8_14), true)) else (some (0, 0, false)))) = some (r1, r2, r3) := H
           have A25 := Aside0.mk A250
           clear A250
           replace H := Option.bind_eq_some_iff.mp H
           obtain ⟨t197, A260, H⟩ := H
           replace H : (if t197 = true then (some (wrap32 (t196), wrap64 (2 + x8_14), true)) else (some (0, 0, false))) = some (r1, r2, r3) := H
           have A26 := Aside0.mk A260
           clear A260
           by_cases c27 : t197 = true
           ·subst c27
            have H1 : (some (wrap32 (t196), wrap64 (2 + x8_14), true)) = some (r1, r2, r3) := by rw [if_pos rfl] at H; exact H
            clear H
            have H := H1
            clear H1
            simp only [Option.some.injEq, Prod.mk.injEq] at H
            obtain ⟨rfl, rfl, rfl⟩ := H
            have q28 : ((wrap64 (2 + x8_14)) : Int) ≤ ((l1.length : Int) : Int) := of_decide_eq_true (by first | (with_reducible assumption) | assumption)
            obtain ⟨i028, hi028, _, hsz28, _⟩ := info_parts info5
            have hroom28 : l1.length ≤ c1 := HC1.out
            have hC28 : Kd.C (Kd.int .u8) _ (some ad191) l1.length l1 := HR1.out
            have ql28 : (2 : Int) ≤ ((wrap64 (2 + x8_14)) : Int) := of_decide_eq_true (by first | (with_reducible assumption) | assumption)
            have hcut28 := cut_mid (P := Tryd.prog) 22 5 .i64 .i64 Tryd.underlying22 hi028 1 hsz28 (some ad191) l1.length c1 2 (wrap64 (2 + x8_14)) (by omega) ql28 q28 hroom28
            have hr28 := Kd.C_mid (lo := (2 : Int).toNat) (hi := ((wrap64 (2 + x8_14)) : Int).toNat) (c := c1) hC28 (by omega) (by omega) hroom28
            obtain ⟨A28, hA28⟩ : ∃ A1z_, A1z_ = (if c1 = (2 : Int).toNat then (some ad191) else ((some ad191) : Option Addr).map (·.add ((2 : Int).toNat * 1))) := ⟨_, rfl⟩
            obtain ⟨c28, hc28⟩ : ∃ c1z_, c1z_ = c1 - (2 : Int).toNat := ⟨_, rfl⟩
            have hy28 : y192.length = ((wrap64 (2 + x8_14)) : Int).toNat - (2 : Int).toNat := (by rw [Ny192.out, List.length_drop, List.length_take] <;> omega)
            rw [show ((l1).take ((wrap64 (2 + x8_14)) : Int).toNat).drop (2 : Int).toNat = y192 from Ny192.out.symm] at hr28
            replace hr28 : Kd.C (Kd.int .u8) _ A28 y192.length y192 := (by rw [hA28]; exact hr28)
            rw [← hy28, ← hA28, ← hc28] at hcut28
            have HR195 := Aside0.mk hr28
            have HC195 := Aside0.mk (show y192.length ≤ c28 from by rw [hy28, hc28]; exact Nat.sub_le_sub_right (Nat.le_trans (by omega) hroom28) _)
            clear hr28 hC28 hroom28 hi028 hsz28 hc28
            have KY28 := Aside0.mk hy28
            have KA28 := Aside0.mk hA28
            clear hy28 hA28
            replace q28 := eq_true q28
            have hcv29 := Kd.C_string (P := Tryd.prog) (A := A28) (c := c28) Tryd.underlying22 Tryd.underlying5 Tryd.underlying9 HR195.out
            (try (have hcv29n := fun (n_ : Nat) => Kd.C_string (P := Tryd.prog) (A := A28) (c := c28) Tryd.underlying22 Tryd.underlying5 Tryd.underlying9 (Kd.C_drewN HR195.out n_)))
            (try simp only [List.length_drop] at hcv29)
            go_wp2_with (first | ((with_reducible refine gate_callee (f := 35) rfl ?_); refine goesL_ (some 71) rfl rfl Tryd.func35 (by kernel_rfl) rfl #[.string (strOfNums y192), .int .i64 16] rfl (by (try simp only [List.map_toArray, List.map_cons, List.map_nil]); first | done | rfl | (simp only [List.length_drop, List.length_take]; rfl)) ?_; (with_reducible refine (redpenref15_number.calls kj14 (strOfNums y192) 16 t196 _ A25.out).mono ?_); rintro e w' ⟨rfl, ⟨nd, rfl⟩⟩; refine ⟨_, rfl, ?_⟩) | ((with_reducible refine gate_callee (f := 36) rfl ?_); refine goesL_ (some 73) rfl rfl Tryd.func36 (by kernel_rfl) rfl #[.int .i64 t196] rfl (by (try simp only [List.map_toArray, List.map_cons, List.map_nil]); first | done | rfl | (simp only [List.length_drop, List.length_take]; rfl)) ?_; (with_reducible refine (redpenref15_valid.calls t196 true _ A26.out).mono ?_); rintro e w' ⟨rfl, ⟨nd, rfl⟩⟩; refine ⟨_, rfl, ?_⟩))
            go_ret3
            exact ⟨by first | rfl | (simp; done) | (simp [*]; done), by repeat (first | exact Drawn0.refl _ | apply Drawn0.step)⟩
           ·replace c27 := Bool.eq_false_iff.mpr c27
            subst c27
            have H1 : (some (0, 0, false)) = some (r1, r2, r3) := by rw [if_neg (show ¬ (false = true) by decide)] at H; exact H
            clear H
            have H := H1
            clear H1
            simp only [Option.some.injEq, Prod.mk.injEq] at H
            obtain ⟨rfl, rfl, rfl⟩ := H
            have q30 : ((wrap64 (2 + x8_14)) : Int) ≤ ((l1.length : Int) : Int) := of_decide_eq_true (by first | (with_reducible assumption) | assumption)
            obtain ⟨i030, hi030, _, hsz30, _⟩ := info_parts info5
            have hroom30 : l1.length ≤ c1 := HC1.out
            have hC30 : Kd.C (Kd.int .u8) _ (some ad191) l1.length l1 := HR1.out
            have ql30 : (2 : Int) ≤ ((wrap64 (2 + x8_14)) : Int) := of_decide_eq_true (by first | (with_reducible assumption) | assumption)
            have hcut30 := cut_mid (P := Tryd.prog) 22 5 .i64 .i64 Tryd.underlying22 hi030 1 hsz30 (some ad191) l1.length c1 2 (wrap64 (2 + x8_14)) (by omega) ql30 q30 hroom30
            have hr30 := Kd.C_mid (lo := (2 : Int).toNat) (hi := ((wrap64 (2 + x8_14)) : Int).toNat) (c := c1) hC30 (by omega) (by omega) hroom30
            obtain ⟨A30, hA30⟩ : ∃ A1z_, A1z_ = (if c1 = (2 : Int).toNat then (some ad191) else ((some ad191) : Option Addr).map (·.add ((2 : Int).toNat * 1))) := ⟨_, rfl⟩
            obtain ⟨c30, hc30⟩ : ∃ c1z_, c1z_ = c1 - (2 : Int).toNat := ⟨_, rfl⟩
            have hy30 : y192.length = ((wrap64 (2 + x8_14)) : Int).toNat - (2 : Int).toNat := (by rw [Ny192.out, List.length_drop, List.length_take] <;> omega)
            rw [show ((l1).take ((wrap64 (2 + x8_14)) : Int).toNat).drop (2 : Int).toNat = y192 from Ny192.out.symm] at hr30
            replace hr30 : Kd.C (Kd.int .u8) _ A30 y192.length y192 := (by rw [hA30]; exact hr30)
            rw [← hy30, ← hA30, ← hc30] at hcut30
            have HR195 := Aside0.mk hr30
            have HC195 := Aside0.mk (show y192.length ≤ c30 from by rw [hy30, hc30]; exact Nat.sub_le_sub_right (Nat.le_trans (by omega) hroom30) _)
            clear hr30 hC30 hroom30 hi030 hsz30 hc30
            have KY30 := Aside0.mk hy30
            have KA30 := Aside0.mk hA30
            clear hy30 hA30
            replace q30 := eq_true q30
            have hcv31 := Kd.C_string (P := Tryd.prog) (A := A30) (c := c30) Tryd.underlying22 Tryd.underlying5 Tryd.underlying9 HR195.out
            (try (have hcv31n := fun (n_ : Nat) => Kd.C_string (P := Tryd.prog) (A := A30) (c := c30) Tryd.underlying22 Tryd.underlying5 Tryd.underlying9 (Kd.C_drewN HR195.out n_)))
            (try simp only [List.length_drop] at hcv31)
            go_wp2_with (first | ((with_reducible refine gate_callee (f := 35) rfl ?_); refine goesL_ (some 71) rfl rfl Tryd.func35 (by kernel_rfl) rfl #[.string (strOfNums y192), .int .i64 16] rfl (by (try simp only [List.map_toArray, List.map_cons, List.map_nil]); first | done | rfl | (simp only [List.length_drop, List.length_take]; rfl)) ?_; (with_reducible refine (redpenref15_number.calls kj14 (strOfNums y192) 16 t196 _ A25.out).mono ?_); rintro e w' ⟨rfl, ⟨nd, rfl⟩⟩; refine ⟨_, rfl, ?_⟩) | ((with_reducible refine gate_callee (f := 36) rfl ?_); refine goesL_ (some 73) rfl rfl Tryd.func36 (by kernel_rfl) rfl #[.int .i64 t196] rfl (by (try simp only [List.map_toArray, List.map_cons, List.map_nil]); first | done | rfl | (simp only [List.length_drop, List.length_take]; rfl)) ?_; (with_reducible refine (redpenref15_valid.calls t196 false _ A26.out).mono ?_); rintro e w' ⟨rfl, ⟨nd, rfl⟩⟩; refine ⟨_, rfl, ?_⟩))
            go_ret3
            exact ⟨by first | rfl | (simp; done) | (simp [*]; done), by repeat (first | exact Drawn0.refl _ | apply Drawn0.step)⟩
          ·rw [if_neg c24] at H
           exact absurd H (by simp)
         ·rw [if_neg c23] at H
          exact absurd H (by simp)
    ·rw [if_neg c9] at H
     exact absurd H (by simp)

/-! ### redpenref01_In: function 42 -/
def redpenref01_In.f (a0_0 : Int) (a0_1 : Int) (a1 : Int) : Option (Bool) := if a0_0 ≥ 0 then (if a0_1 ≥ 0 then (if a0_0 ≤ a1 then (some (decide (a0_1 ≤ (wrap64 (a1 - a0_0))))) else (some false)) else (some false)) else (some false)
set_option maxHeartbeats 8000000 in
set_option maxRecDepth 100000 in
theorem redpenref01_In.calls (a0_0 : Int) (a0_1 : Int) (a1 : Int) (r : Bool) (w : World) (h : redpenref01_In.f a0_0 a0_1 a1 = some r) :
  Calls Tryd.prog 42 #[.agg #[.int .i64 a0_0, .int .i64 a0_1], .int .i64 a1] w fun e w' => e = .returned (.bool r) ∧ Below w.heap.size w w' := by
 have hu40 := Tryd.underlying40
 have HB := Aside0.mk (Below.refl w.heap.size w)
 have H : (if a0_0 ≥ 0 then (if a0_1 ≥ 0 then (if a0_0 ≤ a1 then (some (decide (a0_1 ≤ (wrap64 (a1 - a0_0))))) else (some false)) else (some false)) else (some false)) = some r := h
 clear h
 by_cases c3 : a0_0 ≥ 0
 ·rw [if_pos c3] at H
  have c3b0 : decide (0 ≤ a0_0) = true := decide_eq_true c3
  clear c3
  by_cases c4 : a0_1 ≥ 0
  ·rw [if_pos c4] at H
   have c4b0 : decide (0 ≤ a0_1) = true := decide_eq_true c4
   clear c4
   by_cases c5 : a0_0 ≤ a1
   ·rw [if_pos c5] at H
    have c5b0 : decide (a0_0 ≤ a1) = true := decide_eq_true c5
    clear c5
    obtain rfl := Option.some.inj H
    go_enter Tryd.func42, Tryd.ntmps42
    go_wp2_with (first | ((with_reducible refine gate_dst (N := 2) rfl ?_); refine box_event ?hg (N := 2) ?hd (cs := #[.int .i64 a0_0, .int .i64 a0_1]) (t := 40) ?hr ?_; (case hd => rfl); (case hg => rfl); (case hr => first | (go_simp; done) | (go_simp; rfl)); intro gb198 hg w6 hbox hb; have n0_ := Aside0.mk (below_step (by repeat (first | (with_reducible first | exact HB.out | apply below_alloc | apply pw_below_drewN | apply below_drew1) | exact HB.out)) hb); have n1_ := Aside0.mk (hbox); have n2_ := Aside0.mk ((by rw [hg]; exact (below_size (by repeat (first | (with_reducible first | exact HB.out | apply below_alloc | apply pw_below_drewN | apply below_drew1) | exact HB.out))) : w.heap.size ≤ gb198)); have n3_ := Aside0.mk ((by rw [hg]; exact (below_size (by repeat (first | (with_reducible first | exact HB.out | apply below_alloc | apply pw_below_drewN | apply below_drew1) | exact HB.out))) : w.heap.size ≤ gb198)); clear HB; have HB := n0_; have BK198 := n1_; have GW198 := n2_; have GE198 := n3_; clear n0_ n1_ n2_ n3_; clear hb hbox hg; have hcz7_0 : w6.cell? ⟨gb198, 0, none⟩ = some (.int .i64 a0_0) := (blk_cell BK198.out 0).trans rfl; have hcz7_1 : w6.cell? ⟨gb198, 1, none⟩ = some (.int .i64 a0_1) := (blk_cell BK198.out 1).trans rfl; have hfz7_0 := blk_frozen BK198.out 0; have hfz7_1 := blk_frozen BK198.out 1))
    go_ret
    exact ⟨by first | rfl | (simp [errW_none, errW_some] <;> rfl) | (simp [*, errW_none, errW_some] <;> rfl), by repeat (first | (with_reducible first | exact HB.out | apply below_alloc | apply pw_below_drewN | apply below_drew1 | refine below_set ?_ GE198.out) | exact HB.out)⟩
   ·rw [if_neg c5] at H
    have c5b0 : decide (a0_0 ≤ a1) = false := decide_eq_false c5
    clear c5
    obtain rfl := Option.some.inj H
    go_enter Tryd.func42, Tryd.ntmps42
    go_wp2_with (first | ((with_reducible refine gate_dst (N := 2) rfl ?_); refine box_event ?hg (N := 2) ?hd (cs := #[.int .i64 a0_0, .int .i64 a0_1]) (t := 40) ?hr ?_; (case hd => rfl); (case hg => rfl); (case hr => first | (go_simp; done) | (go_simp; rfl)); intro gb198 hg w8 hbox hb; have n0_ := Aside0.mk (below_step (by repeat (first | (with_reducible first | exact HB.out | apply below_alloc | apply pw_below_drewN | apply below_drew1) | exact HB.out)) hb); have n1_ := Aside0.mk (hbox); have n2_ := Aside0.mk ((by rw [hg]; exact (below_size (by repeat (first | (with_reducible first | exact HB.out | apply below_alloc | apply pw_below_drewN | apply below_drew1) | exact HB.out))) : w.heap.size ≤ gb198)); have n3_ := Aside0.mk ((by rw [hg]; exact (below_size (by repeat (first | (with_reducible first | exact HB.out | apply below_alloc | apply pw_below_drewN | apply below_drew1) | exact HB.out))) : w.heap.size ≤ gb198)); clear HB; have HB := n0_; have BK198 := n1_; have GW198 := n2_; have GE198 := n3_; clear n0_ n1_ n2_ n3_; clear hb hbox hg; have hcz9_0 : w8.cell? ⟨gb198, 0, none⟩ = some (.int .i64 a0_0) := (blk_cell BK198.out 0).trans rfl; have hcz9_1 : w8.cell? ⟨gb198, 1, none⟩ = some (.int .i64 a0_1) := (blk_cell BK198.out 1).trans rfl; have hfz9_0 := blk_frozen BK198.out 0; have hfz9_1 := blk_frozen BK198.out 1))
    go_ret
    exact ⟨by first | rfl | (simp [errW_none, errW_some] <;> rfl) | (simp [*, errW_none, errW_some] <;> rfl), by repeat (first | (with_reducible first | exact HB.out | apply below_alloc | apply pw_below_drewN | apply below_drew1 | refine below_set ?_ GE198.out) | exact HB.out)⟩
  ·rw [if_neg c4] at H
   have c4b0 : decide (0 ≤ a0_1) = false := decide_eq_false c4
   clear c4
   obtain rfl := Option.some.inj H
   go_enter Tryd.func42, Tryd.ntmps42
   go_wp2_with (first | ((with_reducible refine gate_dst (N := 2) rfl ?_); refine box_event ?hg (N := 2) ?hd (cs := #[.int .i64 a0_0, .int .i64 a0_1]) (t := 40) ?hr ?_; (case hd => rfl); (case hg => rfl); (case hr => first | (go_simp; done) | (go_simp; rfl)); intro gb198 hg w10 hbox hb; have n0_ := Aside0.mk (below_step (by repeat (first | (with_reducible first | exact HB.out | apply below_alloc | apply pw_below_drewN | apply below_drew1) | exact HB.out)) hb); have n1_ := Aside0.mk (hbox); have n2_ := Aside0.mk ((by rw [hg]; exact (below_size (by repeat (first | (with_reducible first | exact HB.out | apply below_alloc | apply pw_below_drewN | apply below_drew1) | exact HB.out))) : w.heap.size ≤ gb198)); have n3_ := Aside0.mk ((by rw [hg]; exact (below_size (by repeat (first | (with_reducible first | exact HB.out | apply below_alloc | apply pw_below_drewN | apply below_drew1) | exact HB.out))) : w.heap.size ≤ gb198)); clear HB; have HB := n0_; have BK198 := n1_; have GW198 := n2_; have GE198 := n3_; clear n0_ n1_ n2_ n3_; clear hb hbox hg; have hcz11_0 : w10.cell? ⟨gb198, 0, none⟩ = some (.int .i64 a0_0) := (blk_cell BK198.out 0).trans rfl; have hcz11_1 : w10.cell? ⟨gb198, 1, none⟩ = some (.int .i64 a0_1) := (blk_cell BK198.out 1).trans rfl; have hfz11_0 := blk_frozen BK198.out 0; have hfz11_1 := blk_frozen BK198.out 1))
   go_ret
   exact ⟨by first | rfl | (simp [errW_none, errW_some] <;> rfl) | (simp [*, errW_none, errW_some] <;> rfl), by repeat (first | (with_reducible first | exact HB.out | apply below_alloc | apply pw_below_drewN | apply below_drew1 | refine below_set ?_ GE198.out) | exact HB.out)⟩
 ·rw [if_neg c3] at H
  have c3b0 : decide (0 ≤ a0_0) = false := decide_eq_false c3
  clear c3
  obtain rfl := Option.some.inj H
  go_enter Tryd.func42, Tryd.ntmps42
  go_wp2_with (first | ((with_reducible refine gate_dst (N := 2) rfl ?_); refine box_event ?hg (N := 2) ?hd (cs := #[.int .i64 a0_0, .int .i64 a0_1]) (t := 40) ?hr ?_; (case hd => rfl); (case hg => rfl); (case hr => first | (go_simp; done) | (go_simp; rfl)); intro gb198 hg w12 hbox hb; have n0_ := Aside0.mk (below_step (by repeat (first | (with_reducible first | exact HB.out | apply below_alloc | apply pw_below_drewN | apply below_drew1) | exact HB.out)) hb); have n1_ := Aside0.mk (hbox); have n2_ := Aside0.mk ((by rw [hg]; exact (below_size (by repeat (first | (with_reducible first | exact HB.out | apply below_alloc | apply pw_below_drewN | apply below_drew1) | exact HB.out))) : w.heap.size ≤ gb198)); have n3_ := Aside0.mk ((by rw [hg]; exact (below_size (by repeat (first | (with_reducible first | exact HB.out | apply below_alloc | apply pw_below_drewN | apply below_drew1) | exact HB.out))) : w.heap.size ≤ gb198)); clear HB; have HB := n0_; have BK198 := n1_; have GW198 := n2_; have GE198 := n3_; clear n0_ n1_ n2_ n3_; clear hb hbox hg; have hcz13_0 : w12.cell? ⟨gb198, 0, none⟩ = some (.int .i64 a0_0) := (blk_cell BK198.out 0).trans rfl; have hcz13_1 : w12.cell? ⟨gb198, 1, none⟩ = some (.int .i64 a0_1) := (blk_cell BK198.out 1).trans rfl; have hfz13_0 := blk_frozen BK198.out 0; have hfz13_1 := blk_frozen BK198.out 1))
  go_ret
  exact ⟨by first | rfl | (simp [errW_none, errW_some] <;> rfl) | (simp [*, errW_none, errW_some] <;> rfl), by repeat (first | (with_reducible first | exact HB.out | apply below_alloc | apply pw_below_drewN | apply below_drew1 | refine below_set ?_ GE198.out) | exact HB.out)⟩

/-! ### redpenref01_tail: function 55 -/
def redpenref01_tail.f (l0 : List Int) (a1 : Int) : Option (Bool) := if a1 < (l0.length : Int) then (if 0 ≤ a1 then (if (rd l0 a1) ≥ 128 then (some (decide ((rd l0 a1) < 192))) else (some false)) else (none)) else (some false)
set_option maxHeartbeats 8000000 in
set_option maxRecDepth 100000 in
theorem redpenref01_tail.calls (A0 : Option Addr) (c0 : Nat) (l0 : List Int) (a1 : Int) (r : Bool) (w : World) (hr0 : Kd.C (Kd.int .u8) w A0 l0.length l0) (hc0 : l0.length ≤ c0) (h : redpenref01_tail.f l0 a1 = some r) :
  Calls Tryd.prog 55 #[.slice A0 l0.length c0, .int .i64 a1] w fun e w' => e = .returned (.bool r) ∧ Drawn0 w w' := by
 have HR0 := Aside0.mk hr0
 have HC0 := Aside0.mk hc0
 clear hr0 hc0
 have H : (if a1 < (l0.length : Int) then (if 0 ≤ a1 then (if (rd l0 a1) ≥ 128 then (some (decide ((rd l0 a1) < 192))) else (some false)) else (none)) else (some false)) = some r := h
 clear h
 by_cases c3 : a1 < (l0.length : Int)
 ·rw [if_pos c3] at H
  have c3b0 : decide (a1 < (l0.length : Int)) = true := decide_eq_true c3
  clear c3
  by_cases c4 : 0 ≤ a1
  ·rw [if_pos c4] at H
   have c4b0 : decide (0 ≤ a1) = true := decide_eq_true c4
   clear c4
   by_cases c5 : (rd l0 a1) ≥ 128
   ·rw [if_pos c5] at H
    have c5b0 : decide (128 ≤ (rd l0 a1)) = true := decide_eq_true c5
    clear c5
    obtain rfl := Option.some.inj H
    have p199 : 0 ≤ (a1 : Int) := of_decide_eq_true (by first | (with_reducible assumption) | assumption)
    have q199 : a1 < (l0.length : Int) := of_decide_eq_true (by first | (with_reducible assumption) | assumption)
    obtain ⟨ad199, e199, hx199_0⟩ := Kd.at_int HR0.out a1 p199 q199
    cases e199
    replace p199 := eq_true p199
    replace q199 := eq_true q199
    have p200 : 0 ≤ (a1 : Int) := of_decide_eq_true (by first | (with_reducible assumption) | assumption)
    have q200 : a1 < (l0.length : Int) := of_decide_eq_true (by first | (with_reducible assumption) | assumption)
    obtain ⟨ad200, e200, hx200_0⟩ := Kd.at_int HR0.out a1 p200 q200
    obtain rfl : ad199 = ad200 := (by injection e200)
    replace p200 := eq_true p200
    replace q200 := eq_true q200
    go_enter Tryd.func55, Tryd.ntmps55
    go_wp2
    go_ret
    exact ⟨by first | rfl | (simp; done) | (simp [*]; done), by repeat (first | exact Drawn0.refl _ | apply Drawn0.step)⟩
   ·rw [if_neg c5] at H
    have c5b0 : decide (128 ≤ (rd l0 a1)) = false := decide_eq_false c5
    clear c5
    obtain rfl := Option.some.inj H
    have p199 : 0 ≤ (a1 : Int) := of_decide_eq_true (by first | (with_reducible assumption) | assumption)
    have q199 : a1 < (l0.length : Int) := of_decide_eq_true (by first | (with_reducible assumption) | assumption)
    obtain ⟨ad199, e199, hx199_0⟩ := Kd.at_int HR0.out a1 p199 q199
    cases e199
    replace p199 := eq_true p199
    replace q199 := eq_true q199
    go_enter Tryd.func55, Tryd.ntmps55
    go_wp2
    go_ret
    exact ⟨by first | rfl | (simp; done) | (simp [*]; done), by repeat (first | exact Drawn0.refl _ | apply Drawn0.step)⟩
  ·rw [if_neg c4] at H
   exact absurd H (by simp)
 ·rw [if_neg c3] at H
  have c3b0 : decide (a1 < (l0.length : Int)) = false := decide_eq_false c3
  clear c3
  obtain rfl := Option.some.inj H
  go_enter Tryd.func55, Tryd.ntmps55
  go_wp2
  go_ret
  exact ⟨by first | rfl | (simp; done) | (simp [*]; done), by repeat (first | exact Drawn0.refl _ | apply Drawn0.step)⟩

end Go.Proofs.YtekalnhackjldaaDoor.PDecodeUnits
