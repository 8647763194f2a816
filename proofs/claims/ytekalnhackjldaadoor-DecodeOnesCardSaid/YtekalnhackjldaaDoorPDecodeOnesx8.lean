-- x
import Derived.Test.YtekalnhackjldaaDoorPDecodeOnesx0
import Derived.Test.YtekalnhackjldaaDoorPDecodeOnesx7
namespace Go.Proofs.YtekalnhackjldaaDoor.PDecodeOnes
open Go.RowKit Go.Proofs.YtekalnhackjldaaDoor.X Go.Proofs.YtekalnhackjldaaDoorW.PrintWords Go.Proofs.YtekalnhackjldaaDoorW.PrintLast Go.Proofs.YtekalnhackjldaaDoorW.PrintMore
attribute [local go_sem] max2_int min2_int max_two min_two max_three min_three max_four min_four   -- for this text's walks alone
set_option linter.unusedVariables false
set_option linter.unusedSimpArgs false

/-! ### redpenref15_Entity: function 13 -/
mutual
def redpenref15_Entity.j0 : Nat → List Int → Bool → Option (Int × Int × Bool)
 | 0, _, _ => none
 | k + 1, x0, x16 => if x16 = true then (some (0, 0, false)) else (redpenref15_Entity.l0 k x0 1)
def redpenref15_Entity.l0 : Nat → List Int → Int → Option (Int × Int × Bool)
 | 0, _, _ => none
 | k + 1, x0, x5 => if x5 < (x0.length : Int) then (redpenref15_Entity.j2 k x0 x5 (decide (x5 < 13))) else (redpenref15_Entity.j2 k x0 x5 false)
def redpenref15_Entity.j2 : Nat → List Int → Int → Bool → Option (Int × Int × Bool)
 | 0, _, _, _ => none
 | k + 1, x0, x5, x24 => if x24 = true then (if 0 ≤ x5 then (if x5 < (x0.length : Int) then (if (rd x0 x5) = 59 then (if 1 ≤ x5 then (if x5 ≤ (x0.length : Int) then ((some ((x0.take (x5 : Int).toNat).drop 1 : List Int)).bind fun y178 => (if (strOfNums y178).toList = ([97, 109, 112] : List UInt8) then (some (38, wrap64 (x5 + 1), true)) else (if (strOfNums y178).toList = ([97, 112, 111, 115] : List UInt8) then (some (39, wrap64 (x5 + 1), true)) else (if (strOfNums y178).toList = ([103, 116] : List UInt8) then (some (62, wrap64 (x5 + 1), true)) else (if (strOfNums y178).toList = ([108, 116] : List UInt8) then (some (60, wrap64 (x5 + 1), true)) else (if (strOfNums y178).toList = ([110, 98, 115, 112] : List UInt8) then (some (160, wrap64 (x5 + 1), true)) else (if (strOfNums y178).toList = ([113, 117, 111, 116] : List UInt8) then (some (34, wrap64 (x5 + 1), true)) else (if ((strOfNums y178).size : Int) > 1 then (if 0 < ((strOfNums y178).size : Int) then (redpenref15_Entity.j3 k x5 (strOfNums y178) (-1) ((bt (strOfNums y178) 0) == 35)) else (none)) else (redpenref15_Entity.j3 k x5 (strOfNums y178) (-1) false))))))))) else (none)) else (none)) else (redpenref15_Entity.l0 k x0 (wrap64 (x5 + 1)))) else (none)) else (none)) else (some (0, 0, false))
def redpenref15_Entity.j3 : Nat → Int → ByteArray → Int → Bool → Option (Int × Int × Bool)
 | 0, _, _, _, _ => none
 | k + 1, x5, x6, x7, x68 => if x68 = true then (if 1 < (x6.size : Int) then (if (bt x6 1) = 120 then (redpenref15_Entity.j4 k x5 x6 true) else (redpenref15_Entity.j4 k x5 x6 ((bt x6 1) == 88))) else (none)) else ((redpenref15_valid.f x7).bind fun t186 => (if t186 = true then (some (wrap32 (x7), wrap64 (x5 + 1), true)) else (some (0, 0, false))))
def redpenref15_Entity.j4 : Nat → Int → ByteArray → Bool → Option (Int × Int × Bool)
 | 0, _, _, _ => none
 | k + 1, x5, x6, x76 => if x76 = true then (if 2 ≤ (x6.size : Int) then ((redpenref15_number.f k (x6.extract 2 x6.size) 16).bind fun t182 => ((redpenref15_valid.f t182).bind fun t183 => (if t183 = true then (some (wrap32 (t182), wrap64 (x5 + 1), true)) else (some (0, 0, false))))) else (none)) else (if 1 ≤ (x6.size : Int) then ((redpenref15_number.f k (x6.extract 1 x6.size) 10).bind fun t184 => ((redpenref15_valid.f t184).bind fun t185 => (if t185 = true then (some (wrap32 (t184), wrap64 (x5 + 1), true)) else (some (0, 0, false))))) else (none))
end
def redpenref15_Entity.f (k : Nat) (l0 : List Int) : Option (Int × Int × Bool) := if (l0.length : Int) = 0 then (redpenref15_Entity.j0 k l0 true) else (if 0 < (l0.length : Int) then (redpenref15_Entity.j0 k l0 ((rd l0 0) != 38)) else (none))
theorem redpenref15_Entity.mono_l : ∀ k, (∀ y0 y1, LeO (redpenref15_Entity.j0 k y0 y1) (redpenref15_Entity.j0 (k + 1) y0 y1)) ∧ (∀ y0 y1, LeO (redpenref15_Entity.l0 k y0 y1) (redpenref15_Entity.l0 (k + 1) y0 y1)) ∧ (∀ y0 y1 y2, LeO (redpenref15_Entity.j2 k y0 y1 y2) (redpenref15_Entity.j2 (k + 1) y0 y1 y2)) ∧ (∀ y0 y1 y2 y3, LeO (redpenref15_Entity.j3 k y0 y1 y2 y3) (redpenref15_Entity.j3 (k + 1) y0 y1 y2 y3)) ∧ (∀ y0 y1 y2, LeO (redpenref15_Entity.j4 k y0 y1 y2) (redpenref15_Entity.j4 (k + 1) y0 y1 y2))
 | 0 => ⟨fun _ _ r h => by simp [redpenref15_Entity.j0] at h, fun _ _ r h => by simp [redpenref15_Entity.l0] at h, fun _ _ _ r h => by simp [redpenref15_Entity.j2] at h, fun _ _ _ _ r h => by simp [redpenref15_Entity.j3] at h, fun _ _ _ r h => by simp [redpenref15_Entity.j4] at h⟩
 | k + 1 => by
  obtain ⟨ih0, ih1, ih2, ih3, ih4⟩ := redpenref15_Entity.mono_l k
  refine ⟨?_, ?_, ?_, ?_, ?_⟩
  ·intro y0 y1
   unfold redpenref15_Entity.j0
   repeat' first
   | (with_reducible exact ih0 _ _)
   | (with_reducible exact ih1 _ _)
   | (with_reducible exact ih2 _ _ _)
   | (with_reducible exact ih3 _ _ _ _)
   | (with_reducible exact ih4 _ _ _)
   | (with_reducible exact redpenref15_number.mono _ _ _)
   | (with_reducible exact LeO.refl _)
   | (with_reducible exact LeO.none _)
   | (with_reducible refine LeO.ite ?_ ?_)
   | (with_reducible refine LeO.bind ?_ (fun _ => ?_))
   | exact ih0 _ _
   | exact ih1 _ _
   | exact ih2 _ _ _
   | exact ih3 _ _ _ _
   | exact ih4 _ _ _
   | exact redpenref15_number.mono _ _ _
   | exact LeO.none _
   | refine LeO.ite ?_ ?_
   | refine LeO.bind ?_ (fun _ => ?_)
  ·intro y0 y1
   unfold redpenref15_Entity.l0
   repeat' first
   | (with_reducible exact ih0 _ _)
   | (with_reducible exact ih1 _ _)
   | (with_reducible exact ih2 _ _ _)
   | (with_reducible exact ih3 _ _ _ _)
   | (with_reducible exact ih4 _ _ _)
   | (with_reducible exact redpenref15_number.mono _ _ _)
   | (with_reducible exact LeO.refl _)
   | (with_reducible exact LeO.none _)
   | (with_reducible refine LeO.ite ?_ ?_)
   | (with_reducible refine LeO.bind ?_ (fun _ => ?_))
   | exact ih0 _ _
   | exact ih1 _ _
   | exact ih2 _ _ _
   | exact ih3 _ _ _ _
   | exact ih4 _ _ _
   | exact redpenref15_number.mono _ _ _
   | exact LeO.none _
   | refine LeO.ite ?_ ?_
   | refine LeO.bind ?_ (fun _ => ?_)
  ·intro y0 y1 y2
   unfold redpenref15_Entity.j2
   repeat' first
   | (with_reducible exact ih0 _ _)
   | (with_reducible exact ih1 _ _)
   | (with_reducible exact ih2 _ _ _)
   | (with_reducible exact ih3 _ _ _ _)
   | (with_reducible exact ih4 _ _ _)
   | (with_reducible exact redpenref15_number.mono _ _ _)
   | (with_reducible exact LeO.refl _)
   | (with_reducible exact LeO.none _)
   | (with_reducible refine LeO.ite ?_ ?_)
   | (with_reducible refine LeO.bind ?_ (fun _ => ?_))
   | exact ih0 _ _
   | exact ih1 _ _
   | exact ih2 _ _ _
   | exact ih3 _ _ _ _
   | exact ih4 _ _ _
   | exact redpenref15_number.mono _ _ _
   | exact LeO.none _
   | refine LeO.ite ?_ ?_
   | refine LeO.bind ?_ (fun _ => ?_)
  ·intro y0 y1 y2 y3
   unfold redpenref15_Entity.j3
   repeat' first
   | (with_reducible exact ih0 _ _)
   | (with_reducible exact ih1 _ _)
   | (with_reducible exact ih2 _ _ _)
   | (with_reducible exact ih3 _ _ _ _)
   | (with_reducible exact ih4 _ _ _)
   | (with_reducible exact redpenref15_number.mono _ _ _)
   | (with_reducible exact LeO.refl _)
   | (with_reducible exact LeO.none _)
   | (with_reducible refine LeO.ite ?_ ?_)
   | (with_reducible refine LeO.bind ?_ (fun _ => ?_))
   | exact ih0 _ _
   | exact ih1 _ _
   | exact ih2 _ _ _
   | exact ih3 _ _ _ _
   | exact ih4 _ _ _
   | exact redpenref15_number.mono _ _ _
   | exact LeO.none _
   | refine LeO.ite ?_ ?_
   | refine LeO.bind ?_ (fun _ => ?_)
  ·intro y0 y1 y2
   unfold redpenref15_Entity.j4
   repeat' first
   | (with_reducible exact ih0 _ _)
   | (with_reducible exact ih1 _ _)
   | (with_reducible exact ih2 _ _ _)
   | (with_reducible exact ih3 _ _ _ _)
   | (with_reducible exact ih4 _ _ _)
   | (with_reducible exact redpenref15_number.mono _ _ _)
   | (with_reducible exact LeO.refl _)
   | (with_reducible exact LeO.none _)
   | (with_reducible refine LeO.ite ?_ ?_)
   | (with_reducible refine LeO.bind ?_ (fun _ => ?_))
   | exact ih0 _ _
   | exact ih1 _ _
   | exact ih2 _ _ _
   | exact ih3 _ _ _ _
   | exact ih4 _ _ _
   | exact redpenref15_number.mono _ _ _
   | exact LeO.none _
   | refine LeO.ite ?_ ?_
   | refine LeO.bind ?_ (fun _ => ?_)
theorem redpenref15_Entity.mono : ∀ a0 k, LeO (redpenref15_Entity.f k a0) (redpenref15_Entity.f (k + 1) a0) := by
 intro a0 k
 obtain ⟨ih0, ih1, ih2, ih3, ih4⟩ := redpenref15_Entity.mono_l k
 unfold redpenref15_Entity.f
 repeat' first
   | (with_reducible exact ih0 _ _)
   | (with_reducible exact ih1 _ _)
   | (with_reducible exact ih2 _ _ _)
   | (with_reducible exact ih3 _ _ _ _)
   | (with_reducible exact ih4 _ _ _)
   | (with_reducible exact redpenref15_number.mono _ _ _)
   | (with_reducible exact LeO.refl _)
   | (with_reducible exact LeO.none _)
   | (with_reducible refine LeO.ite ?_ ?_)
   | (with_reducible refine LeO.bind ?_ (fun _ => ?_))
   | exact ih0 _ _
   | exact ih1 _ _
   | exact ih2 _ _ _
   | exact ih3 _ _ _ _
   | exact ih4 _ _ _
   | exact redpenref15_number.mono _ _ _
   | exact LeO.none _
   | refine LeO.ite ?_ ?_
   | refine LeO.bind ?_ (fun _ => ?_)
set_option maxHeartbeats 8000000 in
set_option maxRecDepth 100000 in
theorem redpenref15_Entity.calls (k : Nat) (A0 : Option Addr) (c0 : Nat) (l0 : List Int) (r1 : Int) (r2 : Int) (r3 : Bool) (w : World) (hr0 : Kd.C (Kd.int .u8) w A0 l0.length l0) (hc0 : l0.length ≤ c0) (h : redpenref15_Entity.f k l0 = some (r1, r2, r3)) :
  Calls Tryd.prog 13 #[.slice A0 l0.length c0] w fun e w' => e = .returned (.tuple #[.int .i32 r1, .int .i64 r2, .bool r3]) ∧ Drawn0 w w' := by
 have HR0 := Aside0.mk hr0
 have HC0 := Aside0.mk hc0
 clear hr0 hc0
 have H : (if (l0.length : Int) = 0 then (redpenref15_Entity.j0 k l0 true) else (if 0 < (l0.length : Int) then (redpenref15_Entity.j0 k l0 ((rd l0 0) != 38)) else (none))) = some (r1, r2, r3) := h
 clear h
 have HC2 := Aside0.mk H
 clear H
 go_enter Tryd.func13, Tryd.ntmps13
 go_upto_region 1 with (fail)
 go_cut [16] (fun v16 wc => ∃ (kq : Nat) (x16_1 : Bool), v16 = .bool x16_1 ∧ Aside0 (redpenref15_Entity.j0 kq l0 x16_1 = some (r1, r2, r3)) ∧ Aside0 (kq ≤ k) ∧ Drawn0 w wc)
 case first =>
  have H := HC2.out
  clear HC2
  by_cases c3 : (l0.length : Int) = 0
  ·rw [if_pos c3] at H
   have c3b0 : ((l0.length : Int) == 0) = true := beq_iff_eq.mpr c3
   have c3b1 : ((l0.length : Int) != 0) = false := bne_eq_false_iff_eq.mpr c3
   clear c3
   (first | rw [c3b0] | (simp only [i64_w, i32_w]; rw [c3b0]) | skip)
   have H' := Aside0.mk H
   clear H
   go_wp2
   go_meet
   case rel => exact ⟨_, (true), (by first | rfl | (simp; done) | (simp [*]; done) | (simp [wrap64, wrap32]; done)), H', ⟨by first | omega | exact Nat.le_refl _⟩, by repeat (first | exact Drawn0.refl _ | apply Drawn0.step)⟩
  ·rw [if_neg c3] at H
   have c3b0 : ((l0.length : Int) == 0) = false := beq_eq_false_iff_ne.mpr c3
   have c3b1 : ((l0.length : Int) != 0) = true := bne_iff_ne.mpr c3
   have c3b2 : ¬ (l0 = []) := fun h_ => c3 (by rw [h_]; rfl)
   (first | rw [c3b0] | (simp only [i64_w, i32_w]; rw [c3b0]) | skip)
   by_cases c4 : 0 < (l0.length : Int)
   ·rw [if_pos c4] at H
    have c4b0 : decide (0 < (l0.length : Int)) = true := decide_eq_true c4
    have c4b1 : decide (0 < l0.length) = true := decide_eq_true (by omega)
    clear c4
    have H' := Aside0.mk H
    clear H
    have p176 : 0 ≤ (0 : Int) := (by omega)
    have q176 : 0 < (l0.length : Int) := of_decide_eq_true (by first | (with_reducible assumption) | assumption)
    obtain ⟨ad176, e176, hx176_0⟩ := Kd.at_int HR0.out 0 p176 q176
    cases e176
    have qi176 : (0 < l0.length) = True := eq_true (by omega)
    (try rw [show ((0 : Int)).toNat = 0 from rfl] at hx176_0)
    (try rw [Addr.add_zero'] at hx176_0)
    replace p176 := eq_true p176
    replace q176 := eq_true q176
    go_wp2
    go_meet
    case rel => exact ⟨_, (((rd l0 0) != 38)), (by first | rfl | (simp; done) | (simp [*]; done) | (simp [wrap64, wrap32]; done)), H', ⟨by first | omega | exact Nat.le_refl _⟩, by repeat (first | exact Drawn0.refl _ | apply Drawn0.step)⟩
   ·rw [if_neg c4] at H
    exact absurd H (by simp)
 case rest =>
  clear HC2
  try clear c1
  try clear p1
  try clear q1
  try clear hx1
  try clear qi1
  try clear p2
  try clear c3
  try clear c3b0
  try clear c3b1
  try clear c3b2
  try clear c4
  try clear c4b0
  try clear c4b1
  try clear hx176_0
  try clear p176
  try clear q176
  obtain ⟨kq, x16_1, rfl, HA, HJ1, ⟨mc1, rfl⟩⟩ := hcut
  cases kq with
  | zero => exact absurd HA.out (by simp [redpenref15_Entity.j0])
  | succ kj1 =>
   have H := HA.out
   clear HA
   simp only [redpenref15_Entity.j0] at H
   by_cases c5 : x16_1 = true
   ·subst c5
    have H1 : (some (0, 0, false)) = some (r1, r2, r3) := by rw [if_pos rfl] at H; exact H
    clear H
    have H := H1
    clear H1
    simp only [Option.some.injEq, Prod.mk.injEq] at H
    obtain ⟨rfl, rfl, rfl⟩ := H
    go_wp2
    go_ret3
    exact ⟨by first | rfl | (simp; done) | (simp [*]; done) | (simp [wrap64, wrap32]; done), by repeat (first | exact Drawn0.refl _ | apply Drawn0.step)⟩
   ·replace c5 := Bool.eq_false_iff.mpr c5
    subst c5
    have H1 : (redpenref15_Entity.l0 kj1 l0 1) = some (r1, r2, r3) := by rw [if_neg (show ¬ (false = true) by decide)] at H; exact H
    clear H
    have H := H1
    clear H1
    have H' := Aside0.mk H
    clear H
    go_wp2
    go_loopg [5] kj1 (fun kq v5 w' => ∃ (x5_2 : Int), v5 = .int .i64 x5_2 ∧ Aside0 (redpenref15_Entity.l0 kq l0 x5_2 = some (r1, r2, r3)) ∧ Aside0 (kq ≤ kj1) ∧ Drawn0 w w')
    case atStart => exact ⟨(1), (by first | rfl | (simp; done) | (simp [*]; done) | (simp [wrap64, wrap32]; done)), H', ⟨Nat.le_refl _⟩, by repeat (first | exact Drawn0.refl _ | apply Drawn0.step)⟩
    case round =>
     clear H'
     try clear c1
     try clear p1
     try clear q1
     try clear hx1
     try clear qi1
     try clear p2
     try clear c3
     try clear c3b0
     try clear c3b1
     try clear c3b2
     try clear c4
     try clear c4b0
     try clear c4b1
     try clear c5
     try clear hx176_0
     try clear p1
     try clear p176
     try clear p2
     try clear q1
     try clear q176
     obtain ⟨x5_2, rfl, HA, HK2, ⟨m2, rfl⟩⟩ := hrel
     cases gk with
     | zero => exact absurd HA.out (by simp [redpenref15_Entity.l0])
     | succ k2 =>
      have H := HA.out
      clear HA
      simp only [redpenref15_Entity.l0] at H
      have HC6 := Aside0.mk H
      clear H
      go_upto_region 4 with (fail)
      go_cut [24] (fun v24 wc => ∃ (kq : Nat) (x24_5 : Bool), v24 = .bool x24_5 ∧ Aside0 (redpenref15_Entity.j2 kq l0 x5_2 x24_5 = some (r1, r2, r3)) ∧ Aside0 (kq ≤ k2) ∧ Drawn0 w wc)
      case first =>
       have H := HC6.out
       clear HC6
       by_cases c7 : x5_2 < (l0.length : Int)
       ·rw [if_pos c7] at H
        have c7b0 : decide (x5_2 < (l0.length : Int)) = true := decide_eq_true c7
        clear c7
        (first | rw [c7b0] | (simp only [i64_w, i32_w]; rw [c7b0]) | skip)
        have H' := Aside0.mk H
        clear H
        go_wp2
        go_meet
        case rel => exact ⟨_, (decide (x5_2 < 13)), (by first | rfl | (simp; done) | (simp [*]; done) | (simp [wrap64, wrap32]; done)), H', ⟨by have := HJ1.out; have := HK2.out; first | omega | exact Nat.le_refl _⟩, by repeat (first | exact Drawn0.refl _ | apply Drawn0.step)⟩
       ·rw [if_neg c7] at H
        have c7b0 : decide (x5_2 < (l0.length : Int)) = false := decide_eq_false c7
        clear c7
        (first | rw [c7b0] | (simp only [i64_w, i32_w]; rw [c7b0]) | skip)
        have H' := Aside0.mk H
        clear H
        go_wp2
        go_meet
        case rel => exact ⟨_, (false), (by first | rfl | (simp; done) | (simp [*]; done) | (simp [wrap64, wrap32]; done)), H', ⟨by have := HJ1.out; have := HK2.out; first | omega | exact Nat.le_refl _⟩, by repeat (first | exact Drawn0.refl _ | apply Drawn0.step)⟩
      case rest =>
       clear HC6
       try clear c1
       try clear p1
       try clear q1
       try clear hx1
       try clear qi1
       try clear p2
       try clear c3
       try clear c3b0
       try clear c3b1
       try clear c3b2
       try clear c4
       try clear c4b0
       try clear c4b1
       try clear c5
       try clear c7
       try clear c7b0
       try clear hx176_0
       try clear p1
       try clear p176
       try clear p2
       try clear q1
       try clear q176
       obtain ⟨kq, x24_5, rfl, HA, HJ5, ⟨mc5, rfl⟩⟩ := hcut
       cases kq with
       | zero => exact absurd HA.out (by simp [redpenref15_Entity.j2])
       | succ kj5 =>
        have H := HA.out
        clear HA
        simp only [redpenref15_Entity.j2] at H
        by_cases c8 : x24_5 = true
        ·subst c8
         have H1 : (if 0 ≤ x5_2 then (if x5_2 < (l0.length : Int) then (if (rd l0 x5_2) = 59 then (if 1 ≤ x5_2 then (if x5_2 ≤ (l0.length : Int) then ((some ((l0.take (x5_2 : Int).toNat).drop 1 : List Int)).bind fun y178 => (if (strOfNums y178).toList = ([97, 109, 112] : List UInt8) then (some (38, wrap64 (x5_2 + 1), true)) else (if (strOfNums y178).toList = ([97, 112, 111, 115] : List UInt8) then (some (39, wrap64 (x5_2 + 1), true)) else (if (strOfNums y178).toList = ([103, 116] : List UInt8) then (some (62, wrap64 (x5_2 + 1), true)) else (if (strOfNums y178).toList = ([108, 116] : List UInt8) then (some (60, wrap64 (x5_2 + 1), true)) else (if (strOfNums y178).toList = ([110, 98, 115, 112] : List UInt8) then (some (160, wrap64 (x5_2 + 1), true)) else (if (strOfNums y178).toList = ([113, 117, 111, 116] : List UInt8) then (some (34, wrap64 (x5_2 + 1), true)) else (if ((strOfNums y178).size : Int) > 1 then (if 0 < ((strOfNums y178).size : Int) then (redpenref15_Entity.j3 kj5 x5_2 (strOfNums y178) (-1) ((bt (strOfNums y178) 0) == 35)) else (none)) else (redpenref15_Entity.j3 kj5 x5_2 (strOfNums y178) (-1) false))))))))) else (none)) else (none)) else (redpenref15_Entity.l0 kj5 l0 (wrap64 (x5_2 + 1)))) else (none)) else (none)) = some (r1, r2, r3) := by rw [if_pos rfl] at H; exact H
         clear H
         have H := H1
         clear H1
         by_cases c9 : 0 ≤ x5_2
         ·rw [if_pos c9] at H
          have c9b0 : decide (0 ≤ x5_2) = true := decide_eq_true c9
          clear c9
          by_cases c10 : x5_2 < (l0.length : Int)
          ·rw [if_pos c10] at H
           have c10b0 : decide (x5_2 < (l0.length : Int)) = true := decide_eq_true c10
           clear c10
           by_cases c11 : (rd l0 x5_2) = 59
           ·rw [if_pos c11] at H
            have c11b0 : ((rd l0 x5_2) == 59) = true := beq_iff_eq.mpr c11
            have c11b1 : ((rd l0 x5_2) != 59) = false := bne_eq_false_iff_eq.mpr c11
            clear c11
            by_cases c12 : 1 ≤ x5_2
            ·rw [if_pos c12] at H
             have c12b0 := eq_true c12
             have c12b1 : decide (1 ≤ x5_2) = true := decide_eq_true c12
             clear c12
             by_cases c13 : x5_2 ≤ (l0.length : Int)
             ·rw [if_pos c13] at H
              have c13b0 := eq_true c13
              have c13b1 : decide (x5_2 ≤ (l0.length : Int)) = true := decide_eq_true c13
              clear c13
              obtain ⟨y178, hy178⟩ : ∃ y_ : List Int, y_ = ((l0.take (x5_2 : Int).toNat).drop 1) := ⟨_, rfl⟩
              replace H : (if (strOfNums y178).toList = ([97, 109, 112] : List UInt8) then (some (38, wrap64 (x5_2 + 1), true)) else (if (strOfNums y178).toList = ([97, 112, 111, 115] : List UInt8) then (some (39, wrap64 (x5_2 + 1), true)) else (if (strOfNums y178).toList = ([103, 116] : List UInt8) then (some (62, wrap64 (x5_2 + 1), true)) else (if (strOfNums y178).toList = ([108, 116] : List UInt8) then (some (60, wrap64 (x5_2 + 1), true)) else (if (strOfNums y178).toList = ([110, 98, 115, 112] : List UInt8) then (some (160, wrap64 (x5_2 + 1), true)) else (if (strOfNums y178).toList = ([113, 117, 111, 116] : List UInt8) then (some (34, wrap64 (x5_2 + 1), true)) else (if ((strOfNums y178).size : Int) > 1 then (if 0 < ((strOfNums y178).size : Int) then (redpenref15_Entity.j3 kj5 x5_2 (strOfNums y178) (-1) ((bt (strOfNums y178) 0) == 35)) else (none)) else (redpenref15_Entity.j3 kj5 x5_2 (strOfNums y178) (-1) false)))))))) = some (r1, r2, r3) := by first | (rw [hy178]; with_reducible exact H) | (have H2_ := (Option.bind_some _ _).symm.trans H; rw [hy178]; with_reducible exact H2_) | (have H2_ := (Option.bind_some _ _).symm.trans H; with_reducible exact H2_) | with_reducible exact H | (rw [hy178]; exact H) | exact H
              have Ny178 := Aside0.mk hy178
              clear hy178
              by_cases c14 : (strOfNums y178).toList = ([97, 109, 112] : List UInt8)
              ·rw [if_pos c14] at H
               have c14b0 : ((strOfNums y178).toList == ([97, 109, 112] : List UInt8)) = true := beq_iff_eq.mpr c14
               have c14b1 : ((strOfNums y178).toList != ([97, 109, 112] : List UInt8)) = false := bne_eq_false_iff_eq.mpr c14
               clear c14
               simp only [Option.some.injEq, Prod.mk.injEq] at H
               obtain ⟨rfl, rfl, rfl⟩ := H
               have p177 : 0 ≤ (x5_2 : Int) := of_decide_eq_true (by first | (with_reducible assumption) | assumption)
               have q177 : x5_2 < (l0.length : Int) := of_decide_eq_true (by first | (with_reducible assumption) | assumption)
               obtain ⟨ad177, e177, hx177_0⟩ := Kd.at_int HR0.out x5_2 p177 q177
               cases e177
               replace p177 := eq_true p177
               replace q177 := eq_true q177
               have q15 : (x5_2 : Int) ≤ ((l0.length : Int) : Int) := of_decide_eq_true (by first | (with_reducible assumption) | assumption)
               obtain ⟨i015, hi015, _, hsz15, _⟩ := info_parts info5
               have hroom15 : l0.length ≤ c0 := HC0.out
               have hC15 : Kd.C (Kd.int .u8) _ (some ad177) l0.length l0 := HR0.out
               have ql15 : (1 : Int) ≤ (x5_2 : Int) := of_decide_eq_true (by first | (with_reducible assumption) | assumption)
               have hcut15 := cut_mid (P := Tryd.prog) 22 5 .i64 .i64 Tryd.underlying22 hi015 1 hsz15 (some ad177) l0.length c0 1 x5_2 (by omega) ql15 q15 hroom15
               have hr15 := Kd.C_mid (lo := (1 : Int).toNat) (hi := (x5_2 : Int).toNat) (c := c0) hC15 (by omega) (by omega) hroom15
               obtain ⟨A15, hA15⟩ : ∃ A1z_, A1z_ = (if c0 = (1 : Int).toNat then (some ad177) else ((some ad177) : Option Addr).map (·.add ((1 : Int).toNat * 1))) := ⟨_, rfl⟩
               obtain ⟨c15, hc15⟩ : ∃ c1z_, c1z_ = c0 - (1 : Int).toNat := ⟨_, rfl⟩
               have hy15 : y178.length = (x5_2 : Int).toNat - (1 : Int).toNat := (by rw [Ny178.out, List.length_drop, List.length_take] <;> omega)
               rw [show ((l0).take (x5_2 : Int).toNat).drop (1 : Int).toNat = y178 from Ny178.out.symm] at hr15
               replace hr15 : Kd.C (Kd.int .u8) _ A15 y178.length y178 := (by rw [hA15]; exact hr15)
               rw [← hy15, ← hA15, ← hc15] at hcut15
               have HR181 := Aside0.mk hr15
               have HC181 := Aside0.mk (show y178.length ≤ c15 from by rw [hy15, hc15]; exact Nat.sub_le_sub_right (Nat.le_trans (by omega) hroom15) _)
               clear hr15 hC15 hroom15 hi015 hsz15 hc15
               have KY15 := Aside0.mk hy15
               have KA15 := Aside0.mk hA15
               clear hy15 hA15
               replace q15 := eq_true q15
               have hcv16 := Kd.C_string (P := Tryd.prog) (A := A15) (c := c15) Tryd.underlying22 Tryd.underlying5 Tryd.underlying9 HR181.out
               (try (have hcv16n := fun (n_ : Nat) => Kd.C_string (P := Tryd.prog) (A := A15) (c := c15) Tryd.underlying22 Tryd.underlying5 Tryd.underlying9 (Kd.C_drewN HR181.out n_)))
               (try simp only [List.length_drop] at hcv16)
               go_wp2
               go_ret3
               exact ⟨by first | rfl | (simp; done) | (simp [*]; done) | (simp [wrap64, wrap32]; done), by repeat (first | exact Drawn0.refl _ | apply Drawn0.step)⟩
              ·rw [if_neg c14] at H
               have c14b0 : ((strOfNums y178).toList == ([97, 109, 112] : List UInt8)) = false := beq_eq_false_iff_ne.mpr c14
               have c14b1 : ((strOfNums y178).toList != ([97, 109, 112] : List UInt8)) = true := bne_iff_ne.mpr c14
               by_cases c17 : (strOfNums y178).toList = ([97, 112, 111, 115] : List UInt8)
               ·rw [if_pos c17] at H
                have c17b0 : ((strOfNums y178).toList == ([97, 112, 111, 115] : List UInt8)) = true := beq_iff_eq.mpr c17
                have c17b1 : ((strOfNums y178).toList != ([97, 112, 111, 115] : List UInt8)) = false := bne_eq_false_iff_eq.mpr c17
                clear c17
                simp only [Option.some.injEq, Prod.mk.injEq] at H
                obtain ⟨rfl, rfl, rfl⟩ := H
                have p177 : 0 ≤ (x5_2 : Int) := of_decide_eq_true (by first | (with_reducible assumption) | assumption)
                have q177 : x5_2 < (l0.length : Int) := of_decide_eq_true (by first | (with_reducible assumption) | assumption)
                obtain ⟨ad177, e177, hx177_0⟩ := Kd.at_int HR0.out x5_2 p177 q177
                cases e177
                replace p177 := eq_true p177
                replace q177 := eq_true q177
                have q18 : (x5_2 : Int) ≤ ((l0.length : Int) : Int) := of_decide_eq_true (by first | (with_reducible assumption) | assumption)
                obtain ⟨i018, hi018, _, hsz18, _⟩ := info_parts info5
                have hroom18 : l0.length ≤ c0 := HC0.out
                have hC18 : Kd.C (Kd.int .u8) _ (some ad177) l0.length l0 := HR0.out
                have ql18 : (1 : Int) ≤ (x5_2 : Int) := of_decide_eq_true (by first | (with_reducible assumption) | assumption)
                have hcut18 := cut_mid (P := Tryd.prog) 22 5 .i64 .i64 Tryd.underlying22 hi018 1 hsz18 (some ad177) l0.length c0 1 x5_2 (by omega) ql18 q18 hroom18
                have hr18 := Kd.C_mid (lo := (1 : Int).toNat) (hi := (x5_2 : Int).toNat) (c := c0) hC18 (by omega) (by omega) hroom18
                obtain ⟨A18, hA18⟩ : ∃ A1z_, A1z_ = (if c0 = (1 : Int).toNat then (some ad177) else ((some ad177) : Option Addr).map (·.add ((1 : Int).toNat * 1))) := ⟨_, rfl⟩
                obtain ⟨c18, hc18⟩ : ∃ c1z_, c1z_ = c0 - (1 : Int).toNat := ⟨_, rfl⟩
                have hy18 : y178.length = (x5_2 : Int).toNat - (1 : Int).toNat := (by rw [Ny178.out, List.length_drop, List.length_take] <;> omega)
                rw [show ((l0).take (x5_2 : Int).toNat).drop (1 : Int).toNat = y178 from Ny178.out.symm] at hr18
                replace hr18 : Kd.C (Kd.int .u8) _ A18 y178.length y178 := (by rw [hA18]; exact hr18)
                rw [← hy18, ← hA18, ← hc18] at hcut18
                have HR181 := Aside0.mk hr18
                have HC181 := Aside0.mk (show y178.length ≤ c18 from by rw [hy18, hc18]; exact Nat.sub_le_sub_right (Nat.le_trans (by omega) hroom18) _)
                clear hr18 hC18 hroom18 hi018 hsz18 hc18
                have KY18 := Aside0.mk hy18
                have KA18 := Aside0.mk hA18
                clear hy18 hA18
                replace q18 := eq_true q18
                have hcv19 := Kd.C_string (P := Tryd.prog) (A := A18) (c := c18) Tryd.underlying22 Tryd.underlying5 Tryd.underlying9 HR181.out
                (try (have hcv19n := fun (n_ : Nat) => Kd.C_string (P := Tryd.prog) (A := A18) (c := c18) Tryd.underlying22 Tryd.underlying5 Tryd.underlying9 (Kd.C_drewN HR181.out n_)))
                (try simp only [List.length_drop] at hcv19)
                go_wp2
                go_ret3
                exact ⟨by first | rfl | (simp; done) | (simp [*]; done) | (simp [wrap64, wrap32]; done), by repeat (first | exact Drawn0.refl _ | apply Drawn0.step)⟩
               ·rw [if_neg c17] at H
                have c17b0 : ((strOfNums y178).toList == ([97, 112, 111, 115] : List UInt8)) = false := beq_eq_false_iff_ne.mpr c17
                have c17b1 : ((strOfNums y178).toList != ([97, 112, 111, 115] : List UInt8)) = true := bne_iff_ne.mpr c17
                by_cases c20 : (strOfNums y178).toList = ([103, 116] : List UInt8)
                ·rw [if_pos c20] at H
                 have c20b0 : ((strOfNums y178).toList == ([103, 116] : List UInt8)) = true := beq_iff_eq.mpr c20
                 have c20b1 : ((strOfNums y178).toList != ([103, 116] : List UInt8)) = false := bne_eq_false_iff_eq.mpr c20
                 clear c20
                 simp only [Option.some.injEq, Prod.mk.injEq] at H
                 obtain ⟨rfl, rfl, rfl⟩ := H
                 have p177 : 0 ≤ (x5_2 : Int) := of_decide_eq_true (by first | (with_reducible assumption) | assumption)
                 have q177 : x5_2 < (l0.length : Int) := of_decide_eq_true (by first | (with_reducible assumption) | assumption)
                 obtain ⟨ad177, e177, hx177_0⟩ := Kd.at_int HR0.out x5_2 p177 q177
                 cases e177
                 replace p177 := eq_true p177
                 replace q177 := eq_true q177
                 have q21 : (x5_2 : Int) ≤ ((l0.length : Int) : Int) := of_decide_eq_true (by first | (with_reducible assumption) | assumption)
                 obtain ⟨i021, hi021, _, hsz21, _⟩ := info_parts info5
                 have hroom21 : l0.length ≤ c0 := HC0.out
                 have hC21 : Kd.C (Kd.int .u8) _ (some ad177) l0.length l0 := HR0.out
                 have ql21 : (1 : Int) ≤ (x5_2 : Int) := of_decide_eq_true (by first | (with_reducible assumption) | assumption)
                 have hcut21 := cut_mid (P := Tryd.prog) 22 5 .i64 .i64 Tryd.underlying22 hi021 1 hsz21 (some ad177) l0.length c0 1 x5_2 (by omega) ql21 q21 hroom21
                 have hr21 := Kd.C_mid (lo := (1 : Int).toNat) (hi := (x5_2 : Int).toNat) (c := c0) hC21 (by omega) (by omega) hroom21
                 obtain ⟨A21, hA21⟩ : ∃ A1z_, A1z_ = (if c0 = (1 : Int).toNat then (some ad177) else ((some ad177) : Option Addr).map (·.add ((1 : Int).toNat * 1))) := ⟨_, rfl⟩
                 obtain ⟨c21, hc21⟩ : ∃ c1z_, c1z_ = c0 - (1 : Int).toNat := ⟨_, rfl⟩
                 have hy21 : y178.length = (x5_2 : Int).toNat - (1 : Int).toNat := (by rw [Ny178.out, List.length_drop, List.length_take] <;> omega)
                 rw [show ((l0).take (x5_2 : Int).toNat).drop (1 : Int).toNat = y178 from Ny178.out.symm] at hr21
                 replace hr21 : Kd.C (Kd.int .u8) _ A21 y178.length y178 := (by rw [hA21]; exact hr21)
                 rw [← hy21, ← hA21, ← hc21] at hcut21
                 have HR181 := Aside0.mk hr21
                 have HC181 := Aside0.mk (show y178.length ≤ c21 from by rw [hy21, hc21]; exact Nat.sub_le_sub_right (Nat.le_trans (by omega) hroom21) _)
                 clear hr21 hC21 hroom21 hi021 hsz21 hc21
                 have KY21 := Aside0.mk hy21
                 have KA21 := Aside0.mk hA21
                 clear hy21 hA21
                 replace q21 := eq_true q21
                 have hcv22 := Kd.C_string (P := Tryd.prog) (A := A21) (c := c21) Tryd.underlying22 Tryd.underlying5 Tryd.underlying9 HR181.out
                 (try (have hcv22n := fun (n_ : Nat) => Kd.C_string (P := Tryd.prog) (A := A21) (c := c21) Tryd.underlying22 Tryd.underlying5 Tryd.underlying9 (Kd.C_drewN HR181.out n_)))
                 (try simp only [List.length_drop] at hcv22)
                 go_wp2
                 go_ret3
                 exact ⟨by first | rfl | (simp; done) | (simp [*]; done) | (simp [wrap64, wrap32]; done), by repeat (first | exact Drawn0.refl _ | apply Drawn0.step)⟩
                ·rw [if_neg c20] at H
                 have c20b0 : ((strOfNums y178).toList == ([103, 116] : List UInt8)) = false := beq_eq_false_iff_ne.mpr c20
                 have c20b1 : ((strOfNums y178).toList != ([103, 116] : List UInt8)) = true := bne_iff_ne.mpr c20
                 by_cases c23 : (strOfNums y178).toList = ([108, 116] : List UInt8)
                 ·rw [if_pos c23] at H
                  have c23b0 : ((strOfNums y178).toList == ([108, 116] : List UInt8)) = true := beq_iff_eq.mpr c23
                  have c23b1 : ((strOfNums y178).toList != ([108, 116] : List UInt8)) = false := bne_eq_false_iff_eq.mpr c23
                  clear c23
                  simp only [Option.some.injEq, Prod.mk.injEq] at H
                  obtain ⟨rfl, rfl, rfl⟩ := H
                  have p177 : 0 ≤ (x5_2 : Int) := of_decide_eq_true (by first | (with_reducible assumption) | assumption)
                  have q177 : x5_2 < (l0.length : Int) := of_decide_eq_true (by first | (with_reducible assumption) | assumption)
                  obtain ⟨ad177, e177, hx177_0⟩ := Kd.at_int HR0.out x5_2 p177 q177
                  cases e177
                  replace p177 := eq_true p177
                  replace q177 := eq_true q177
                  have q24 : (x5_2 : Int) ≤ ((l0.length : Int) : Int) := of_decide_eq_true (by first | (with_reducible assumption) | assumption)
                  obtain ⟨i024, hi024, _, hsz24, _⟩ := info_parts info5
                  have hroom24 : l0.length ≤ c0 := HC0.out
                  have hC24 : Kd.C (Kd.int .u8) _ (some ad177) l0.length l0 := HR0.out
                  have ql24 : (1 : Int) ≤ (x5_2 : Int) := of_decide_eq_true (by first | (with_reducible assumption) | assumption)
                  have hcut24 := cut_mid (P := Tryd.prog) 22 5 .i64 .i64 Tryd.underlying22 hi024 1 hsz24 (some ad177) l0.length c0 1 x5_2 (by omega) ql24 q24 hroom24
                  have hr24 := Kd.C_mid (lo := (1 : Int).toNat) (hi := (x5_2 : Int).toNat) (c := c0) hC24 (by omega) (by omega) hroom24
                  obtain ⟨A24, hA24⟩ : ∃ A1z_, A1z_ = (if c0 = (1 : Int).toNat then (some ad177) else ((some ad177) : Option Addr).map (·.add ((1 : Int).toNat * 1))) := ⟨_, rfl⟩
                  obtain ⟨c24, hc24⟩ : ∃ c1z_, c1z_ = c0 - (1 : Int).toNat := ⟨_, rfl⟩
                  have hy24 : y178.length = (x5_2 : Int).toNat - (1 : Int).toNat := (by rw [Ny178.out, List.length_drop, List.length_take] <;> omega)
                  rw [show ((l0).take (x5_2 : Int).toNat).drop (1 : Int).toNat = y178 from Ny178.out.symm] at hr24
                  replace hr24 : Kd.C (Kd.int .u8) _ A24 y178.length y178 := (by rw [hA24]; exact hr24)
                  rw [← hy24, ← hA24, ← hc24] at hcut24
                  have HR181 := Aside0.mk hr24
                  have HC181 := Aside0.mk (show y178.length ≤ c24 from by rw [hy24, hc24]; exact Nat.sub_le_sub_right (Nat.le_trans (by omega) hroom24) _)
                  clear hr24 hC24 hroom24 hi024 hsz24 hc24
                  have KY24 := Aside0.mk hy24
                  have KA24 := Aside0.mk hA24
                  clear hy24 hA24
                  replace q24 := eq_true q24
                  have hcv25 := Kd.C_string (P := Tryd.prog) (A := A24) (c := c24) Tryd.underlying22 Tryd.underlying5 Tryd.underlying9 HR181.out
                  (try (have hcv25n := fun (n_ : Nat) => Kd.C_string (P := Tryd.prog) (A := A24) (c := c24) Tryd.underlying22 Tryd.underlying5 Tryd.underlying9 (Kd.C_drewN HR181.out n_)))
                  (try simp only [List.length_drop] at hcv25)
                  go_wp2
                  go_ret3
                  exact ⟨by first | rfl | (simp; done) | (simp [*]; done) | (simp [wrap64, wrap32]; done), by repeat (first | exact Drawn0.refl _ | apply Drawn0.step)⟩
                 ·rw [if_neg c23] at H
                  have c23b0 : ((strOfNums y178).toList == ([108, 116] : List UInt8)) = false := beq_eq_false_iff_ne.mpr c23
                  have c23b1 : ((strOfNums y178).toList != ([108, 116] : List UInt8)) = true := bne_iff_ne.mpr c23
                  by_cases c26 : (strOfNums y178).toList = ([110, 98, 115, 112] : List UInt8)
                  ·rw [if_pos c26] at H
                   have c26b0 : ((strOfNums y178).toList == ([110, 98, 115, 112] : List UInt8)) = true := beq_iff_eq.mpr c26
                   have c26b1 : ((strOfNums y178).toList != ([110, 98, 115, 112] : List UInt8)) = false := bne_eq_false_iff_eq.mpr c26
                   clear c26
                   simp only [Option.some.injEq, Prod.mk.injEq] at H
                   obtain ⟨rfl, rfl, rfl⟩ := H
                   have p177 : 0 ≤ (x5_2 : Int) := of_decide_eq_true (by first | (with_reducible assumption) | assumption)
                   have q177 : x5_2 < (l0.length : Int) := of_decide_eq_true (by first | (with_reducible assumption) | assumption)
                   obtain ⟨ad177, e177, hx177_0⟩ := Kd.at_int HR0.out x5_2 p177 q177
                   cases e177
                   replace p177 := eq_true p177
                   replace q177 := eq_true q177
                   have q27 : (x5_2 : Int) ≤ ((l0.length : Int) : Int) := of_decide_eq_true (by first | (with_reducible assumption) | assumption)
                   obtain ⟨i027, hi027, _, hsz27, _⟩ := info_parts info5
                   have hroom27 : l0.length ≤ c0 := HC0.out
                   have hC27 : Kd.C (Kd.int .u8) _ (some ad177) l0.length l0 := HR0.out
                   have ql27 : (1 : Int) ≤ (x5_2 : Int) := of_decide_eq_true (by first | (with_reducible assumption) | assumption)
                   have hcut27 := cut_mid (P := Tryd.prog) 22 5 .i64 .i64 Tryd.underlying22 hi027 1 hsz27 (some ad177) l0.length c0 1 x5_2 (by omega) ql27 q27 hroom27
                   have hr27 := Kd.C_mid (lo := (1 : Int).toNat) (hi := (x5_2 : Int).toNat) (c := c0) hC27 (by omega) (by omega) hroom27
                   obtain ⟨A27, hA27⟩ : ∃ A1z_, A1z_ = (if c0 = (1 : Int).toNat then (some ad177) else ((some ad177) : Option Addr).map (·.add ((1 : Int).toNat * 1))) := ⟨_, rfl⟩
                   obtain ⟨c27, hc27⟩ : ∃ c1z_, c1z_ = c0 - (1 : Int).toNat := ⟨_, rfl⟩
                   have hy27 : y178.length = (x5_2 : Int).toNat - (1 : Int).toNat := (by rw [Ny178.out, List.length_drop, List.length_take] <;> omega)
                   rw [show ((l0).take (x5_2 : Int).toNat).drop (1 : Int).toNat = y178 from Ny178.out.symm] at hr27
                   replace hr27 : Kd.C (Kd.int .u8) _ A27 y178.length y178 := (by rw [hA27]; exact hr27)
                   rw [← hy27, ← hA27, ← hc27] at hcut27
                   have HR181 := Aside0.mk hr27
                   have HC181 := Aside0.mk (show y178.length ≤ c27 from by rw [hy27, hc27]; exact Nat.sub_le_sub_right (Nat.le_trans (by omega) hroom27) _)
                   clear hr27 hC27 hroom27 hi027 hsz27 hc27
                   have KY27 := Aside0.mk hy27
                   have KA27 := Aside0.mk hA27
                   clear hy27 hA27
                   replace q27 := eq_true q27
                   have hcv28 := Kd.C_string (P := Tryd.prog) (A := A27) (c := c27) Tryd.underlying22 Tryd.underlying5 Tryd.underlying9 HR181.out
                   (try (have hcv28n := fun (n_ : Nat) => Kd.C_string (P := Tryd.prog) (A := A27) (c := c27) Tryd.underlying22 Tryd.underlying5 Tryd.underlying9 (Kd.C_drewN HR181.out n_)))
                   (try simp only [List.length_drop] at hcv28)
                   go_wp2
                   go_ret3
                   exact ⟨by first | rfl | (simp; done) | (simp [*]; done) | (simp [wrap64, wrap32]; done), by repeat (first | exact Drawn0.refl _ | apply Drawn0.step)⟩
                  ·rw [if_neg c26] at H
                   have c26b0 : ((strOfNums y178).toList == ([110, 98, 115, 112] : List UInt8)) = false := beq_eq_false_iff_ne.mpr c26
                   have c26b1 : ((strOfNums y178).toList != ([110, 98, 115, 112] : List UInt8)) = true := bne_iff_ne.mpr c26
                   by_cases c29 : (strOfNums y178).toList = ([113, 117, 111, 116] : List UInt8)
                   ·rw [if_pos c29] at H
                    have c29b0 : ((strOfNums y178).toList == ([113, 117, 111, 116] : List UInt8)) = true := beq_iff_eq.mpr c29
                    have c29b1 : ((strOfNums y178).toList != ([113, 117, 111, 116] : List UInt8)) = false := bne_eq_false_iff_eq.mpr c29
                    clear c29
                    simp only [Option.some.injEq, Prod.mk.injEq] at H
                    obtain ⟨rfl, rfl, rfl⟩ := H
                    have p177 : 0 ≤ (x5_2 : Int) := of_decide_eq_true (by first | (with_reducible assumption) | assumption)
                    have q177 : x5_2 < (l0.length : Int) := of_decide_eq_true (by first | (with_reducible assumption) | assumption)
                    obtain ⟨ad177, e177, hx177_0⟩ := Kd.at_int HR0.out x5_2 p177 q177
                    cases e177
                    replace p177 := eq_true p177
                    replace q177 := eq_true q177
                    have q30 : (x5_2 : Int) ≤ ((l0.length : Int) : Int) := of_decide_eq_true (by first | (with_reducible assumption) | assumption)
                    obtain ⟨i030, hi030, _, hsz30, _⟩ := info_parts info5
                    have hroom30 : l0.length ≤ c0 := HC0.out
                    have hC30 : Kd.C (Kd.int .u8) _ (some ad177) l0.length l0 := HR0.out
                    have ql30 : (1 : Int) ≤ (x5_2 : Int) := of_decide_eq_true (by first | (with_reducible assumption) | assumption)
                    have hcut30 := cut_mid (P := Tryd.prog) 22 5 .i64 .i64 Tryd.underlying22 hi030 1 hsz30 (some ad177) l0.length c0 1 x5_2 (by omega) ql30 q30 hroom30
                    have hr30 := Kd.C_mid (lo := (1 : Int).toNat) (hi := (x5_2 : Int).toNat) (c := c0) hC30 (by omega) (by omega) hroom30
                    obtain ⟨A30, hA30⟩ : ∃ A1z_, A1z_ = (if c0 = (1 : Int).toNat then (some ad177) else ((some ad177) : Option Addr).map (·.add ((1 : Int).toNat * 1))) := ⟨_, rfl⟩
                    obtain ⟨c30, hc30⟩ : ∃ c1z_, c1z_ = c0 - (1 : Int).toNat := ⟨_, rfl⟩
                    have hy30 : y178.length = (x5_2 : Int).toNat - (1 : Int).toNat := (by rw [Ny178.out, List.length_drop, List.length_take] <;> omega)
                    rw [show ((l0).take (x5_2 : Int).toNat).drop (1 : Int).toNat = y178 from Ny178.out.symm] at hr30
                    replace hr30 : Kd.C (Kd.int .u8) _ A30 y178.length y178 := (by rw [hA30]; exact hr30)
                    rw [← hy30, ← hA30, ← hc30] at hcut30
                    have HR181 := Aside0.mk hr30
                    have HC181 := Aside0.mk (show y178.length ≤ c30 from by rw [hy30, hc30]; exact Nat.sub_le_sub_right (Nat.le_trans (by omega) hroom30) _)
                    clear hr30 hC30 hroom30 hi030 hsz30 hc30
                    have KY30 := Aside0.mk hy30
                    have KA30 := Aside0.mk hA30
                    clear hy30 hA30
                    replace q30 := eq_true q30
                    have hcv31 := Kd.C_string (P := Tryd.prog) (A := A30) (c := c30) Tryd.underlying22 Tryd.underlying5 Tryd.underlying9 HR181.out
                    (try (have hcv31n := fun (n_ : Nat) => Kd.C_string (P := Tryd.prog) (A := A30) (c := c30) Tryd.underlying22 Tryd.underlying5 Tryd.underlying9 (Kd.C_drewN HR181.out n_)))
                    (try simp only [List.length_drop] at hcv31)
                    go_wp2
                    go_ret3
                    exact ⟨by first | rfl | (simp; done) | (simp [*]; done) | (simp [wrap64, wrap32]; done), by repeat (first | exact Drawn0.refl _ | apply Drawn0.step)⟩
                   ·rw [if_neg c29] at H
                    have c29b0 : ((strOfNums y178).toList == ([113, 117, 111, 116] : List UInt8)) = false := beq_eq_false_iff_ne.mpr c29
                    have c29b1 : ((strOfNums y178).toList != ([113, 117, 111, 116] : List UInt8)) = true := bne_iff_ne.mpr c29
                    have HC32 := Aside0.mk H
                    clear H
                    have p177 : 0 ≤ (x5_2 : Int) := of_decide_eq_true (by first | (with_reducible assumption) | assumption)
                    have q177 : x5_2 < (l0.length : Int) := of_decide_eq_true (by first | (with_reducible assumption) | assumption)
                    obtain ⟨ad177, e177, hx177_0⟩ := Kd.at_int HR0.out x5_2 p177 q177
                    cases e177
                    replace p177 := eq_true p177
                    replace q177 := eq_true q177
                    have q33 : (x5_2 : Int) ≤ ((l0.length : Int) : Int) := of_decide_eq_true (by first | (with_reducible assumption) | assumption)
                    obtain ⟨i033, hi033, _, hsz33, _⟩ := info_parts info5
                    have hroom33 : l0.length ≤ c0 := HC0.out
                    have hC33 : Kd.C (Kd.int .u8) _ (some ad177) l0.length l0 := HR0.out
                    have ql33 : (1 : Int) ≤ (x5_2 : Int) := of_decide_eq_true (by first | (with_reducible assumption) | assumption)
                    have hcut33 := cut_mid (P := Tryd.prog) 22 5 .i64 .i64 Tryd.underlying22 hi033 1 hsz33 (some ad177) l0.length c0 1 x5_2 (by omega) ql33 q33 hroom33
                    have hr33 := Kd.C_mid (lo := (1 : Int).toNat) (hi := (x5_2 : Int).toNat) (c := c0) hC33 (by omega) (by omega) hroom33
                    obtain ⟨A33, hA33⟩ : ∃ A1z_, A1z_ = (if c0 = (1 : Int).toNat then (some ad177) else ((some ad177) : Option Addr).map (·.add ((1 : Int).toNat * 1))) := ⟨_, rfl⟩
                    obtain ⟨c33, hc33⟩ : ∃ c1z_, c1z_ = c0 - (1 : Int).toNat := ⟨_, rfl⟩
                    have hy33 : y178.length = (x5_2 : Int).toNat - (1 : Int).toNat := (by rw [Ny178.out, List.length_drop, List.length_take] <;> omega)
                    rw [show ((l0).take (x5_2 : Int).toNat).drop (1 : Int).toNat = y178 from Ny178.out.symm] at hr33
                    replace hr33 : Kd.C (Kd.int .u8) _ A33 y178.length y178 := (by rw [hA33]; exact hr33)
                    rw [← hy33, ← hA33, ← hc33] at hcut33
                    have HR181 := Aside0.mk hr33
                    have HC181 := Aside0.mk (show y178.length ≤ c33 from by rw [hy33, hc33]; exact Nat.sub_le_sub_right (Nat.le_trans (by omega) hroom33) _)
                    clear hr33 hC33 hroom33 hi033 hsz33 hc33
                    have KY33 := Aside0.mk hy33
                    have KA33 := Aside0.mk hA33
                    clear hy33 hA33
                    replace q33 := eq_true q33
                    have hcv34 := Kd.C_string (P := Tryd.prog) (A := A33) (c := c33) Tryd.underlying22 Tryd.underlying5 Tryd.underlying9 HR181.out
                    (try (have hcv34n := fun (n_ : Nat) => Kd.C_string (P := Tryd.prog) (A := A33) (c := c33) Tryd.underlying22 Tryd.underlying5 Tryd.underlying9 (Kd.C_drewN HR181.out n_)))
                    (try simp only [List.length_drop] at hcv34)
                    go_upto_region 22 with (fail)
                    go_cut [68] (fun v68 wc => ∃ (kq : Nat) (x68_31 : Bool), v68 = .bool x68_31 ∧ Aside0 (redpenref15_Entity.j3 kq x5_2 (strOfNums y178) (-1) x68_31 = some (r1, r2, r3)) ∧ Aside0 (kq ≤ kj5) ∧ Drawn0 w wc)
                    case first =>
                     have H := HC32.out
                     clear HC32
                     by_cases c35 : ((strOfNums y178).size : Int) > 1
                     ·rw [if_pos c35] at H
                      have c35b0 : decide (1 < ((strOfNums y178).size : Int)) = true := decide_eq_true c35
                      have c35b1 : decide (1 < (strOfNums y178).size) = true := decide_eq_true (by omega)
                      clear c35
                      (first | rw [c35b0] | (simp only [i64_w, i32_w]; rw [c35b0]) | skip)
                      by_cases c36 : 0 < ((strOfNums y178).size : Int)
                      ·rw [if_pos c36] at H
                       have c36b0 : decide (0 < ((strOfNums y178).size : Int)) = true := decide_eq_true c36
                       have c36b1 : decide (0 < (strOfNums y178).size) = true := decide_eq_true (by omega)
                       clear c36
                       have H' := Aside0.mk H
                       clear H
                       have p37 : 0 ≤ (0 : Int) := (by omega)
                       have q37 : 0 < (strOfNums y178).size := (by have : (0 : Int) < ((strOfNums y178).size : Int) := of_decide_eq_true (by first | (with_reducible assumption) | assumption); omega)
                       have hx37 : ∀ h : 0 < (strOfNums y178).size, (((strOfNums y178)[0]'h).toNat : Int) = bt (strOfNums y178) 0 := bt_at (strOfNums y178) 0
                       clear p37
                       have qi37 : (0 < ((strOfNums y178).size : Int)) = True := eq_true (of_decide_eq_true (by first | (with_reducible assumption) | assumption))
                       replace q37 := eq_true q37
                       go_wp2
                       go_meet
                       case rel => exact ⟨_, (((bt (strOfNums y178) 0) == 35)), (by first | rfl | (simp; done) | (simp [*]; done) | (simp [wrap64, wrap32]; done)), H', ⟨by have := HJ1.out; have := HK2.out; have := HJ5.out; first | omega | exact Nat.le_refl _⟩, by repeat (first | exact Drawn0.refl _ | apply Drawn0.step)⟩
                      ·rw [if_neg c36] at H
                       exact absurd H (by simp)
                     ·rw [if_neg c35] at H
                      have c35b0 : decide (1 < ((strOfNums y178).size : Int)) = false := decide_eq_false c35
                      have c35b1 : decide (1 < (strOfNums y178).size) = false := decide_eq_false (by omega)
                      clear c35
                      (first | rw [c35b0] | (simp only [i64_w, i32_w]; rw [c35b0]) | skip)
                      have H' := Aside0.mk H
                      clear H
                      go_wp2
                      go_meet
                      case rel => exact ⟨_, (false), (by first | rfl | (simp; done) | (simp [*]; done) | (simp [wrap64, wrap32]; done)), H', ⟨by have := HJ1.out; have := HK2.out; have := HJ5.out; first | omega | exact Nat.le_refl _⟩, by repeat (first | exact Drawn0.refl _ | apply Drawn0.step)⟩
                    case rest =>
                     clear HC32
                     try clear c1
                     try clear p1
                     try clear q1
                     try clear hx1
                     try clear hcv1
                     try clear qi1
                     try clear c2
                     try clear p2
                     try clear q2
                     try clear hcv2
                     try clear c3
                     try clear c3b0
                     try clear c3b1
                     try clear c3b2
                     try clear p3
                     try clear q3
                     try clear hx3
                     try clear hcv3
                     try clear qi3
                     try clear c4
                     try clear c4b0
                     try clear c4b1
                     try clear c5
                     try clear p6
                     try clear c7
                     try clear c7b0
                     try clear c8
                     try clear c9
                     try clear c9b0
                     try clear c10
                     try clear c10b0
                     try clear c11
                     try clear c11b0
                     try clear c11b1
                     try clear c12
                     try clear c12b0
                     try clear c12b1
                     try clear c13
                     try clear c13b0
                     try clear c13b1
                     try clear c14
                     try clear c14b0
                     try clear c14b1
                     try clear c15
                     try clear q15
                     try clear hcv16
                     try clear c17
                     try clear c17b0
                     try clear c17b1
                     try clear p17
                     try clear q17
                     try clear hx17
                     try clear qi17
                     try clear c18
                     try clear q18
                     try clear hcv19
                     try clear c20
                     try clear c20b0
                     try clear c20b1
                     try clear c21
                     try clear q21
                     try clear hcv22
                     try clear c23
                     try clear c23b0
                     try clear c23b1
                     try clear c24
                     try clear q24
                     try clear hcv25
                     try clear c26
                     try clear c26b0
                     try clear c26b1
                     try clear c27
                     try clear q27
                     try clear hcv28
                     try clear c29
                     try clear c29b0
                     try clear c29b1
                     try clear c30
                     try clear q30
                     try clear hcv31
                     try clear c33
                     try clear q33
                     try clear hcv34
                     try clear c35
                     try clear c35b0
                     try clear c35b1
                     try clear c36
                     try clear c36b0
                     try clear c36b1
                     try clear p37
                     try clear q37
                     try clear hx37
                     try clear qi37
                     try clear hx176_0
                     try clear hx177_0
                     try clear p1
                     try clear p176
                     try clear p177
                     try clear p2
                     try clear p37
                     try clear q1
                     try clear q15
                     try clear q176
                     try clear q177
                     try clear q18
                     try clear q21
                     try clear q24
                     try clear q27
                     try clear q30
                     try clear q33
                     try clear q37
                     obtain ⟨kq, x68_31, rfl, HA, HJ31, ⟨mc31, rfl⟩⟩ := hcut
                     cases kq with
                     | zero => exact absurd HA.out (by simp [redpenref15_Entity.j3])
                     | succ kj31 =>
                      have H := HA.out
                      clear HA
                      simp only [redpenref15_Entity.j3] at H
                      by_cases c38 : x68_31 = true
                      ·subst c38
                       have H1 : (if 1 < ((strOfNums y178).size : Int) then (if (bt (strOfNums y178) 1) = 120 then (redpenref15_Entity.j4 kj31 x5_2 (strOfNums y178) true) else (redpenref15_Entity.j4 kj31 x5_2 (strOfNums y178) ((bt (strOfNums y178) 1) == 88))) else (none)) = some (r1, r2, r3) := by rw [if_pos rfl] at H; exact H
                       clear H
                       have H := H1
                       clear H1
                       have HC39 := Aside0.mk H
                       clear H
                       go_upto_region 23 with (fail)
                       go_cut [76] (fun v76 wc => ∃ (kq : Nat) (x76_38 : Bool), v76 = .bool x76_38 ∧ Aside0 (redpenref15_Entity.j4 kq x5_2 (strOfNums y178) x76_38 = some (r1, r2, r3)) ∧ Aside0 (kq ≤ kj31) ∧ Drawn0 w wc)
                       case first =>
                        have H := HC39.out
                        clear HC39
                        by_cases c40 : 1 < ((strOfNums y178).size : Int)
                        ·rw [if_pos c40] at H
                         have c40b0 : decide (1 < ((strOfNums y178).size : Int)) = true := decide_eq_true c40
                         have c40b1 : decide (1 < (strOfNums y178).size) = true := decide_eq_true (by omega)
                         clear c40
                         (first | rw [c40b0] | (simp only [i64_w, i32_w]; rw [c40b0]) | skip)
                         by_cases c42 : (bt (strOfNums y178) 1) = 120
                         ·rw [if_pos c42] at H
                          have c42b0 : ((bt (strOfNums y178) 1) == 120) = true := beq_iff_eq.mpr c42
                          have c42b1 : ((bt (strOfNums y178) 1) != 120) = false := bne_eq_false_iff_eq.mpr c42
                          clear c42
                          have H' := Aside0.mk H
                          clear H
                          have p41 : 0 ≤ (1 : Int) := (by omega)
                          have q41 : 1 < (strOfNums y178).size := (by have : (1 : Int) < ((strOfNums y178).size : Int) := of_decide_eq_true (by first | (with_reducible assumption) | assumption); omega)
                          have hx41 : ∀ h : 1 < (strOfNums y178).size, (((strOfNums y178)[1]'h).toNat : Int) = bt (strOfNums y178) 1 := bt_at (strOfNums y178) 1
                          clear p41
                          have qi41 : (1 < ((strOfNums y178).size : Int)) = True := eq_true (of_decide_eq_true (by first | (with_reducible assumption) | assumption))
                          replace q41 := eq_true q41
                          go_wp2
                          go_meet
                          case rel => exact ⟨_, (true), (by first | rfl | (simp; done) | (simp [*]; done) | (simp [wrap64, wrap32]; done)), H', ⟨by have := HJ1.out; have := HK2.out; have := HJ5.out; have := HJ31.out; first | omega | exact Nat.le_refl _⟩, by repeat (first | exact Drawn0.refl _ | apply Drawn0.step)⟩
                         ·rw [if_neg c42] at H
                          have c42b0 : ((bt (strOfNums y178) 1) == 120) = false := beq_eq_false_iff_ne.mpr c42
                          have c42b1 : ((bt (strOfNums y178) 1) != 120) = true := bne_iff_ne.mpr c42
                          have H' := Aside0.mk H
                          clear H
                          have p41 : 0 ≤ (1 : Int) := (by omega)
                          have q41 : 1 < (strOfNums y178).size := (by have : (1 : Int) < ((strOfNums y178).size : Int) := of_decide_eq_true (by first | (with_reducible assumption) | assumption); omega)
                          have hx41 : ∀ h : 1 < (strOfNums y178).size, (((strOfNums y178)[1]'h).toNat : Int) = bt (strOfNums y178) 1 := bt_at (strOfNums y178) 1
                          clear p41
                          have qi41 : (1 < ((strOfNums y178).size : Int)) = True := eq_true (of_decide_eq_true (by first | (with_reducible assumption) | assumption))
                          replace q41 := eq_true q41
                          have p43 : 0 ≤ (1 : Int) := (by omega)
                          have q43 : 1 < (strOfNums y178).size := (by have : (1 : Int) < ((strOfNums y178).size : Int) := of_decide_eq_true (by first | (with_reducible assumption) | assumption); omega)
                          have hx43 : ∀ h : 1 < (strOfNums y178).size, (((strOfNums y178)[1]'h).toNat : Int) = bt (strOfNums y178) 1 := bt_at (strOfNums y178) 1
                          clear p43
                          have qi43 : (1 < ((strOfNums y178).size : Int)) = True := eq_true (of_decide_eq_true (by first | (with_reducible assumption) | assumption))
                          replace q43 := eq_true q43
                          go_wp2
                          go_meet
                          case rel => exact ⟨_, (((bt (strOfNums y178) 1) == 88)), (by first | rfl | (simp; done) | (simp [*]; done) | (simp [wrap64, wrap32]; done)), H', ⟨by have := HJ1.out; have := HK2.out; have := HJ5.out; have := HJ31.out; first | omega | exact Nat.le_refl _⟩, by repeat (first | exact Drawn0.refl _ | apply Drawn0.step)⟩
                        ·rw [if_neg c40] at H
                         exact absurd H (by simp)
                       case rest =>
                        clear HC39
                        try clear c1
                        try clear p1
                        try clear q1
                        try clear hx1
                        try clear hcv1
                        try clear qi1
                        try clear c2
                        try clear p2
                        try clear q2
                        try clear hcv2
                        try clear c3
                        try clear c3b0
                        try clear c3b1
                        try clear c3b2
                        try clear p3
                        try clear q3
                        try clear hx3
                        try clear hcv3
                        try clear qi3
                        try clear c4
                        try clear c4b0
                        try clear c4b1
                        try clear p4
                        try clear q4
                        try clear hx4
                        try clear qi4
                        try clear c5
                        try clear p6
                        try clear c7
                        try clear c7b0
                        try clear c8
                        try clear c9
                        try clear c9b0
                        try clear c10
                        try clear c10b0
                        try clear c11
                        try clear c11b0
                        try clear c11b1
                        try clear c12
                        try clear c12b0
                        try clear c12b1
                        try clear c13
                        try clear c13b0
                        try clear c13b1
                        try clear c14
                        try clear c14b0
                        try clear c14b1
                        try clear c15
                        try clear q15
                        try clear hcv16
                        try clear c17
                        try clear c17b0
                        try clear c17b1
                        try clear p17
                        try clear q17
                        try clear hx17
                        try clear qi17
                        try clear c18
                        try clear q18
                        try clear hcv19
                        try clear c20
                        try clear c20b0
                        try clear c20b1
                        try clear c21
                        try clear q21
                        try clear hcv22
                        try clear c23
                        try clear c23b0
                        try clear c23b1
                        try clear c24
                        try clear q24
                        try clear hcv25
                        try clear c26
                        try clear c26b0
                        try clear c26b1
                        try clear c27
                        try clear q27
                        try clear hcv28
                        try clear c29
                        try clear c29b0
                        try clear c29b1
                        try clear c30
                        try clear q30
                        try clear c31
                        try clear hcv31
                        try clear c33
                        try clear q33
                        try clear hcv34
                        try clear c35
                        try clear c35b0
                        try clear c35b1
                        try clear c36
                        try clear c36b0
                        try clear c36b1
                        try clear p37
                        try clear q37
                        try clear hx37
                        try clear qi37
                        try clear c38
                        try clear c40
                        try clear c40b0
                        try clear c40b1
                        try clear p41
                        try clear q41
                        try clear hx41
                        try clear qi41
                        try clear c42
                        try clear c42b0
                        try clear c42b1
                        try clear p43
                        try clear q43
                        try clear hx43
                        try clear qi43
                        try clear hx176_0
                        try clear hx177_0
                        try clear p1
                        try clear p17
                        try clear p176
                        try clear p177
                        try clear p2
                        try clear p3
                        try clear p37
                        try clear p41
                        try clear p43
                        try clear p6
                        try clear q1
                        try clear q15
                        try clear q17
                        try clear q176
                        try clear q177
                        try clear q18
                        try clear q2
                        try clear q21
                        try clear q24
                        try clear q27
                        try clear q3
                        try clear q30
                        try clear q33
                        try clear q37
                        try clear q41
                        try clear q43
                        obtain ⟨kq, x76_38, rfl, HA, HJ38, ⟨mc38, rfl⟩⟩ := hcut
                        cases kq with
                        | zero => exact absurd HA.out (by simp [redpenref15_Entity.j4])
                        | succ kj38 =>
                         have H := HA.out
                         clear HA
                         simp only [redpenref15_Entity.j4] at H
                         by_cases c44 : x76_38 = true
                         ·subst c44
                          have H1 : (if 2 ≤ ((strOfNums y178).size : Int) then ((redpenref15_number.f kj38 ((strOfNums y178).extract 2 (strOfNums y178).size) 16).bind fun t182 => ((redpenref15_valid.f t182).bind fun t183 => (if t183 = true then (some (wrap32 (t182), wrap64 (x5_2 + 1), true)) else (some (0, 0, false))))) else (none)) = some (r1, r2, r3) := by rw [if_pos rfl] at H; exact H
                          clear H
                          have H := H1
                          clear H1
                          by_cases c45 : 2 ≤ ((strOfNums y178).size : Int)
                          ·rw [if_pos c45] at H
                           have c45b0 := eq_true c45
                           have c45b1 : decide (2 ≤ ((strOfNums y178).size : Int)) = true := decide_eq_true c45
                           clear c45
                           replace H := Option.bind_eq_some_iff.mp H
                           obtain ⟨t182, A460, H⟩ := H
                           replace H : ((redpenref15_valid.f t182).bind fun t183 => (if t183 = true then (some (wrap32 (t182), wrap64 (x5_2 + 1), true)) else (some (0, 0, false)))) = some (r1, r2, r3) := H
                           have A46 := Aside0.mk A460
                           clear A460
                           replace H := Option.bind_eq_some_iff.mp H
                           obtain ⟨t183, A470, H⟩ := H
                           replace H : (if t183 = true then (some (wrap32 (t182), wrap64 (x5_2 + 1), true)) else (some (0, 0, false))) = some (r1, r2, r3) := H
                           have A47 := Aside0.mk A470
                           clear A470
                           by_cases c48 : t183 = true
                           ·subst c48
                            have H1 : (some (wrap32 (t182), wrap64 (x5_2 + 1), true)) = some (r1, r2, r3) := by rw [if_pos rfl] at H; exact H
                            clear H
                            have H := H1
                            clear H1
                            simp only [Option.some.injEq, Prod.mk.injEq] at H
                            obtain ⟨rfl, rfl, rfl⟩ := H
                            go_wp2_with (first | ((with_reducible refine gate_callee (f := 35) rfl ?_); refine goesL_ (some 79) rfl rfl Tryd.func35 (by kernel_rfl) rfl #[.string ((strOfNums y178).extract 2 (strOfNums y178).size), .int .i64 16] rfl (by (try simp only [List.map_toArray, List.map_cons, List.map_nil]); first | done | rfl | (simp only [List.length_drop, List.length_take]; rfl)) ?_; (with_reducible refine (redpenref15_number.calls kj38 ((strOfNums y178).extract 2 (strOfNums y178).size) 16 t182 _ A46.out).mono ?_); rintro e w' ⟨rfl, ⟨nd, rfl⟩⟩; refine ⟨_, rfl, ?_⟩) | ((with_reducible refine gate_callee (f := 36) rfl ?_); refine goesL_ (some 84) rfl rfl Tryd.func36 (by kernel_rfl) rfl #[.int .i64 t182] rfl (by (try simp only [List.map_toArray, List.map_cons, List.map_nil]); first | done | rfl | (simp only [List.length_drop, List.length_take]; rfl)) ?_; (with_reducible refine (redpenref15_valid.calls t182 true _ A47.out).mono ?_); rintro e w' ⟨rfl, ⟨nd, rfl⟩⟩; refine ⟨_, rfl, ?_⟩))
                            go_ret3
                            exact ⟨by first | rfl | (simp; done) | (simp [*]; done) | (simp [wrap64, wrap32]; done), by repeat (first | exact Drawn0.refl _ | apply Drawn0.step)⟩
                           ·replace c48 := Bool.eq_false_iff.mpr c48
                            subst c48
                            have H1 : (some (0, 0, false)) = some (r1, r2, r3) := by rw [if_neg (show ¬ (false = true) by decide)] at H; exact H
                            clear H
                            have H := H1
                            clear H1
                            simp only [Option.some.injEq, Prod.mk.injEq] at H
                            obtain ⟨rfl, rfl, rfl⟩ := H
                            go_wp2_with (first | ((with_reducible refine gate_callee (f := 35) rfl ?_); refine goesL_ (some 79) rfl rfl Tryd.func35 (by kernel_rfl) rfl #[.string ((strOfNums y178).extract 2 (strOfNums y178).size), .int .i64 16] rfl (by (try simp only [List.map_toArray, List.map_cons, List.map_nil]); first | done | rfl | (simp only [List.length_drop, List.length_take]; rfl)) ?_; (with_reducible refine (redpenref15_number.calls kj38 ((strOfNums y178).extract 2 (strOfNums y178).size) 16 t182 _ A46.out).mono ?_); rintro e w' ⟨rfl, ⟨nd, rfl⟩⟩; refine ⟨_, rfl, ?_⟩) | ((with_reducible refine gate_callee (f := 36) rfl ?_); refine goesL_ (some 84) rfl rfl Tryd.func36 (by kernel_rfl) rfl #[.int .i64 t182] rfl (by (try simp only [List.map_toArray, List.map_cons, List.map_nil]); first | done | rfl | (simp only [List.length_drop, List.length_take]; rfl)) ?_; (with_reducible refine (redpenref15_valid.calls t182 false _ A47.out).mono ?_); rintro e w' ⟨rfl, ⟨nd, rfl⟩⟩; refine ⟨_, rfl, ?_⟩))
                            go_ret3
                            exact ⟨by first | rfl | (simp; done) | (simp [*]; done) | (simp [wrap64, wrap32]; done), by repeat (first | exact Drawn0.refl _ | apply Drawn0.step)⟩
                          ·rw [if_neg c45] at H
                           exact absurd H (by simp)
                         ·replace c44 := Bool.eq_false_iff.mpr c44
                          subst c44
                          have H1 : (if 1 ≤ ((strOfNums y178).size : Int) then ((redpenref15_number.f kj38 ((strOfNums y178).extract 1 (strOfNums y178).size) 10).bind fun t184 => ((redpenref15_valid.f t184).bind fun t185 => (if t185 = true then (some (wrap32 (t184), wrap64 (x5_2 + 1), true)) else (some (0, 0, false))))) else (none)) = some (r1, r2, r3) := by rw [if_neg (show ¬ (false = true) by decide)] at H; exact H
                          clear H
                          have H := H1
                          clear H1
                          by_cases c49 : 1 ≤ ((strOfNums y178).size : Int)
                          ·rw [if_pos c49] at H
                           have c49b0 := eq_true c49
                           have c49b1 : decide (1 ≤ ((strOfNums y178).size : Int)) = true := decide_eq_true c49
                           clear c49
                           replace H := Option.bind_eq_some_iff.mp H
                           obtain ⟨t184, A500, H⟩ := H
                           replace H : ((redpenref15_valid.f t184).bind fun t185 => (if t185 = true then (some (wrap32 (t184), wrap64 (x5_2 + 1), true)) else (some (0, 0, false)))) = some (r1, r2, r3) := H
                           have A50 := Aside0.mk A500
                           clear A500
                           replace H := Option.bind_eq_some_iff.mp H
                           obtain ⟨t185, A510, H⟩ := H
                           replace H : (if t185 = true then (some (wrap32 (t184), wrap64 (x5_2 + 1), true)) else (some (0, 0, false))) = some (r1, r2, r3) := H
                           have A51 := Aside0.mk A510
                           clear A510
                           by_cases c52 : t185 = true
                           ·subst c52
                            have H1 : (some (wrap32 (t184), wrap64 (x5_2 + 1), true)) = some (r1, r2, r3) := by rw [if_pos rfl] at H; exact H
                            clear H
                            have H := H1
                            clear H1
                            simp only [Option.some.injEq, Prod.mk.injEq] at H
                            obtain ⟨rfl, rfl, rfl⟩ := H
                            go_wp2_with (first | ((with_reducible refine gate_callee (f := 35) rfl ?_); refine goesL_ (some 82) rfl rfl Tryd.func35 (by kernel_rfl) rfl #[.string ((strOfNums y178).extract 1 (strOfNums y178).size), .int .i64 10] rfl (by (try simp only [List.map_toArray, List.map_cons, List.map_nil]); first | done | rfl | (simp only [List.length_drop, List.length_take]; rfl)) ?_; (with_reducible refine (redpenref15_number.calls kj38 ((strOfNums y178).extract 1 (strOfNums y178).size) 10 t184 _ A50.out).mono ?_); rintro e w' ⟨rfl, ⟨nd, rfl⟩⟩; refine ⟨_, rfl, ?_⟩) | ((with_reducible refine gate_callee (f := 36) rfl ?_); refine goesL_ (some 84) rfl rfl Tryd.func36 (by kernel_rfl) rfl #[.int .i64 t184] rfl (by (try simp only [List.map_toArray, List.map_cons, List.map_nil]); first | done | rfl | (simp only [List.length_drop, List.length_take]; rfl)) ?_; (with_reducible refine (redpenref15_valid.calls t184 true _ A51.out).mono ?_); rintro e w' ⟨rfl, ⟨nd, rfl⟩⟩; refine ⟨_, rfl, ?_⟩))
                            go_ret3
                            exact ⟨by first | rfl | (simp; done) | (simp [*]; done) | (simp [wrap64, wrap32]; done), by repeat (first | exact Drawn0.refl _ | apply Drawn0.step)⟩
                           ·replace c52 := Bool.eq_false_iff.mpr c52
                            subst c52
                            have H1 : (some (0, 0, false)) = some (r1, r2, r3) := by rw [if_neg (show ¬ (false = true) by decide)] at H; exact H
                            clear H
                            have H := H1
                            clear H1
                            simp only [Option.some.injEq, Prod.mk.injEq] at H
                            obtain ⟨rfl, rfl, rfl⟩ := H
                            go_wp2_with (first | ((with_reducible refine gate_callee (f := 35) rfl ?_); refine goesL_ (some 82) rfl rfl Tryd.func35 (by kernel_rfl) rfl #[.string ((strOfNums y178).extract 1 (strOfNums y178).size), .int .i64 10] rfl (by (try simp only [List.map_toArray, List.map_cons, List.map_nil]); first | done | rfl | (simp only [List.length_drop, List.length_take]; rfl)) ?_; (with_reducible refine (redpenref15_number.calls kj38 ((strOfNums y178).extract 1 (strOfNums y178).size) 10 t184 _ A50.out).mono ?_); rintro e w' ⟨rfl, ⟨nd, rfl⟩⟩; refine ⟨_, rfl, ?_⟩) | ((with_reducible refine gate_callee (f := 36) rfl ?_); refine goesL_ (some 84) rfl rfl Tryd.func36 (by kernel_rfl) rfl #[.int .i64 t184] rfl (by (try simp only [List.map_toArray, List.map_cons, List.map_nil]); first | done | rfl | (simp only [List.length_drop, List.length_take]; rfl)) ?_; (with_reducible refine (redpenref15_valid.calls t184 false _ A51.out).mono ?_); rintro e w' ⟨rfl, ⟨nd, rfl⟩⟩; refine ⟨_, rfl, ?_⟩))
                            go_ret3
                            exact ⟨by first | rfl | (simp; done) | (simp [*]; done) | (simp [wrap64, wrap32]; done), by repeat (first | exact Drawn0.refl _ | apply Drawn0.step)⟩
                          ·rw [if_neg c49] at H
                           exact absurd H (by simp)
                      ·replace c38 := Bool.eq_false_iff.mpr c38
                       subst c38
                       have H1 : ((redpenref15_valid.f (-1)).bind fun t186 => (if t186 = true then (some (wrap32 ((-1)), wrap64 (x5_2 + 1), true)) else (some (0, 0, false)))) = some (r1, r2, r3) := by rw [if_neg (show ¬ (false = true) by decide)] at H; exact H
                       clear H
                       have H := H1
                       clear H1
                       replace H := Option.bind_eq_some_iff.mp H
                       obtain ⟨t186, A530, H⟩ := H
                       replace H : (if t186 = true then (some (wrap32 ((-1)), wrap64 (x5_2 + 1), true)) else (some (0, 0, false))) = some (r1, r2, r3) := H
                       have A53 := Aside0.mk A530
                       clear A530
                       by_cases c54 : t186 = true
                       ·subst c54
                        have H1 : (some (wrap32 ((-1)), wrap64 (x5_2 + 1), true)) = some (r1, r2, r3) := by rw [if_pos rfl] at H; exact H
                        clear H
                        have H := H1
                        clear H1
                        simp only [Option.some.injEq, Prod.mk.injEq] at H
                        obtain ⟨rfl, rfl, rfl⟩ := H
                        go_wp2_with (first | ((with_reducible refine gate_callee (f := 36) rfl ?_); refine goesL_ (some 84) rfl rfl Tryd.func36 (by kernel_rfl) rfl #[.int .i64 (-1)] rfl (by (try simp only [List.map_toArray, List.map_cons, List.map_nil]); first | done | rfl | (simp only [List.length_drop, List.length_take]; rfl)) ?_; (with_reducible refine (redpenref15_valid.calls (-1) true _ A53.out).mono ?_); rintro e w' ⟨rfl, ⟨nd, rfl⟩⟩; refine ⟨_, rfl, ?_⟩))
                        go_ret3
                        exact ⟨by first | rfl | (simp; done) | (simp [*]; done) | (simp [wrap64, wrap32]; done), by repeat (first | exact Drawn0.refl _ | apply Drawn0.step)⟩
                       ·replace c54 := Bool.eq_false_iff.mpr c54
                        subst c54
                        have H1 : (some (0, 0, false)) = some (r1, r2, r3) := by rw [if_neg (show ¬ (false = true) by decide)] at H; exact H
                        clear H
                        have H := H1
                        clear H1
                        simp only [Option.some.injEq, Prod.mk.injEq] at H
                        obtain ⟨rfl, rfl, rfl⟩ := H
                        go_wp2_with (first | ((with_reducible refine gate_callee (f := 36) rfl ?_); refine goesL_ (some 84) rfl rfl Tryd.func36 (by kernel_rfl) rfl #[.int .i64 (-1)] rfl (by (try simp only [List.map_toArray, List.map_cons, List.map_nil]); first | done | rfl | (simp only [List.length_drop, List.length_take]; rfl)) ?_; (with_reducible refine (redpenref15_valid.calls (-1) false _ A53.out).mono ?_); rintro e w' ⟨rfl, ⟨nd, rfl⟩⟩; refine ⟨_, rfl, ?_⟩))
                        go_ret3
                        exact ⟨by first | rfl | (simp; done) | (simp [*]; done) | (simp [wrap64, wrap32]; done), by repeat (first | exact Drawn0.refl _ | apply Drawn0.step)⟩
             ·rw [if_neg c13] at H
              exact absurd H (by simp)
            ·rw [if_neg c12] at H
             exact absurd H (by simp)
           ·rw [if_neg c11] at H
            have c11b0 : ((rd l0 x5_2) == 59) = false := beq_eq_false_iff_ne.mpr c11
            have c11b1 : ((rd l0 x5_2) != 59) = true := bne_iff_ne.mpr c11
            have H' := Aside0.mk H
            clear H
            have p177 : 0 ≤ (x5_2 : Int) := of_decide_eq_true (by first | (with_reducible assumption) | assumption)
            have q177 : x5_2 < (l0.length : Int) := of_decide_eq_true (by first | (with_reducible assumption) | assumption)
            obtain ⟨ad177, e177, hx177_0⟩ := Kd.at_int HR0.out x5_2 p177 q177
            cases e177
            replace p177 := eq_true p177
            replace q177 := eq_true q177
            go_wp2
            go_roundg kj5
            case measure => have := HJ1.out; have := HK2.out; have := HJ5.out; omega
            case rel => exact ⟨(wrap64 (x5_2 + 1)), (by first | rfl | (simp; done) | (simp [*]; done) | (simp [wrap64, wrap32]; done)), H', ⟨by have := HJ1.out; have := HK2.out; have := HJ5.out; omega⟩, by repeat (first | exact Drawn0.refl _ | apply Drawn0.step)⟩
          ·rw [if_neg c10] at H
           exact absurd H (by simp)
         ·rw [if_neg c9] at H
          exact absurd H (by simp)
        ·replace c8 := Bool.eq_false_iff.mpr c8
         subst c8
         have H1 : (some (0, 0, false)) = some (r1, r2, r3) := by rw [if_neg (show ¬ (false = true) by decide)] at H; exact H
         clear H
         have H := H1
         clear H1
         simp only [Option.some.injEq, Prod.mk.injEq] at H
         obtain ⟨rfl, rfl, rfl⟩ := H
         go_wp2
         go_ret3
         exact ⟨by first | rfl | (simp; done) | (simp [*]; done) | (simp [wrap64, wrap32]; done), by repeat (first | exact Drawn0.refl _ | apply Drawn0.step)⟩

end Go.Proofs.YtekalnhackjldaaDoor.PDecodeOnes
