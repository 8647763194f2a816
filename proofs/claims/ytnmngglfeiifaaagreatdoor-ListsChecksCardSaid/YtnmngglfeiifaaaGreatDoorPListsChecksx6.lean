-- x
import Derived.Test.YtnmngglfeiifaaaGreatDoorPListsChecksx0
import Derived.Test.YtnmngglfeiifaaaGreatDoorPListsChecksx5
namespace Go.Proofs.YtnmngglfeiifaaaGreatDoor.PListsChecks
open Go.RowKit Go.Proofs.YtnmngglfeiifaaaGreatDoor.X Go.Proofs.YtnmngglfeiifaaaGreatDoorW.PrintWords Go.Proofs.YtnmngglfeiifaaaGreatDoorW.PrintLast Go.Proofs.YtnmngglfeiifaaaGreatDoorW.PrintMore
attribute [local go_sem] max2_int min2_int max_two min_two max_three min_three max_four min_four   -- for this text's walks alone
set_option linter.unusedVariables false
set_option linter.unusedSimpArgs false

/-! ### redpenref01_Next: function 105 -/
mutual
def redpenref01_Next.j0 : Nat → List Int → Int → Bool → Option (Int × Int)
 | 0, _, _, _ => none
 | k + 1, x0, x4, x27 => if x27 = true then (if 1 < (x0.length : Int) then (if (wrap32 ((wrap32 ((wrap32 ((wrap32 (x4 - 192)) * 64)) + (wrap32 (rd x0 1)))) - 128)) ≥ 128 then (some (wrap32 ((wrap32 ((wrap32 ((wrap32 (x4 - 192)) * 64)) + (wrap32 (rd x0 1)))) - 128), 2)) else (redpenref01_Next.j1 k x0 x4)) else (none)) else (redpenref01_Next.j1 k x0 x4)
def redpenref01_Next.j1 : Nat → List Int → Int → Option (Int × Int)
 | 0, _, _ => none
 | k + 1, x0, x4 => if x4 ≥ 224 then (if x4 < 240 then ((redpenref01_tail.f x0 1).bind fun t311 => (if t311 = true then ((redpenref01_tail.f x0 2).bind fun t312 => (redpenref01_Next.j2 k x0 x4 t312)) else (redpenref01_Next.j2 k x0 x4 false))) else (redpenref01_Next.j2 k x0 x4 false)) else (redpenref01_Next.j2 k x0 x4 false)
def redpenref01_Next.j2 : Nat → List Int → Int → Bool → Option (Int × Int)
 | 0, _, _, _ => none
 | k + 1, x0, x4, x53 => if x53 = true then (if 1 < (x0.length : Int) then (if 2 < (x0.length : Int) then (if (wrap32 ((wrap32 ((wrap32 ((wrap32 ((wrap32 (x4 - 224)) * 4096)) + (wrap32 ((wrap32 ((wrap32 (rd x0 1)) - 128)) * 64)))) + (wrap32 (rd x0 2)))) - 128)) ≥ 2048 then (if (wrap32 ((wrap32 ((wrap32 ((wrap32 ((wrap32 (x4 - 224)) * 4096)) + (wrap32 ((wrap32 ((wrap32 (rd x0 1)) - 128)) * 64)))) + (wrap32 (rd x0 2)))) - 128)) < 55296 then (some (wrap32 ((wrap32 ((wrap32 ((wrap32 ((wrap32 (x4 - 224)) * 4096)) + (wrap32 ((wrap32 ((wrap32 (rd x0 1)) - 128)) * 64)))) + (wrap32 (rd x0 2)))) - 128), 3)) else (if (wrap32 ((wrap32 ((wrap32 ((wrap32 ((wrap32 (x4 - 224)) * 4096)) + (wrap32 ((wrap32 ((wrap32 (rd x0 1)) - 128)) * 64)))) + (wrap32 (rd x0 2)))) - 128)) > 57343 then (some (wrap32 ((wrap32 ((wrap32 ((wrap32 ((wrap32 (x4 - 224)) * 4096)) + (wrap32 ((wrap32 ((wrap32 (rd x0 1)) - 128)) * 64)))) + (wrap32 (rd x0 2)))) - 128), 3)) else (redpenref01_Next.j3 k x0 x4))) else (redpenref01_Next.j3 k x0 x4)) else (none)) else (none)) else (redpenref01_Next.j3 k x0 x4)
def redpenref01_Next.j3 : Nat → List Int → Int → Option (Int × Int)
 | 0, _, _ => none
 | k + 1, x0, x4 => if x4 ≥ 240 then (if x4 < 248 then ((redpenref01_tail.f x0 1).bind fun t315 => (if t315 = true then ((redpenref01_tail.f x0 2).bind fun t316 => (if t316 = true then ((redpenref01_tail.f x0 3).bind fun t317 => (redpenref01_Next.j4 k x0 x4 t317)) else (redpenref01_Next.j4 k x0 x4 false))) else (redpenref01_Next.j4 k x0 x4 false))) else (redpenref01_Next.j4 k x0 x4 false)) else (redpenref01_Next.j4 k x0 x4 false)
def redpenref01_Next.j4 : Nat → List Int → Int → Bool → Option (Int × Int)
 | 0, _, _, _ => none
 | k + 1, x0, x4, x98 => if x98 = true then (if 1 < (x0.length : Int) then (if 2 < (x0.length : Int) then (if 3 < (x0.length : Int) then (if (wrap32 ((wrap32 ((wrap32 ((wrap32 ((wrap32 ((wrap32 (x4 - 240)) * 262144)) + (wrap32 ((wrap32 ((wrap32 (rd x0 1)) - 128)) * 4096)))) + (wrap32 ((wrap32 ((wrap32 (rd x0 2)) - 128)) * 64)))) + (wrap32 (rd x0 3)))) - 128)) ≥ 65536 then (if (wrap32 ((wrap32 ((wrap32 ((wrap32 ((wrap32 ((wrap32 (x4 - 240)) * 262144)) + (wrap32 ((wrap32 ((wrap32 (rd x0 1)) - 128)) * 4096)))) + (wrap32 ((wrap32 ((wrap32 (rd x0 2)) - 128)) * 64)))) + (wrap32 (rd x0 3)))) - 128)) ≤ 1114111 then (some (wrap32 ((wrap32 ((wrap32 ((wrap32 ((wrap32 ((wrap32 (x4 - 240)) * 262144)) + (wrap32 ((wrap32 ((wrap32 (rd x0 1)) - 128)) * 4096)))) + (wrap32 ((wrap32 ((wrap32 (rd x0 2)) - 128)) * 64)))) + (wrap32 (rd x0 3)))) - 128), 4)) else (some ((-1), 1))) else (some ((-1), 1))) else (none)) else (none)) else (none)) else (some ((-1), 1))
end
def redpenref01_Next.f (k : Nat) (l0 : List Int) : Option (Int × Int) := if (l0.length : Int) = 0 then (some ((-1), 0)) else (if 0 < (l0.length : Int) then (if (wrap32 (rd l0 0)) < 128 then (some (wrap32 (rd l0 0), 1)) else (if (wrap32 (rd l0 0)) ≥ 192 then (if (wrap32 (rd l0 0)) < 224 then ((redpenref01_tail.f l0 1).bind fun t309 => (redpenref01_Next.j0 k l0 (wrap32 (rd l0 0)) t309)) else (redpenref01_Next.j0 k l0 (wrap32 (rd l0 0)) false)) else (redpenref01_Next.j0 k l0 (wrap32 (rd l0 0)) false))) else (none))
theorem redpenref01_Next.mono_l : ∀ k, (∀ y0 y1 y2, LeO (redpenref01_Next.j0 k y0 y1 y2) (redpenref01_Next.j0 (k + 1) y0 y1 y2)) ∧ (∀ y0 y1, LeO (redpenref01_Next.j1 k y0 y1) (redpenref01_Next.j1 (k + 1) y0 y1)) ∧ (∀ y0 y1 y2, LeO (redpenref01_Next.j2 k y0 y1 y2) (redpenref01_Next.j2 (k + 1) y0 y1 y2)) ∧ (∀ y0 y1, LeO (redpenref01_Next.j3 k y0 y1) (redpenref01_Next.j3 (k + 1) y0 y1)) ∧ (∀ y0 y1 y2, LeO (redpenref01_Next.j4 k y0 y1 y2) (redpenref01_Next.j4 (k + 1) y0 y1 y2))
 | 0 => ⟨fun _ _ _ r h => by simp [redpenref01_Next.j0] at h, fun _ _ r h => by simp [redpenref01_Next.j1] at h, fun _ _ _ r h => by simp [redpenref01_Next.j2] at h, fun _ _ r h => by simp [redpenref01_Next.j3] at h, fun _ _ _ r h => by simp [redpenref01_Next.j4] at h⟩
 | k + 1 => by
  obtain ⟨ih0, ih1, ih2, ih3, ih4⟩ := redpenref01_Next.mono_l k
  refine ⟨?_, ?_, ?_, ?_, ?_⟩
  ·intro y0 y1 y2
   unfold redpenref01_Next.j0
   repeat' first
   | (with_reducible exact ih0 _ _ _)
   | (with_reducible exact ih1 _ _)
   | (with_reducible exact ih2 _ _ _)
   | (with_reducible exact ih3 _ _)
   | (with_reducible exact ih4 _ _ _)
   | (with_reducible exact LeO.refl _)
   | (with_reducible exact LeO.none _)
   | (with_reducible refine LeO.ite ?_ ?_)
   | (with_reducible refine LeO.bind ?_ (fun _ => ?_))
   | exact ih0 _ _ _
   | exact ih1 _ _
   | exact ih2 _ _ _
   | exact ih3 _ _
   | exact ih4 _ _ _
   | exact LeO.none _
   | refine LeO.ite ?_ ?_
   | refine LeO.bind ?_ (fun _ => ?_)
  ·intro y0 y1
   unfold redpenref01_Next.j1
   repeat' first
   | (with_reducible exact ih0 _ _ _)
   | (with_reducible exact ih1 _ _)
   | (with_reducible exact ih2 _ _ _)
   | (with_reducible exact ih3 _ _)
   | (with_reducible exact ih4 _ _ _)
   | (with_reducible exact LeO.refl _)
   | (with_reducible exact LeO.none _)
   | (with_reducible refine LeO.ite ?_ ?_)
   | (with_reducible refine LeO.bind ?_ (fun _ => ?_))
   | exact ih0 _ _ _
   | exact ih1 _ _
   | exact ih2 _ _ _
   | exact ih3 _ _
   | exact ih4 _ _ _
   | exact LeO.none _
   | refine LeO.ite ?_ ?_
   | refine LeO.bind ?_ (fun _ => ?_)
  ·intro y0 y1 y2
   unfold redpenref01_Next.j2
   repeat' first
   | (with_reducible exact ih0 _ _ _)
   | (with_reducible exact ih1 _ _)
   | (with_reducible exact ih2 _ _ _)
   | (with_reducible exact ih3 _ _)
   | (with_reducible exact ih4 _ _ _)
   | (with_reducible exact LeO.refl _)
   | (with_reducible exact LeO.none _)
   | (with_reducible refine LeO.ite ?_ ?_)
   | (with_reducible refine LeO.bind ?_ (fun _ => ?_))
   | exact ih0 _ _ _
   | exact ih1 _ _
   | exact ih2 _ _ _
   | exact ih3 _ _
   | exact ih4 _ _ _
   | exact LeO.none _
   | refine LeO.ite ?_ ?_
   | refine LeO.bind ?_ (fun _ => ?_)
  ·intro y0 y1
   unfold redpenref01_Next.j3
   repeat' first
   | (with_reducible exact ih0 _ _ _)
   | (with_reducible exact ih1 _ _)
   | (with_reducible exact ih2 _ _ _)
   | (with_reducible exact ih3 _ _)
   | (with_reducible exact ih4 _ _ _)
   | (with_reducible exact LeO.refl _)
   | (with_reducible exact LeO.none _)
   | (with_reducible refine LeO.ite ?_ ?_)
   | (with_reducible refine LeO.bind ?_ (fun _ => ?_))
   | exact ih0 _ _ _
   | exact ih1 _ _
   | exact ih2 _ _ _
   | exact ih3 _ _
   | exact ih4 _ _ _
   | exact LeO.none _
   | refine LeO.ite ?_ ?_
   | refine LeO.bind ?_ (fun _ => ?_)
  ·intro y0 y1 y2
   unfold redpenref01_Next.j4
   repeat' first
   | (with_reducible exact ih0 _ _ _)
   | (with_reducible exact ih1 _ _)
   | (with_reducible exact ih2 _ _ _)
   | (with_reducible exact ih3 _ _)
   | (with_reducible exact ih4 _ _ _)
   | (with_reducible exact LeO.refl _)
   | (with_reducible exact LeO.none _)
   | (with_reducible refine LeO.ite ?_ ?_)
   | (with_reducible refine LeO.bind ?_ (fun _ => ?_))
   | exact ih0 _ _ _
   | exact ih1 _ _
   | exact ih2 _ _ _
   | exact ih3 _ _
   | exact ih4 _ _ _
   | exact LeO.none _
   | refine LeO.ite ?_ ?_
   | refine LeO.bind ?_ (fun _ => ?_)
theorem redpenref01_Next.mono : ∀ a0 k, LeO (redpenref01_Next.f k a0) (redpenref01_Next.f (k + 1) a0) := by
 intro a0 k
 obtain ⟨ih0, ih1, ih2, ih3, ih4⟩ := redpenref01_Next.mono_l k
 unfold redpenref01_Next.f
 repeat' first
   | (with_reducible exact ih0 _ _ _)
   | (with_reducible exact ih1 _ _)
   | (with_reducible exact ih2 _ _ _)
   | (with_reducible exact ih3 _ _)
   | (with_reducible exact ih4 _ _ _)
   | (with_reducible exact LeO.refl _)
   | (with_reducible exact LeO.none _)
   | (with_reducible refine LeO.ite ?_ ?_)
   | (with_reducible refine LeO.bind ?_ (fun _ => ?_))
   | exact ih0 _ _ _
   | exact ih1 _ _
   | exact ih2 _ _ _
   | exact ih3 _ _
   | exact ih4 _ _ _
   | exact LeO.none _
   | refine LeO.ite ?_ ?_
   | refine LeO.bind ?_ (fun _ => ?_)
set_option maxHeartbeats 8000000 in
set_option maxRecDepth 100000 in
theorem redpenref01_Next.calls (k : Nat) (A0 : Option Addr) (c0 : Nat) (l0 : List Int) (r1 : Int) (r2 : Int) (w : World) (hr0 : Kd.C (Kd.int .u8) w A0 l0.length l0) (hc0 : l0.length ≤ c0) (h : redpenref01_Next.f k l0 = some (r1, r2)) :
  Calls Tryz.prog 105 #[.slice A0 l0.length c0] w fun e w' => e = .returned (.tuple #[.int .i32 r1, .int .i64 r2]) ∧ Drawn0 w w' := by
 have HR0 := Aside0.mk hr0
 have HC0 := Aside0.mk hc0
 clear hr0 hc0
 have H : (if (l0.length : Int) = 0 then (some ((-1), 0)) else (if 0 < (l0.length : Int) then (if (wrap32 (rd l0 0)) < 128 then (some (wrap32 (rd l0 0), 1)) else (if (wrap32 (rd l0 0)) ≥ 192 then (if (wrap32 (rd l0 0)) < 224 then ((redpenref01_tail.f l0 1).bind fun t309 => (redpenref01_Next.j0 k l0 (wrap32 (rd l0 0)) t309)) else (redpenref01_Next.j0 k l0 (wrap32 (rd l0 0)) false)) else (redpenref01_Next.j0 k l0 (wrap32 (rd l0 0)) false))) else (none))) = some (r1, r2) := h
 clear h
 by_cases c2 : (l0.length : Int) = 0
 ·rw [if_pos c2] at H
  have c2b0 : ((l0.length : Int) == 0) = true := beq_iff_eq.mpr c2
  have c2b1 : ((l0.length : Int) != 0) = false := bne_eq_false_iff_eq.mpr c2
  clear c2
  simp only [Option.some.injEq, Prod.mk.injEq] at H
  obtain ⟨rfl, rfl⟩ := H
  go_enter Tryz.func105, Tryz.ntmps105
  go_wp2
  repeat (go_quiet (fail); try go_wp2)
  go_ret2
  exact ⟨by first | rfl | (simp; done) | (simp [*]; done) | (simp [wrap64, wrap32]; done), by repeat (first | exact Drawn0.refl _ | apply Drawn0.step)⟩
 ·rw [if_neg c2] at H
  have c2b0 : ((l0.length : Int) == 0) = false := beq_eq_false_iff_ne.mpr c2
  have c2b1 : ((l0.length : Int) != 0) = true := bne_iff_ne.mpr c2
  have c2b2 : ¬ (l0 = []) := fun h_ => c2 (by rw [h_]; rfl)
  by_cases c3 : 0 < (l0.length : Int)
  ·rw [if_pos c3] at H
   have c3b0 : decide (0 < (l0.length : Int)) = true := decide_eq_true c3
   have c3b1 : decide (0 < l0.length) = true := decide_eq_true (by omega)
   clear c3
   by_cases c4 : (wrap32 (rd l0 0)) < 128
   ·rw [if_pos c4] at H
    have c4b0 : decide ((wrap32 (rd l0 0)) < 128) = true := decide_eq_true c4
    clear c4
    simp only [Option.some.injEq, Prod.mk.injEq] at H
    obtain ⟨rfl, rfl⟩ := H
    have p308 : 0 ≤ (0 : Int) := (by omega)
    have q308 : 0 < (l0.length : Int) := of_decide_eq_true (by first | (with_reducible assumption) | assumption)
    obtain ⟨ad308, e308, hx308_0⟩ := Kd.at_int HR0.out 0 p308 q308
    cases e308
    have qi308 : (0 < l0.length) = True := eq_true (by omega)
    (try rw [show ((0 : Int)).toNat = 0 from rfl] at hx308_0)
    (try rw [Addr.add_zero'] at hx308_0)
    replace p308 := eq_true p308
    replace q308 := eq_true q308
    go_enter Tryz.func105, Tryz.ntmps105
    go_wp2
    repeat (go_quiet (fail); try go_wp2)
    go_ret2
    exact ⟨by first | rfl | (simp; done) | (simp [*]; done) | (simp [wrap64, wrap32]; done), by repeat (first | exact Drawn0.refl _ | apply Drawn0.step)⟩
   ·rw [if_neg c4] at H
    have c4b0 : decide ((wrap32 (rd l0 0)) < 128) = false := decide_eq_false c4
    clear c4
    have HC5 := Aside0.mk H
    clear H
    have p308 : 0 ≤ (0 : Int) := (by omega)
    have q308 : 0 < (l0.length : Int) := of_decide_eq_true (by first | (with_reducible assumption) | assumption)
    obtain ⟨ad308, e308, hx308_0⟩ := Kd.at_int HR0.out 0 p308 q308
    cases e308
    have qi308 : (0 < l0.length) = True := eq_true (by omega)
    (try rw [show ((0 : Int)).toNat = 0 from rfl] at hx308_0)
    (try rw [Addr.add_zero'] at hx308_0)
    replace p308 := eq_true p308
    replace q308 := eq_true q308
    go_enter Tryz.func105, Tryz.ntmps105
    go_upto_region 6 with (fail)
    repeat (go_quiet (fail); go_upto_region 6 with (fail))
    go_cut [27] (fun v27 wc => ∃ (kq : Nat) (x27_4 : Bool), v27 = .bool x27_4 ∧ Aside0 (redpenref01_Next.j0 kq l0 (wrap32 (rd l0 0)) x27_4 = some (r1, r2)) ∧ Aside0 (kq ≤ k) ∧ Drawn0 w wc)
    case first =>
     have H := HC5.out
     clear HC5
     by_cases c6 : (wrap32 (rd l0 0)) ≥ 192
     ·rw [if_pos c6] at H
      have c6b0 : decide (192 ≤ (wrap32 (rd l0 0))) = true := decide_eq_true c6
      clear c6
      (first | rw [c6b0] | (simp only [i64_w, i32_w]; rw [c6b0]) | skip)
      by_cases c7 : (wrap32 (rd l0 0)) < 224
      ·rw [if_pos c7] at H
       have c7b0 : decide ((wrap32 (rd l0 0)) < 224) = true := decide_eq_true c7
       clear c7
       replace H := Option.bind_eq_some_iff.mp H
       obtain ⟨t309, A80, H⟩ := H
       replace H : (redpenref01_Next.j0 k l0 (wrap32 (rd l0 0)) t309) = some (r1, r2) := H
       have A8 := Aside0.mk A80
       clear A80
       have H' := Aside0.mk H
       clear H
       go_wp2_with (first | (go_at_call 127; (with_reducible refine (redpenref01_tail.calls _ _ l0 1 t309 _ ?side1 ?side2 A8.out).mono ?_); (case side1 => repeat (first | exact HR0.out | (with_reducible refine Kd.C_alloc ?_ _) | (with_reducible refine Kd.C_drewN ?_ _) | (with_reducible refine Kd.C_drew ?_))); (case side2 => exact HC0.out); rintro e w' ⟨rfl, ⟨nd, rfl⟩⟩; (try first | exact ⟨rfl, _, World.drewN_drewN _ _ _⟩ | exact ⟨rfl, _, Eq.trans (World.drewN_drewN _ _ _) (congrArg (World.drewN _) (Nat.add_assoc _ _ _))⟩)))
       repeat (go_quiet (first | (go_at_call 127; (with_reducible refine (redpenref01_tail.calls _ _ l0 1 t309 _ ?side1 ?side2 A8.out).mono ?_); (case side1 => repeat (first | exact HR0.out | (with_reducible refine Kd.C_alloc ?_ _) | (with_reducible refine Kd.C_drewN ?_ _) | (with_reducible refine Kd.C_drew ?_))); (case side2 => exact HC0.out); rintro e w' ⟨rfl, ⟨nd, rfl⟩⟩; (try first | exact ⟨rfl, _, World.drewN_drewN _ _ _⟩ | exact ⟨rfl, _, Eq.trans (World.drewN_drewN _ _ _) (congrArg (World.drewN _) (Nat.add_assoc _ _ _))⟩))); try go_wp2_with (first | (go_at_call 127; (with_reducible refine (redpenref01_tail.calls _ _ l0 1 t309 _ ?side1 ?side2 A8.out).mono ?_); (case side1 => repeat (first | exact HR0.out | (with_reducible refine Kd.C_alloc ?_ _) | (with_reducible refine Kd.C_drewN ?_ _) | (with_reducible refine Kd.C_drew ?_))); (case side2 => exact HC0.out); rintro e w' ⟨rfl, ⟨nd, rfl⟩⟩; (try first | exact ⟨rfl, _, World.drewN_drewN _ _ _⟩ | exact ⟨rfl, _, Eq.trans (World.drewN_drewN _ _ _) (congrArg (World.drewN _) (Nat.add_assoc _ _ _))⟩))))
       go_meet
       case rel => exact ⟨_, (t309), (by first | rfl | (simp; done) | (simp [*]; done) | (simp [wrap64, wrap32]; done)), H', ⟨by first | omega | exact Nat.le_refl _⟩, by repeat (first | exact Drawn0.refl _ | apply Drawn0.step)⟩
      ·rw [if_neg c7] at H
       have c7b0 : decide ((wrap32 (rd l0 0)) < 224) = false := decide_eq_false c7
       clear c7
       have H' := Aside0.mk H
       clear H
       go_wp2
       repeat (go_quiet (fail); try go_wp2)
       go_meet
       case rel => exact ⟨_, (false), (by first | rfl | (simp; done) | (simp [*]; done) | (simp [wrap64, wrap32]; done)), H', ⟨by first | omega | exact Nat.le_refl _⟩, by repeat (first | exact Drawn0.refl _ | apply Drawn0.step)⟩
     ·rw [if_neg c6] at H
      have c6b0 : decide (192 ≤ (wrap32 (rd l0 0))) = false := decide_eq_false c6
      clear c6
      (first | rw [c6b0] | (simp only [i64_w, i32_w]; rw [c6b0]) | skip)
      have H' := Aside0.mk H
      clear H
      go_wp2
      repeat (go_quiet (fail); try go_wp2)
      go_meet
      case rel => exact ⟨_, (false), (by first | rfl | (simp; done) | (simp [*]; done) | (simp [wrap64, wrap32]; done)), H', ⟨by first | omega | exact Nat.le_refl _⟩, by repeat (first | exact Drawn0.refl _ | apply Drawn0.step)⟩
    case rest =>
     clear HC5
     try clear c1
     try clear c2
     try clear c2b0
     try clear c2b1
     try clear c2b2
     try clear p2
     try clear c3
     try clear c3b0
     try clear c3b1
     try clear p3
     try clear q3
     try clear hx3
     try clear qi3
     try clear c4
     try clear c4b0
     try clear c6
     try clear c6b0
     try clear c7
     try clear c7b0
     try clear hx308_0
     try clear p308
     try clear q308
     obtain ⟨kq, x27_4, rfl, HA, HJ4, ⟨mc4, rfl⟩⟩ := hcut
     cases kq with
     | zero => exact absurd HA.out (by simp [redpenref01_Next.j0])
     | succ kj4 =>
      have H := HA.out
      clear HA
      simp only [redpenref01_Next.j0] at H
      have HC9 := Aside0.mk H
      clear H
      go_upto_if 27 with (fail)
      repeat (go_quiet (fail); go_upto_if 27 with (fail))
      go_cut [] (fun wc => ∃ (kq : Nat), Aside0 (redpenref01_Next.j1 kq l0 (wrap32 (rd l0 0)) = some (r1, r2)) ∧ Aside0 (kq ≤ kj4) ∧ Drawn0 w wc)
      case first =>
       have H := HC9.out
       clear HC9
       by_cases c10 : x27_4 = true
       ·subst c10
        have H1 : (if 1 < (l0.length : Int) then (if (wrap32 ((wrap32 ((wrap32 ((wrap32 ((wrap32 (rd l0 0)) - 192)) * 64)) + (wrap32 (rd l0 1)))) - 128)) ≥ 128 then (some (wrap32 ((wrap32 ((wrap32 ((wrap32 ((wrap32 (rd l0 0)) - 192)) * 64)) + (wrap32 (rd l0 1)))) - 128), 2)) else (redpenref01_Next.j1 kj4 l0 (wrap32 (rd l0 0)))) else (none)) = some (r1, r2) := by rw [if_pos rfl] at H; exact H
        clear H
        have H := H1
        clear H1
        by_cases c11 : 1 < (l0.length : Int)
        ·rw [if_pos c11] at H
         have c11b0 : decide (1 < (l0.length : Int)) = true := decide_eq_true c11
         have c11b1 : decide (1 < l0.length) = true := decide_eq_true (by omega)
         clear c11
         (first | rw [c11b0] | (simp only [i64_w, i32_w]; rw [c11b0]) | skip)
         by_cases c12 : (wrap32 ((wrap32 ((wrap32 ((wrap32 ((wrap32 (rd l0 0)) - 192)) * 64)) + (wrap32 (rd l0 1)))) - 128)) ≥ 128
         ·rw [if_pos c12] at H
          have c12b0 : decide (128 ≤ (wrap32 ((wrap32 ((wrap32 ((wrap32 ((wrap32 (rd l0 0)) - 192)) * 64)) + (wrap32 (rd l0 1)))) - 128))) = true := decide_eq_true c12
          clear c12
          simp only [Option.some.injEq, Prod.mk.injEq] at H
          obtain ⟨rfl, rfl⟩ := H
          have p310 : 0 ≤ (1 : Int) := (by omega)
          have q310 : 1 < (l0.length : Int) := of_decide_eq_true (by first | (with_reducible assumption) | assumption)
          obtain ⟨ad310, e310, hx310_0⟩ := Kd.at_int HR0.out 1 p310 q310
          obtain rfl : ad308 = ad310 := (by injection e310)
          (try simp only [show (1 : Int).toNat = 1 from rfl, Nat.reduceMul, Nat.reduceEqDiff, Go.Addr.add, ↓reduceIte] at hx310_0)
          have qi310 : (1 < l0.length) = True := eq_true (by omega)
          (try rw [show ((1 : Int)).toNat = 1 from rfl] at hx310_0)
          replace p310 := eq_true p310
          replace q310 := eq_true q310
          go_wp2
          repeat (go_quiet (fail); try go_wp2)
          go_ret2
          exact ⟨by first | rfl | (simp; done) | (simp [*]; done) | (simp [wrap64, wrap32]; done), by repeat (first | exact Drawn0.refl _ | apply Drawn0.step)⟩
         ·rw [if_neg c12] at H
          have c12b0 : decide (128 ≤ (wrap32 ((wrap32 ((wrap32 ((wrap32 ((wrap32 (rd l0 0)) - 192)) * 64)) + (wrap32 (rd l0 1)))) - 128))) = false := decide_eq_false c12
          clear c12
          have H' := Aside0.mk H
          clear H
          have p310 : 0 ≤ (1 : Int) := (by omega)
          have q310 : 1 < (l0.length : Int) := of_decide_eq_true (by first | (with_reducible assumption) | assumption)
          obtain ⟨ad310, e310, hx310_0⟩ := Kd.at_int HR0.out 1 p310 q310
          obtain rfl : ad308 = ad310 := (by injection e310)
          (try simp only [show (1 : Int).toNat = 1 from rfl, Nat.reduceMul, Nat.reduceEqDiff, Go.Addr.add, ↓reduceIte] at hx310_0)
          have qi310 : (1 < l0.length) = True := eq_true (by omega)
          (try rw [show ((1 : Int)).toNat = 1 from rfl] at hx310_0)
          replace p310 := eq_true p310
          replace q310 := eq_true q310
          go_wp2
          repeat (go_quiet (fail); try go_wp2)
          go_meet
          case rel => exact ⟨_, H', ⟨by have := HJ4.out; first | omega | exact Nat.le_refl _⟩, by repeat (first | exact Drawn0.refl _ | apply Drawn0.step)⟩
        ·rw [if_neg c11] at H
         exact absurd H (by simp)
       ·replace c10 := Bool.eq_false_iff.mpr c10
        subst c10
        have H1 : (redpenref01_Next.j1 kj4 l0 (wrap32 (rd l0 0))) = some (r1, r2) := by rw [if_neg (show ¬ (false = true) by decide)] at H; exact H
        clear H
        have H := H1
        clear H1
        have H' := Aside0.mk H
        clear H
        go_wp2
        repeat (go_quiet (fail); try go_wp2)
        go_meet
        case rel => exact ⟨_, H', ⟨by have := HJ4.out; first | omega | exact Nat.le_refl _⟩, by repeat (first | exact Drawn0.refl _ | apply Drawn0.step)⟩
      case rest =>
       clear HC9
       try clear c1
       try clear c2
       try clear c2b0
       try clear c2b1
       try clear c2b2
       try clear p2
       try clear c3
       try clear c3b0
       try clear c3b1
       try clear p3
       try clear q3
       try clear hx3
       try clear qi3
       try clear c4
       try clear c4b0
       try clear c6
       try clear c6b0
       try clear c7
       try clear c7b0
       try clear c10
       try clear c11
       try clear c11b0
       try clear c11b1
       try clear c12
       try clear c12b0
       try clear hx308_0
       try clear hx310_0
       try clear p2
       try clear p3
       try clear p308
       try clear p310
       try clear q3
       try clear q308
       try clear q310
       obtain ⟨kq, HA, HJ8, ⟨mc8, rfl⟩⟩ := hcut
       cases kq with
       | zero => exact absurd HA.out (by simp [redpenref01_Next.j1])
       | succ kj8 =>
        have H := HA.out
        clear HA
        simp only [redpenref01_Next.j1] at H
        have HC13 := Aside0.mk H
        clear H
        go_upto_region 10 with (fail)
        repeat (go_quiet (fail); go_upto_region 10 with (fail))
        go_cut [53] (fun v53 wc => ∃ (kq : Nat) (x53_12 : Bool), v53 = .bool x53_12 ∧ Aside0 (redpenref01_Next.j2 kq l0 (wrap32 (rd l0 0)) x53_12 = some (r1, r2)) ∧ Aside0 (kq ≤ kj8) ∧ Drawn0 w wc)
        case first =>
         have H := HC13.out
         clear HC13
         by_cases c14 : (wrap32 (rd l0 0)) ≥ 224
         ·rw [if_pos c14] at H
          have c14b0 : decide (224 ≤ (wrap32 (rd l0 0))) = true := decide_eq_true c14
          clear c14
          (first | rw [c14b0] | (simp only [i64_w, i32_w]; rw [c14b0]) | skip)
          by_cases c15 : (wrap32 (rd l0 0)) < 240
          ·rw [if_pos c15] at H
           have c15b0 : decide ((wrap32 (rd l0 0)) < 240) = true := decide_eq_true c15
           clear c15
           replace H := Option.bind_eq_some_iff.mp H
           obtain ⟨t311, A160, H⟩ := H
           replace H : (if t311 = true then ((redpenref01_tail.f l0 2).bind fun t312 => (redpenref01_Next.j2 kj8 l0 (wrap32 (rd l0 0)) t312)) else (redpenref01_Next.j2 kj8 l0 (wrap32 (rd l0 0)) false)) = some (r1, r2) := H
           have A16 := Aside0.mk A160
           clear A160
           by_cases c17 : t311 = true
           ·subst c17
            have H1 : ((redpenref01_tail.f l0 2).bind fun t312 => (redpenref01_Next.j2 kj8 l0 (wrap32 (rd l0 0)) t312)) = some (r1, r2) := by rw [if_pos rfl] at H; exact H
            clear H
            have H := H1
            clear H1
            replace H := Option.bind_eq_some_iff.mp H
            obtain ⟨t312, A180, H⟩ := H
            replace H : (redpenref01_Next.j2 kj8 l0 (wrap32 (rd l0 0)) t312) = some (r1, r2) := H
            have A18 := Aside0.mk A180
            clear A180
            have H' := Aside0.mk H
            clear H
            go_wp2_with (first | (go_at_call 127; (with_reducible refine (redpenref01_tail.calls _ _ l0 1 true _ ?side1 ?side2 A16.out).mono ?_); (case side1 => repeat (first | exact HR0.out | (with_reducible refine Kd.C_alloc ?_ _) | (with_reducible refine Kd.C_drewN ?_ _) | (with_reducible refine Kd.C_drew ?_))); (case side2 => exact HC0.out); rintro e w' ⟨rfl, ⟨nd, rfl⟩⟩; (try first | exact ⟨rfl, _, World.drewN_drewN _ _ _⟩ | exact ⟨rfl, _, Eq.trans (World.drewN_drewN _ _ _) (congrArg (World.drewN _) (Nat.add_assoc _ _ _))⟩)) | (go_at_call 127; (with_reducible refine (redpenref01_tail.calls _ _ l0 2 t312 _ ?side1 ?side2 A18.out).mono ?_); (case side1 => repeat (first | exact HR0.out | (with_reducible refine Kd.C_alloc ?_ _) | (with_reducible refine Kd.C_drewN ?_ _) | (with_reducible refine Kd.C_drew ?_))); (case side2 => exact HC0.out); rintro e w' ⟨rfl, ⟨nd, rfl⟩⟩; (try first | exact ⟨rfl, _, World.drewN_drewN _ _ _⟩ | exact ⟨rfl, _, Eq.trans (World.drewN_drewN _ _ _) (congrArg (World.drewN _) (Nat.add_assoc _ _ _))⟩)))
            repeat (go_quiet (first | (go_at_call 127; (with_reducible refine (redpenref01_tail.calls _ _ l0 1 true _ ?side1 ?side2 A16.out).mono ?_); (case side1 => repeat (first | exact HR0.out | (with_reducible refine Kd.C_alloc ?_ _) | (with_reducible refine Kd.C_drewN ?_ _) | (with_reducible refine Kd.C_drew ?_))); (case side2 => exact HC0.out); rintro e w' ⟨rfl, ⟨nd, rfl⟩⟩; (try first | exact ⟨rfl, _, World.drewN_drewN _ _ _⟩ | exact ⟨rfl, _, Eq.trans (World.drewN_drewN _ _ _) (congrArg (World.drewN _) (Nat.add_assoc _ _ _))⟩)) | (go_at_call 127; (with_reducible refine (redpenref01_tail.calls _ _ l0 2 t312 _ ?side1 ?side2 A18.out).mono ?_); (case side1 => repeat (first | exact HR0.out | (with_reducible refine Kd.C_alloc ?_ _) | (with_reducible refine Kd.C_drewN ?_ _) | (with_reducible refine Kd.C_drew ?_))); (case side2 => exact HC0.out); rintro e w' ⟨rfl, ⟨nd, rfl⟩⟩; (try first | exact ⟨rfl, _, World.drewN_drewN _ _ _⟩ | exact ⟨rfl, _, Eq.trans (World.drewN_drewN _ _ _) (congrArg (World.drewN _) (Nat.add_assoc _ _ _))⟩))); try go_wp2_with (first | (go_at_call 127; (with_reducible refine (redpenref01_tail.calls _ _ l0 1 true _ ?side1 ?side2 A16.out).mono ?_); (case side1 => repeat (first | exact HR0.out | (with_reducible refine Kd.C_alloc ?_ _) | (with_reducible refine Kd.C_drewN ?_ _) | (with_reducible refine Kd.C_drew ?_))); (case side2 => exact HC0.out); rintro e w' ⟨rfl, ⟨nd, rfl⟩⟩; (try first | exact ⟨rfl, _, World.drewN_drewN _ _ _⟩ | exact ⟨rfl, _, Eq.trans (World.drewN_drewN _ _ _) (congrArg (World.drewN _) (Nat.add_assoc _ _ _))⟩)) | (go_at_call 127; (with_reducible refine (redpenref01_tail.calls _ _ l0 2 t312 _ ?side1 ?side2 A18.out).mono ?_); (case side1 => repeat (first | exact HR0.out | (with_reducible refine Kd.C_alloc ?_ _) | (with_reducible refine Kd.C_drewN ?_ _) | (with_reducible refine Kd.C_drew ?_))); (case side2 => exact HC0.out); rintro e w' ⟨rfl, ⟨nd, rfl⟩⟩; (try first | exact ⟨rfl, _, World.drewN_drewN _ _ _⟩ | exact ⟨rfl, _, Eq.trans (World.drewN_drewN _ _ _) (congrArg (World.drewN _) (Nat.add_assoc _ _ _))⟩))))
            go_meet
            case rel => exact ⟨_, (t312), (by first | rfl | (simp; done) | (simp [*]; done) | (simp [wrap64, wrap32]; done)), H', ⟨by have := HJ4.out; have := HJ8.out; first | omega | exact Nat.le_refl _⟩, by repeat (first | exact Drawn0.refl _ | apply Drawn0.step)⟩
           ·replace c17 := Bool.eq_false_iff.mpr c17
            subst c17
            have H1 : (redpenref01_Next.j2 kj8 l0 (wrap32 (rd l0 0)) false) = some (r1, r2) := by rw [if_neg (show ¬ (false = true) by decide)] at H; exact H
            clear H
            have H := H1
            clear H1
            have H' := Aside0.mk H
            clear H
            go_wp2_with (first | (go_at_call 127; (with_reducible refine (redpenref01_tail.calls _ _ l0 1 false _ ?side1 ?side2 A16.out).mono ?_); (case side1 => repeat (first | exact HR0.out | (with_reducible refine Kd.C_alloc ?_ _) | (with_reducible refine Kd.C_drewN ?_ _) | (with_reducible refine Kd.C_drew ?_))); (case side2 => exact HC0.out); rintro e w' ⟨rfl, ⟨nd, rfl⟩⟩; (try first | exact ⟨rfl, _, World.drewN_drewN _ _ _⟩ | exact ⟨rfl, _, Eq.trans (World.drewN_drewN _ _ _) (congrArg (World.drewN _) (Nat.add_assoc _ _ _))⟩)))
            repeat (go_quiet (first | (go_at_call 127; (with_reducible refine (redpenref01_tail.calls _ _ l0 1 false _ ?side1 ?side2 A16.out).mono ?_); (case side1 => repeat (first | exact HR0.out | (with_reducible refine Kd.C_alloc ?_ _) | (with_reducible refine Kd.C_drewN ?_ _) | (with_reducible refine Kd.C_drew ?_))); (case side2 => exact HC0.out); rintro e w' ⟨rfl, ⟨nd, rfl⟩⟩; (try first | exact ⟨rfl, _, World.drewN_drewN _ _ _⟩ | exact ⟨rfl, _, Eq.trans (World.drewN_drewN _ _ _) (congrArg (World.drewN _) (Nat.add_assoc _ _ _))⟩))); try go_wp2_with (first | (go_at_call 127; (with_reducible refine (redpenref01_tail.calls _ _ l0 1 false _ ?side1 ?side2 A16.out).mono ?_); (case side1 => repeat (first | exact HR0.out | (with_reducible refine Kd.C_alloc ?_ _) | (with_reducible refine Kd.C_drewN ?_ _) | (with_reducible refine Kd.C_drew ?_))); (case side2 => exact HC0.out); rintro e w' ⟨rfl, ⟨nd, rfl⟩⟩; (try first | exact ⟨rfl, _, World.drewN_drewN _ _ _⟩ | exact ⟨rfl, _, Eq.trans (World.drewN_drewN _ _ _) (congrArg (World.drewN _) (Nat.add_assoc _ _ _))⟩))))
            go_meet
            case rel => exact ⟨_, (false), (by first | rfl | (simp; done) | (simp [*]; done) | (simp [wrap64, wrap32]; done)), H', ⟨by have := HJ4.out; have := HJ8.out; first | omega | exact Nat.le_refl _⟩, by repeat (first | exact Drawn0.refl _ | apply Drawn0.step)⟩
          ·rw [if_neg c15] at H
           have c15b0 : decide ((wrap32 (rd l0 0)) < 240) = false := decide_eq_false c15
           clear c15
           have H' := Aside0.mk H
           clear H
           go_wp2
           repeat (go_quiet (fail); try go_wp2)
           go_meet
           case rel => exact ⟨_, (false), (by first | rfl | (simp; done) | (simp [*]; done) | (simp [wrap64, wrap32]; done)), H', ⟨by have := HJ4.out; have := HJ8.out; first | omega | exact Nat.le_refl _⟩, by repeat (first | exact Drawn0.refl _ | apply Drawn0.step)⟩
         ·rw [if_neg c14] at H
          have c14b0 : decide (224 ≤ (wrap32 (rd l0 0))) = false := decide_eq_false c14
          clear c14
          (first | rw [c14b0] | (simp only [i64_w, i32_w]; rw [c14b0]) | skip)
          have H' := Aside0.mk H
          clear H
          go_wp2
          repeat (go_quiet (fail); try go_wp2)
          go_meet
          case rel => exact ⟨_, (false), (by first | rfl | (simp; done) | (simp [*]; done) | (simp [wrap64, wrap32]; done)), H', ⟨by have := HJ4.out; have := HJ8.out; first | omega | exact Nat.le_refl _⟩, by repeat (first | exact Drawn0.refl _ | apply Drawn0.step)⟩
        case rest =>
         clear HC13
         try clear c1
         try clear c2
         try clear c2b0
         try clear c2b1
         try clear c2b2
         try clear p2
         try clear c3
         try clear c3b0
         try clear c3b1
         try clear p3
         try clear q3
         try clear hx3
         try clear qi3
         try clear c4
         try clear c4b0
         try clear c6
         try clear c6b0
         try clear c7
         try clear c7b0
         try clear c8
         try clear c10
         try clear c11
         try clear c11b0
         try clear c11b1
         try clear c12
         try clear c12b0
         try clear c14
         try clear c14b0
         try clear c15
         try clear c15b0
         try clear c17
         try clear hx308_0
         try clear hx310_0
         try clear p2
         try clear p3
         try clear p308
         try clear p310
         try clear q3
         try clear q308
         try clear q310
         obtain ⟨kq, x53_12, rfl, HA, HJ12, ⟨mc12, rfl⟩⟩ := hcut
         cases kq with
         | zero => exact absurd HA.out (by simp [redpenref01_Next.j2])
         | succ kj12 =>
          have H := HA.out
          clear HA
          simp only [redpenref01_Next.j2] at H
          have HC19 := Aside0.mk H
          clear H
          go_upto_if 53 with (fail)
          repeat (go_quiet (fail); go_upto_if 53 with (fail))
          go_cut [] (fun wc => ∃ (kq : Nat), Aside0 (redpenref01_Next.j3 kq l0 (wrap32 (rd l0 0)) = some (r1, r2)) ∧ Aside0 (kq ≤ kj12) ∧ Drawn0 w wc)
          case first =>
           have H := HC19.out
           clear HC19
           by_cases c20 : x53_12 = true
           ·subst c20
            have H1 : (if 1 < (l0.length : Int) then (if 2 < (l0.length : Int) then (if (wrap32 ((wrap32 ((wrap32 ((wrap32 ((wrap32 ((wrap32 (rd l0 0)) - 224)) * 4096)) + (wrap32 ((wrap32 ((wrap32 (rd l0 1)) - 128)) * 64)))) + (wrap32 (rd l0 2)))) - 128)) ≥ 2048 then (if (wrap32 ((wrap32 ((wrap32 ((wrap32 ((wrap32 ((wrap32 (rd l0 0)) - 224)) * 4096)) + (wrap32 ((wrap32 ((wrap32 (rd l0 1)) - 128)) * 64)))) + (wrap32 (rd l0 2)))) - 128)) < 55296 then (some (wrap32 ((wrap32 ((wrap32 ((wrap32 ((wrap32 ((wrap32 (rd l0 0)) - 224)) * 4096)) + (wrap32 ((wrap32 ((wrap32 (rd l0 1)) - 128)) * 64)))) + (wrap32 (rd l0 2)))) - 128), 3)) else (if (wrap32 ((wrap32 ((wrap32 ((wrap32 ((wrap32 ((wrap32 (rd l0 0)) - 224)) * 4096)) + (wrap32 ((wrap32 ((wrap32 (rd l0 1)) - 128)) * 64)))) + (wrap32 (rd l0 2)))) - 128)) > 57343 then (some (wrap32 ((wrap32 ((wrap32 ((wrap32 ((wrap32 ((wrap32 (rd l0 0)) - 224)) * 4096)) + (wrap32 ((wrap32 ((wrap32 (rd l0 1)) - 128)) * 64)))) + (wrap32 (rd l0 2)))) - 128), 3)) else (redpenref01_Next.j3 kj12 l0 (wrap32 (rd l0 0))))) else (redpenref01_Next.j3 kj12 l0 (wrap32 (rd l0 0)))) else (none)) else (none)) = some (r1, r2) := by rw [if_pos rfl] at H; exact H
            clear H
            have H := H1
            clear H1
            by_cases c21 : 1 < (l0.length : Int)
            ·rw [if_pos c21] at H
             have c21b0 : decide (1 < (l0.length : Int)) = true := decide_eq_true c21
             have c21b1 : decide (1 < l0.length) = true := decide_eq_true (by omega)
             clear c21
             (first | rw [c21b0] | (simp only [i64_w, i32_w]; rw [c21b0]) | skip)
             by_cases c22 : 2 < (l0.length : Int)
             ·rw [if_pos c22] at H
              have c22b0 : decide (2 < (l0.length : Int)) = true := decide_eq_true c22
              have c22b1 : decide (2 < l0.length) = true := decide_eq_true (by omega)
              clear c22
              by_cases c23 : (wrap32 ((wrap32 ((wrap32 ((wrap32 ((wrap32 ((wrap32 (rd l0 0)) - 224)) * 4096)) + (wrap32 ((wrap32 ((wrap32 (rd l0 1)) - 128)) * 64)))) + (wrap32 (rd l0 2)))) - 128)) ≥ 2048
              ·rw [if_pos c23] at H
               have c23b0 : decide (2048 ≤ (wrap32 ((wrap32 ((wrap32 ((wrap32 ((wrap32 ((wrap32 (rd l0 0)) - 224)) * 4096)) + (wrap32 ((wrap32 ((wrap32 (rd l0 1)) - 128)) * 64)))) + (wrap32 (rd l0 2)))) - 128))) = true := decide_eq_true c23
               clear c23
               by_cases c24 : (wrap32 ((wrap32 ((wrap32 ((wrap32 ((wrap32 ((wrap32 (rd l0 0)) - 224)) * 4096)) + (wrap32 ((wrap32 ((wrap32 (rd l0 1)) - 128)) * 64)))) + (wrap32 (rd l0 2)))) - 128)) < 55296
               ·rw [if_pos c24] at H
                have c24b0 : decide ((wrap32 ((wrap32 ((wrap32 ((wrap32 ((wrap32 ((wrap32 (rd l0 0)) - 224)) * 4096)) + (wrap32 ((wrap32 ((wrap32 (rd l0 1)) - 128)) * 64)))) + (wrap32 (rd l0 2)))) - 128)) < 55296) = true := decide_eq_true c24
                clear c24
                simp only [Option.some.injEq, Prod.mk.injEq] at H
                obtain ⟨rfl, rfl⟩ := H
                have p313 : 0 ≤ (1 : Int) := (by omega)
                have q313 : 1 < (l0.length : Int) := of_decide_eq_true (by first | (with_reducible assumption) | assumption)
                obtain ⟨ad313, e313, hx313_0⟩ := Kd.at_int HR0.out 1 p313 q313
                obtain rfl : ad308 = ad313 := (by injection e313)
                (try simp only [show (1 : Int).toNat = 1 from rfl, Nat.reduceMul, Nat.reduceEqDiff, Go.Addr.add, ↓reduceIte] at hx313_0)
                have qi313 : (1 < l0.length) = True := eq_true (by omega)
                (try rw [show ((1 : Int)).toNat = 1 from rfl] at hx313_0)
                replace p313 := eq_true p313
                replace q313 := eq_true q313
                have p314 : 0 ≤ (2 : Int) := (by omega)
                have q314 : 2 < (l0.length : Int) := of_decide_eq_true (by first | (with_reducible assumption) | assumption)
                obtain ⟨ad314, e314, hx314_0⟩ := Kd.at_int HR0.out 2 p314 q314
                obtain rfl : ad308 = ad314 := (by injection e314)
                (try simp only [show (2 : Int).toNat = 2 from rfl, Nat.reduceMul, Nat.reduceEqDiff, Go.Addr.add, ↓reduceIte] at hx314_0)
                have qi314 : (2 < l0.length) = True := eq_true (by omega)
                (try rw [show ((2 : Int)).toNat = 2 from rfl] at hx314_0)
                replace p314 := eq_true p314
                replace q314 := eq_true q314
                go_wp2
                repeat (go_quiet (fail); try go_wp2)
                go_ret2
                exact ⟨by first | rfl | (simp; done) | (simp [*]; done) | (simp [wrap64, wrap32]; done), by repeat (first | exact Drawn0.refl _ | apply Drawn0.step)⟩
               ·rw [if_neg c24] at H
                have c24b0 : decide ((wrap32 ((wrap32 ((wrap32 ((wrap32 ((wrap32 ((wrap32 (rd l0 0)) - 224)) * 4096)) + (wrap32 ((wrap32 ((wrap32 (rd l0 1)) - 128)) * 64)))) + (wrap32 (rd l0 2)))) - 128)) < 55296) = false := decide_eq_false c24
                clear c24
                by_cases c25 : (wrap32 ((wrap32 ((wrap32 ((wrap32 ((wrap32 ((wrap32 (rd l0 0)) - 224)) * 4096)) + (wrap32 ((wrap32 ((wrap32 (rd l0 1)) - 128)) * 64)))) + (wrap32 (rd l0 2)))) - 128)) > 57343
                ·rw [if_pos c25] at H
                 have c25b0 : decide (57343 < (wrap32 ((wrap32 ((wrap32 ((wrap32 ((wrap32 ((wrap32 (rd l0 0)) - 224)) * 4096)) + (wrap32 ((wrap32 ((wrap32 (rd l0 1)) - 128)) * 64)))) + (wrap32 (rd l0 2)))) - 128))) = true := decide_eq_true c25
                 clear c25
                 simp only [Option.some.injEq, Prod.mk.injEq] at H
                 obtain ⟨rfl, rfl⟩ := H
                 have p313 : 0 ≤ (1 : Int) := (by omega)
                 have q313 : 1 < (l0.length : Int) := of_decide_eq_true (by first | (with_reducible assumption) | assumption)
                 obtain ⟨ad313, e313, hx313_0⟩ := Kd.at_int HR0.out 1 p313 q313
                 obtain rfl : ad308 = ad313 := (by injection e313)
                 (try simp only [show (1 : Int).toNat = 1 from rfl, Nat.reduceMul, Nat.reduceEqDiff, Go.Addr.add, ↓reduceIte] at hx313_0)
                 have qi313 : (1 < l0.length) = True := eq_true (by omega)
                 (try rw [show ((1 : Int)).toNat = 1 from rfl] at hx313_0)
                 replace p313 := eq_true p313
                 replace q313 := eq_true q313
                 have p314 : 0 ≤ (2 : Int) := (by omega)
                 have q314 : 2 < (l0.length : Int) := of_decide_eq_true (by first | (with_reducible assumption) | assumption)
                 obtain ⟨ad314, e314, hx314_0⟩ := Kd.at_int HR0.out 2 p314 q314
                 obtain rfl : ad308 = ad314 := (by injection e314)
                 (try simp only [show (2 : Int).toNat = 2 from rfl, Nat.reduceMul, Nat.reduceEqDiff, Go.Addr.add, ↓reduceIte] at hx314_0)
                 have qi314 : (2 < l0.length) = True := eq_true (by omega)
                 (try rw [show ((2 : Int)).toNat = 2 from rfl] at hx314_0)
                 replace p314 := eq_true p314
                 replace q314 := eq_true q314
                 go_wp2
                 repeat (go_quiet (fail); try go_wp2)
                 go_ret2
                 exact ⟨by first | rfl | (simp; done) | (simp [*]; done) | (simp [wrap64, wrap32]; done), by repeat (first | exact Drawn0.refl _ | apply Drawn0.step)⟩
                ·rw [if_neg c25] at H
                 have c25b0 : decide (57343 < (wrap32 ((wrap32 ((wrap32 ((wrap32 ((wrap32 ((wrap32 (rd l0 0)) - 224)) * 4096)) + (wrap32 ((wrap32 ((wrap32 (rd l0 1)) - 128)) * 64)))) + (wrap32 (rd l0 2)))) - 128))) = false := decide_eq_false c25
                 clear c25
                 have H' := Aside0.mk H
                 clear H
                 have p313 : 0 ≤ (1 : Int) := (by omega)
                 have q313 : 1 < (l0.length : Int) := of_decide_eq_true (by first | (with_reducible assumption) | assumption)
                 obtain ⟨ad313, e313, hx313_0⟩ := Kd.at_int HR0.out 1 p313 q313
                 obtain rfl : ad308 = ad313 := (by injection e313)
                 (try simp only [show (1 : Int).toNat = 1 from rfl, Nat.reduceMul, Nat.reduceEqDiff, Go.Addr.add, ↓reduceIte] at hx313_0)
                 have qi313 : (1 < l0.length) = True := eq_true (by omega)
                 (try rw [show ((1 : Int)).toNat = 1 from rfl] at hx313_0)
                 replace p313 := eq_true p313
                 replace q313 := eq_true q313
                 have p314 : 0 ≤ (2 : Int) := (by omega)
                 have q314 : 2 < (l0.length : Int) := of_decide_eq_true (by first | (with_reducible assumption) | assumption)
                 obtain ⟨ad314, e314, hx314_0⟩ := Kd.at_int HR0.out 2 p314 q314
                 obtain rfl : ad308 = ad314 := (by injection e314)
                 (try simp only [show (2 : Int).toNat = 2 from rfl, Nat.reduceMul, Nat.reduceEqDiff, Go.Addr.add, ↓reduceIte] at hx314_0)
                 have qi314 : (2 < l0.length) = True := eq_true (by omega)
                 (try rw [show ((2 : Int)).toNat = 2 from rfl] at hx314_0)
                 replace p314 := eq_true p314
                 replace q314 := eq_true q314
                 go_wp2
                 repeat (go_quiet (fail); try go_wp2)
                 go_meet
                 case rel => exact ⟨_, H', ⟨by have := HJ4.out; have := HJ8.out; have := HJ12.out; first | omega | exact Nat.le_refl _⟩, by repeat (first | exact Drawn0.refl _ | apply Drawn0.step)⟩
              ·rw [if_neg c23] at H
               have c23b0 : decide (2048 ≤ (wrap32 ((wrap32 ((wrap32 ((wrap32 ((wrap32 ((wrap32 (rd l0 0)) - 224)) * 4096)) + (wrap32 ((wrap32 ((wrap32 (rd l0 1)) - 128)) * 64)))) + (wrap32 (rd l0 2)))) - 128))) = false := decide_eq_false c23
               clear c23
               have H' := Aside0.mk H
               clear H
               have p313 : 0 ≤ (1 : Int) := (by omega)
               have q313 : 1 < (l0.length : Int) := of_decide_eq_true (by first | (with_reducible assumption) | assumption)
               obtain ⟨ad313, e313, hx313_0⟩ := Kd.at_int HR0.out 1 p313 q313
               obtain rfl : ad308 = ad313 := (by injection e313)
               (try simp only [show (1 : Int).toNat = 1 from rfl, Nat.reduceMul, Nat.reduceEqDiff, Go.Addr.add, ↓reduceIte] at hx313_0)
               have qi313 : (1 < l0.length) = True := eq_true (by omega)
               (try rw [show ((1 : Int)).toNat = 1 from rfl] at hx313_0)
               replace p313 := eq_true p313
               replace q313 := eq_true q313
               have p314 : 0 ≤ (2 : Int) := (by omega)
               have q314 : 2 < (l0.length : Int) := of_decide_eq_true (by first | (with_reducible assumption) | assumption)
               obtain ⟨ad314, e314, hx314_0⟩ := Kd.at_int HR0.out 2 p314 q314
               obtain rfl : ad308 = ad314 := (by injection e314)
               (try simp only [show (2 : Int).toNat = 2 from rfl, Nat.reduceMul, Nat.reduceEqDiff, Go.Addr.add, ↓reduceIte] at hx314_0)
               have qi314 : (2 < l0.length) = True := eq_true (by omega)
               (try rw [show ((2 : Int)).toNat = 2 from rfl] at hx314_0)
               replace p314 := eq_true p314
               replace q314 := eq_true q314
               go_wp2
               repeat (go_quiet (fail); try go_wp2)
               go_meet
               case rel => exact ⟨_, H', ⟨by have := HJ4.out; have := HJ8.out; have := HJ12.out; first | omega | exact Nat.le_refl _⟩, by repeat (first | exact Drawn0.refl _ | apply Drawn0.step)⟩
             ·rw [if_neg c22] at H
              exact absurd H (by simp)
            ·rw [if_neg c21] at H
             exact absurd H (by simp)
           ·replace c20 := Bool.eq_false_iff.mpr c20
            subst c20
            have H1 : (redpenref01_Next.j3 kj12 l0 (wrap32 (rd l0 0))) = some (r1, r2) := by rw [if_neg (show ¬ (false = true) by decide)] at H; exact H
            clear H
            have H := H1
            clear H1
            have H' := Aside0.mk H
            clear H
            go_wp2
            repeat (go_quiet (fail); try go_wp2)
            go_meet
            case rel => exact ⟨_, H', ⟨by have := HJ4.out; have := HJ8.out; have := HJ12.out; first | omega | exact Nat.le_refl _⟩, by repeat (first | exact Drawn0.refl _ | apply Drawn0.step)⟩
          case rest =>
           clear HC19
           try clear c1
           try clear c2
           try clear c2b0
           try clear c2b1
           try clear c2b2
           try clear p2
           try clear c3
           try clear c3b0
           try clear c3b1
           try clear p3
           try clear q3
           try clear hx3
           try clear qi3
           try clear c4
           try clear c4b0
           try clear c6
           try clear c6b0
           try clear c7
           try clear c7b0
           try clear c8
           try clear c10
           try clear c11
           try clear c11b0
           try clear c11b1
           try clear c12
           try clear c12b0
           try clear c14
           try clear c14b0
           try clear c15
           try clear c15b0
           try clear c17
           try clear c20
           try clear c21
           try clear c21b0
           try clear c21b1
           try clear c22
           try clear c22b0
           try clear c22b1
           try clear c23
           try clear c23b0
           try clear c24
           try clear c24b0
           try clear c25
           try clear c25b0
           try clear hx308_0
           try clear hx310_0
           try clear hx313_0
           try clear hx314_0
           try clear p2
           try clear p3
           try clear p308
           try clear p310
           try clear p313
           try clear p314
           try clear q3
           try clear q308
           try clear q310
           try clear q313
           try clear q314
           obtain ⟨kq, HA, HJ18, ⟨mc18, rfl⟩⟩ := hcut
           cases kq with
           | zero => exact absurd HA.out (by simp [redpenref01_Next.j3])
           | succ kj18 =>
            have H := HA.out
            clear HA
            simp only [redpenref01_Next.j3] at H
            have HC26 := Aside0.mk H
            clear H
            go_upto_region 14 with (fail)
            repeat (go_quiet (fail); go_upto_region 14 with (fail))
            go_cut [98] (fun v98 wc => ∃ (kq : Nat) (x98_25 : Bool), v98 = .bool x98_25 ∧ Aside0 (redpenref01_Next.j4 kq l0 (wrap32 (rd l0 0)) x98_25 = some (r1, r2)) ∧ Aside0 (kq ≤ kj18) ∧ Drawn0 w wc)
            case first =>
             have H := HC26.out
             clear HC26
             by_cases c27 : (wrap32 (rd l0 0)) ≥ 240
             ·rw [if_pos c27] at H
              have c27b0 : decide (240 ≤ (wrap32 (rd l0 0))) = true := decide_eq_true c27
              clear c27
              (first | rw [c27b0] | (simp only [i64_w, i32_w]; rw [c27b0]) | skip)
              by_cases c28 : (wrap32 (rd l0 0)) < 248
              ·rw [if_pos c28] at H
               have c28b0 : decide ((wrap32 (rd l0 0)) < 248) = true := decide_eq_true c28
               clear c28
               replace H := Option.bind_eq_some_iff.mp H
               obtain ⟨t315, A290, H⟩ := H
               replace H : (if t315 = true then ((redpenref01_tail.f l0 2).bind fun t316 => (if t316 = true then ((redpenref01_tail.f l0 3).bind fun t317 => (redpenref01_Next.j4 kj18 l0 (wrap32 (rd l0 0)) t317)) else (redpenref01_Next.j4 kj18 l0 (wrap32 (rd l0 0)) false))) else (redpenref01_Next.j4 kj18 l0 (wrap32 (rd l0 0)) false)) = some (r1, r2) := H
               have A29 := Aside0.mk A290
               clear A290
               by_cases c30 : t315 = true
               ·subst c30
                have H1 : ((redpenref01_tail.f l0 2).bind fun t316 => (if t316 = true then ((redpenref01_tail.f l0 3).bind fun t317 => (redpenref01_Next.j4 kj18 l0 (wrap32 (rd l0 0)) t317)) else (redpenref01_Next.j4 kj18 l0 (wrap32 (rd l0 0)) false))) = some (r1, r2) := by rw [if_pos rfl] at H; exact H
                clear H
                have H := H1
                clear H1
                replace H := Option.bind_eq_some_iff.mp H
                obtain ⟨t316, A310, H⟩ := H
                replace H : (if t316 = true then ((redpenref01_tail.f l0 3).bind fun t317 => (redpenref01_Next.j4 kj18 l0 (wrap32 (rd l0 0)) t317)) else (redpenref01_Next.j4 kj18 l0 (wrap32 (rd l0 0)) false)) = some (r1, r2) := H
                have A31 := Aside0.mk A310
                clear A310
                by_cases c32 : t316 = true
                ·subst c32
                 have H1 : ((redpenref01_tail.f l0 3).bind fun t317 => (redpenref01_Next.j4 kj18 l0 (wrap32 (rd l0 0)) t317)) = some (r1, r2) := by rw [if_pos rfl] at H; exact H
                 clear H
                 have H := H1
                 clear H1
                 replace H := Option.bind_eq_some_iff.mp H
                 obtain ⟨t317, A330, H⟩ := H
                 replace H : (redpenref01_Next.j4 kj18 l0 (wrap32 (rd l0 0)) t317) = some (r1, r2) := H
                 have A33 := Aside0.mk A330
                 clear A330
                 have H' := Aside0.mk H
                 clear H
                 go_wp2_with (first | (go_at_call 127; (with_reducible refine (redpenref01_tail.calls _ _ l0 1 true _ ?side1 ?side2 A29.out).mono ?_); (case side1 => repeat (first | exact HR0.out | (with_reducible refine Kd.C_alloc ?_ _) | (with_reducible refine Kd.C_drewN ?_ _) | (with_reducible refine Kd.C_drew ?_))); (case side2 => exact HC0.out); rintro e w' ⟨rfl, ⟨nd, rfl⟩⟩; (try first | exact ⟨rfl, _, World.drewN_drewN _ _ _⟩ | exact ⟨rfl, _, Eq.trans (World.drewN_drewN _ _ _) (congrArg (World.drewN _) (Nat.add_assoc _ _ _))⟩)) | (go_at_call 127; (with_reducible refine (redpenref01_tail.calls _ _ l0 2 true _ ?side1 ?side2 A31.out).mono ?_); (case side1 => repeat (first | exact HR0.out | (with_reducible refine Kd.C_alloc ?_ _) | (with_reducible refine Kd.C_drewN ?_ _) | (with_reducible refine Kd.C_drew ?_))); (case side2 => exact HC0.out); rintro e w' ⟨rfl, ⟨nd, rfl⟩⟩; (try first | exact ⟨rfl, _, World.drewN_drewN _ _ _⟩ | exact ⟨rfl, _, Eq.trans (World.drewN_drewN _ _ _) (congrArg (World.drewN _) (Nat.add_assoc _ _ _))⟩)) | (go_at_call 127; (with_reducible refine (redpenref01_tail.calls _ _ l0 3 t317 _ ?side1 ?side2 A33.out).mono ?_); (case side1 => repeat (first | exact HR0.out | (with_reducible refine Kd.C_alloc ?_ _) | (with_reducible refine Kd.C_drewN ?_ _) | (with_reducible refine Kd.C_drew ?_))); (case side2 => exact HC0.out); rintro e w' ⟨rfl, ⟨nd, rfl⟩⟩; (try first | exact ⟨rfl, _, World.drewN_drewN _ _ _⟩ | exact ⟨rfl, _, Eq.trans (World.drewN_drewN _ _ _) (congrArg (World.drewN _) (Nat.add_assoc _ _ _))⟩)))
                 repeat (go_quiet (first | (go_at_call 127; (with_reducible refine (redpenref01_tail.calls _ _ l0 1 true _ ?side1 ?side2 A29.out).mono ?_); (case side1 => repeat (first | exact HR0.out | (with_reducible refine Kd.C_alloc ?_ _) | (with_reducible refine Kd.C_drewN ?_ _) | (with_reducible refine Kd.C_drew ?_))); (case side2 => exact HC0.out); rintro e w' ⟨rfl, ⟨nd, rfl⟩⟩; (try first | exact ⟨rfl, _, World.drewN_drewN _ _ _⟩ | exact ⟨rfl, _, Eq.trans (World.drewN_drewN _ _ _) (congrArg (World.drewN _) (Nat.add_assoc _ _ _))⟩)) | (go_at_call 127; (with_reducible refine (redpenref01_tail.calls _ _ l0 2 true _ ?side1 ?side2 A31.out).mono ?_); (case side1 => repeat (first | exact HR0.out | (with_reducible refine Kd.C_alloc ?_ _) | (with_reducible refine Kd.C_drewN ?_ _) | (with_reducible refine Kd.C_drew ?_))); (case side2 => exact HC0.out); rintro e w' ⟨rfl, ⟨nd, rfl⟩⟩; (try first | exact ⟨rfl, _, World.drewN_drewN _ _ _⟩ | exact ⟨rfl, _, Eq.trans (World.drewN_drewN _ _ _) (congrArg (World.drewN _) (Nat.add_assoc _ _ _))⟩)) | (go_at_call 127; (with_reducible refine (redpenref01_tail.calls _ _ l0 3 t317 _ ?side1 ?side2 A33.out).mono ?_); (case side1 => repeat (first | exact HR0.out | (with_reducible refine Kd.C_alloc ?_ _) | (with_reducible refine Kd.C_drewN ?_ _) | (with_reducible refine Kd.C_drew ?_))); (case side2 => exact HC0.out); rintro e w' ⟨rfl, ⟨nd, rfl⟩⟩; (try first | exact ⟨rfl, _, World.drewN_drewN _ _ _⟩ | exact ⟨rfl, _, Eq.trans (World.drewN_drewN _ _ _) (congrArg (World.drewN _) (Nat.add_assoc _ _ _))⟩))); try go_wp2_with (first | (go_at_call 127; (with_reducible refine (redpenref01_tail.calls _ _ l0 1 true _ ?side1 ?side2 A29.out).mono ?_); (case side1 => repeat (first | exact HR0.out | (with_reducible refine Kd.C_alloc ?_ _) | (with_reducible refine Kd.C_drewN ?_ _) | (with_reducible refine Kd.C_drew ?_))); (case side2 => exact HC0.out); rintro e w' ⟨rfl, ⟨nd, rfl⟩⟩; (try first | exact ⟨rfl, _, World.drewN_drewN _ _ _⟩ | exact ⟨rfl, _, Eq.trans (World.drewN_drewN _ _ _) (congrArg (World.drewN _) (Nat.add_assoc _ _ _))⟩)) | (go_at_call 127; (with_reducible refine (redpenref01_tail.calls _ _ l0 2 true _ ?side1 ?side2 A31.out).mono ?_); (case side1 => repeat (first | exact HR0.out | (with_reducible refine Kd.C_alloc ?_ _) | (with_reducible refine Kd.C_drewN ?_ _) | (with_reducible refine Kd.C_drew ?_))); (case side2 => exact HC0.out); rintro e w' ⟨rfl, ⟨nd, rfl⟩⟩; (try first | exact ⟨rfl, _, World.drewN_drewN _ _ _⟩ | exact ⟨rfl, _, Eq.trans (World.drewN_drewN _ _ _) (congrArg (World.drewN _) (Nat.add_assoc _ _ _))⟩)) | (go_at_call 127; (with_reducible refine (redpenref01_tail.calls _ _ l0 3 t317 _ ?side1 ?side2 A33.out).mono ?_); (case side1 => repeat (first | exact HR0.out | (with_reducible refine Kd.C_alloc ?_ _) | (with_reducible refine Kd.C_drewN ?_ _) | (with_reducible refine Kd.C_drew ?_))); (case side2 => exact HC0.out); rintro e w' ⟨rfl, ⟨nd, rfl⟩⟩; (try first | exact ⟨rfl, _, World.drewN_drewN _ _ _⟩ | exact ⟨rfl, _, Eq.trans (World.drewN_drewN _ _ _) (congrArg (World.drewN _) (Nat.add_assoc _ _ _))⟩))))
                 go_meet
                 case rel => exact ⟨_, (t317), (by first | rfl | (simp; done) | (simp [*]; done) | (simp [wrap64, wrap32]; done)), H', ⟨by have := HJ4.out; have := HJ8.out; have := HJ12.out; have := HJ18.out; first | omega | exact Nat.le_refl _⟩, by repeat (first | exact Drawn0.refl _ | apply Drawn0.step)⟩
                ·replace c32 := Bool.eq_false_iff.mpr c32
                 subst c32
                 have H1 : (redpenref01_Next.j4 kj18 l0 (wrap32 (rd l0 0)) false) = some (r1, r2) := by rw [if_neg (show ¬ (false = true) by decide)] at H; exact H
                 clear H
                 have H := H1
                 clear H1
                 have H' := Aside0.mk H
                 clear H
                 go_wp2_with (first | (go_at_call 127; (with_reducible refine (redpenref01_tail.calls _ _ l0 1 true _ ?side1 ?side2 A29.out).mono ?_); (case side1 => repeat (first | exact HR0.out | (with_reducible refine Kd.C_alloc ?_ _) | (with_reducible refine Kd.C_drewN ?_ _) | (with_reducible refine Kd.C_drew ?_))); (case side2 => exact HC0.out); rintro e w' ⟨rfl, ⟨nd, rfl⟩⟩; (try first | exact ⟨rfl, _, World.drewN_drewN _ _ _⟩ | exact ⟨rfl, _, Eq.trans (World.drewN_drewN _ _ _) (congrArg (World.drewN _) (Nat.add_assoc _ _ _))⟩)) | (go_at_call 127; (with_reducible refine (redpenref01_tail.calls _ _ l0 2 false _ ?side1 ?side2 A31.out).mono ?_); (case side1 => repeat (first | exact HR0.out | (with_reducible refine Kd.C_alloc ?_ _) | (with_reducible refine Kd.C_drewN ?_ _) | (with_reducible refine Kd.C_drew ?_))); (case side2 => exact HC0.out); rintro e w' ⟨rfl, ⟨nd, rfl⟩⟩; (try first | exact ⟨rfl, _, World.drewN_drewN _ _ _⟩ | exact ⟨rfl, _, Eq.trans (World.drewN_drewN _ _ _) (congrArg (World.drewN _) (Nat.add_assoc _ _ _))⟩)))
                 repeat (go_quiet (first | (go_at_call 127; (with_reducible refine (redpenref01_tail.calls _ _ l0 1 true _ ?side1 ?side2 A29.out).mono ?_); (case side1 => repeat (first | exact HR0.out | (with_reducible refine Kd.C_alloc ?_ _) | (with_reducible refine Kd.C_drewN ?_ _) | (with_reducible refine Kd.C_drew ?_))); (case side2 => exact HC0.out); rintro e w' ⟨rfl, ⟨nd, rfl⟩⟩; (try first | exact ⟨rfl, _, World.drewN_drewN _ _ _⟩ | exact ⟨rfl, _, Eq.trans (World.drewN_drewN _ _ _) (congrArg (World.drewN _) (Nat.add_assoc _ _ _))⟩)) | (go_at_call 127; (with_reducible refine (redpenref01_tail.calls _ _ l0 2 false _ ?side1 ?side2 A31.out).mono ?_); (case side1 => repeat (first | exact HR0.out | (with_reducible refine Kd.C_alloc ?_ _) | (with_reducible refine Kd.C_drewN ?_ _) | (with_reducible refine Kd.C_drew ?_))); (case side2 => exact HC0.out); rintro e w' ⟨rfl, ⟨nd, rfl⟩⟩; (try first | exact ⟨rfl, _, World.drewN_drewN _ _ _⟩ | exact ⟨rfl, _, Eq.trans (World.drewN_drewN _ _ _) (congrArg (World.drewN _) (Nat.add_assoc _ _ _))⟩))); try go_wp2_with (first | (go_at_call 127; (with_reducible refine (redpenref01_tail.calls _ _ l0 1 true _ ?side1 ?side2 A29.out).mono ?_); (case side1 => repeat (first | exact HR0.out | (with_reducible refine Kd.C_alloc ?_ _) | (with_reducible refine Kd.C_drewN ?_ _) | (with_reducible refine Kd.C_drew ?_))); (case side2 => exact HC0.out); rintro e w' ⟨rfl, ⟨nd, rfl⟩⟩; (try first | exact ⟨rfl, _, World.drewN_drewN _ _ _⟩ | exact ⟨rfl, _, Eq.trans (World.drewN_drewN _ _ _) (congrArg (World.drewN _) (Nat.add_assoc _ _ _))⟩)) | (go_at_call 127; (with_reducible refine (redpenref01_tail.calls _ _ l0 2 false _ ?side1 ?side2 A31.out).mono ?_); (case side1 => repeat (first | exact HR0.out | (with_reducible refine Kd.C_alloc ?_ _) | (with_reducible refine Kd.C_drewN ?_ _) | (with_reducible refine Kd.C_drew ?_))); (case side2 => exact HC0.out); rintro e w' ⟨rfl, ⟨nd, rfl⟩⟩; (try first | exact ⟨rfl, _, World.drewN_drewN _ _ _⟩ | exact ⟨rfl, _, Eq.trans (World.drewN_drewN _ _ _) (congrArg (World.drewN _) (Nat.add_assoc _ _ _))⟩))))
                 go_meet
                 case rel => exact ⟨_, (false), (by first | rfl | (simp; done) | (simp [*]; done) | (simp [wrap64, wrap32]; done)), H', ⟨by have := HJ4.out; have := HJ8.out; have := HJ12.out; have := HJ18.out; first | omega | exact Nat.le_refl _⟩, by repeat (first | exact Drawn0.refl _ | apply Drawn0.step)⟩
               ·replace c30 := Bool.eq_false_iff.mpr c30
                subst c30
                have H1 : (redpenref01_Next.j4 kj18 l0 (wrap32 (rd l0 0)) false) = some (r1, r2) := by rw [if_neg (show ¬ (false = true) by decide)] at H; exact H
                clear H
                have H := H1
                clear H1
                have H' := Aside0.mk H
                clear H
                go_wp2_with (first | (go_at_call 127; (with_reducible refine (redpenref01_tail.calls _ _ l0 1 false _ ?side1 ?side2 A29.out).mono ?_); (case side1 => repeat (first | exact HR0.out | (with_reducible refine Kd.C_alloc ?_ _) | (with_reducible refine Kd.C_drewN ?_ _) | (with_reducible refine Kd.C_drew ?_))); (case side2 => exact HC0.out); rintro e w' ⟨rfl, ⟨nd, rfl⟩⟩; (try first | exact ⟨rfl, _, World.drewN_drewN _ _ _⟩ | exact ⟨rfl, _, Eq.trans (World.drewN_drewN _ _ _) (congrArg (World.drewN _) (Nat.add_assoc _ _ _))⟩)))
                repeat (go_quiet (first | (go_at_call 127; (with_reducible refine (redpenref01_tail.calls _ _ l0 1 false _ ?side1 ?side2 A29.out).mono ?_); (case side1 => repeat (first | exact HR0.out | (with_reducible refine Kd.C_alloc ?_ _) | (with_reducible refine Kd.C_drewN ?_ _) | (with_reducible refine Kd.C_drew ?_))); (case side2 => exact HC0.out); rintro e w' ⟨rfl, ⟨nd, rfl⟩⟩; (try first | exact ⟨rfl, _, World.drewN_drewN _ _ _⟩ | exact ⟨rfl, _, Eq.trans (World.drewN_drewN _ _ _) (congrArg (World.drewN _) (Nat.add_assoc _ _ _))⟩))); try go_wp2_with (first | (go_at_call 127; (with_reducible refine (redpenref01_tail.calls _ _ l0 1 false _ ?side1 ?side2 A29.out).mono ?_); (case side1 => repeat (first | exact HR0.out | (with_reducible refine Kd.C_alloc ?_ _) | (with_reducible refine Kd.C_drewN ?_ _) | (with_reducible refine Kd.C_drew ?_))); (case side2 => exact HC0.out); rintro e w' ⟨rfl, ⟨nd, rfl⟩⟩; (try first | exact ⟨rfl, _, World.drewN_drewN _ _ _⟩ | exact ⟨rfl, _, Eq.trans (World.drewN_drewN _ _ _) (congrArg (World.drewN _) (Nat.add_assoc _ _ _))⟩))))
                go_meet
                case rel => exact ⟨_, (false), (by first | rfl | (simp; done) | (simp [*]; done) | (simp [wrap64, wrap32]; done)), H', ⟨by have := HJ4.out; have := HJ8.out; have := HJ12.out; have := HJ18.out; first | omega | exact Nat.le_refl _⟩, by repeat (first | exact Drawn0.refl _ | apply Drawn0.step)⟩
              ·rw [if_neg c28] at H
               have c28b0 : decide ((wrap32 (rd l0 0)) < 248) = false := decide_eq_false c28
               clear c28
               have H' := Aside0.mk H
               clear H
               go_wp2
               repeat (go_quiet (fail); try go_wp2)
               go_meet
               case rel => exact ⟨_, (false), (by first | rfl | (simp; done) | (simp [*]; done) | (simp [wrap64, wrap32]; done)), H', ⟨by have := HJ4.out; have := HJ8.out; have := HJ12.out; have := HJ18.out; first | omega | exact Nat.le_refl _⟩, by repeat (first | exact Drawn0.refl _ | apply Drawn0.step)⟩
             ·rw [if_neg c27] at H
              have c27b0 : decide (240 ≤ (wrap32 (rd l0 0))) = false := decide_eq_false c27
              clear c27
              (first | rw [c27b0] | (simp only [i64_w, i32_w]; rw [c27b0]) | skip)
              have H' := Aside0.mk H
              clear H
              go_wp2
              repeat (go_quiet (fail); try go_wp2)
              go_meet
              case rel => exact ⟨_, (false), (by first | rfl | (simp; done) | (simp [*]; done) | (simp [wrap64, wrap32]; done)), H', ⟨by have := HJ4.out; have := HJ8.out; have := HJ12.out; have := HJ18.out; first | omega | exact Nat.le_refl _⟩, by repeat (first | exact Drawn0.refl _ | apply Drawn0.step)⟩
            case rest =>
             clear HC26
             try clear c1
             try clear c2
             try clear c2b0
             try clear c2b1
             try clear c2b2
             try clear p2
             try clear c3
             try clear c3b0
             try clear c3b1
             try clear p3
             try clear q3
             try clear hx3
             try clear qi3
             try clear c4
             try clear c4b0
             try clear c6
             try clear c6b0
             try clear c7
             try clear c7b0
             try clear c8
             try clear c10
             try clear c11
             try clear c11b0
             try clear c11b1
             try clear c12
             try clear c12b0
             try clear c14
             try clear c14b0
             try clear c15
             try clear c15b0
             try clear c17
             try clear c18
             try clear c20
             try clear c21
             try clear c21b0
             try clear c21b1
             try clear c22
             try clear c22b0
             try clear c22b1
             try clear c23
             try clear c23b0
             try clear c24
             try clear c24b0
             try clear c25
             try clear c25b0
             try clear c27
             try clear c27b0
             try clear c28
             try clear c28b0
             try clear c30
             try clear p30
             try clear q30
             try clear hx30
             try clear p31
             try clear q31
             try clear hx31
             try clear qi31
             try clear c32
             try clear p32
             try clear hx308_0
             try clear hx310_0
             try clear hx313_0
             try clear hx314_0
             try clear p2
             try clear p3
             try clear p308
             try clear p310
             try clear p313
             try clear p314
             try clear q3
             try clear q308
             try clear q310
             try clear q313
             try clear q314
             obtain ⟨kq, x98_25, rfl, HA, HJ25, ⟨mc25, rfl⟩⟩ := hcut
             cases kq with
             | zero => exact absurd HA.out (by simp [redpenref01_Next.j4])
             | succ kj25 =>
              have H := HA.out
              clear HA
              simp only [redpenref01_Next.j4] at H
              by_cases c34 : x98_25 = true
              ·subst c34
               have H1 : (if 1 < (l0.length : Int) then (if 2 < (l0.length : Int) then (if 3 < (l0.length : Int) then (if (wrap32 ((wrap32 ((wrap32 ((wrap32 ((wrap32 ((wrap32 ((wrap32 (rd l0 0)) - 240)) * 262144)) + (wrap32 ((wrap32 ((wrap32 (rd l0 1)) - 128)) * 4096)))) + (wrap32 ((wrap32 ((wrap32 (rd l0 2)) - 128)) * 64)))) + (wrap32 (rd l0 3)))) - 128)) ≥ 65536 then (if (wrap32 ((wrap32 ((wrap32 ((wrap32 ((wrap32 ((wrap32 ((wrap32 (rd l0 0)) - 240)) * 262144)) + (wrap32 ((wrap32 ((wrap32 (rd l0 1)) - 128)) * 4096)))) + (wrap32 ((wrap32 ((wrap32 (rd l0 2)) - 128)) * 64)))) + (wrap32 (rd l0 3)))) - 128)) ≤ 1114111 then (some (wrap32 ((wrap32 ((wrap32 ((wrap32 ((wrap32 ((wrap32 ((wrap32 (rd l0 0)) - 240)) * 262144)) + (wrap32 ((wrap32 ((wrap32 (rd l0 1)) - 128)) * 4096)))) + (wrap32 ((wrap32 ((wrap32 (rd l0 2)) - 128)) * 64)))) + (wrap32 (rd l0 3)))) - 128), 4)) else (some ((-1), 1))) else (some ((-1), 1))) else (none)) else (none)) else (none)) = some (r1, r2) := by rw [if_pos rfl] at H; exact H
               clear H
               have H := H1
               clear H1
               by_cases c35 : 1 < (l0.length : Int)
               ·rw [if_pos c35] at H
                have c35b0 : decide (1 < (l0.length : Int)) = true := decide_eq_true c35
                have c35b1 : decide (1 < l0.length) = true := decide_eq_true (by omega)
                clear c35
                by_cases c36 : 2 < (l0.length : Int)
                ·rw [if_pos c36] at H
                 have c36b0 : decide (2 < (l0.length : Int)) = true := decide_eq_true c36
                 have c36b1 : decide (2 < l0.length) = true := decide_eq_true (by omega)
                 clear c36
                 by_cases c37 : 3 < (l0.length : Int)
                 ·rw [if_pos c37] at H
                  have c37b0 : decide (3 < (l0.length : Int)) = true := decide_eq_true c37
                  have c37b1 : decide (3 < l0.length) = true := decide_eq_true (by omega)
                  clear c37
                  by_cases c38 : (wrap32 ((wrap32 ((wrap32 ((wrap32 ((wrap32 ((wrap32 ((wrap32 (rd l0 0)) - 240)) * 262144)) + (wrap32 ((wrap32 ((wrap32 (rd l0 1)) - 128)) * 4096)))) + (wrap32 ((wrap32 ((wrap32 (rd l0 2)) - 128)) * 64)))) + (wrap32 (rd l0 3)))) - 128)) ≥ 65536
                  ·rw [if_pos c38] at H
                   have c38b0 : decide (65536 ≤ (wrap32 ((wrap32 ((wrap32 ((wrap32 ((wrap32 ((wrap32 ((wrap32 (rd l0 0)) - 240)) * 262144)) + (wrap32 ((wrap32 ((wrap32 (rd l0 1)) - 128)) * 4096)))) + (wrap32 ((wrap32 ((wrap32 (rd l0 2)) - 128)) * 64)))) + (wrap32 (rd l0 3)))) - 128))) = true := decide_eq_true c38
                   clear c38
                   by_cases c39 : (wrap32 ((wrap32 ((wrap32 ((wrap32 ((wrap32 ((wrap32 ((wrap32 (rd l0 0)) - 240)) * 262144)) + (wrap32 ((wrap32 ((wrap32 (rd l0 1)) - 128)) * 4096)))) + (wrap32 ((wrap32 ((wrap32 (rd l0 2)) - 128)) * 64)))) + (wrap32 (rd l0 3)))) - 128)) ≤ 1114111
                   ·rw [if_pos c39] at H
                    have c39b0 : decide ((wrap32 ((wrap32 ((wrap32 ((wrap32 ((wrap32 ((wrap32 ((wrap32 (rd l0 0)) - 240)) * 262144)) + (wrap32 ((wrap32 ((wrap32 (rd l0 1)) - 128)) * 4096)))) + (wrap32 ((wrap32 ((wrap32 (rd l0 2)) - 128)) * 64)))) + (wrap32 (rd l0 3)))) - 128)) ≤ 1114111) = true := decide_eq_true c39
                    clear c39
                    simp only [Option.some.injEq, Prod.mk.injEq] at H
                    obtain ⟨rfl, rfl⟩ := H
                    have p318 : 0 ≤ (1 : Int) := (by omega)
                    have q318 : 1 < (l0.length : Int) := of_decide_eq_true (by first | (with_reducible assumption) | assumption)
                    obtain ⟨ad318, e318, hx318_0⟩ := Kd.at_int HR0.out 1 p318 q318
                    obtain rfl : ad308 = ad318 := (by injection e318)
                    (try simp only [show (1 : Int).toNat = 1 from rfl, Nat.reduceMul, Nat.reduceEqDiff, Go.Addr.add, ↓reduceIte] at hx318_0)
                    have qi318 : (1 < l0.length) = True := eq_true (by omega)
                    (try rw [show ((1 : Int)).toNat = 1 from rfl] at hx318_0)
                    replace p318 := eq_true p318
                    replace q318 := eq_true q318
                    have p319 : 0 ≤ (2 : Int) := (by omega)
                    have q319 : 2 < (l0.length : Int) := of_decide_eq_true (by first | (with_reducible assumption) | assumption)
                    obtain ⟨ad319, e319, hx319_0⟩ := Kd.at_int HR0.out 2 p319 q319
                    obtain rfl : ad308 = ad319 := (by injection e319)
                    (try simp only [show (2 : Int).toNat = 2 from rfl, Nat.reduceMul, Nat.reduceEqDiff, Go.Addr.add, ↓reduceIte] at hx319_0)
                    have qi319 : (2 < l0.length) = True := eq_true (by omega)
                    (try rw [show ((2 : Int)).toNat = 2 from rfl] at hx319_0)
                    replace p319 := eq_true p319
                    replace q319 := eq_true q319
                    have p320 : 0 ≤ (3 : Int) := (by omega)
                    have q320 : 3 < (l0.length : Int) := of_decide_eq_true (by first | (with_reducible assumption) | assumption)
                    obtain ⟨ad320, e320, hx320_0⟩ := Kd.at_int HR0.out 3 p320 q320
                    obtain rfl : ad308 = ad320 := (by injection e320)
                    (try simp only [show (3 : Int).toNat = 3 from rfl, Nat.reduceMul, Nat.reduceEqDiff, Go.Addr.add, ↓reduceIte] at hx320_0)
                    have qi320 : (3 < l0.length) = True := eq_true (by omega)
                    (try rw [show ((3 : Int)).toNat = 3 from rfl] at hx320_0)
                    replace p320 := eq_true p320
                    replace q320 := eq_true q320
                    go_wp2
                    repeat (go_quiet (fail); try go_wp2)
                    go_ret2
                    exact ⟨by first | rfl | (simp; done) | (simp [*]; done) | (simp [wrap64, wrap32]; done), by repeat (first | exact Drawn0.refl _ | apply Drawn0.step)⟩
                   ·rw [if_neg c39] at H
                    have c39b0 : decide ((wrap32 ((wrap32 ((wrap32 ((wrap32 ((wrap32 ((wrap32 ((wrap32 (rd l0 0)) - 240)) * 262144)) + (wrap32 ((wrap32 ((wrap32 (rd l0 1)) - 128)) * 4096)))) + (wrap32 ((wrap32 ((wrap32 (rd l0 2)) - 128)) * 64)))) + (wrap32 (rd l0 3)))) - 128)) ≤ 1114111) = false := decide_eq_false c39
                    clear c39
                    simp only [Option.some.injEq, Prod.mk.injEq] at H
                    obtain ⟨rfl, rfl⟩ := H
                    have p318 : 0 ≤ (1 : Int) := (by omega)
                    have q318 : 1 < (l0.length : Int) := of_decide_eq_true (by first | (with_reducible assumption) | assumption)
                    obtain ⟨ad318, e318, hx318_0⟩ := Kd.at_int HR0.out 1 p318 q318
                    obtain rfl : ad308 = ad318 := (by injection e318)
                    (try simp only [show (1 : Int).toNat = 1 from rfl, Nat.reduceMul, Nat.reduceEqDiff, Go.Addr.add, ↓reduceIte] at hx318_0)
                    have qi318 : (1 < l0.length) = True := eq_true (by omega)
                    (try rw [show ((1 : Int)).toNat = 1 from rfl] at hx318_0)
                    replace p318 := eq_true p318
                    replace q318 := eq_true q318
                    have p319 : 0 ≤ (2 : Int) := (by omega)
                    have q319 : 2 < (l0.length : Int) := of_decide_eq_true (by first | (with_reducible assumption) | assumption)
                    obtain ⟨ad319, e319, hx319_0⟩ := Kd.at_int HR0.out 2 p319 q319
                    obtain rfl : ad308 = ad319 := (by injection e319)
                    (try simp only [show (2 : Int).toNat = 2 from rfl, Nat.reduceMul, Nat.reduceEqDiff, Go.Addr.add, ↓reduceIte] at hx319_0)
                    have qi319 : (2 < l0.length) = True := eq_true (by omega)
                    (try rw [show ((2 : Int)).toNat = 2 from rfl] at hx319_0)
                    replace p319 := eq_true p319
                    replace q319 := eq_true q319
                    have p320 : 0 ≤ (3 : Int) := (by omega)
                    have q320 : 3 < (l0.length : Int) := of_decide_eq_true (by first | (with_reducible assumption) | assumption)
                    obtain ⟨ad320, e320, hx320_0⟩ := Kd.at_int HR0.out 3 p320 q320
                    obtain rfl : ad308 = ad320 := (by injection e320)
                    (try simp only [show (3 : Int).toNat = 3 from rfl, Nat.reduceMul, Nat.reduceEqDiff, Go.Addr.add, ↓reduceIte] at hx320_0)
                    have qi320 : (3 < l0.length) = True := eq_true (by omega)
                    (try rw [show ((3 : Int)).toNat = 3 from rfl] at hx320_0)
                    replace p320 := eq_true p320
                    replace q320 := eq_true q320
                    go_wp2
                    repeat (go_quiet (fail); try go_wp2)
                    go_ret2
                    exact ⟨by first | rfl | (simp; done) | (simp [*]; done) | (simp [wrap64, wrap32]; done), by repeat (first | exact Drawn0.refl _ | apply Drawn0.step)⟩
                  ·rw [if_neg c38] at H
                   have c38b0 : decide (65536 ≤ (wrap32 ((wrap32 ((wrap32 ((wrap32 ((wrap32 ((wrap32 ((wrap32 (rd l0 0)) - 240)) * 262144)) + (wrap32 ((wrap32 ((wrap32 (rd l0 1)) - 128)) * 4096)))) + (wrap32 ((wrap32 ((wrap32 (rd l0 2)) - 128)) * 64)))) + (wrap32 (rd l0 3)))) - 128))) = false := decide_eq_false c38
                   clear c38
                   simp only [Option.some.injEq, Prod.mk.injEq] at H
                   obtain ⟨rfl, rfl⟩ := H
                   have p318 : 0 ≤ (1 : Int) := (by omega)
                   have q318 : 1 < (l0.length : Int) := of_decide_eq_true (by first | (with_reducible assumption) | assumption)
                   obtain ⟨ad318, e318, hx318_0⟩ := Kd.at_int HR0.out 1 p318 q318
                   obtain rfl : ad308 = ad318 := (by injection e318)
                   (try simp only [show (1 : Int).toNat = 1 from rfl, Nat.reduceMul, Nat.reduceEqDiff, Go.Addr.add, ↓reduceIte] at hx318_0)
                   have qi318 : (1 < l0.length) = True := eq_true (by omega)
                   (try rw [show ((1 : Int)).toNat = 1 from rfl] at hx318_0)
                   replace p318 := eq_true p318
                   replace q318 := eq_true q318
                   have p319 : 0 ≤ (2 : Int) := (by omega)
                   have q319 : 2 < (l0.length : Int) := of_decide_eq_true (by first | (with_reducible assumption) | assumption)
                   obtain ⟨ad319, e319, hx319_0⟩ := Kd.at_int HR0.out 2 p319 q319
                   obtain rfl : ad308 = ad319 := (by injection e319)
                   (try simp only [show (2 : Int).toNat = 2 from rfl, Nat.reduceMul, Nat.reduceEqDiff, Go.Addr.add, ↓reduceIte] at hx319_0)
                   have qi319 : (2 < l0.length) = True := eq_true (by omega)
                   (try rw [show ((2 : Int)).toNat = 2 from rfl] at hx319_0)
                   replace p319 := eq_true p319
                   replace q319 := eq_true q319
                   have p320 : 0 ≤ (3 : Int) := (by omega)
                   have q320 : 3 < (l0.length : Int) := of_decide_eq_true (by first | (with_reducible assumption) | assumption)
                   obtain ⟨ad320, e320, hx320_0⟩ := Kd.at_int HR0.out 3 p320 q320
                   obtain rfl : ad308 = ad320 := (by injection e320)
                   (try simp only [show (3 : Int).toNat = 3 from rfl, Nat.reduceMul, Nat.reduceEqDiff, Go.Addr.add, ↓reduceIte] at hx320_0)
                   have qi320 : (3 < l0.length) = True := eq_true (by omega)
                   (try rw [show ((3 : Int)).toNat = 3 from rfl] at hx320_0)
                   replace p320 := eq_true p320
                   replace q320 := eq_true q320
                   go_wp2
                   repeat (go_quiet (fail); try go_wp2)
                   go_ret2
                   exact ⟨by first | rfl | (simp; done) | (simp [*]; done) | (simp [wrap64, wrap32]; done), by repeat (first | exact Drawn0.refl _ | apply Drawn0.step)⟩
                 ·rw [if_neg c37] at H
                  exact absurd H (by simp)
                ·rw [if_neg c36] at H
                 exact absurd H (by simp)
               ·rw [if_neg c35] at H
                exact absurd H (by simp)
              ·replace c34 := Bool.eq_false_iff.mpr c34
               subst c34
               have H1 : (some ((-1), 1)) = some (r1, r2) := by rw [if_neg (show ¬ (false = true) by decide)] at H; exact H
               clear H
               have H := H1
               clear H1
               simp only [Option.some.injEq, Prod.mk.injEq] at H
               obtain ⟨rfl, rfl⟩ := H
               go_wp2
               repeat (go_quiet (fail); try go_wp2)
               go_ret2
               exact ⟨by first | rfl | (simp; done) | (simp [*]; done) | (simp [wrap64, wrap32]; done), by repeat (first | exact Drawn0.refl _ | apply Drawn0.step)⟩
  ·rw [if_neg c3] at H
   exact absurd H (by simp)

end Go.Proofs.YtnmngglfeiifaaaGreatDoor.PListsChecks
