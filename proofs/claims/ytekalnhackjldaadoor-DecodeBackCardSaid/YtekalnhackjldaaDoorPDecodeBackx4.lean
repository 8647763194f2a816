-- Laid by a program of ours (the kit's print with words and contracts of our own beside it).
import Derived.Test.YtekalnhackjldaaDoorPDecodeBackx0
namespace Go.Proofs.YtekalnhackjldaaDoor.PDecodeBack
open Go.RowKit Go.Proofs.YtekalnhackjldaaDoor.X Go.Proofs.YtekalnhackjldaaDoorW.PrintWords Go.Proofs.YtekalnhackjldaaDoorW.PrintLast Go.Proofs.YtekalnhackjldaaDoorW.PrintMore
attribute [local go_sem] max2_int min2_int max_two min_two max_three min_three max_four min_four   -- for this text's walks alone
set_option linter.unusedVariables false
set_option linter.unusedSimpArgs false

/-! ### utf_first: function 54 -/
mutual
def utf_first.j0 : Nat → Int → Bool → Option (Int × Int × Int × Bool)
 | 0, _, _ => none
 | k + 1, x0, x11 => if x11 = true then (some (wrap32 (Go.bits .and .u8 x0 31), 1, 128, true)) else (if x0 ≥ 224 then (utf_first.j1 k x0 (decide (x0 < 240))) else (utf_first.j1 k x0 false))
def utf_first.j1 : Nat → Int → Bool → Option (Int × Int × Int × Bool)
 | 0, _, _ => none
 | k + 1, x0, x21 => if x21 = true then (some (wrap32 (Go.bits .and .u8 x0 15), 2, 2048, true)) else (if x0 ≥ 240 then (if x0 < 245 then (some (wrap32 (Go.bits .and .u8 x0 7), 3, 65536, true)) else (some (0, 0, 0, false))) else (some (0, 0, 0, false)))
end
def utf_first.f (k : Nat) (a0 : Int) : Option (Int × Int × Int × Bool) := if a0 < 128 then (some (wrap32 (a0), 0, 0, true)) else (if a0 ≥ 194 then (utf_first.j0 k a0 (decide (a0 < 224))) else (utf_first.j0 k a0 false))
theorem utf_first.mono_l : ∀ k, (∀ y0 y1, LeO (utf_first.j0 k y0 y1) (utf_first.j0 (k + 1) y0 y1)) ∧ (∀ y0 y1, LeO (utf_first.j1 k y0 y1) (utf_first.j1 (k + 1) y0 y1))
 | 0 => ⟨fun _ _ r h => by simp [utf_first.j0] at h, fun _ _ r h => by simp [utf_first.j1] at h⟩
 | k + 1 => by
  obtain ⟨ih0, ih1⟩ := utf_first.mono_l k
  refine ⟨?_, ?_⟩
  ·intro y0 y1
   unfold utf_first.j0
   repeat' first
   | (with_reducible exact ih0 _ _)
   | (with_reducible exact ih1 _ _)
   | (with_reducible exact LeO.refl _)
   | (with_reducible exact LeO.none _)
   | (with_reducible refine LeO.ite ?_ ?_)
   | (with_reducible refine LeO.bind ?_ (fun _ => ?_))
   | exact ih0 _ _
   | exact ih1 _ _
   | exact LeO.none _
   | refine LeO.ite ?_ ?_
   | refine LeO.bind ?_ (fun _ => ?_)
  ·intro y0 y1
   unfold utf_first.j1
   repeat' first
   | (with_reducible exact ih0 _ _)
   | (with_reducible exact ih1 _ _)
   | (with_reducible exact LeO.refl _)
   | (with_reducible exact LeO.none _)
   | (with_reducible refine LeO.ite ?_ ?_)
   | (with_reducible refine LeO.bind ?_ (fun _ => ?_))
   | exact ih0 _ _
   | exact ih1 _ _
   | exact LeO.none _
   | refine LeO.ite ?_ ?_
   | refine LeO.bind ?_ (fun _ => ?_)
theorem utf_first.mono : ∀ a0 k, LeO (utf_first.f k a0) (utf_first.f (k + 1) a0) := by
 intro a0 k
 obtain ⟨ih0, ih1⟩ := utf_first.mono_l k
 unfold utf_first.f
 repeat' first
   | (with_reducible exact ih0 _ _)
   | (with_reducible exact ih1 _ _)
   | (with_reducible exact LeO.refl _)
   | (with_reducible exact LeO.none _)
   | (with_reducible refine LeO.ite ?_ ?_)
   | (with_reducible refine LeO.bind ?_ (fun _ => ?_))
   | exact ih0 _ _
   | exact ih1 _ _
   | exact LeO.none _
   | refine LeO.ite ?_ ?_
   | refine LeO.bind ?_ (fun _ => ?_)
set_option maxHeartbeats 8000000 in
set_option maxRecDepth 100000 in
theorem utf_first.calls (k : Nat) (a0 : Int) (r1 : Int) (r2 : Int) (r3 : Int) (r4 : Bool) (w : World) (h : utf_first.f k a0 = some (r1, r2, r3, r4)) :
  Calls Tryd.prog 54 #[.int .u8 a0] w fun e w' => e = .returned (.tuple #[.int .i32 r1, .int .i64 r2, .int .i32 r3, .bool r4]) ∧ Drawn0 w w' := by
 have H : (if a0 < 128 then (some (wrap32 (a0), 0, 0, true)) else (if a0 ≥ 194 then (utf_first.j0 k a0 (decide (a0 < 224))) else (utf_first.j0 k a0 false))) = some (r1, r2, r3, r4) := h
 clear h
 by_cases c2 : a0 < 128
 ·rw [if_pos c2] at H
  have c2b0 : decide (a0 < 128) = true := decide_eq_true c2
  clear c2
  simp only [Option.some.injEq, Prod.mk.injEq] at H
  obtain ⟨rfl, rfl, rfl, rfl⟩ := H
  go_enter Tryd.func54, Tryd.ntmps54
  go_wp2
  refine bodyPost_ret (results_list (rs := [.tmp 2, .tmp 3, .tmp 4, .tmp 5]) rfl (by simp) (.tmp (.tmp (.tmp (.tmp .nil))))) rfl ?_
  exact ⟨by first | rfl | (simp; done) | (simp [*]; done) | (simp [wrap64, wrap32]; done), by repeat (first | exact Drawn0.refl _ | apply Drawn0.step)⟩
 ·rw [if_neg c2] at H
  have c2b0 : decide (a0 < 128) = false := decide_eq_false c2
  clear c2
  have HC3 := Aside0.mk H
  clear H
  go_enter Tryd.func54, Tryd.ntmps54
  go_upto_region 3 with (fail)
  go_cut [11] (fun v11 wc => ∃ (kq : Nat) (x11_2 : Bool), v11 = .bool x11_2 ∧ Aside0 (utf_first.j0 kq a0 x11_2 = some (r1, r2, r3, r4)) ∧ Aside0 (kq ≤ k) ∧ Drawn0 w wc)
  case first =>
   have H := HC3.out
   clear HC3
   by_cases c4 : a0 ≥ 194
   ·rw [if_pos c4] at H
    have c4b0 : decide (194 ≤ a0) = true := decide_eq_true c4
    clear c4
    (first | rw [c4b0] | (simp only [i64_w, i32_w]; rw [c4b0]) | skip)
    have H' := Aside0.mk H
    clear H
    go_wp2
    go_meet
    case rel => exact ⟨_, (decide (a0 < 224)), (by first | rfl | (simp; done) | (simp [*]; done) | (simp [wrap64, wrap32]; done)), H', ⟨by first | omega | exact Nat.le_refl _⟩, by repeat (first | exact Drawn0.refl _ | apply Drawn0.step)⟩
   ·rw [if_neg c4] at H
    have c4b0 : decide (194 ≤ a0) = false := decide_eq_false c4
    clear c4
    (first | rw [c4b0] | (simp only [i64_w, i32_w]; rw [c4b0]) | skip)
    have H' := Aside0.mk H
    clear H
    go_wp2
    go_meet
    case rel => exact ⟨_, (false), (by first | rfl | (simp; done) | (simp [*]; done) | (simp [wrap64, wrap32]; done)), H', ⟨by first | omega | exact Nat.le_refl _⟩, by repeat (first | exact Drawn0.refl _ | apply Drawn0.step)⟩
  case rest =>
   clear HC3
   try clear c2
   try clear c2b0
   try clear p2
   try clear p3
   try clear c4
   try clear c4b0
   obtain ⟨kq, x11_2, rfl, HA, HJ2, ⟨mc2, rfl⟩⟩ := hcut
   cases kq with
   | zero => exact absurd HA.out (by simp [utf_first.j0])
   | succ kj2 =>
    have H := HA.out
    clear HA
    simp only [utf_first.j0] at H
    by_cases c5 : x11_2 = true
    ·subst c5
     have H1 : (some (wrap32 (Go.bits .and .u8 a0 31), 1, 128, true)) = some (r1, r2, r3, r4) := by rw [if_pos rfl] at H; exact H
     clear H
     have H := H1
     clear H1
     simp only [Option.some.injEq, Prod.mk.injEq] at H
     obtain ⟨rfl, rfl, rfl, rfl⟩ := H
     go_wp2
     refine bodyPost_ret (results_list (rs := [.tmp 2, .tmp 3, .tmp 4, .tmp 5]) rfl (by simp) (.tmp (.tmp (.tmp (.tmp .nil))))) rfl ?_
     exact ⟨by first | rfl | (simp; done) | (simp [*]; done) | (simp [wrap64, wrap32]; done), by repeat (first | exact Drawn0.refl _ | apply Drawn0.step)⟩
    ·replace c5 := Bool.eq_false_iff.mpr c5
     subst c5
     have H1 : (if a0 ≥ 224 then (utf_first.j1 kj2 a0 (decide (a0 < 240))) else (utf_first.j1 kj2 a0 false)) = some (r1, r2, r3, r4) := by rw [if_neg (show ¬ (false = true) by decide)] at H; exact H
     clear H
     have H := H1
     clear H1
     have HC6 := Aside0.mk H
     clear H
     go_upto_region 5 with (fail)
     go_cut [21] (fun v21 wc => ∃ (kq : Nat) (x21_5 : Bool), v21 = .bool x21_5 ∧ Aside0 (utf_first.j1 kq a0 x21_5 = some (r1, r2, r3, r4)) ∧ Aside0 (kq ≤ kj2) ∧ Drawn0 w wc)
     case first =>
      have H := HC6.out
      clear HC6
      by_cases c7 : a0 ≥ 224
      ·rw [if_pos c7] at H
       have c7b0 : decide (224 ≤ a0) = true := decide_eq_true c7
       clear c7
       (first | rw [c7b0] | (simp only [i64_w, i32_w]; rw [c7b0]) | skip)
       have H' := Aside0.mk H
       clear H
       go_wp2
       go_meet
       case rel => exact ⟨_, (decide (a0 < 240)), (by first | rfl | (simp; done) | (simp [*]; done) | (simp [wrap64, wrap32]; done)), H', ⟨by have := HJ2.out; first | omega | exact Nat.le_refl _⟩, by repeat (first | exact Drawn0.refl _ | apply Drawn0.step)⟩
      ·rw [if_neg c7] at H
       have c7b0 : decide (224 ≤ a0) = false := decide_eq_false c7
       clear c7
       (first | rw [c7b0] | (simp only [i64_w, i32_w]; rw [c7b0]) | skip)
       have H' := Aside0.mk H
       clear H
       go_wp2
       go_meet
       case rel => exact ⟨_, (false), (by first | rfl | (simp; done) | (simp [*]; done) | (simp [wrap64, wrap32]; done)), H', ⟨by have := HJ2.out; first | omega | exact Nat.le_refl _⟩, by repeat (first | exact Drawn0.refl _ | apply Drawn0.step)⟩
     case rest =>
      clear HC6
      try clear c2
      try clear c2b0
      try clear p2
      try clear p3
      try clear c4
      try clear c4b0
      try clear c5
      try clear c7
      try clear c7b0
      try clear p2
      try clear p3
      obtain ⟨kq, x21_5, rfl, HA, HJ5, ⟨mc5, rfl⟩⟩ := hcut
      cases kq with
      | zero => exact absurd HA.out (by simp [utf_first.j1])
      | succ kj5 =>
       have H := HA.out
       clear HA
       simp only [utf_first.j1] at H
       by_cases c8 : x21_5 = true
       ·subst c8
        have H1 : (some (wrap32 (Go.bits .and .u8 a0 15), 2, 2048, true)) = some (r1, r2, r3, r4) := by rw [if_pos rfl] at H; exact H
        clear H
        have H := H1
        clear H1
        simp only [Option.some.injEq, Prod.mk.injEq] at H
        obtain ⟨rfl, rfl, rfl, rfl⟩ := H
        go_wp2
        refine bodyPost_ret (results_list (rs := [.tmp 2, .tmp 3, .tmp 4, .tmp 5]) rfl (by simp) (.tmp (.tmp (.tmp (.tmp .nil))))) rfl ?_
        exact ⟨by first | rfl | (simp; done) | (simp [*]; done) | (simp [wrap64, wrap32]; done), by repeat (first | exact Drawn0.refl _ | apply Drawn0.step)⟩
       ·replace c8 := Bool.eq_false_iff.mpr c8
        subst c8
        have H1 : (if a0 ≥ 240 then (if a0 < 245 then (some (wrap32 (Go.bits .and .u8 a0 7), 3, 65536, true)) else (some (0, 0, 0, false))) else (some (0, 0, 0, false))) = some (r1, r2, r3, r4) := by rw [if_neg (show ¬ (false = true) by decide)] at H; exact H
        clear H
        have H := H1
        clear H1
        by_cases c9 : a0 ≥ 240
        ·rw [if_pos c9] at H
         have c9b0 : decide (240 ≤ a0) = true := decide_eq_true c9
         clear c9
         by_cases c10 : a0 < 245
         ·rw [if_pos c10] at H
          have c10b0 : decide (a0 < 245) = true := decide_eq_true c10
          clear c10
          simp only [Option.some.injEq, Prod.mk.injEq] at H
          obtain ⟨rfl, rfl, rfl, rfl⟩ := H
          go_wp2
          refine bodyPost_ret (results_list (rs := [.tmp 2, .tmp 3, .tmp 4, .tmp 5]) rfl (by simp) (.tmp (.tmp (.tmp (.tmp .nil))))) rfl ?_
          exact ⟨by first | rfl | (simp; done) | (simp [*]; done) | (simp [wrap64, wrap32]; done), by repeat (first | exact Drawn0.refl _ | apply Drawn0.step)⟩
         ·rw [if_neg c10] at H
          have c10b0 : decide (a0 < 245) = false := decide_eq_false c10
          clear c10
          simp only [Option.some.injEq, Prod.mk.injEq] at H
          obtain ⟨rfl, rfl, rfl, rfl⟩ := H
          go_wp2
          refine bodyPost_ret (results_list (rs := [.tmp 2, .tmp 3, .tmp 4, .tmp 5]) rfl (by simp) (.tmp (.tmp (.tmp (.tmp .nil))))) rfl ?_
          exact ⟨by first | rfl | (simp; done) | (simp [*]; done) | (simp [wrap64, wrap32]; done), by repeat (first | exact Drawn0.refl _ | apply Drawn0.step)⟩
        ·rw [if_neg c9] at H
         have c9b0 : decide (240 ≤ a0) = false := decide_eq_false c9
         clear c9
         simp only [Option.some.injEq, Prod.mk.injEq] at H
         obtain ⟨rfl, rfl, rfl, rfl⟩ := H
         go_wp2
         refine bodyPost_ret (results_list (rs := [.tmp 2, .tmp 3, .tmp 4, .tmp 5]) rfl (by simp) (.tmp (.tmp (.tmp (.tmp .nil))))) rfl ?_
         exact ⟨by first | rfl | (simp; done) | (simp [*]; done) | (simp [wrap64, wrap32]; done), by repeat (first | exact Drawn0.refl _ | apply Drawn0.step)⟩

/-! ### utf_Next: function 41 -/
mutual
def utf_Next.j0 : Nat → List Int → Int → Int → Int → Bool → Option (Int × Int)
 | 0, _, _, _, _, _ => none
 | k + 1, x0, x4, x5, x6, x29 => if x29 = true then (some ((-1), 1)) else (if 1 ≤ (wrap64 (1 + x5)) then (if (wrap64 (1 + x5)) ≤ (x0.length : Int) then ((some ((x0.take ((wrap64 (1 + x5)) : Int).toNat).drop 1 : List Int)).bind fun y119 => (utf_Next.l0 k x4 x5 x6 y119 (y119.length : Int) 0)) else (none)) else (none))
def utf_Next.l0 : Nat → Int → Int → Int → List Int → Int → Int → Option (Int × Int)
 | 0, _, _, _, _, _, _ => none
 | k + 1, x4, x5, x6, x33, x34, x35 => if x35 < x34 then (if 0 ≤ x35 then (if x35 < (x33.length : Int) then (if (Go.bits .and .u8 (rd x33 x35) 192) = 128 then (utf_Next.l0 k (Go.bits .or .i32 (wrap32 (x4 * 64)) (wrap32 (Go.bits .and .u8 (rd x33 x35) 63))) x5 x6 x33 x34 (wrap64 (x35 + 1))) else (some ((-1), 1))) else (none)) else (none)) else (if x4 < x6 then (some ((-1), 1)) else (if x4 > 1114111 then (some ((-1), 1)) else (if x4 ≥ 55296 then (if x4 < 57344 then (some ((-1), 1)) else (some (x4, wrap64 (1 + x5)))) else (some (x4, wrap64 (1 + x5))))))
end
def utf_Next.f (k : Nat) (l0 : List Int) : Option (Int × Int) := if (l0.length : Int) = 0 then (some ((-1), 0)) else (if 0 < (l0.length : Int) then ((utf_first.f k (rd l0 0)).bind fun bt115 => (if bt115.2.2.2 = true then (utf_Next.j0 k l0 bt115.1 bt115.2.1 bt115.2.2.1 (decide ((l0.length : Int) ≤ bt115.2.1))) else (utf_Next.j0 k l0 bt115.1 bt115.2.1 bt115.2.2.1 true))) else (none))
theorem utf_Next.mono_l : ∀ k, (∀ y0 y1 y2 y3 y4, LeO (utf_Next.j0 k y0 y1 y2 y3 y4) (utf_Next.j0 (k + 1) y0 y1 y2 y3 y4)) ∧ (∀ y0 y1 y2 y3 y4 y5, LeO (utf_Next.l0 k y0 y1 y2 y3 y4 y5) (utf_Next.l0 (k + 1) y0 y1 y2 y3 y4 y5))
 | 0 => ⟨fun _ _ _ _ _ r h => by simp [utf_Next.j0] at h, fun _ _ _ _ _ _ r h => by simp [utf_Next.l0] at h⟩
 | k + 1 => by
  obtain ⟨ih0, ih1⟩ := utf_Next.mono_l k
  refine ⟨?_, ?_⟩
  ·intro y0 y1 y2 y3 y4
   unfold utf_Next.j0
   repeat' first
   | (with_reducible exact ih0 _ _ _ _ _)
   | (with_reducible exact ih1 _ _ _ _ _ _)
   | (with_reducible exact utf_first.mono _ _)
   | (with_reducible exact LeO.refl _)
   | (with_reducible exact LeO.none _)
   | (with_reducible refine LeO.ite ?_ ?_)
   | (with_reducible refine LeO.bind ?_ (fun _ => ?_))
   | exact ih0 _ _ _ _ _
   | exact ih1 _ _ _ _ _ _
   | exact utf_first.mono _ _
   | exact LeO.none _
   | refine LeO.ite ?_ ?_
   | refine LeO.bind ?_ (fun _ => ?_)
  ·intro y0 y1 y2 y3 y4 y5
   unfold utf_Next.l0
   repeat' first
   | (with_reducible exact ih0 _ _ _ _ _)
   | (with_reducible exact ih1 _ _ _ _ _ _)
   | (with_reducible exact utf_first.mono _ _)
   | (with_reducible exact LeO.refl _)
   | (with_reducible exact LeO.none _)
   | (with_reducible refine LeO.ite ?_ ?_)
   | (with_reducible refine LeO.bind ?_ (fun _ => ?_))
   | exact ih0 _ _ _ _ _
   | exact ih1 _ _ _ _ _ _
   | exact utf_first.mono _ _
   | exact LeO.none _
   | refine LeO.ite ?_ ?_
   | refine LeO.bind ?_ (fun _ => ?_)
theorem utf_Next.mono : ∀ a0 k, LeO (utf_Next.f k a0) (utf_Next.f (k + 1) a0) := by
 intro a0 k
 obtain ⟨ih0, ih1⟩ := utf_Next.mono_l k
 unfold utf_Next.f
 repeat' first
   | (with_reducible exact ih0 _ _ _ _ _)
   | (with_reducible exact ih1 _ _ _ _ _ _)
   | (with_reducible exact utf_first.mono _ _)
   | (with_reducible exact LeO.refl _)
   | (with_reducible exact LeO.none _)
   | (with_reducible refine LeO.ite ?_ ?_)
   | (with_reducible refine LeO.bind ?_ (fun _ => ?_))
   | exact ih0 _ _ _ _ _
   | exact ih1 _ _ _ _ _ _
   | exact utf_first.mono _ _
   | exact LeO.none _
   | refine LeO.ite ?_ ?_
   | refine LeO.bind ?_ (fun _ => ?_)
set_option maxHeartbeats 8000000 in
set_option maxRecDepth 100000 in
theorem utf_Next.calls (k : Nat) (A0 : Option Addr) (c0 : Nat) (l0 : List Int) (r1 : Int) (r2 : Int) (w : World) (hr0 : Kd.C (Kd.int .u8) w A0 l0.length l0) (hc0 : l0.length ≤ c0) (h : utf_Next.f k l0 = some (r1, r2)) :
  Calls Tryd.prog 41 #[.slice A0 l0.length c0] w fun e w' => e = .returned (.tuple #[.int .i32 r1, .int .i64 r2]) ∧ Drawn0 w w' := by
 have HR0 := Aside0.mk hr0
 have HC0 := Aside0.mk hc0
 clear hr0 hc0
 have H : (if (l0.length : Int) = 0 then (some ((-1), 0)) else (if 0 < (l0.length : Int) then ((utf_first.f k (rd l0 0)).bind fun bt115 => (if bt115.2.2.2 = true then (utf_Next.j0 k l0 bt115.1 bt115.2.1 bt115.2.2.1 (decide ((l0.length : Int) ≤ bt115.2.1))) else (utf_Next.j0 k l0 bt115.1 bt115.2.1 bt115.2.2.1 true))) else (none))) = some (r1, r2) := h
 clear h
 by_cases c2 : (l0.length : Int) = 0
 ·rw [if_pos c2] at H
  have c2b0 : ((l0.length : Int) == 0) = true := beq_iff_eq.mpr c2
  have c2b1 : ((l0.length : Int) != 0) = false := bne_eq_false_iff_eq.mpr c2
  clear c2
  simp only [Option.some.injEq, Prod.mk.injEq] at H
  obtain ⟨rfl, rfl⟩ := H
  go_enter Tryd.func41, Tryd.ntmps41
  go_wp2
  go_ret2
  exact ⟨by first | rfl | (simp; done) | (simp [*]; done) | (simp [wrap64, wrap32]; done), by repeat (first | exact Drawn0.refl _ | apply Drawn0.step)⟩
 ·rw [if_neg c2] at H
  have c2b0 : ((l0.length : Int) == 0) = false := beq_eq_false_iff_ne.mpr c2
  have c2b1 : ((l0.length : Int) != 0) = true := bne_iff_ne.mpr c2
  have c2b2 : ¬ (l0 = []) := fun h_ => c2 (by rw [h_]; rfl)
  by_cases c3 : 0 < (l0.length : Int)
  ·rw [if_pos c3] at H
   have c3b0 : decide (0 < (l0.length : Int)) = true := decide_eq_true c3
   have c3b1 : decide (0 < l0.length) = true := decide_eq_true (by omega)
   clear c3
   replace H := Option.bind_eq_some_iff.mp H
   obtain ⟨⟨t115, t116, t117, t118⟩, A40, H⟩ := H
   replace H : (if t118 = true then (utf_Next.j0 k l0 t115 t116 t117 (decide ((l0.length : Int) ≤ t116))) else (utf_Next.j0 k l0 t115 t116 t117 true)) = some (r1, r2) := H
   have A4 := Aside0.mk A40
   clear A40
   have HC5 := Aside0.mk H
   clear H
   have p114 : 0 ≤ (0 : Int) := (by omega)
   have q114 : 0 < (l0.length : Int) := of_decide_eq_true (by first | (with_reducible assumption) | assumption)
   obtain ⟨ad114, e114, hx114_0⟩ := Kd.at_int HR0.out 0 p114 q114
   cases e114
   have qi114 : (0 < l0.length) = True := eq_true (by omega)
   (try rw [show ((0 : Int)).toNat = 0 from rfl] at hx114_0)
   (try rw [Addr.add_zero'] at hx114_0)
   replace p114 := eq_true p114
   replace q114 := eq_true q114
   go_enter Tryd.func41, Tryd.ntmps41
   go_upto_region 4 with (first | ((with_reducible refine gate_callee (f := 54) rfl ?_); refine goesL_ (some 17) rfl rfl Tryd.func54 (by kernel_rfl) rfl #[.int .u8 (rd l0 0)] rfl (by (try simp only [List.map_toArray, List.map_cons, List.map_nil]); first | done | rfl | (simp only [List.length_drop, List.length_take]; rfl)) ?_; (with_reducible refine (utf_first.calls k (rd l0 0) t115 t116 t117 t118 _ A4.out).mono ?_); rintro e w' ⟨rfl, ⟨nd, rfl⟩⟩; refine ⟨_, rfl, ?_⟩))
   (try simp only [Act.put, List.setIfInBounds_toArray, List.set_cons_zero, List.set_cons_succ])
   go_cut [29] (fun v29 wc => ∃ (kq : Nat) (x29_4 : Bool), v29 = .bool x29_4 ∧ Aside0 (utf_Next.j0 kq l0 t115 t116 t117 x29_4 = some (r1, r2)) ∧ Aside0 (kq ≤ k) ∧ Drawn0 w wc)
   case first =>
    have H := HC5.out
    clear HC5
    by_cases c6 : t118 = true
    ·subst c6
     have H1 : (utf_Next.j0 k l0 t115 t116 t117 (decide ((l0.length : Int) ≤ t116))) = some (r1, r2) := by rw [if_pos rfl] at H; exact H
     clear H
     have H := H1
     clear H1
     have H' := Aside0.mk H
     clear H
     go_wp2
     go_meet
     case rel => exact ⟨_, (decide ((l0.length : Int) ≤ t116)), (by first | rfl | (simp; done) | (simp [*]; done) | (simp [wrap64, wrap32]; done)), H', ⟨by first | omega | exact Nat.le_refl _⟩, by repeat (first | exact Drawn0.refl _ | apply Drawn0.step)⟩
    ·replace c6 := Bool.eq_false_iff.mpr c6
     subst c6
     have H1 : (utf_Next.j0 k l0 t115 t116 t117 true) = some (r1, r2) := by rw [if_neg (show ¬ (false = true) by decide)] at H; exact H
     clear H
     have H := H1
     clear H1
     have H' := Aside0.mk H
     clear H
     go_wp2
     go_meet
     case rel => exact ⟨_, (true), (by first | rfl | (simp; done) | (simp [*]; done) | (simp [wrap64, wrap32]; done)), H', ⟨by first | omega | exact Nat.le_refl _⟩, by repeat (first | exact Drawn0.refl _ | apply Drawn0.step)⟩
   case rest =>
    clear HC5
    try clear p1
    try clear q1
    try clear hx1
    try clear qi1
    try clear c2
    try clear c2b0
    try clear c2b1
    try clear c2b2
    try clear p2
    try clear c3
    try clear c3b0
    try clear c3b1
    try clear c4
    try clear c5
    try clear c6
    try clear hx114_0
    try clear p114
    try clear q114
    obtain ⟨kq, x29_4, rfl, HA, HJ4, ⟨mc4, rfl⟩⟩ := hcut
    cases kq with
    | zero => exact absurd HA.out (by simp [utf_Next.j0])
    | succ kj4 =>
     have H := HA.out
     clear HA
     simp only [utf_Next.j0] at H
     by_cases c7 : x29_4 = true
     ·subst c7
      have H1 : (some ((-1), 1)) = some (r1, r2) := by rw [if_pos rfl] at H; exact H
      clear H
      have H := H1
      clear H1
      simp only [Option.some.injEq, Prod.mk.injEq] at H
      obtain ⟨rfl, rfl⟩ := H
      go_wp2
      go_ret2
      exact ⟨by first | rfl | (simp; done) | (simp [*]; done) | (simp [wrap64, wrap32]; done), by repeat (first | exact Drawn0.refl _ | apply Drawn0.step)⟩
     ·replace c7 := Bool.eq_false_iff.mpr c7
      subst c7
      have H1 : (if 1 ≤ (wrap64 (1 + t116)) then (if (wrap64 (1 + t116)) ≤ (l0.length : Int) then ((some ((l0.take ((wrap64 (1 + t116)) : Int).toNat).drop 1 : List Int)).bind fun y119 => (utf_Next.l0 kj4 t115 t116 t117 y119 (y119.length : Int) 0)) else (none)) else (none)) = some (r1, r2) := by rw [if_neg (show ¬ (false = true) by decide)] at H; exact H
      clear H
      have H := H1
      clear H1
      by_cases c8 : 1 ≤ (wrap64 (1 + t116))
      ·rw [if_pos c8] at H
       have c8b0 := eq_true c8
       have c8b1 : decide (1 ≤ (wrap64 (1 + t116))) = true := decide_eq_true c8
       by_cases c9 : (wrap64 (1 + t116)) ≤ (l0.length : Int)
       ·rw [if_pos c9] at H
        have c9b0 := eq_true c9
        have c9b1 : decide ((wrap64 (1 + t116)) ≤ (l0.length : Int)) = true := decide_eq_true c9
        obtain ⟨y119, hy119⟩ : ∃ y_ : List Int, y_ = ((l0.take ((wrap64 (1 + t116)) : Int).toNat).drop 1) := ⟨_, rfl⟩
        replace H : (utf_Next.l0 kj4 t115 t116 t117 y119 (y119.length : Int) 0) = some (r1, r2) := by first | (rw [hy119]; with_reducible exact H) | (have H2_ := (Option.bind_some _ _).symm.trans H; rw [hy119]; with_reducible exact H2_) | (have H2_ := (Option.bind_some _ _).symm.trans H; with_reducible exact H2_) | with_reducible exact H | (rw [hy119]; exact H) | exact H
        have Ny119 := Aside0.mk hy119
        clear hy119
        have H' := Aside0.mk H
        clear H
        have q10 : ((wrap64 (1 + t116)) : Int) ≤ ((l0.length : Int) : Int) := of_decide_eq_true (by first | (with_reducible assumption) | assumption)
        obtain ⟨i010, hi010, _, hsz10, _⟩ := info_parts info5
        have hroom10 : l0.length ≤ c0 := HC0.out
        have hC10 : Kd.C (Kd.int .u8) _ (some ad114) l0.length l0 := HR0.out
        have ql10 : (1 : Int) ≤ ((wrap64 (1 + t116)) : Int) := of_decide_eq_true (by first | (with_reducible assumption) | assumption)
        have hcut10 := cut_mid (P := Tryd.prog) 22 5 .i64 .i64 Tryd.underlying22 hi010 1 hsz10 (some ad114) l0.length c0 1 (wrap64 (1 + t116)) (by omega) ql10 q10 hroom10
        have hr10 := Kd.C_mid (lo := (1 : Int).toNat) (hi := ((wrap64 (1 + t116)) : Int).toNat) (c := c0) hC10 (by omega) (by omega) hroom10
        obtain ⟨A10, hA10⟩ : ∃ A1z_, A1z_ = (if c0 = (1 : Int).toNat then (some ad114) else ((some ad114) : Option Addr).map (·.add ((1 : Int).toNat * 1))) := ⟨_, rfl⟩
        obtain ⟨c10, hc10⟩ : ∃ c1z_, c1z_ = c0 - (1 : Int).toNat := ⟨_, rfl⟩
        have hy10 : y119.length = ((wrap64 (1 + t116)) : Int).toNat - (1 : Int).toNat := (by rw [Ny119.out, List.length_drop, List.length_take] <;> omega)
        rw [show ((l0).take ((wrap64 (1 + t116)) : Int).toNat).drop (1 : Int).toNat = y119 from Ny119.out.symm] at hr10
        replace hr10 : Kd.C (Kd.int .u8) _ A10 y119.length y119 := (by rw [hA10]; exact hr10)
        rw [← hy10, ← hA10, ← hc10] at hcut10
        have HR122 := Aside0.mk hr10
        have HC122 := Aside0.mk (show y119.length ≤ c10 from by rw [hy10, hc10]; exact Nat.sub_le_sub_right (Nat.le_trans (by omega) hroom10) _)
        clear hr10 hC10 hroom10 hi010 hsz10 hc10
        have KY10 := Aside0.mk hy10
        have KA10 := Aside0.mk hA10
        clear hy10 hA10
        replace q10 := eq_true q10
        go_wp2
        go_loopg [4, 35] kj4 (fun kq v4 v35 w' => ∃ (x4_2 : Int) (x35_2 : Int), v4 = .int .i32 x4_2 ∧ v35 = .int .i64 x35_2 ∧ Aside0 (utf_Next.l0 kq x4_2 t116 t117 y119 (y119.length : Int) x35_2 = some (r1, r2)) ∧ Aside0 (kq ≤ kj4) ∧ Drawn0 w w')
        case atStart => exact ⟨(t115), (0), (by first | rfl | (simp; done) | (simp [*]; done) | (simp [wrap64, wrap32]; done)), (by first | rfl | (simp; done) | (simp [*]; done) | (simp [wrap64, wrap32]; done)), H', ⟨Nat.le_refl _⟩, by repeat (first | exact Drawn0.refl _ | apply Drawn0.step)⟩
        case round =>
         clear H'
         try clear c1
         try clear p1
         try clear q1
         try clear hx1
         try clear qi1
         try clear c2
         try clear c2b0
         try clear c2b1
         try clear c2b2
         try clear p2
         try clear c3
         try clear c3b0
         try clear c3b1
         try clear c4
         try clear c5
         try clear c6
         try clear p6
         try clear c7
         try clear c8
         try clear c8b0
         try clear c8b1
         try clear c9
         try clear c9b0
         try clear c9b1
         try clear c10
         try clear q10
         try clear hx114_0
         try clear p1
         try clear p114
         try clear p2
         try clear q1
         try clear q10
         try clear q114
         obtain ⟨x4_2, x35_2, rfl, rfl, HA, HK2, ⟨m2, rfl⟩⟩ := hrel
         cases gk with
         | zero => exact absurd HA.out (by simp [utf_Next.l0])
         | succ k2 =>
          have H := HA.out
          clear HA
          simp only [utf_Next.l0] at H
          by_cases c11 : x35_2 < (y119.length : Int)
          ·rw [if_pos c11] at H
           have c11b0 : decide (x35_2 < (y119.length : Int)) = true := decide_eq_true c11
           clear c11
           by_cases c12 : 0 ≤ x35_2
           ·rw [if_pos c12] at H
            have c12b0 : decide (0 ≤ x35_2) = true := decide_eq_true c12
            clear c12
            by_cases c13 : x35_2 < (y119.length : Int)
            ·rw [if_pos c13] at H
             have c13b0 : decide (x35_2 < (y119.length : Int)) = true := decide_eq_true c13
             clear c13
             by_cases c14 : (Go.bits .and .u8 (rd y119 x35_2) 192) = 128
             ·rw [if_pos c14] at H
              have c14b0 : ((Go.bits .and .u8 (rd y119 x35_2) 192) == 128) = true := beq_iff_eq.mpr c14
              have c14b1 : ((Go.bits .and .u8 (rd y119 x35_2) 192) != 128) = false := bne_eq_false_iff_eq.mpr c14
              clear c14
              have H' := Aside0.mk H
              clear H
              have p123 : 0 ≤ (x35_2 : Int) := of_decide_eq_true (by first | (with_reducible assumption) | assumption)
              have q123 : x35_2 < (y119.length : Int) := of_decide_eq_true (by first | (with_reducible assumption) | assumption)
              obtain ⟨ad123, e123, hx123_0⟩ := Kd.at_int HR122.out x35_2 p123 q123
              cases e123
              replace p123 := eq_true p123
              replace q123 := eq_true q123
              go_wp2
              go_roundg k2
              case measure => have := HJ4.out; have := HK2.out; omega
              case rel => exact ⟨(Go.bits .or .i32 (wrap32 (x4_2 * 64)) (wrap32 (Go.bits .and .u8 (rd y119 x35_2) 63))), (wrap64 (x35_2 + 1)), (by first | rfl | (simp; done) | (simp [*]; done) | (simp [wrap64, wrap32]; done)), (by first | rfl | (simp; done) | (simp [*]; done) | (simp [wrap64, wrap32]; done)), H', ⟨by have := HJ4.out; have := HK2.out; omega⟩, by repeat (first | exact Drawn0.refl _ | apply Drawn0.step)⟩
             ·rw [if_neg c14] at H
              have c14b0 : ((Go.bits .and .u8 (rd y119 x35_2) 192) == 128) = false := beq_eq_false_iff_ne.mpr c14
              have c14b1 : ((Go.bits .and .u8 (rd y119 x35_2) 192) != 128) = true := bne_iff_ne.mpr c14
              simp only [Option.some.injEq, Prod.mk.injEq] at H
              obtain ⟨rfl, rfl⟩ := H
              have p123 : 0 ≤ (x35_2 : Int) := of_decide_eq_true (by first | (with_reducible assumption) | assumption)
              have q123 : x35_2 < (y119.length : Int) := of_decide_eq_true (by first | (with_reducible assumption) | assumption)
              obtain ⟨ad123, e123, hx123_0⟩ := Kd.at_int HR122.out x35_2 p123 q123
              cases e123
              replace p123 := eq_true p123
              replace q123 := eq_true q123
              go_wp2
              go_ret2
              exact ⟨by first | rfl | (simp; done) | (simp [*]; done) | (simp [wrap64, wrap32]; done), by repeat (first | exact Drawn0.refl _ | apply Drawn0.step)⟩
            ·rw [if_neg c13] at H
             exact absurd H (by simp)
           ·rw [if_neg c12] at H
            exact absurd H (by simp)
          ·rw [if_neg c11] at H
           have c11b0 : decide (x35_2 < (y119.length : Int)) = false := decide_eq_false c11
           clear c11
           by_cases c15 : x4_2 < t117
           ·rw [if_pos c15] at H
            have c15b0 : decide (x4_2 < t117) = true := decide_eq_true c15
            clear c15
            simp only [Option.some.injEq, Prod.mk.injEq] at H
            obtain ⟨rfl, rfl⟩ := H
            go_wp2
            go_ret2
            exact ⟨by first | rfl | (simp; done) | (simp [*]; done) | (simp [wrap64, wrap32]; done), by repeat (first | exact Drawn0.refl _ | apply Drawn0.step)⟩
           ·rw [if_neg c15] at H
            have c15b0 : decide (x4_2 < t117) = false := decide_eq_false c15
            clear c15
            by_cases c16 : x4_2 > 1114111
            ·rw [if_pos c16] at H
             have c16b0 : decide (1114111 < x4_2) = true := decide_eq_true c16
             clear c16
             simp only [Option.some.injEq, Prod.mk.injEq] at H
             obtain ⟨rfl, rfl⟩ := H
             go_wp2
             go_ret2
             exact ⟨by first | rfl | (simp; done) | (simp [*]; done) | (simp [wrap64, wrap32]; done), by repeat (first | exact Drawn0.refl _ | apply Drawn0.step)⟩
            ·rw [if_neg c16] at H
             have c16b0 : decide (1114111 < x4_2) = false := decide_eq_false c16
             clear c16
             by_cases c17 : x4_2 ≥ 55296
             ·rw [if_pos c17] at H
              have c17b0 : decide (55296 ≤ x4_2) = true := decide_eq_true c17
              clear c17
              by_cases c18 : x4_2 < 57344
              ·rw [if_pos c18] at H
               have c18b0 : decide (x4_2 < 57344) = true := decide_eq_true c18
               clear c18
               simp only [Option.some.injEq, Prod.mk.injEq] at H
               obtain ⟨rfl, rfl⟩ := H
               go_wp2
               go_ret2
               exact ⟨by first | rfl | (simp; done) | (simp [*]; done) | (simp [wrap64, wrap32]; done), by repeat (first | exact Drawn0.refl _ | apply Drawn0.step)⟩
              ·rw [if_neg c18] at H
               have c18b0 : decide (x4_2 < 57344) = false := decide_eq_false c18
               clear c18
               simp only [Option.some.injEq, Prod.mk.injEq] at H
               obtain ⟨rfl, rfl⟩ := H
               go_wp2
               go_ret2
               exact ⟨by first | rfl | (simp; done) | (simp [*]; done) | (simp [wrap64, wrap32]; done), by repeat (first | exact Drawn0.refl _ | apply Drawn0.step)⟩
             ·rw [if_neg c17] at H
              have c17b0 : decide (55296 ≤ x4_2) = false := decide_eq_false c17
              clear c17
              simp only [Option.some.injEq, Prod.mk.injEq] at H
              obtain ⟨rfl, rfl⟩ := H
              go_wp2
              go_ret2
              exact ⟨by first | rfl | (simp; done) | (simp [*]; done) | (simp [wrap64, wrap32]; done), by repeat (first | exact Drawn0.refl _ | apply Drawn0.step)⟩
       ·rw [if_neg c9] at H
        exact absurd H (by simp)
      ·rw [if_neg c8] at H
       exact absurd H (by simp)
  ·rw [if_neg c3] at H
   exact absurd H (by simp)

/-! ### decode_punct: function 53 -/
def decode_punct.f (a0 : Int) : Option (Bool) := if a0 > 32 then (if a0 < 127 then (if a0 ≥ 48 then (if a0 ≤ 57 then (some (!true)) else (if a0 ≥ 97 then (if a0 ≤ 122 then (some (!true)) else (if a0 ≥ 65 then (some (!(decide (a0 ≤ 90)))) else (some (!false)))) else (if a0 ≥ 65 then (some (!(decide (a0 ≤ 90)))) else (some (!false))))) else (if a0 ≥ 97 then (if a0 ≤ 122 then (some (!true)) else (if a0 ≥ 65 then (some (!(decide (a0 ≤ 90)))) else (some (!false)))) else (if a0 ≥ 65 then (some (!(decide (a0 ≤ 90)))) else (some (!false))))) else (some false)) else (some false)
set_option maxHeartbeats 8000000 in
set_option maxRecDepth 100000 in
theorem decode_punct.calls (a0 : Int) (r : Bool) (w : World) (h : decode_punct.f a0 = some r) :
  Calls Tryd.prog 53 #[.int .u8 a0] w fun e w' => e = .returned (.bool r) ∧ Drawn0 w w' := by
 have H : (if a0 > 32 then (if a0 < 127 then (if a0 ≥ 48 then (if a0 ≤ 57 then (some (!true)) else (if a0 ≥ 97 then (if a0 ≤ 122 then (some (!true)) else (if a0 ≥ 65 then (some (!(decide (a0 ≤ 90)))) else (some (!false)))) else (if a0 ≥ 65 then (some (!(decide (a0 ≤ 90)))) else (some (!false))))) else (if a0 ≥ 97 then (if a0 ≤ 122 then (some (!true)) else (if a0 ≥ 65 then (some (!(decide (a0 ≤ 90)))) else (some (!false)))) else (if a0 ≥ 65 then (some (!(decide (a0 ≤ 90)))) else (some (!false))))) else (some false)) else (some false)) = some r := h
 clear h
 by_cases c2 : a0 > 32
 ·rw [if_pos c2] at H
  have c2b0 : decide (32 < a0) = true := decide_eq_true c2
  clear c2
  by_cases c3 : a0 < 127
  ·rw [if_pos c3] at H
   have c3b0 : decide (a0 < 127) = true := decide_eq_true c3
   clear c3
   by_cases c4 : a0 ≥ 48
   ·rw [if_pos c4] at H
    have c4b0 : decide (48 ≤ a0) = true := decide_eq_true c4
    clear c4
    by_cases c5 : a0 ≤ 57
    ·rw [if_pos c5] at H
     have c5b0 : decide (a0 ≤ 57) = true := decide_eq_true c5
     clear c5
     obtain rfl := Option.some.inj H
     go_enter Tryd.func53, Tryd.ntmps53
     go_wp2
     go_ret
     exact ⟨by first | rfl | (simp; done) | (simp [*]; done) | (simp [wrap64, wrap32]; done), by repeat (first | exact Drawn0.refl _ | apply Drawn0.step)⟩
    ·rw [if_neg c5] at H
     have c5b0 : decide (a0 ≤ 57) = false := decide_eq_false c5
     clear c5
     by_cases c6 : a0 ≥ 97
     ·rw [if_pos c6] at H
      have c6b0 : decide (97 ≤ a0) = true := decide_eq_true c6
      clear c6
      by_cases c7 : a0 ≤ 122
      ·rw [if_pos c7] at H
       have c7b0 : decide (a0 ≤ 122) = true := decide_eq_true c7
       clear c7
       obtain rfl := Option.some.inj H
       go_enter Tryd.func53, Tryd.ntmps53
       go_wp2
       go_ret
       exact ⟨by first | rfl | (simp; done) | (simp [*]; done) | (simp [wrap64, wrap32]; done), by repeat (first | exact Drawn0.refl _ | apply Drawn0.step)⟩
      ·rw [if_neg c7] at H
       have c7b0 : decide (a0 ≤ 122) = false := decide_eq_false c7
       clear c7
       by_cases c8 : a0 ≥ 65
       ·rw [if_pos c8] at H
        have c8b0 : decide (65 ≤ a0) = true := decide_eq_true c8
        clear c8
        obtain rfl := Option.some.inj H
        go_enter Tryd.func53, Tryd.ntmps53
        go_wp2
        go_ret
        exact ⟨by first | rfl | (simp; done) | (simp [*]; done) | (simp [wrap64, wrap32]; done), by repeat (first | exact Drawn0.refl _ | apply Drawn0.step)⟩
       ·rw [if_neg c8] at H
        have c8b0 : decide (65 ≤ a0) = false := decide_eq_false c8
        clear c8
        obtain rfl := Option.some.inj H
        go_enter Tryd.func53, Tryd.ntmps53
        go_wp2
        go_ret
        exact ⟨by first | rfl | (simp; done) | (simp [*]; done) | (simp [wrap64, wrap32]; done), by repeat (first | exact Drawn0.refl _ | apply Drawn0.step)⟩
     ·rw [if_neg c6] at H
      have c6b0 : decide (97 ≤ a0) = false := decide_eq_false c6
      clear c6
      by_cases c9 : a0 ≥ 65
      ·rw [if_pos c9] at H
       have c9b0 : decide (65 ≤ a0) = true := decide_eq_true c9
       clear c9
       obtain rfl := Option.some.inj H
       go_enter Tryd.func53, Tryd.ntmps53
       go_wp2
       go_ret
       exact ⟨by first | rfl | (simp; done) | (simp [*]; done) | (simp [wrap64, wrap32]; done), by repeat (first | exact Drawn0.refl _ | apply Drawn0.step)⟩
      ·rw [if_neg c9] at H
       have c9b0 : decide (65 ≤ a0) = false := decide_eq_false c9
       clear c9
       obtain rfl := Option.some.inj H
       go_enter Tryd.func53, Tryd.ntmps53
       go_wp2
       go_ret
       exact ⟨by first | rfl | (simp; done) | (simp [*]; done) | (simp [wrap64, wrap32]; done), by repeat (first | exact Drawn0.refl _ | apply Drawn0.step)⟩
   ·rw [if_neg c4] at H
    have c4b0 : decide (48 ≤ a0) = false := decide_eq_false c4
    clear c4
    by_cases c10 : a0 ≥ 97
    ·rw [if_pos c10] at H
     have c10b0 : decide (97 ≤ a0) = true := decide_eq_true c10
     clear c10
     by_cases c11 : a0 ≤ 122
     ·rw [if_pos c11] at H
      have c11b0 : decide (a0 ≤ 122) = true := decide_eq_true c11
      clear c11
      obtain rfl := Option.some.inj H
      go_enter Tryd.func53, Tryd.ntmps53
      go_wp2
      go_ret
      exact ⟨by first | rfl | (simp; done) | (simp [*]; done) | (simp [wrap64, wrap32]; done), by repeat (first | exact Drawn0.refl _ | apply Drawn0.step)⟩
     ·rw [if_neg c11] at H
      have c11b0 : decide (a0 ≤ 122) = false := decide_eq_false c11
      clear c11
      by_cases c12 : a0 ≥ 65
      ·rw [if_pos c12] at H
       have c12b0 : decide (65 ≤ a0) = true := decide_eq_true c12
       clear c12
       obtain rfl := Option.some.inj H
       go_enter Tryd.func53, Tryd.ntmps53
       go_wp2
       go_ret
       exact ⟨by first | rfl | (simp; done) | (simp [*]; done) | (simp [wrap64, wrap32]; done), by repeat (first | exact Drawn0.refl _ | apply Drawn0.step)⟩
      ·rw [if_neg c12] at H
       have c12b0 : decide (65 ≤ a0) = false := decide_eq_false c12
       clear c12
       obtain rfl := Option.some.inj H
       go_enter Tryd.func53, Tryd.ntmps53
       go_wp2
       go_ret
       exact ⟨by first | rfl | (simp; done) | (simp [*]; done) | (simp [wrap64, wrap32]; done), by repeat (first | exact Drawn0.refl _ | apply Drawn0.step)⟩
    ·rw [if_neg c10] at H
     have c10b0 : decide (97 ≤ a0) = false := decide_eq_false c10
     clear c10
     by_cases c13 : a0 ≥ 65
     ·rw [if_pos c13] at H
      have c13b0 : decide (65 ≤ a0) = true := decide_eq_true c13
      clear c13
      obtain rfl := Option.some.inj H
      go_enter Tryd.func53, Tryd.ntmps53
      go_wp2
      go_ret
      exact ⟨by first | rfl | (simp; done) | (simp [*]; done) | (simp [wrap64, wrap32]; done), by repeat (first | exact Drawn0.refl _ | apply Drawn0.step)⟩
     ·rw [if_neg c13] at H
      have c13b0 : decide (65 ≤ a0) = false := decide_eq_false c13
      clear c13
      obtain rfl := Option.some.inj H
      go_enter Tryd.func53, Tryd.ntmps53
      go_wp2
      go_ret
      exact ⟨by first | rfl | (simp; done) | (simp [*]; done) | (simp [wrap64, wrap32]; done), by repeat (first | exact Drawn0.refl _ | apply Drawn0.step)⟩
  ·rw [if_neg c3] at H
   have c3b0 : decide (a0 < 127) = false := decide_eq_false c3
   clear c3
   obtain rfl := Option.some.inj H
   go_enter Tryd.func53, Tryd.ntmps53
   go_wp2
   go_ret
   exact ⟨by first | rfl | (simp; done) | (simp [*]; done) | (simp [wrap64, wrap32]; done), by repeat (first | exact Drawn0.refl _ | apply Drawn0.step)⟩
 ·rw [if_neg c2] at H
  have c2b0 : decide (32 < a0) = false := decide_eq_false c2
  clear c2
  obtain rfl := Option.some.inj H
  go_enter Tryd.func53, Tryd.ntmps53
  go_wp2
  go_ret
  exact ⟨by first | rfl | (simp; done) | (simp [*]; done) | (simp [wrap64, wrap32]; done), by repeat (first | exact Drawn0.refl _ | apply Drawn0.step)⟩

end Go.Proofs.YtekalnhackjldaaDoor.PDecodeBack
