-- Laid by a program of ours (the kit's print with words and contracts of our own beside it).
import Derived.Test.YtgjnelloegkicaaPLinesOwnx0
import Derived.Test.YtgjnelloegkicaaPLinesOwnx2
namespace Go.Proofs.Ytgjnelloegkicaa.PLinesOwn
open Go.RowKit Go.Proofs.Ytgjnelloegkicaa.X Go.Proofs.YtgjnelloegkicaaW.PrintWords Go.Proofs.YtgjnelloegkicaaW.PrintLast Go.Proofs.YtgjnelloegkicaaW.PrintMore
attribute [local go_sem] max2_int min2_int max_two min_two max_three min_three max_four min_four   -- for this text's walks alone
set_option linter.unusedVariables false
set_option linter.unusedSimpArgs false

attribute [local go_sem high] eqA54
/-! ### lines_New: function 27 -/

/-! ### utf_first: function 38 -/
mutual
def utf_first.j0 : Nat → Int → Bool → Option (Int × Int × Int × Bool)
  | 0, _, _ => none
  | k + 1, x0, x11 => if x11 = true then (some (wrap32 (Go.bits .and .u8 x0 31), 1, 128, true)) else (if x0 ≥ 224 then (utf_first.j1 k x0 (decide (x0 < 240))) else (utf_first.j1 k x0 false))
def utf_first.j1 : Nat → Int → Bool → Option (Int × Int × Int × Bool)
  | 0, _, _ => none
  | k + 1, x0, x21 => if x21 = true then (some (wrap32 (Go.bits .and .u8 x0 15), 2, 2048, true)) else (if x0 ≥ 240 then (if x0 < 245 then (some (wrap32 (Go.bits .and .u8 x0 7), 3, 65536, true)) else (some (0, 0, 0, false))) else (some (0, 0, 0, false)))
end
def utf_first.f (k : Nat) (a0 : Int) : Option (Int × Int × Int × Bool) := if a0 < 128 then (some (wrap32 (a0), 0, 0, true)) else (if a0 ≥ 194 then (utf_first.j0 k a0 (decide (a0 < 224))) else (utf_first.j0 k a0 false))
theorem utf_first.mono_l : ∀ k, (∀ y0 y1, LeO (utf_first.j0 k y0 y1) (utf_first.j0 (k + 1) y0 y1)) ∧ (∀ y0 y1, LeO (utf_first.j1 k y0 y1) (utf_first.j1 (k + 1) y0 y1))
  | 0 => ⟨fun _ _ r h => by simp [utf_first.j0] at h, fun _ _ r h => by simp [utf_first.j1] at h⟩
  | k + 1 => by
    obtain ⟨ih0, ih1⟩ := utf_first.mono_l k
    refine ⟨?_, ?_⟩
    · intro y0 y1
      unfold utf_first.j0
      repeat' first
      | (with_reducible exact ih0 _ _)
      | (with_reducible exact ih1 _ _)
      | (with_reducible exact LeO.refl _)
      | (with_reducible exact LeO.none _)
      | (with_reducible refine LeO.ite ?_ ?_)
      | (with_reducible refine LeO.bind ?_ (fun _ => ?_))
      | exact ih0 _ _
      | exact ih1 _ _
      | exact LeO.none _
      | refine LeO.ite ?_ ?_
      | refine LeO.bind ?_ (fun _ => ?_)
    · intro y0 y1
      unfold utf_first.j1
      repeat' first
      | (with_reducible exact ih0 _ _)
      | (with_reducible exact ih1 _ _)
      | (with_reducible exact LeO.refl _)
      | (with_reducible exact LeO.none _)
      | (with_reducible refine LeO.ite ?_ ?_)
      | (with_reducible refine LeO.bind ?_ (fun _ => ?_))
      | exact ih0 _ _
      | exact ih1 _ _
      | exact LeO.none _
      | refine LeO.ite ?_ ?_
      | refine LeO.bind ?_ (fun _ => ?_)
theorem utf_first.mono : ∀ a0 k, LeO (utf_first.f k a0) (utf_first.f (k + 1) a0) := by
  intro a0 k
  obtain ⟨ih0, ih1⟩ := utf_first.mono_l k
  unfold utf_first.f
  repeat' first
      | (with_reducible exact ih0 _ _)
      | (with_reducible exact ih1 _ _)
      | (with_reducible exact LeO.refl _)
      | (with_reducible exact LeO.none _)
      | (with_reducible refine LeO.ite ?_ ?_)
      | (with_reducible refine LeO.bind ?_ (fun _ => ?_))
      | exact ih0 _ _
      | exact ih1 _ _
      | exact LeO.none _
      | refine LeO.ite ?_ ?_
      | refine LeO.bind ?_ (fun _ => ?_)
set_option maxHeartbeats 8000000 in
set_option maxRecDepth 100000 in
theorem utf_first.calls (k : Nat) (a0 : Int) (r1 : Int) (r2 : Int) (r3 : Int) (r4 : Bool) (w : World) (h : utf_first.f k a0 = some (r1, r2, r3, r4)) :
    Calls Try.prog 38 #[.int .u8 a0] w fun e w' => e = .returned (.tuple #[.int .i32 r1, .int .i64 r2, .int .i32 r3, .bool r4]) ∧ Drawn0 w w' := by
  have H : (if a0 < 128 then (some (wrap32 (a0), 0, 0, true)) else (if a0 ≥ 194 then (utf_first.j0 k a0 (decide (a0 < 224))) else (utf_first.j0 k a0 false))) = some (r1, r2, r3, r4) := h
  clear h
  by_cases c2 : a0 < 128
  · rw [if_pos c2] at H
    have c2b0 : decide (a0 < 128) = true := decide_eq_true c2
    clear c2
    simp only [Option.some.injEq, Prod.mk.injEq] at H
    obtain ⟨rfl, rfl, rfl, rfl⟩ := H
    go_enter Try.func38, Try.ntmps38
    go_wp2
    refine bodyPost_ret (results_list (rs := [.tmp 2, .tmp 3, .tmp 4, .tmp 5]) rfl (by simp) (.tmp (.tmp (.tmp (.tmp .nil))))) rfl ?_
    exact ⟨by first | rfl | (simp; done) | (simp [*]; done), by repeat (first | exact Drawn0.refl _ | apply Drawn0.step)⟩
  · rw [if_neg c2] at H
    have c2b0 : decide (a0 < 128) = false := decide_eq_false c2
    clear c2
    have HC3 := Aside0.mk H
    clear H
    go_enter Try.func38, Try.ntmps38
    go_upto_region 3 with (fail)
    go_cut [11] (fun v11 wc => ∃ (kq : Nat) (x11_2 : Bool), v11 = .bool x11_2 ∧ Aside0 (utf_first.j0 kq a0 x11_2 = some (r1, r2, r3, r4)) ∧ Aside0 (kq ≤ k) ∧ Drawn0 w wc)
    case first =>
      have H := HC3.out
      clear HC3
      by_cases c4 : a0 ≥ 194
      · rw [if_pos c4] at H
        have c4b0 : decide (194 ≤ a0) = true := decide_eq_true c4
        clear c4
        (first | rw [c4b0] | (simp only [i64_w, i32_w]; rw [c4b0]) | skip)
        have H' := Aside0.mk H
        clear H
        go_wp2
        go_meet
        case rel => exact ⟨_, (decide (a0 < 224)), (by first | rfl | (simp; done) | (simp [*]; done)), H', ⟨by first | omega | exact Nat.le_refl _⟩, by repeat (first | exact Drawn0.refl _ | apply Drawn0.step)⟩
      · rw [if_neg c4] at H
        have c4b0 : decide (194 ≤ a0) = false := decide_eq_false c4
        clear c4
        (first | rw [c4b0] | (simp only [i64_w, i32_w]; rw [c4b0]) | skip)
        have H' := Aside0.mk H
        clear H
        go_wp2
        go_meet
        case rel => exact ⟨_, (false), (by first | rfl | (simp; done) | (simp [*]; done)), H', ⟨by first | omega | exact Nat.le_refl _⟩, by repeat (first | exact Drawn0.refl _ | apply Drawn0.step)⟩
    case rest =>
      clear HC3
      try clear c2
      try clear c2b0
      try clear p2
      try clear c3
      try clear p3
      try clear c4
      try clear c4b0
      obtain ⟨kq, x11_2, rfl, HA, HJ2, ⟨mc2, rfl⟩⟩ := hcut
      cases kq with
      | zero => exact absurd HA.out (by simp [utf_first.j0])
      | succ kj2 =>
        have H := HA.out
        clear HA
        simp only [utf_first.j0] at H
        by_cases c5 : x11_2 = true
        · subst c5
          have H1 : (some (wrap32 (Go.bits .and .u8 a0 31), 1, 128, true)) = some (r1, r2, r3, r4) := by rw [if_pos rfl] at H; exact H
          clear H
          have H := H1
          clear H1
          simp only [Option.some.injEq, Prod.mk.injEq] at H
          obtain ⟨rfl, rfl, rfl, rfl⟩ := H
          go_wp2
          refine bodyPost_ret (results_list (rs := [.tmp 2, .tmp 3, .tmp 4, .tmp 5]) rfl (by simp) (.tmp (.tmp (.tmp (.tmp .nil))))) rfl ?_
          exact ⟨by first | rfl | (simp; done) | (simp [*]; done), by repeat (first | exact Drawn0.refl _ | apply Drawn0.step)⟩
        · replace c5 := Bool.eq_false_iff.mpr c5
          subst c5
          have H1 : (if a0 ≥ 224 then (utf_first.j1 kj2 a0 (decide (a0 < 240))) else (utf_first.j1 kj2 a0 false)) = some (r1, r2, r3, r4) := by rw [if_neg (show ¬ (false = true) by decide)] at H; exact H
          clear H
          have H := H1
          clear H1
          have HC6 := Aside0.mk H
          clear H
          go_upto_region 5 with (fail)
          go_cut [21] (fun v21 wc => ∃ (kq : Nat) (x21_5 : Bool), v21 = .bool x21_5 ∧ Aside0 (utf_first.j1 kq a0 x21_5 = some (r1, r2, r3, r4)) ∧ Aside0 (kq ≤ kj2) ∧ Drawn0 w wc)
          case first =>
            have H := HC6.out
            clear HC6
            by_cases c7 : a0 ≥ 224
            · rw [if_pos c7] at H
              have c7b0 : decide (224 ≤ a0) = true := decide_eq_true c7
              clear c7
              (first | rw [c7b0] | (simp only [i64_w, i32_w]; rw [c7b0]) | skip)
              have H' := Aside0.mk H
              clear H
              go_wp2
              go_meet
              case rel => exact ⟨_, (decide (a0 < 240)), (by first | rfl | (simp; done) | (simp [*]; done)), H', ⟨by have := HJ2.out; first | omega | exact Nat.le_refl _⟩, by repeat (first | exact Drawn0.refl _ | apply Drawn0.step)⟩
            · rw [if_neg c7] at H
              have c7b0 : decide (224 ≤ a0) = false := decide_eq_false c7
              clear c7
              (first | rw [c7b0] | (simp only [i64_w, i32_w]; rw [c7b0]) | skip)
              have H' := Aside0.mk H
              clear H
              go_wp2
              go_meet
              case rel => exact ⟨_, (false), (by first | rfl | (simp; done) | (simp [*]; done)), H', ⟨by have := HJ2.out; first | omega | exact Nat.le_refl _⟩, by repeat (first | exact Drawn0.refl _ | apply Drawn0.step)⟩
          case rest =>
            clear HC6
            try clear c2
            try clear c2b0
            try clear p2
            try clear c3
            try clear p3
            try clear c4
            try clear c4b0
            try clear c5
            try clear c7
            try clear c7b0
            try clear p2
            try clear p3
            obtain ⟨kq, x21_5, rfl, HA, HJ5, ⟨mc5, rfl⟩⟩ := hcut
            cases kq with
            | zero => exact absurd HA.out (by simp [utf_first.j1])
            | succ kj5 =>
              have H := HA.out
              clear HA
              simp only [utf_first.j1] at H
              by_cases c8 : x21_5 = true
              · subst c8
                have H1 : (some (wrap32 (Go.bits .and .u8 a0 15), 2, 2048, true)) = some (r1, r2, r3, r4) := by rw [if_pos rfl] at H; exact H
                clear H
                have H := H1
                clear H1
                simp only [Option.some.injEq, Prod.mk.injEq] at H
                obtain ⟨rfl, rfl, rfl, rfl⟩ := H
                go_wp2
                refine bodyPost_ret (results_list (rs := [.tmp 2, .tmp 3, .tmp 4, .tmp 5]) rfl (by simp) (.tmp (.tmp (.tmp (.tmp .nil))))) rfl ?_
                exact ⟨by first | rfl | (simp; done) | (simp [*]; done), by repeat (first | exact Drawn0.refl _ | apply Drawn0.step)⟩
              · replace c8 := Bool.eq_false_iff.mpr c8
                subst c8
                have H1 : (if a0 ≥ 240 then (if a0 < 245 then (some (wrap32 (Go.bits .and .u8 a0 7), 3, 65536, true)) else (some (0, 0, 0, false))) else (some (0, 0, 0, false))) = some (r1, r2, r3, r4) := by rw [if_neg (show ¬ (false = true) by decide)] at H; exact H
                clear H
                have H := H1
                clear H1
                by_cases c9 : a0 ≥ 240
                · rw [if_pos c9] at H
                  have c9b0 : decide (240 ≤ a0) = true := decide_eq_true c9
                  clear c9
                  by_cases c10 : a0 < 245
                  · rw [if_pos c10] at H
                    have c10b0 : decide (a0 < 245) = true := decide_eq_true c10
                    clear c10
                    simp only [Option.some.injEq, Prod.mk.injEq] at H
                    obtain ⟨rfl, rfl, rfl, rfl⟩ := H
                    go_wp2
                    refine bodyPost_ret (results_list (rs := [.tmp 2, .tmp 3, .tmp 4, .tmp 5]) rfl (by simp) (.tmp (.tmp (.tmp (.tmp .nil))))) rfl ?_
                    exact ⟨by first | rfl | (simp; done) | (simp [*]; done), by repeat (first | exact Drawn0.refl _ | apply Drawn0.step)⟩
                  · rw [if_neg c10] at H
                    have c10b0 : decide (a0 < 245) = false := decide_eq_false c10
                    clear c10
                    simp only [Option.some.injEq, Prod.mk.injEq] at H
                    obtain ⟨rfl, rfl, rfl, rfl⟩ := H
                    go_wp2
                    refine bodyPost_ret (results_list (rs := [.tmp 2, .tmp 3, .tmp 4, .tmp 5]) rfl (by simp) (.tmp (.tmp (.tmp (.tmp .nil))))) rfl ?_
                    exact ⟨by first | rfl | (simp; done) | (simp [*]; done), by repeat (first | exact Drawn0.refl _ | apply Drawn0.step)⟩
                · rw [if_neg c9] at H
                  have c9b0 : decide (240 ≤ a0) = false := decide_eq_false c9
                  clear c9
                  simp only [Option.some.injEq, Prod.mk.injEq] at H
                  obtain ⟨rfl, rfl, rfl, rfl⟩ := H
                  go_wp2
                  refine bodyPost_ret (results_list (rs := [.tmp 2, .tmp 3, .tmp 4, .tmp 5]) rfl (by simp) (.tmp (.tmp (.tmp (.tmp .nil))))) rfl ?_
                  exact ⟨by first | rfl | (simp; done) | (simp [*]; done), by repeat (first | exact Drawn0.refl _ | apply Drawn0.step)⟩

/-! ### utf_Next: function 15 -/
mutual
def utf_Next.j0 : Nat → List Int → Int → Int → Int → Bool → Option (Int × Int)
  | 0, _, _, _, _, _ => none
  | k + 1, x0, x4, x5, x6, x29 => if x29 = true then (some ((-1), 1)) else (if 1 ≤ (wrap64 (1 + x5)) then (if (wrap64 (1 + x5)) ≤ (x0.length : Int) then ((some ((x0.take ((wrap64 (1 + x5)) : Int).toNat).drop 1 : List Int)).bind fun y106 => (utf_Next.l0 k x4 x5 x6 y106 (y106.length : Int) 0)) else (none)) else (none))
def utf_Next.l0 : Nat → Int → Int → Int → List Int → Int → Int → Option (Int × Int)
  | 0, _, _, _, _, _, _ => none
  | k + 1, x4, x5, x6, x33, x34, x35 => if x35 < x34 then (if 0 ≤ x35 then (if x35 < (x33.length : Int) then (if (Go.bits .and .u8 (rd x33 x35) 192) = 128 then (utf_Next.l0 k (Go.bits .or .i32 (wrap32 (x4 * 64)) (wrap32 (Go.bits .and .u8 (rd x33 x35) 63))) x5 x6 x33 x34 (wrap64 (x35 + 1))) else (some ((-1), 1))) else (none)) else (none)) else (if x4 < x6 then (some ((-1), 1)) else (if x4 > 1114111 then (some ((-1), 1)) else (if x4 ≥ 55296 then (if x4 < 57344 then (some ((-1), 1)) else (some (x4, wrap64 (1 + x5)))) else (some (x4, wrap64 (1 + x5))))))
end
def utf_Next.f (k : Nat) (l0 : List Int) : Option (Int × Int) := if (l0.length : Int) = 0 then (some ((-1), 0)) else (if 0 < (l0.length : Int) then ((utf_first.f k (rd l0 0)).bind fun bt102 => (if bt102.2.2.2 = true then (utf_Next.j0 k l0 bt102.1 bt102.2.1 bt102.2.2.1 (decide ((l0.length : Int) ≤ bt102.2.1))) else (utf_Next.j0 k l0 bt102.1 bt102.2.1 bt102.2.2.1 true))) else (none))
theorem utf_Next.mono_l : ∀ k, (∀ y0 y1 y2 y3 y4, LeO (utf_Next.j0 k y0 y1 y2 y3 y4) (utf_Next.j0 (k + 1) y0 y1 y2 y3 y4)) ∧ (∀ y0 y1 y2 y3 y4 y5, LeO (utf_Next.l0 k y0 y1 y2 y3 y4 y5) (utf_Next.l0 (k + 1) y0 y1 y2 y3 y4 y5))
  | 0 => ⟨fun _ _ _ _ _ r h => by simp [utf_Next.j0] at h, fun _ _ _ _ _ _ r h => by simp [utf_Next.l0] at h⟩
  | k + 1 => by
    obtain ⟨ih0, ih1⟩ := utf_Next.mono_l k
    refine ⟨?_, ?_⟩
    · intro y0 y1 y2 y3 y4
      unfold utf_Next.j0
      repeat' first
      | (with_reducible exact ih0 _ _ _ _ _)
      | (with_reducible exact ih1 _ _ _ _ _ _)
      | (with_reducible exact utf_first.mono _ _)
      | (with_reducible exact LeO.refl _)
      | (with_reducible exact LeO.none _)
      | (with_reducible refine LeO.ite ?_ ?_)
      | (with_reducible refine LeO.bind ?_ (fun _ => ?_))
      | exact ih0 _ _ _ _ _
      | exact ih1 _ _ _ _ _ _
      | exact utf_first.mono _ _
      | exact LeO.none _
      | refine LeO.ite ?_ ?_
      | refine LeO.bind ?_ (fun _ => ?_)
    · intro y0 y1 y2 y3 y4 y5
      unfold utf_Next.l0
      repeat' first
      | (with_reducible exact ih0 _ _ _ _ _)
      | (with_reducible exact ih1 _ _ _ _ _ _)
      | (with_reducible exact utf_first.mono _ _)
      | (with_reducible exact LeO.refl _)
      | (with_reducible exact LeO.none _)
      | (with_reducible refine LeO.ite ?_ ?_)
      | (with_reducible refine LeO.bind ?_ (fun _ => ?_))
      | exact ih0 _ _ _ _ _
      | exact ih1 _ _ _ _ _ _
      | exact utf_first.mono _ _
      | exact LeO.none _
      | refine LeO.ite ?_ ?_
      | refine LeO.bind ?_ (fun _ => ?_)
theorem utf_Next.mono : ∀ a0 k, LeO (utf_Next.f k a0) (utf_Next.f (k + 1) a0) := by
  intro a0 k
  obtain ⟨ih0, ih1⟩ := utf_Next.mono_l k
  unfold utf_Next.f
  repeat' first
      | (with_reducible exact ih0 _ _ _ _ _)
      | (with_reducible exact ih1 _ _ _ _ _ _)
      | (with_reducible exact utf_first.mono _ _)
      | (with_reducible exact LeO.refl _)
      | (with_reducible exact LeO.none _)
      | (with_reducible refine LeO.ite ?_ ?_)
      | (with_reducible refine LeO.bind ?_ (fun _ => ?_))
      | exact ih0 _ _ _ _ _
      | exact ih1 _ _ _ _ _ _
      | exact utf_first.mono _ _
      | exact LeO.none _
      | refine LeO.ite ?_ ?_
      | refine LeO.bind ?_ (fun _ => ?_)
set_option maxHeartbeats 8000000 in
set_option maxRecDepth 100000 in
theorem utf_Next.calls (k : Nat) (A0 : Option Addr) (c0 : Nat) (l0 : List Int) (r1 : Int) (r2 : Int) (w : World) (hr0 : Kd.C (Kd.int .u8) w A0 l0.length l0) (hc0 : l0.length ≤ c0) (h : utf_Next.f k l0 = some (r1, r2)) :
    Calls Try.prog 15 #[.slice A0 l0.length c0] w fun e w' => e = .returned (.tuple #[.int .i32 r1, .int .i64 r2]) ∧ Drawn0 w w' := by
  have HR0 := Aside0.mk hr0
  have HC0 := Aside0.mk hc0
  clear hr0 hc0
  have H : (if (l0.length : Int) = 0 then (some ((-1), 0)) else (if 0 < (l0.length : Int) then ((utf_first.f k (rd l0 0)).bind fun bt102 => (if bt102.2.2.2 = true then (utf_Next.j0 k l0 bt102.1 bt102.2.1 bt102.2.2.1 (decide ((l0.length : Int) ≤ bt102.2.1))) else (utf_Next.j0 k l0 bt102.1 bt102.2.1 bt102.2.2.1 true))) else (none))) = some (r1, r2) := h
  clear h
  by_cases c2 : (l0.length : Int) = 0
  · rw [if_pos c2] at H
    have c2b0 : ((l0.length : Int) == 0) = true := beq_iff_eq.mpr c2
    have c2b1 : ((l0.length : Int) != 0) = false := bne_eq_false_iff_eq.mpr c2
    clear c2
    simp only [Option.some.injEq, Prod.mk.injEq] at H
    obtain ⟨rfl, rfl⟩ := H
    go_enter Try.func15, Try.ntmps15
    go_wp2
    go_ret2
    exact ⟨by first | rfl | (simp; done) | (simp [*]; done), by repeat (first | exact Drawn0.refl _ | apply Drawn0.step)⟩
  · rw [if_neg c2] at H
    have c2b0 : ((l0.length : Int) == 0) = false := beq_eq_false_iff_ne.mpr c2
    have c2b1 : ((l0.length : Int) != 0) = true := bne_iff_ne.mpr c2
    have c2b2 : ¬ (l0 = []) := fun h_ => c2 (by rw [h_]; rfl)
    by_cases c3 : 0 < (l0.length : Int)
    · rw [if_pos c3] at H
      have c3b0 : decide (0 < (l0.length : Int)) = true := decide_eq_true c3
      have c3b1 : decide (0 < l0.length) = true := decide_eq_true (by omega)
      clear c3
      replace H := Option.bind_eq_some_iff.mp H
      obtain ⟨⟨t102, t103, t104, t105⟩, A40, H⟩ := H
      replace H : (if t105 = true then (utf_Next.j0 k l0 t102 t103 t104 (decide ((l0.length : Int) ≤ t103))) else (utf_Next.j0 k l0 t102 t103 t104 true)) = some (r1, r2) := H
      have A4 := Aside0.mk A40
      clear A40
      have HC5 := Aside0.mk H
      clear H
      have p101 : 0 ≤ (0 : Int) := (by omega)
      have q101 : 0 < (l0.length : Int) := of_decide_eq_true (by first | (with_reducible assumption) | assumption)
      obtain ⟨ad101, e101, hx101_0⟩ := Kd.at_int HR0.out 0 p101 q101
      cases e101
      have qi101 : (0 < l0.length) = True := eq_true (by omega)
      (try rw [show ((0 : Int)).toNat = 0 from rfl] at hx101_0)
      (try rw [Addr.add_zero'] at hx101_0)
      replace p101 := eq_true p101
      replace q101 := eq_true q101
      go_enter Try.func15, Try.ntmps15
      go_upto_region 4 with (first | ((with_reducible refine gate_callee (f := 38) rfl ?_); refine goesL_ (some 17) rfl rfl Try.func38 (by kernel_rfl) rfl #[.int .u8 (rd l0 0)] rfl (by (try simp only [List.map_toArray, List.map_cons, List.map_nil]); first | done | rfl | (simp only [List.length_drop, List.length_take]; rfl)) ?_; (with_reducible refine (utf_first.calls k (rd l0 0) t102 t103 t104 t105 _ A4.out).mono ?_); rintro e w' ⟨rfl, ⟨nd, rfl⟩⟩; refine ⟨_, rfl, ?_⟩))
      (try simp only [Act.put, List.setIfInBounds_toArray, List.set_cons_zero, List.set_cons_succ])
      go_cut [29] (fun v29 wc => ∃ (kq : Nat) (x29_4 : Bool), v29 = .bool x29_4 ∧ Aside0 (utf_Next.j0 kq l0 t102 t103 t104 x29_4 = some (r1, r2)) ∧ Aside0 (kq ≤ k) ∧ Drawn0 w wc)
      case first =>
        have H := HC5.out
        clear HC5
        by_cases c6 : t105 = true
        · subst c6
          have H1 : (utf_Next.j0 k l0 t102 t103 t104 (decide ((l0.length : Int) ≤ t103))) = some (r1, r2) := by rw [if_pos rfl] at H; exact H
          clear H
          have H := H1
          clear H1
          have H' := Aside0.mk H
          clear H
          go_wp2
          go_meet
          case rel => exact ⟨_, (decide ((l0.length : Int) ≤ t103)), (by first | rfl | (simp; done) | (simp [*]; done)), H', ⟨by first | omega | exact Nat.le_refl _⟩, by repeat (first | exact Drawn0.refl _ | apply Drawn0.step)⟩
        · replace c6 := Bool.eq_false_iff.mpr c6
          subst c6
          have H1 : (utf_Next.j0 k l0 t102 t103 t104 true) = some (r1, r2) := by rw [if_neg (show ¬ (false = true) by decide)] at H; exact H
          clear H
          have H := H1
          clear H1
          have H' := Aside0.mk H
          clear H
          go_wp2
          go_meet
          case rel => exact ⟨_, (true), (by first | rfl | (simp; done) | (simp [*]; done)), H', ⟨by first | omega | exact Nat.le_refl _⟩, by repeat (first | exact Drawn0.refl _ | apply Drawn0.step)⟩
      case rest =>
        clear HC5
        try clear c1
        try clear p1
        try clear q1
        try clear hx1
        try clear qi1
        try clear c2
        try clear c2b0
        try clear c2b1
        try clear c2b2
        try clear p2
        try clear c3
        try clear c3b0
        try clear c3b1
        try clear c6
        try clear hx101_0
        try clear p101
        try clear q101
        obtain ⟨kq, x29_4, rfl, HA, HJ4, ⟨mc4, rfl⟩⟩ := hcut
        cases kq with
        | zero => exact absurd HA.out (by simp [utf_Next.j0])
        | succ kj4 =>
          have H := HA.out
          clear HA
          simp only [utf_Next.j0] at H
          by_cases c7 : x29_4 = true
          · subst c7
            have H1 : (some ((-1), 1)) = some (r1, r2) := by rw [if_pos rfl] at H; exact H
            clear H
            have H := H1
            clear H1
            simp only [Option.some.injEq, Prod.mk.injEq] at H
            obtain ⟨rfl, rfl⟩ := H
            go_wp2
            go_ret2
            exact ⟨by first | rfl | (simp; done) | (simp [*]; done), by repeat (first | exact Drawn0.refl _ | apply Drawn0.step)⟩
          · replace c7 := Bool.eq_false_iff.mpr c7
            subst c7
            have H1 : (if 1 ≤ (wrap64 (1 + t103)) then (if (wrap64 (1 + t103)) ≤ (l0.length : Int) then ((some ((l0.take ((wrap64 (1 + t103)) : Int).toNat).drop 1 : List Int)).bind fun y106 => (utf_Next.l0 kj4 t102 t103 t104 y106 (y106.length : Int) 0)) else (none)) else (none)) = some (r1, r2) := by rw [if_neg (show ¬ (false = true) by decide)] at H; exact H
            clear H
            have H := H1
            clear H1
            by_cases c8 : 1 ≤ (wrap64 (1 + t103))
            · rw [if_pos c8] at H
              have c8b0 := eq_true c8
              have c8b1 : decide (1 ≤ (wrap64 (1 + t103))) = true := decide_eq_true c8
              by_cases c9 : (wrap64 (1 + t103)) ≤ (l0.length : Int)
              · rw [if_pos c9] at H
                have c9b0 := eq_true c9
                have c9b1 : decide ((wrap64 (1 + t103)) ≤ (l0.length : Int)) = true := decide_eq_true c9
                obtain ⟨y106, hy106⟩ : ∃ y_ : List Int, y_ = ((l0.take ((wrap64 (1 + t103)) : Int).toNat).drop 1) := ⟨_, rfl⟩
                replace H : (utf_Next.l0 kj4 t102 t103 t104 y106 (y106.length : Int) 0) = some (r1, r2) := by first | (rw [hy106]; with_reducible exact H) | (have H2_ := (Option.bind_some _ _).symm.trans H; rw [hy106]; with_reducible exact H2_) | (have H2_ := (Option.bind_some _ _).symm.trans H; with_reducible exact H2_) | with_reducible exact H | (rw [hy106]; exact H) | exact H
                have Ny106 := Aside0.mk hy106
                clear hy106
                have H' := Aside0.mk H
                clear H
                have q10 : ((wrap64 (1 + t103)) : Int) ≤ ((l0.length : Int) : Int) := of_decide_eq_true (by first | (with_reducible assumption) | assumption)
                obtain ⟨i010, hi010, _, hsz10, _⟩ := info_parts info5
                have hroom10 : l0.length ≤ c0 := HC0.out
                have hC10 : Kd.C (Kd.int .u8) _ (some ad101) l0.length l0 := HR0.out
                have ql10 : (1 : Int) ≤ ((wrap64 (1 + t103)) : Int) := of_decide_eq_true (by first | (with_reducible assumption) | assumption)
                have hcut10 := cut_mid (P := Try.prog) 22 5 .i64 .i64 Try.underlying22 hi010 1 hsz10 (some ad101) l0.length c0 1 (wrap64 (1 + t103)) (by omega) ql10 q10 hroom10
                have hr10 := Kd.C_mid (lo := (1 : Int).toNat) (hi := ((wrap64 (1 + t103)) : Int).toNat) (c := c0) hC10 (by omega) (by omega) hroom10
                obtain ⟨A10, hA10⟩ : ∃ A1, A1 = (if c0 = (1 : Int).toNat then (some ad101) else ((some ad101) : Option Addr).map (·.add ((1 : Int).toNat * 1))) := ⟨_, rfl⟩
                obtain ⟨c10, hc10⟩ : ∃ c1, c1 = c0 - (1 : Int).toNat := ⟨_, rfl⟩
                have hy10 : y106.length = ((wrap64 (1 + t103)) : Int).toNat - (1 : Int).toNat := (by rw [Ny106.out, List.length_drop, List.length_take] <;> omega)
                rw [show ((l0).take ((wrap64 (1 + t103)) : Int).toNat).drop (1 : Int).toNat = y106 from Ny106.out.symm] at hr10
                replace hr10 : Kd.C (Kd.int .u8) _ A10 y106.length y106 := (by rw [hA10]; exact hr10)
                rw [← hy10, ← hA10, ← hc10] at hcut10
                have HR109 := Aside0.mk hr10
                have HC109 := Aside0.mk (show y106.length ≤ c10 from by rw [hy10, hc10]; exact Nat.sub_le_sub_right (Nat.le_trans (by omega) hroom10) _)
                clear hr10 hC10 hroom10 hi010 hsz10 hc10
                have KY10 := Aside0.mk hy10
                have KA10 := Aside0.mk hA10
                clear hy10 hA10
                replace q10 := eq_true q10
                go_wp2
                go_loopg [4, 35] kj4 (fun kq v4 v35 w' => ∃ (x4_2 : Int) (x35_2 : Int), v4 = .int .i32 x4_2 ∧ v35 = .int .i64 x35_2 ∧ Aside0 (utf_Next.l0 kq x4_2 t103 t104 y106 (y106.length : Int) x35_2 = some (r1, r2)) ∧ Aside0 (kq ≤ kj4) ∧ Drawn0 w w')
                case atStart => exact ⟨(t102), (0), (by first | rfl | (simp; done) | (simp [*]; done)), (by first | rfl | (simp; done) | (simp [*]; done)), H', ⟨Nat.le_refl _⟩, by repeat (first | exact Drawn0.refl _ | apply Drawn0.step)⟩
                case round =>
                  clear H'
                  try clear c1
                  try clear p1
                  try clear q1
                  try clear hx1
                  try clear qi1
                  try clear c2
                  try clear c2b0
                  try clear c2b1
                  try clear c2b2
                  try clear p2
                  try clear c3
                  try clear c3b0
                  try clear c3b1
                  try clear c4
                  try clear c6
                  try clear p6
                  try clear c7
                  try clear c8
                  try clear c8b0
                  try clear c8b1
                  try clear c9
                  try clear c9b0
                  try clear c9b1
                  try clear c10
                  try clear p10
                  try clear q10
                  try clear hx10
                  try clear qi10
                  try clear hx101_0
                  try clear p1
                  try clear p101
                  try clear p2
                  try clear q1
                  try clear q10
                  try clear q101
                  obtain ⟨x4_2, x35_2, rfl, rfl, HA, HK2, ⟨m2, rfl⟩⟩ := hrel
                  cases gk with
                  | zero => exact absurd HA.out (by simp [utf_Next.l0])
                  | succ k2 =>
                    have H := HA.out
                    clear HA
                    simp only [utf_Next.l0] at H
                    by_cases c11 : x35_2 < (y106.length : Int)
                    · rw [if_pos c11] at H
                      have c11b0 : decide (x35_2 < (y106.length : Int)) = true := decide_eq_true c11
                      clear c11
                      by_cases c12 : 0 ≤ x35_2
                      · rw [if_pos c12] at H
                        have c12b0 : decide (0 ≤ x35_2) = true := decide_eq_true c12
                        clear c12
                        by_cases c13 : x35_2 < (y106.length : Int)
                        · rw [if_pos c13] at H
                          have c13b0 : decide (x35_2 < (y106.length : Int)) = true := decide_eq_true c13
                          clear c13
                          by_cases c14 : (Go.bits .and .u8 (rd y106 x35_2) 192) = 128
                          · rw [if_pos c14] at H
                            have c14b0 : ((Go.bits .and .u8 (rd y106 x35_2) 192) == 128) = true := beq_iff_eq.mpr c14
                            have c14b1 : ((Go.bits .and .u8 (rd y106 x35_2) 192) != 128) = false := bne_eq_false_iff_eq.mpr c14
                            clear c14
                            have H' := Aside0.mk H
                            clear H
                            have p110 : 0 ≤ (x35_2 : Int) := of_decide_eq_true (by first | (with_reducible assumption) | assumption)
                            have q110 : x35_2 < (y106.length : Int) := of_decide_eq_true (by first | (with_reducible assumption) | assumption)
                            obtain ⟨ad110, e110, hx110_0⟩ := Kd.at_int HR109.out x35_2 p110 q110
                            cases e110
                            replace p110 := eq_true p110
                            replace q110 := eq_true q110
                            go_wp2
                            go_roundg k2
                            case measure => have := HJ4.out; have := HK2.out; omega
                            case rel => exact ⟨(Go.bits .or .i32 (wrap32 (x4_2 * 64)) (wrap32 (Go.bits .and .u8 (rd y106 x35_2) 63))), (wrap64 (x35_2 + 1)), (by first | rfl | (simp; done) | (simp [*]; done)), (by first | rfl | (simp; done) | (simp [*]; done)), H', ⟨by have := HJ4.out; have := HK2.out; omega⟩, by repeat (first | exact Drawn0.refl _ | apply Drawn0.step)⟩
                          · rw [if_neg c14] at H
                            have c14b0 : ((Go.bits .and .u8 (rd y106 x35_2) 192) == 128) = false := beq_eq_false_iff_ne.mpr c14
                            have c14b1 : ((Go.bits .and .u8 (rd y106 x35_2) 192) != 128) = true := bne_iff_ne.mpr c14
                            simp only [Option.some.injEq, Prod.mk.injEq] at H
                            obtain ⟨rfl, rfl⟩ := H
                            have p110 : 0 ≤ (x35_2 : Int) := of_decide_eq_true (by first | (with_reducible assumption) | assumption)
                            have q110 : x35_2 < (y106.length : Int) := of_decide_eq_true (by first | (with_reducible assumption) | assumption)
                            obtain ⟨ad110, e110, hx110_0⟩ := Kd.at_int HR109.out x35_2 p110 q110
                            cases e110
                            replace p110 := eq_true p110
                            replace q110 := eq_true q110
                            go_wp2
                            go_ret2
                            exact ⟨by first | rfl | (simp; done) | (simp [*]; done), by repeat (first | exact Drawn0.refl _ | apply Drawn0.step)⟩
                        · rw [if_neg c13] at H
                          exact absurd H (by simp)
                      · rw [if_neg c12] at H
                        exact absurd H (by simp)
                    · rw [if_neg c11] at H
                      have c11b0 : decide (x35_2 < (y106.length : Int)) = false := decide_eq_false c11
                      clear c11
                      by_cases c15 : x4_2 < t104
                      · rw [if_pos c15] at H
                        have c15b0 : decide (x4_2 < t104) = true := decide_eq_true c15
                        clear c15
                        simp only [Option.some.injEq, Prod.mk.injEq] at H
                        obtain ⟨rfl, rfl⟩ := H
                        go_wp2
                        go_ret2
                        exact ⟨by first | rfl | (simp; done) | (simp [*]; done), by repeat (first | exact Drawn0.refl _ | apply Drawn0.step)⟩
                      · rw [if_neg c15] at H
                        have c15b0 : decide (x4_2 < t104) = false := decide_eq_false c15
                        clear c15
                        by_cases c16 : x4_2 > 1114111
                        · rw [if_pos c16] at H
                          have c16b0 : decide (1114111 < x4_2) = true := decide_eq_true c16
                          clear c16
                          simp only [Option.some.injEq, Prod.mk.injEq] at H
                          obtain ⟨rfl, rfl⟩ := H
                          go_wp2
                          go_ret2
                          exact ⟨by first | rfl | (simp; done) | (simp [*]; done), by repeat (first | exact Drawn0.refl _ | apply Drawn0.step)⟩
                        · rw [if_neg c16] at H
                          have c16b0 : decide (1114111 < x4_2) = false := decide_eq_false c16
                          clear c16
                          by_cases c17 : x4_2 ≥ 55296
                          · rw [if_pos c17] at H
                            have c17b0 : decide (55296 ≤ x4_2) = true := decide_eq_true c17
                            clear c17
                            by_cases c18 : x4_2 < 57344
                            · rw [if_pos c18] at H
                              have c18b0 : decide (x4_2 < 57344) = true := decide_eq_true c18
                              clear c18
                              simp only [Option.some.injEq, Prod.mk.injEq] at H
                              obtain ⟨rfl, rfl⟩ := H
                              go_wp2
                              go_ret2
                              exact ⟨by first | rfl | (simp; done) | (simp [*]; done), by repeat (first | exact Drawn0.refl _ | apply Drawn0.step)⟩
                            · rw [if_neg c18] at H
                              have c18b0 : decide (x4_2 < 57344) = false := decide_eq_false c18
                              clear c18
                              simp only [Option.some.injEq, Prod.mk.injEq] at H
                              obtain ⟨rfl, rfl⟩ := H
                              go_wp2
                              go_ret2
                              exact ⟨by first | rfl | (simp; done) | (simp [*]; done), by repeat (first | exact Drawn0.refl _ | apply Drawn0.step)⟩
                          · rw [if_neg c17] at H
                            have c17b0 : decide (55296 ≤ x4_2) = false := decide_eq_false c17
                            clear c17
                            simp only [Option.some.injEq, Prod.mk.injEq] at H
                            obtain ⟨rfl, rfl⟩ := H
                            go_wp2
                            go_ret2
                            exact ⟨by first | rfl | (simp; done) | (simp [*]; done), by repeat (first | exact Drawn0.refl _ | apply Drawn0.step)⟩
              · rw [if_neg c9] at H
                exact absurd H (by simp)
            · rw [if_neg c8] at H
              exact absurd H (by simp)
    · rw [if_neg c3] at H
      exact absurd H (by simp)

/-! ### lines_Index_Lines: function 33 -/

-- NOT PRINTED: function 42 (sort_Search)

/-! ### lines_Index_Line: function 28 -/

/-! ### lines_Index_Place: function 29 -/
section
open Go.Proofs.Ytgjnelloegkicaa.M
def lines_Index_Place.l0 : Nat → List Int → Int → Int → Int → Int → Option (Int × Int × Int)
  | 0, _, _, _, _, _ => none
  | k + 1, b, a1, ln, x8, x9 => if x9 < a1 then (if 0 ≤ x9 then (if x9 ≤ (b.length : Int) then ((utf_Next.f k (b.drop (x9 : Int).toNat)).bind fun bt => lines_Index_Place.l0 k b a1 ln (wrap64 (x8 + 1)) (wrap64 (x9 + bt.2))) else none) else none) else some (ln, x8, 0)
def lines_Index_Place.f (k : Nat) (l0 : List IxT) (a1 : Int) : Option (Int × Int × Int) := (lines_Index_Line.f l0 a1).bind fun q => if q.2 = 0 then (match l0 with
  | [] => none
  | b :: _ => lines_Index_Place.l0 k b a1 q.1 1 (rd (begins b) (q.1 - 1))) else some (0, 0, q.2)
theorem lines_Index_Place.mono_l : ∀ k, (∀ y0 y1 y2 y3 y4, LeO (lines_Index_Place.l0 k y0 y1 y2 y3 y4) (lines_Index_Place.l0 (k + 1) y0 y1 y2 y3 y4))
  | 0 => fun _ _ _ _ _ r h => by simp [lines_Index_Place.l0] at h
  | k + 1 => by
    have ih0 := lines_Index_Place.mono_l k
    · intro y0 y1 y2 y3 y4
      unfold lines_Index_Place.l0
      repeat' first
      | (with_reducible exact ih0 _ _ _ _ _)
      | (with_reducible exact utf_Next.mono _ _)
      | (with_reducible exact LeO.refl _)
      | (with_reducible exact LeO.none _)
      | (with_reducible refine LeO.ite ?_ ?_)
      | (with_reducible refine LeO.bind ?_ (fun _ => ?_))
theorem lines_Index_Place.mono : ∀ a0 a1 k, LeO (lines_Index_Place.f k a0 a1) (lines_Index_Place.f (k + 1) a0 a1) := by
  intro a0 a1 k
  unfold lines_Index_Place.f
  refine LeO.bind (LeO.refl _) (fun q => LeO.ite ?_ (LeO.refl _))
  cases a0 with
  | nil => exact LeO.refl _
  | cons b t => exact lines_Index_Place.mono_l _ _ _ _ _ _
theorem lineOf_range (b : List Int) (a : Int) : 1 ≤ lineOf b a ∧ lineOf b a ≤ ((begins b).length : Int) := by
  have := begins_len b
  have : nlines b ≤ ((begins b).length : Int) := by unfold nlines; split <;> omega
  unfold lineOf
  repeat' split
  all_goals omega
set_option maxHeartbeats 8000000 in
set_option maxRecDepth 100000 in
theorem lines_Index_Place.calls (k : Nat) (V0 : Value) (l0 : List IxT) (a1 : Int) (r1 r2 r3 : Int) (w : World) (hs0 : IxP w V0 l0) (h : lines_Index_Place.f k l0 a1 = some (r1, r2, r3)) :
    Calls Try.prog 29 #[V0, .int .i64 a1] w fun e w' => e = .returned (.tuple #[.agg #[.int .i64 r1, .int .i64 r2], .int .i64 r3]) ∧ Below w.heap.size w w' := by
  have HS := Aside0.mk hs0
  obtain ⟨⟨ln, e⟩, hl, h⟩ := Option.bind_eq_some_iff.mp h
  have HL := Aside0.mk hl
  by_cases he : e = 0
  · subst he
    replace h := (if_pos rfl).symm.trans h
    rcases hs0 with ⟨rfl, rfl⟩ | ⟨b, g, A1, c1, A2, c2, rfl, rfl, hg, hl1, hC1, hl2, hC2⟩
    · cases hl
    · have hl : (if b.length < 100000000000 then (if a1 < 0 then some ((0 : Int), (2 : Int)) else if (b.length : Int) < a1 then some (0, 2) else some (lineOf b a1, 0)) else none) = some (ln, 0) := hl
      have hq : ln = lineOf b a1 ∧ b.length < 100000000000 := by
        repeat' split at hl
        all_goals first | exact ⟨by (injection hl with hl; injection hl with hl; exact hl.symm), by assumption⟩ | (exfalso; revert hl; simp; done)
      obtain ⟨hq, hb100⟩ := hq
      have hr := lineOf_range b a1
      rw [← hq] at hr
      have hbl := begins_len b
      obtain ⟨m, rfl⟩ : ∃ m : Nat, ln = (m : Int) + 1 := ⟨(ln - 1).toNat, by omega⟩
      obtain ⟨ad, e1, hz⟩ := Kd.at_int hC1 (m : Int) (by omega) (by omega)
      subst e1
      simp only [Int.toNat_natCast] at hz
      have i1 : IntKind.i64.wrap ((m : Int) + 1 - 1) = (m : Int) := by rw [show (m : Int) + 1 - 1 = (m : Int) by omega]; exact IntWalk.i64_in _ (by omega)
      have i2 : wrap64 (m : Int) = (m : Int) := w64 (by omega) (by omega)
      have p1 : 0 ≤ (m : Int) := by omega
      have q1 : (m : Int) < ((begins b).length : Int) := by omega
      have H : lines_Index_Place.l0 k b a1 ((m : Int) + 1) 1 (rd (begins b) ((m : Int) + 1 - 1)) = some (r1, r2, r3) := h
      rw [show (m : Int) + 1 - 1 = (m : Int) by omega] at H
      clear h
      have H' := Aside0.mk H
      clear H
      have hx := cell_of_heap hg 0
      have hy := cell_of_heap hg 1
      simp at hx hy
      have HX := Aside0.mk hx
      have HY := Aside0.mk hy
      have HZ := Aside0.mk hz
      have HC2 := Aside0.mk hC2
      have HL2 := Aside0.mk hl2
      clear hx hy hz hC2 hl2 hl1 hC1 hg hr hbl hq hb100 hl
      go_enter Try.func29, Try.ntmps29
      go_wp2_with (go_at_call 28; refine (lines_Index_Line.calls _ [b] a1 _ _ _ (IxP_below HS.out (by repeat (first | exact Below.refl _ _ | apply below_alloc | apply pw_below_drewN | apply below_drew1))) HL.out).mono ?_; rintro e w' ⟨rfl, hb0⟩; have hb4 : w'.heap[w.heap.size]? = some (.cells #[.int .i64 0, .int .i64 0] 54) := (hb0.block _ (by simp)).trans (heap_alloc_new w _); have hbw : Below w.heap.size w w' := (below_alloc (Below.refl _ _) _).trans (hb0.mono (by simp)); have nx := pw_cell_below hbw HX.out; have nz := pw_cell_below hbw HZ.out; have HB4 := Aside0.mk hb4; have HB := Aside0.mk hbw; clear hb4 hbw hb0)
      clear i1 i2 nx nz
      go_loopg [8, 9] k (fun kq v8 v9 w' => ∃ (x8 x9 : Int), v8 = .int .i64 x8 ∧ v9 = .int .i64 x9 ∧ Aside0 (lines_Index_Place.l0 kq b a1 ((m : Int) + 1) x8 x9 = some (r1, r2, r3)) ∧ Aside0 (kq ≤ k) ∧ Aside0 (w'.heap[w.heap.size]? = some (.cells #[.int .i64 0, .int .i64 0] 54)) ∧ Aside0 (Below w.heap.size w w'))
      case atStart => exact ⟨1, rd (begins b) (m : Int), rfl, rfl, H', ⟨Nat.le_refl _⟩, HB4, HB⟩
      case round =>
        clear H' HB4 HB
        obtain ⟨x8, x9, rfl, rfl, HA, HK1, HB4, HB⟩ := hrel
        cases gk with
        | zero => exact absurd HA.out (by simp [lines_Index_Place.l0])
        | succ k1 =>
          have H := HA.out
          clear HA
          simp only [lines_Index_Place.l0] at H
          have nx := pw_cell_below HB.out HX.out
          have ny := pw_cell_below HB.out HY.out
          by_cases c2 : x9 < a1
          · rw [if_pos c2] at H
            have c2b0 : decide (x9 < a1) = true := decide_eq_true c2
            clear c2
            by_cases c3 : 0 ≤ x9
            · rw [if_pos c3] at H
              have c3b0 := eq_true c3
              have c3b1 : decide (0 ≤ x9) = true := decide_eq_true c3
              clear c3
              by_cases c4 : x9 ≤ (b.length : Int)
              · rw [if_pos c4] at H
                have c4b0 := eq_true c4
                have c4b1 : decide (x9 ≤ (b.length : Int)) = true := decide_eq_true c4
                clear c4
                obtain ⟨⟨t1, t2⟩, A50, H⟩ := Option.bind_eq_some_iff.mp H
                replace H : lines_Index_Place.l0 k1 b a1 ((m : Int) + 1) (wrap64 (x8 + 1)) (wrap64 (x9 + t2)) = some (r1, r2, r3) := H
                have A5 := Aside0.mk A50
                have H' := Aside0.mk H
                clear A50 H
                obtain ⟨i07, hi07, _, hsz7, _⟩ := info_parts info5
                obtain ⟨A7, hcut7, hA7, hC7⟩ := print_drop_of (P := Try.prog) (Value.int .u8) 0 22 5 .i64 Try.underlying22 hi07 hsz7 A2 c2 b x9 (of_decide_eq_true (by first | (with_reducible assumption) | assumption)) (of_decide_eq_true (by first | (with_reducible assumption) | assumption)) HL2.out
                have HR111 := Aside0.mk (Kd.C_of_reads (h1 := fun _ => rfl) (hA7 _ (Kd.reads_of_C HC2.out)))
                have HC111 := Aside0.mk hC7
                clear hA7 hC7 hi07 hsz7
                go_wp2_with (go_at_call 15; rw [← List.length_drop (i := x9.toNat) (l := b)]; (refine (utf_Next.calls k1 _ _ (b.drop (x9 : Int).toNat) t1 t2 _ (Kd.C_below HR111.out HB.out) HC111.out A5.out).mono ?_); rintro e w'' ⟨rfl, ⟨nd, rfl⟩⟩)
                go_roundg k1
                case measure => have := HK1.out; omega
                case rel => exact ⟨_, _, rfl, rfl, H', ⟨by have := HK1.out; omega⟩, HB4, ⟨pw_below_drewN HB.out _⟩⟩
              · rw [if_neg c4] at H
                cases H
            · rw [if_neg c3] at H
              cases H
          · rw [if_neg c2] at H
            have c2b0 : decide (x9 < a1) = false := decide_eq_false c2
            clear c2
            obtain ⟨rfl, rfl, rfl⟩ : (m : Int) + 1 = r1 ∧ x8 = r2 ∧ 0 = r3 := by
              have := Option.some.inj H
              simp only [Prod.mk.injEq] at this
              exact this
            clear H
            have n4 := cell_of_heap HB4.out 0
            have n5 := cell_of_heap HB4.out 1
            have f4 := frozen_of_heap HB4.out 0
            have f5 := frozen_of_heap HB4.out 1
            simp at n4 n5
            go_wp2
            exact bodyPost_ret (v := .tuple #[.agg #[.int .i64 ((m : Int) + 1), .int .i64 x8], .int .i64 0]) (by simp [results, Try.results29, go_sem, n4, n5]) rfl ⟨rfl, (by repeat (first | exact HB.out | refine below_set1 ?_ (by simp)))⟩
  · replace h := (if_neg he).symm.trans h
    obtain ⟨rfl, rfl, rfl⟩ : 0 = r1 ∧ 0 = r2 ∧ e = r3 := by
      have := Option.some.inj h
      simp only [Prod.mk.injEq] at this
      exact this
    have b1 : decide (e = 0) = false := decide_eq_false he
    clear h hl
    go_enter Try.func29, Try.ntmps29
    go_wp2_with (go_at_call 28; refine (lines_Index_Line.calls _ l0 a1 _ _ _ (IxP_below HS.out (by repeat (first | exact Below.refl _ _ | apply below_alloc | apply pw_below_drewN | apply below_drew1))) HL.out).mono ?_; rintro e' w' ⟨rfl, hb0⟩; have hb4 : w'.heap[w.heap.size]? = some (.cells #[.int .i64 0, .int .i64 0] 54) := (hb0.block _ (by simp)).trans (heap_alloc_new w _); have hbw : Below w.heap.size w w' := (below_alloc (Below.refl _ _) _).trans (hb0.mono (by simp)); have n4 := cell_of_heap hb4 0; have n5 := cell_of_heap hb4 1; have f4 := frozen_of_heap hb4 0; have f5 := frozen_of_heap hb4 1; simp at n4 n5; have HB := Aside0.mk hbw; clear hb4 hbw hb0)
    exact bodyPost_ret (v := .tuple #[.agg #[.int .i64 0, .int .i64 0], .int .i64 e]) (by simp [results, Try.results29, go_sem, n4, n5]) rfl ⟨rfl, (by repeat (first | exact HB.out | refine below_set1 ?_ (by simp)))⟩
end

/-! ### redpenlaw03_Awake: function 26 -/
def redpenlaw03_Awake.f (k : Nat)  : Option (Bool) := (const_bytes.f ([97, 10, 98, 99] : List Int)).bind fun t111 => ((lines_New.f t111).bind fun t114 => ((lines_Index_Place.f k t114 3).bind fun bt117 => ((const_bytes.f ([97, 10] : List Int)).bind fun t121 => ((lines_New.f t121).bind fun t124 => ((lines_Index_Place.f k t124 2).bind fun bt127 => ((lines_Index_Lines.f t114).bind fun t131 => (if t131 = 2 then (if bt117.2.2 = 0 then (if bt127.2.2 = 0 then (if (bt117.1 == 2 && (bt117.2.1 == 2)) = true then (some (bt127.1 == 1 && (bt127.2.1 == 3))) else (some false)) else (some false)) else (some false)) else (some false))))))))
theorem redpenlaw03_Awake.mono : ∀ k, LeO (redpenlaw03_Awake.f k ) (redpenlaw03_Awake.f (k + 1) ) := by
  intro  k
  unfold redpenlaw03_Awake.f
  repeat' first
      | (with_reducible exact lines_Index_Place.mono _ _ _)
      | (with_reducible exact LeO.refl _)
      | (with_reducible exact LeO.none _)
      | (with_reducible refine LeO.ite ?_ ?_)
      | (with_reducible refine LeO.bind ?_ (fun _ => ?_))
      | exact lines_Index_Place.mono _ _ _
      | exact LeO.none _
      | refine LeO.ite ?_ ?_
      | refine LeO.bind ?_ (fun _ => ?_)
set_option maxHeartbeats 8000000 in
set_option maxRecDepth 100000 in
theorem redpenlaw03_Awake.calls (k : Nat)  (r : Bool) (w : World) (h : redpenlaw03_Awake.f k  = some r) :
    Calls Try.prog 26 #[] w fun e w' => e = .returned (.bool r) ∧ Below w.heap.size w w' := by
  have hu54 := Try.underlying54
  have HB := Aside0.mk (Below.refl w.heap.size w)
  have H : ((const_bytes.f ([97, 10, 98, 99] : List Int)).bind fun t111 => ((lines_New.f t111).bind fun t114 => ((lines_Index_Place.f k t114 3).bind fun bt117 => ((const_bytes.f ([97, 10] : List Int)).bind fun t121 => ((lines_New.f t121).bind fun t124 => ((lines_Index_Place.f k t124 2).bind fun bt127 => ((lines_Index_Lines.f t114).bind fun t131 => (if t131 = 2 then (if bt117.2.2 = 0 then (if bt127.2.2 = 0 then (if (bt117.1 == 2 && (bt117.2.1 == 2)) = true then (some (bt127.1 == 1 && (bt127.2.1 == 3))) else (some false)) else (some false)) else (some false)) else (some false))))))))) = some r := h
  clear h
  replace H := Option.bind_eq_some_iff.mp H
  obtain ⟨t111, A10, H⟩ := H
  replace H : ((lines_New.f t111).bind fun t114 => ((lines_Index_Place.f k t114 3).bind fun bt117 => ((const_bytes.f ([97, 10] : List Int)).bind fun t121 => ((lines_New.f t121).bind fun t124 => ((lines_Index_Place.f k t124 2).bind fun bt127 => ((lines_Index_Lines.f t114).bind fun t131 => (if t131 = 2 then (if bt117.2.2 = 0 then (if bt127.2.2 = 0 then (if (bt117.1 == 2 && (bt117.2.1 == 2)) = true then (some (bt127.1 == 1 && (bt127.2.1 == 3))) else (some false)) else (some false)) else (some false)) else (some false)))))))) = some r := H
  have A1 := Aside0.mk A10
  clear A10
  replace H := Option.bind_eq_some_iff.mp H
  obtain ⟨t114, A20, H⟩ := H
  replace H : ((lines_Index_Place.f k t114 3).bind fun bt117 => ((const_bytes.f ([97, 10] : List Int)).bind fun t121 => ((lines_New.f t121).bind fun t124 => ((lines_Index_Place.f k t124 2).bind fun bt127 => ((lines_Index_Lines.f t114).bind fun t131 => (if t131 = 2 then (if bt117.2.2 = 0 then (if bt127.2.2 = 0 then (if (bt117.1 == 2 && (bt117.2.1 == 2)) = true then (some (bt127.1 == 1 && (bt127.2.1 == 3))) else (some false)) else (some false)) else (some false)) else (some false))))))) = some r := H
  have A2 := Aside0.mk A20
  clear A20
  replace H := Option.bind_eq_some_iff.mp H
  obtain ⟨⟨t117, t118, t119⟩, A30, H⟩ := H
  replace H : ((const_bytes.f ([97, 10] : List Int)).bind fun t121 => ((lines_New.f t121).bind fun t124 => ((lines_Index_Place.f k t124 2).bind fun bt127 => ((lines_Index_Lines.f t114).bind fun t131 => (if t131 = 2 then (if t119 = 0 then (if bt127.2.2 = 0 then (if (t117 == 2 && (t118 == 2)) = true then (some (bt127.1 == 1 && (bt127.2.1 == 3))) else (some false)) else (some false)) else (some false)) else (some false)))))) = some r := H
  have A3 := Aside0.mk A30
  clear A30
  replace H := Option.bind_eq_some_iff.mp H
  obtain ⟨t121, A40, H⟩ := H
  replace H : ((lines_New.f t121).bind fun t124 => ((lines_Index_Place.f k t124 2).bind fun bt127 => ((lines_Index_Lines.f t114).bind fun t131 => (if t131 = 2 then (if t119 = 0 then (if bt127.2.2 = 0 then (if (t117 == 2 && (t118 == 2)) = true then (some (bt127.1 == 1 && (bt127.2.1 == 3))) else (some false)) else (some false)) else (some false)) else (some false))))) = some r := H
  have A4 := Aside0.mk A40
  clear A40
  replace H := Option.bind_eq_some_iff.mp H
  obtain ⟨t124, A50, H⟩ := H
  replace H : ((lines_Index_Place.f k t124 2).bind fun bt127 => ((lines_Index_Lines.f t114).bind fun t131 => (if t131 = 2 then (if t119 = 0 then (if bt127.2.2 = 0 then (if (t117 == 2 && (t118 == 2)) = true then (some (bt127.1 == 1 && (bt127.2.1 == 3))) else (some false)) else (some false)) else (some false)) else (some false)))) = some r := H
  have A5 := Aside0.mk A50
  clear A50
  replace H := Option.bind_eq_some_iff.mp H
  obtain ⟨⟨t127, t128, t129⟩, A60, H⟩ := H
  replace H : ((lines_Index_Lines.f t114).bind fun t131 => (if t131 = 2 then (if t119 = 0 then (if t129 = 0 then (if (t117 == 2 && (t118 == 2)) = true then (some (t127 == 1 && (t128 == 3))) else (some false)) else (some false)) else (some false)) else (some false))) = some r := H
  have A6 := Aside0.mk A60
  clear A60
  replace H := Option.bind_eq_some_iff.mp H
  obtain ⟨t131, A70, H⟩ := H
  replace H : (if t131 = 2 then (if t119 = 0 then (if t129 = 0 then (if (t117 == 2 && (t118 == 2)) = true then (some (t127 == 1 && (t128 == 3))) else (some false)) else (some false)) else (some false)) else (some false)) = some r := H
  have A7 := Aside0.mk A70
  clear A70
  by_cases c8 : t131 = 2
  · rw [if_pos c8] at H
    have c8b0 : (t131 == 2) = true := beq_iff_eq.mpr c8
    have c8b1 : (t131 != 2) = false := bne_eq_false_iff_eq.mpr c8
    clear c8
    by_cases c9 : t119 = 0
    · rw [if_pos c9] at H
      have c9b0 : (t119 == 0) = true := beq_iff_eq.mpr c9
      have c9b1 : (t119 != 0) = false := bne_eq_false_iff_eq.mpr c9
      clear c9
      by_cases c10 : t129 = 0
      · rw [if_pos c10] at H
        have c10b0 : (t129 == 0) = true := beq_iff_eq.mpr c10
        have c10b1 : (t129 != 0) = false := bne_eq_false_iff_eq.mpr c10
        clear c10
        by_cases c11 : (t117 == 2 && (t118 == 2)) = true
        · rw [if_pos c11] at H
          have c11b0 : (t117 == 2 && (t118 == 2)) = true := c11
          (try (have c11b1 : decide (t117 = 2 && (t118 == 2)) = true := by simpa using c11))
          (try (have c11b2 : (t117 == 2 && (t118 == 2)) = true := by simpa using c11))
          clear c11
          obtain rfl := Option.some.inj H
          go_enter Try.func26, Try.ntmps26
          go_wp2_with (first | ((with_reducible refine gate_dst (N := 7) rfl ?_); refine const_goes (N := some 7) rfl rfl (a0 := ([97, 10, 98, 99] : List Int)) rfl (by first | rfl | (simp; done)) (by first | rfl | (simp; done)) (by first | rfl | (simp; done)) Try.underlying22 Try.underlying5 ?_; (with_reducible refine (const_bytes.calls ([97, 10, 98, 99] : List Int) t111 _ A1.out).mono ?_); rintro e w12 ⟨v112, rfl, ho0, hb⟩; refine ⟨_, rfl, ?_⟩; have n0_ := Aside0.mk (Kd.V_lower (Kd.V_mono (ok' := fun k_ => True) ho0 (fun k_ hk_ => trivial)) (below_size (by repeat (first | (with_reducible first | exact HB.out | apply below_alloc | apply pw_below_drewN | apply below_drew1) | exact HB.out)))); have n1_ := Aside0.mk (below_step (by repeat (first | (with_reducible first | exact HB.out | apply below_alloc | apply pw_below_drewN | apply below_drew1) | exact HB.out)) hb); clear HB; have HO113 := n0_; have HB := n1_; clear n0_ n1_; (try clear hb); (try clear hb2); (try clear hk); (try clear hi); (try clear ho0); obtain ⟨Ao13, co13, eo13⟩ := Kd.V_slice HO113.out; subst eo13) | ((with_reducible refine gate_callee (f := 27) rfl ?_); refine goesL_ (some 8) rfl rfl Try.func27 (by kernel_rfl) rfl #[.slice Ao13 t111.length co13] rfl (by (try simp only [List.map_toArray, List.map_cons, List.map_nil]); first | done | rfl | (simp only [List.length_drop, List.length_take]; rfl)) ?_; (with_reducible refine (lines_New.calls _ _ t111 t114 _ ?side1 ?side2 A2.out).mono ?_); (case side1 => repeat (first | exact (Kd.V_reads' HO113.out).2.2 | (with_reducible refine Kd.C_alloc ?_ _) | (with_reducible refine Kd.C_drewN ?_ _) | (with_reducible refine Kd.C_drew ?_))); (case side2 => exact (Kd.V_reads' HO113.out).2.1); rintro e w14 ⟨v115, rfl, ho0, hb⟩; refine ⟨_, rfl, ?_⟩; have n0_ := Aside0.mk (Kd.V_below (by (with_reducible repeat (first | apply Kd.V_alloc | apply Kd.V_drewN | apply Kd.V_drew)); exact HO113.out) hb); have n1_ := Aside0.mk (Kd.P_lower (Kd.P_mono (ok' := fun k_ => True) ho0 (fun k_ hk_ => trivial)) (below_size (by repeat (first | (with_reducible first | exact HB.out | apply below_alloc | apply pw_below_drewN | apply below_drew1) | exact HB.out)))); have n2_ := Aside0.mk (below_step (by repeat (first | (with_reducible first | exact HB.out | apply below_alloc | apply pw_below_drewN | apply below_drew1) | exact HB.out)) hb); clear HO113; clear HB; have HO113 := n0_; have HO116 := n1_; have HB := n2_; clear n0_ n1_ n2_; (try clear hb); (try clear hb2); (try clear hk); (try clear hi); (try clear ho0)) | ((with_reducible refine gate_callee (f := 29) rfl ?_); refine goesL_ (some 11) rfl rfl Try.func29 (by kernel_rfl) rfl #[v115, .int .i64 3] rfl (by (try simp only [List.map_toArray, List.map_cons, List.map_nil]); first | done | rfl | (simp only [List.length_drop, List.length_take]; rfl)) ?_; (with_reducible refine (lines_Index_Place.calls k _ t114 3 t117 t118 t119 _ ?side1 A3.out).mono ?_); (case side1 => exact Kd.P_now (by (with_reducible repeat (first | apply Kd.P_alloc | apply Kd.P_drewN | apply Kd.P_drew)); exact HO116.out)); rintro e w15 ⟨rfl, hb⟩; refine ⟨_, rfl, ?_⟩; have n0_ := Aside0.mk (Kd.V_below (by (with_reducible repeat (first | apply Kd.V_alloc | apply Kd.V_drewN | apply Kd.V_drew)); exact HO113.out) hb); have n1_ := Aside0.mk (Kd.P_below (by (with_reducible repeat (first | apply Kd.P_alloc | apply Kd.P_drewN | apply Kd.P_drew)); exact HO116.out) hb); have n2_ := Aside0.mk (below_step (by repeat (first | (with_reducible first | exact HB.out | apply below_alloc | apply pw_below_drewN | apply below_drew1) | exact HB.out)) hb); clear HO113; clear HO116; clear HB; have HO113 := n0_; have HO116 := n1_; have HB := n2_; clear n0_ n1_ n2_; (try clear hb); (try clear hb2); (try clear hk); (try clear hi)) | ((with_reducible refine gate_dst (N := 2) rfl ?_); refine box_event ?hg (N := 2) ?hd (cs := #[.int .i64 0, .int .i64 0]) (t := 54) ?hr ?_; (case hd => rfl); (case hg => rfl); (case hr => first | (go_simp; done) | (go_simp; rfl)); intro gb120 hg w16 hbox hb; have n0_ := Aside0.mk (Kd.V_below (Kd.V_elderB (by (with_reducible repeat (first | apply Kd.V_alloc | apply Kd.V_drewN | apply Kd.V_drew)); exact HO113.out) gb120 (Nat.le_of_eq hg.symm)) hb); have n1_ := Aside0.mk (Kd.P_below (Kd.P_elderB (by (with_reducible repeat (first | apply Kd.P_alloc | apply Kd.P_drewN | apply Kd.P_drew)); exact HO116.out) gb120 (Nat.le_of_eq hg.symm)) hb); have n2_ := Aside0.mk (below_step (by repeat (first | (with_reducible first | exact HB.out | apply below_alloc | apply pw_below_drewN | apply below_drew1) | exact HB.out)) hb); have n3_ := Aside0.mk (hbox); have n4_ := Aside0.mk ((by rw [hg]; exact (below_size (by repeat (first | (with_reducible first | exact HB.out | apply below_alloc | apply pw_below_drewN | apply below_drew1) | exact HB.out))) : w.heap.size ≤ gb120)); have n5_ := Aside0.mk ((by rw [hg]; exact (below_size (by repeat (first | (with_reducible first | exact HB.out | apply below_alloc | apply pw_below_drewN | apply below_drew1) | exact HB.out))) : w.heap.size ≤ gb120)); clear HO113; clear HO116; clear HB; have HO113 := n0_; have HO116 := n1_; have HB := n2_; have BK120 := n3_; have GW120 := n4_; have GE120 := n5_; clear n0_ n1_ n2_ n3_ n4_ n5_; clear hb hbox hg; have hcz17_0 : w16.cell? ⟨gb120, 0, none⟩ = some (.int .i64 0) := (blk_cell BK120.out 0).trans rfl; have hcz17_1 : w16.cell? ⟨gb120, 1, none⟩ = some (.int .i64 0) := (blk_cell BK120.out 1).trans rfl; have hfz17_0 := blk_frozen BK120.out 0; have hfz17_1 := blk_frozen BK120.out 1) | ((with_reducible refine gate_dst (N := 16) rfl ?_); refine const_goes (N := some 16) rfl rfl (a0 := ([97, 10] : List Int)) rfl (by first | rfl | (simp; done)) (by first | rfl | (simp; done)) (by first | rfl | (simp; done)) Try.underlying22 Try.underlying5 ?_; (with_reducible refine (const_bytes.calls ([97, 10] : List Int) t121 _ A4.out).mono ?_); rintro e w18 ⟨v122, rfl, ho0, hb⟩; refine ⟨_, rfl, ?_⟩; have n0_ := Aside0.mk (Kd.V_below (by (with_reducible repeat (first | apply Kd.V_alloc | apply Kd.V_drewN | apply Kd.V_drew)); exact (Kd.V_mono (Kd.V_far (p := ⟨gb120, 1, none⟩) (Kd.V_far (p := ⟨gb120, 0, none⟩) (Kd.V_mono HO113.out (fun k_ hk => (⟨hk, hk.2⟩ : _ ∧ k_ ≠ gb120))) (fun _ hk => hk.2) (.int .i64 t117)) (fun _ hk => hk.2) (.int .i64 t118)) (fun _ h_ => h_.1))) hb); have n1_ := Aside0.mk (Kd.P_below (by (with_reducible repeat (first | apply Kd.P_alloc | apply Kd.P_drewN | apply Kd.P_drew)); exact (Kd.P_mono (Kd.P_far (p := ⟨gb120, 1, none⟩) (Kd.P_far (p := ⟨gb120, 0, none⟩) (Kd.P_mono HO116.out (fun k_ hk => (⟨hk, hk.2⟩ : _ ∧ k_ ≠ gb120))) (fun _ hk => hk.2) (.int .i64 t117)) (fun _ hk => hk.2) (.int .i64 t118)) (fun _ h_ => h_.1))) hb); have n2_ := Aside0.mk (Kd.V_lower (Kd.V_mono (ok' := fun k_ => k_ ≠ gb120) ho0 (fun k_ hk_ => (Kd.freshB (g := gb120) (o := .cells #[.int .i64 t117, .int .i64 t118] 54 (0, 0)) (by (with_reducible repeat (first | refine blk_drewN ?_ _ | refine blk_drew ?_ | refine blk_alloc ?_ _)); refine blk_put (cs := #[.int .i64 t117, .int .i64 0]) ?_ 1 _ rfl; (with_reducible repeat (first | refine blk_drewN ?_ _ | refine blk_drew ?_ | refine blk_alloc ?_ _)); refine blk_put (cs := #[.int .i64 0, .int .i64 0]) ?_ 0 _ rfl; (with_reducible repeat (first | refine blk_drewN ?_ _ | refine blk_drew ?_ | refine blk_alloc ?_ _)); exact BK120.out) k_ hk_))) (below_size (by repeat (first | (with_reducible first | exact HB.out | apply below_alloc | apply pw_below_drewN | apply below_drew1 | refine below_set ?_ GE120.out) | exact HB.out)))); have n3_ := Aside0.mk (blk_below (g := gb120) (o := .cells #[.int .i64 t117, .int .i64 t118] 54 (0, 0)) (by (with_reducible repeat (first | refine blk_drewN ?_ _ | refine blk_drew ?_ | refine blk_alloc ?_ _)); refine blk_put (cs := #[.int .i64 t117, .int .i64 0]) ?_ 1 _ rfl; (with_reducible repeat (first | refine blk_drewN ?_ _ | refine blk_drew ?_ | refine blk_alloc ?_ _)); refine blk_put (cs := #[.int .i64 0, .int .i64 0]) ?_ 0 _ rfl; (with_reducible repeat (first | refine blk_drewN ?_ _ | refine blk_drew ?_ | refine blk_alloc ?_ _)); exact BK120.out) hb); have n4_ := Aside0.mk (below_step (by repeat (first | (with_reducible first | exact HB.out | apply below_alloc | apply pw_below_drewN | apply below_drew1 | refine below_set ?_ GE120.out) | exact HB.out)) hb); clear HO113; clear HO116; clear BK120; clear HB; have HO113 := n0_; have HO116 := n1_; have HO123 := n2_; have BK120 := n3_; have HB := n4_; clear n0_ n1_ n2_ n3_ n4_; (try clear hb); (try clear hb2); (try clear hk); (try clear hi); (try clear ho0); obtain ⟨Ao19, co19, eo19⟩ := Kd.V_slice HO123.out; subst eo19) | ((with_reducible refine gate_callee (f := 27) rfl ?_); refine goesL_ (some 17) rfl rfl Try.func27 (by kernel_rfl) rfl #[.slice Ao19 t121.length co19] rfl (by (try simp only [List.map_toArray, List.map_cons, List.map_nil]); first | done | rfl | (simp only [List.length_drop, List.length_take]; rfl)) ?_; (with_reducible refine (lines_New.calls _ _ t121 t124 _ ?side1 ?side2 A5.out).mono ?_); (case side1 => repeat (first | exact (Kd.V_reads' HO123.out).2.2 | (with_reducible refine Kd.C_alloc ?_ _) | (with_reducible refine Kd.C_drewN ?_ _) | (with_reducible refine Kd.C_drew ?_))); (case side2 => exact (Kd.V_reads' HO123.out).2.1); rintro e w20 ⟨v125, rfl, ho0, hb⟩; refine ⟨_, rfl, ?_⟩; have n0_ := Aside0.mk (Kd.V_below (by (with_reducible repeat (first | apply Kd.V_alloc | apply Kd.V_drewN | apply Kd.V_drew)); exact HO113.out) hb); have n1_ := Aside0.mk (Kd.P_below (by (with_reducible repeat (first | apply Kd.P_alloc | apply Kd.P_drewN | apply Kd.P_drew)); exact HO116.out) hb); have n2_ := Aside0.mk (Kd.V_below (by (with_reducible repeat (first | apply Kd.V_alloc | apply Kd.V_drewN | apply Kd.V_drew)); exact HO123.out) hb); have n3_ := Aside0.mk (Kd.P_lower (Kd.P_mono (ok' := fun k_ => k_ ≠ gb120) ho0 (fun k_ hk_ => (Kd.freshB (g := gb120) (o := .cells #[.int .i64 t117, .int .i64 t118] 54 (0, 0)) (by (with_reducible repeat (first | refine blk_drewN ?_ _ | refine blk_drew ?_ | refine blk_alloc ?_ _)); exact BK120.out) k_ hk_))) (below_size (by repeat (first | (with_reducible first | exact HB.out | apply below_alloc | apply pw_below_drewN | apply below_drew1 | refine below_set ?_ GE120.out) | exact HB.out)))); have n4_ := Aside0.mk (blk_below (g := gb120) (o := .cells #[.int .i64 t117, .int .i64 t118] 54 (0, 0)) (by (with_reducible repeat (first | refine blk_drewN ?_ _ | refine blk_drew ?_ | refine blk_alloc ?_ _)); exact BK120.out) hb); have n5_ := Aside0.mk (below_step (by repeat (first | (with_reducible first | exact HB.out | apply below_alloc | apply pw_below_drewN | apply below_drew1 | refine below_set ?_ GE120.out) | exact HB.out)) hb); clear HO113; clear HO116; clear HO123; clear BK120; clear HB; have HO113 := n0_; have HO116 := n1_; have HO123 := n2_; have HO126 := n3_; have BK120 := n4_; have HB := n5_; clear n0_ n1_ n2_ n3_ n4_ n5_; (try clear hb); (try clear hb2); (try clear hk); (try clear hi); (try clear ho0)) | ((with_reducible refine gate_callee (f := 29) rfl ?_); refine goesL_ (some 18) rfl rfl Try.func29 (by kernel_rfl) rfl #[v125, .int .i64 2] rfl (by (try simp only [List.map_toArray, List.map_cons, List.map_nil]); first | done | rfl | (simp only [List.length_drop, List.length_take]; rfl)) ?_; (with_reducible refine (lines_Index_Place.calls k _ t124 2 t127 t128 t129 _ ?side1 A6.out).mono ?_); (case side1 => exact Kd.P_now (by (with_reducible repeat (first | apply Kd.P_alloc | apply Kd.P_drewN | apply Kd.P_drew)); exact HO126.out)); rintro e w21 ⟨rfl, hb⟩; refine ⟨_, rfl, ?_⟩; have n0_ := Aside0.mk (Kd.V_below (by (with_reducible repeat (first | apply Kd.V_alloc | apply Kd.V_drewN | apply Kd.V_drew)); exact HO113.out) hb); have n1_ := Aside0.mk (Kd.P_below (by (with_reducible repeat (first | apply Kd.P_alloc | apply Kd.P_drewN | apply Kd.P_drew)); exact HO116.out) hb); have n2_ := Aside0.mk (Kd.V_below (by (with_reducible repeat (first | apply Kd.V_alloc | apply Kd.V_drewN | apply Kd.V_drew)); exact HO123.out) hb); have n3_ := Aside0.mk (Kd.P_below (by (with_reducible repeat (first | apply Kd.P_alloc | apply Kd.P_drewN | apply Kd.P_drew)); exact HO126.out) hb); have n4_ := Aside0.mk (blk_below (g := gb120) (o := .cells #[.int .i64 t117, .int .i64 t118] 54 (0, 0)) (by (with_reducible repeat (first | refine blk_drewN ?_ _ | refine blk_drew ?_ | refine blk_alloc ?_ _)); exact BK120.out) hb); have n5_ := Aside0.mk (below_step (by repeat (first | (with_reducible first | exact HB.out | apply below_alloc | apply pw_below_drewN | apply below_drew1 | refine below_set ?_ GE120.out) | exact HB.out)) hb); clear HO113; clear HO116; clear HO123; clear HO126; clear BK120; clear HB; have HO113 := n0_; have HO116 := n1_; have HO123 := n2_; have HO126 := n3_; have BK120 := n4_; have HB := n5_; clear n0_ n1_ n2_ n3_ n4_ n5_; (try clear hb); (try clear hb2); (try clear hk); (try clear hi)) | ((with_reducible refine gate_dst (N := 4) rfl ?_); refine box_event ?hg (N := 4) ?hd (cs := #[.int .i64 0, .int .i64 0]) (t := 54) ?hr ?_; (case hd => rfl); (case hg => rfl); (case hr => first | (go_simp; done) | (go_simp; rfl)); intro gb130 hg w22 hbox hb; have n0_ := Aside0.mk (Kd.V_below (Kd.V_elderB (by (with_reducible repeat (first | apply Kd.V_alloc | apply Kd.V_drewN | apply Kd.V_drew)); exact HO113.out) gb130 (Nat.le_of_eq hg.symm)) hb); have n1_ := Aside0.mk (Kd.P_below (Kd.P_elderB (by (with_reducible repeat (first | apply Kd.P_alloc | apply Kd.P_drewN | apply Kd.P_drew)); exact HO116.out) gb130 (Nat.le_of_eq hg.symm)) hb); have n2_ := Aside0.mk (Kd.V_below (Kd.V_elderB (by (with_reducible repeat (first | apply Kd.V_alloc | apply Kd.V_drewN | apply Kd.V_drew)); exact HO123.out) gb130 (Nat.le_of_eq hg.symm)) hb); have n3_ := Aside0.mk (Kd.P_below (Kd.P_elderB (by (with_reducible repeat (first | apply Kd.P_alloc | apply Kd.P_drewN | apply Kd.P_drew)); exact HO126.out) gb130 (Nat.le_of_eq hg.symm)) hb); have n4_ := Aside0.mk (blk_below (g := gb120) (o := .cells #[.int .i64 t117, .int .i64 t118] 54 (0, 0)) (by (with_reducible repeat (first | refine blk_drewN ?_ _ | refine blk_drew ?_ | refine blk_alloc ?_ _)); exact BK120.out) hb); have n5_ := Aside0.mk (below_step (by repeat (first | (with_reducible first | exact HB.out | apply below_alloc | apply pw_below_drewN | apply below_drew1 | refine below_set ?_ GE120.out) | exact HB.out)) hb); have n6_ := Aside0.mk (hbox); have n7_ := Aside0.mk ((by rw [hg]; exact (below_size (by repeat (first | (with_reducible first | exact HB.out | apply below_alloc | apply pw_below_drewN | apply below_drew1 | refine below_set ?_ GE120.out) | exact HB.out))) : w.heap.size ≤ gb130)); have n8_ := Aside0.mk ((by rw [hg]; exact (below_size (by repeat (first | (with_reducible first | exact HB.out | apply below_alloc | apply pw_below_drewN | apply below_drew1 | refine below_set ?_ GE120.out) | exact HB.out))) : w.heap.size ≤ gb130)); have n9_ := Aside0.mk ((by rw [hg]; exact Nat.ne_of_lt (blk_lt (g := gb120) (o := .cells #[.int .i64 t117, .int .i64 t118] 54 (0, 0)) (by (with_reducible repeat (first | refine blk_drewN ?_ _ | refine blk_drew ?_ | refine blk_alloc ?_ _)); exact BK120.out)) : gb120 ≠ gb130)); have n10_ := Aside0.mk ((by rw [hg]; exact Nat.ne_of_gt (blk_lt (g := gb120) (o := .cells #[.int .i64 t117, .int .i64 t118] 54 (0, 0)) (by (with_reducible repeat (first | refine blk_drewN ?_ _ | refine blk_drew ?_ | refine blk_alloc ?_ _)); exact BK120.out)) : gb130 ≠ gb120)); clear HO113; clear HO116; clear HO123; clear HO126; clear BK120; clear HB; have HO113 := n0_; have HO116 := n1_; have HO123 := n2_; have HO126 := n3_; have BK120 := n4_; have HB := n5_; have BK130 := n6_; have GW130 := n7_; have GE130 := n8_; have NB120_130 := n9_; have NB130_120 := n10_; clear n0_ n1_ n2_ n3_ n4_ n5_ n6_ n7_ n8_ n9_ n10_; clear hb hbox hg; have hnb23 := NB130_120.out; have hnc23 := NB120_130.out; have hcz24_0 : w22.cell? ⟨gb130, 0, none⟩ = some (.int .i64 0) := (blk_cell BK130.out 0).trans rfl; have hcz24_1 : w22.cell? ⟨gb130, 1, none⟩ = some (.int .i64 0) := (blk_cell BK130.out 1).trans rfl; have hfz24_0 := blk_frozen BK130.out 0; have hfz24_1 := blk_frozen BK130.out 1) | ((with_reducible refine gate_callee (f := 33) rfl ?_); refine goesL_ (some 22) rfl rfl Try.func33 (by kernel_rfl) rfl #[v115] rfl (by (try simp only [List.map_toArray, List.map_cons, List.map_nil]); first | done | rfl | (simp only [List.length_drop, List.length_take]; rfl)) ?_; (with_reducible refine (lines_Index_Lines.calls _ t114 t131 _ ?side1 A7.out).mono ?_); (case side1 => exact Kd.P_now (by (with_reducible repeat (first | apply Kd.P_alloc | apply Kd.P_drewN | apply Kd.P_drew)); exact (Kd.P_far (p := ⟨gb130, 1, none⟩) (Kd.P_far (p := ⟨gb130, 0, none⟩) (Kd.P_mono HO116.out (fun k_ hk => (⟨hk, hk.2⟩ : _ ∧ k_ ≠ gb130))) (fun _ hk => hk.2) (.int .i64 t127)) (fun _ hk => hk.2) (.int .i64 t128)))); rintro e w' ⟨rfl, ⟨nd, rfl⟩⟩; refine ⟨_, rfl, ?_⟩; have hcz25_0 : w22.cell? ⟨gb120, 0, none⟩ = some (.int .i64 t117) := (blk_cell BK120.out 0).trans rfl; have hcz25_1 : w22.cell? ⟨gb120, 1, none⟩ = some (.int .i64 t118) := (blk_cell BK120.out 1).trans rfl; have hfz25_0 := blk_frozen BK120.out 0; have hfz25_1 := blk_frozen BK120.out 1))
          go_ret
          exact ⟨by first | rfl | (simp [errW_none, errW_some] <;> rfl) | (simp [*, errW_none, errW_some] <;> rfl), by repeat (first | (with_reducible first | exact HB.out | apply below_alloc | apply pw_below_drewN | apply below_drew1 | refine below_set ?_ GE120.out | refine below_set ?_ GE130.out) | exact HB.out)⟩
        · rw [if_neg c11] at H
          have c11b0 : (t117 == 2 && (t118 == 2)) = false := by simpa using c11
          (try (have c11b1 : decide (t117 = 2 && (t118 == 2)) = false := by simpa using c11))
          (try (have c11b2 : (t117 == 2 && (t118 == 2)) = false := by simpa using c11))
          (try (have c11b3 : ¬ (t117 = 2 && (t118 == 2)) := by simpa using c11))
          clear c11
          obtain rfl := Option.some.inj H
          go_enter Try.func26, Try.ntmps26
          go_wp2_with (first | ((with_reducible refine gate_dst (N := 7) rfl ?_); refine const_goes (N := some 7) rfl rfl (a0 := ([97, 10, 98, 99] : List Int)) rfl (by first | rfl | (simp; done)) (by first | rfl | (simp; done)) (by first | rfl | (simp; done)) Try.underlying22 Try.underlying5 ?_; (with_reducible refine (const_bytes.calls ([97, 10, 98, 99] : List Int) t111 _ A1.out).mono ?_); rintro e w26 ⟨v112, rfl, ho0, hb⟩; refine ⟨_, rfl, ?_⟩; have n0_ := Aside0.mk (Kd.V_lower (Kd.V_mono (ok' := fun k_ => True) ho0 (fun k_ hk_ => trivial)) (below_size (by repeat (first | (with_reducible first | exact HB.out | apply below_alloc | apply pw_below_drewN | apply below_drew1) | exact HB.out)))); have n1_ := Aside0.mk (below_step (by repeat (first | (with_reducible first | exact HB.out | apply below_alloc | apply pw_below_drewN | apply below_drew1) | exact HB.out)) hb); clear HB; have HO113 := n0_; have HB := n1_; clear n0_ n1_; (try clear hb); (try clear hb2); (try clear hk); (try clear hi); (try clear ho0); obtain ⟨Ao27, co27, eo27⟩ := Kd.V_slice HO113.out; subst eo27) | ((with_reducible refine gate_callee (f := 27) rfl ?_); refine goesL_ (some 8) rfl rfl Try.func27 (by kernel_rfl) rfl #[.slice Ao27 t111.length co27] rfl (by (try simp only [List.map_toArray, List.map_cons, List.map_nil]); first | done | rfl | (simp only [List.length_drop, List.length_take]; rfl)) ?_; (with_reducible refine (lines_New.calls _ _ t111 t114 _ ?side1 ?side2 A2.out).mono ?_); (case side1 => repeat (first | exact (Kd.V_reads' HO113.out).2.2 | (with_reducible refine Kd.C_alloc ?_ _) | (with_reducible refine Kd.C_drewN ?_ _) | (with_reducible refine Kd.C_drew ?_))); (case side2 => exact (Kd.V_reads' HO113.out).2.1); rintro e w28 ⟨v115, rfl, ho0, hb⟩; refine ⟨_, rfl, ?_⟩; have n0_ := Aside0.mk (Kd.V_below (by (with_reducible repeat (first | apply Kd.V_alloc | apply Kd.V_drewN | apply Kd.V_drew)); exact HO113.out) hb); have n1_ := Aside0.mk (Kd.P_lower (Kd.P_mono (ok' := fun k_ => True) ho0 (fun k_ hk_ => trivial)) (below_size (by repeat (first | (with_reducible first | exact HB.out | apply below_alloc | apply pw_below_drewN | apply below_drew1) | exact HB.out)))); have n2_ := Aside0.mk (below_step (by repeat (first | (with_reducible first | exact HB.out | apply below_alloc | apply pw_below_drewN | apply below_drew1) | exact HB.out)) hb); clear HO113; clear HB; have HO113 := n0_; have HO116 := n1_; have HB := n2_; clear n0_ n1_ n2_; (try clear hb); (try clear hb2); (try clear hk); (try clear hi); (try clear ho0)) | ((with_reducible refine gate_callee (f := 29) rfl ?_); refine goesL_ (some 11) rfl rfl Try.func29 (by kernel_rfl) rfl #[v115, .int .i64 3] rfl (by (try simp only [List.map_toArray, List.map_cons, List.map_nil]); first | done | rfl | (simp only [List.length_drop, List.length_take]; rfl)) ?_; (with_reducible refine (lines_Index_Place.calls k _ t114 3 t117 t118 t119 _ ?side1 A3.out).mono ?_); (case side1 => exact Kd.P_now (by (with_reducible repeat (first | apply Kd.P_alloc | apply Kd.P_drewN | apply Kd.P_drew)); exact HO116.out)); rintro e w29 ⟨rfl, hb⟩; refine ⟨_, rfl, ?_⟩; have n0_ := Aside0.mk (Kd.V_below (by (with_reducible repeat (first | apply Kd.V_alloc | apply Kd.V_drewN | apply Kd.V_drew)); exact HO113.out) hb); have n1_ := Aside0.mk (Kd.P_below (by (with_reducible repeat (first | apply Kd.P_alloc | apply Kd.P_drewN | apply Kd.P_drew)); exact HO116.out) hb); have n2_ := Aside0.mk (below_step (by repeat (first | (with_reducible first | exact HB.out | apply below_alloc | apply pw_below_drewN | apply below_drew1) | exact HB.out)) hb); clear HO113; clear HO116; clear HB; have HO113 := n0_; have HO116 := n1_; have HB := n2_; clear n0_ n1_ n2_; (try clear hb); (try clear hb2); (try clear hk); (try clear hi)) | ((with_reducible refine gate_dst (N := 2) rfl ?_); refine box_event ?hg (N := 2) ?hd (cs := #[.int .i64 0, .int .i64 0]) (t := 54) ?hr ?_; (case hd => rfl); (case hg => rfl); (case hr => first | (go_simp; done) | (go_simp; rfl)); intro gb120 hg w30 hbox hb; have n0_ := Aside0.mk (Kd.V_below (Kd.V_elderB (by (with_reducible repeat (first | apply Kd.V_alloc | apply Kd.V_drewN | apply Kd.V_drew)); exact HO113.out) gb120 (Nat.le_of_eq hg.symm)) hb); have n1_ := Aside0.mk (Kd.P_below (Kd.P_elderB (by (with_reducible repeat (first | apply Kd.P_alloc | apply Kd.P_drewN | apply Kd.P_drew)); exact HO116.out) gb120 (Nat.le_of_eq hg.symm)) hb); have n2_ := Aside0.mk (below_step (by repeat (first | (with_reducible first | exact HB.out | apply below_alloc | apply pw_below_drewN | apply below_drew1) | exact HB.out)) hb); have n3_ := Aside0.mk (hbox); have n4_ := Aside0.mk ((by rw [hg]; exact (below_size (by repeat (first | (with_reducible first | exact HB.out | apply below_alloc | apply pw_below_drewN | apply below_drew1) | exact HB.out))) : w.heap.size ≤ gb120)); have n5_ := Aside0.mk ((by rw [hg]; exact (below_size (by repeat (first | (with_reducible first | exact HB.out | apply below_alloc | apply pw_below_drewN | apply below_drew1) | exact HB.out))) : w.heap.size ≤ gb120)); clear HO113; clear HO116; clear HB; have HO113 := n0_; have HO116 := n1_; have HB := n2_; have BK120 := n3_; have GW120 := n4_; have GE120 := n5_; clear n0_ n1_ n2_ n3_ n4_ n5_; clear hb hbox hg; have hcz31_0 : w30.cell? ⟨gb120, 0, none⟩ = some (.int .i64 0) := (blk_cell BK120.out 0).trans rfl; have hcz31_1 : w30.cell? ⟨gb120, 1, none⟩ = some (.int .i64 0) := (blk_cell BK120.out 1).trans rfl; have hfz31_0 := blk_frozen BK120.out 0; have hfz31_1 := blk_frozen BK120.out 1) | ((with_reducible refine gate_dst (N := 16) rfl ?_); refine const_goes (N := some 16) rfl rfl (a0 := ([97, 10] : List Int)) rfl (by first | rfl | (simp; done)) (by first | rfl | (simp; done)) (by first | rfl | (simp; done)) Try.underlying22 Try.underlying5 ?_; (with_reducible refine (const_bytes.calls ([97, 10] : List Int) t121 _ A4.out).mono ?_); rintro e w32 ⟨v122, rfl, ho0, hb⟩; refine ⟨_, rfl, ?_⟩; have n0_ := Aside0.mk (Kd.V_below (by (with_reducible repeat (first | apply Kd.V_alloc | apply Kd.V_drewN | apply Kd.V_drew)); exact (Kd.V_mono (Kd.V_far (p := ⟨gb120, 1, none⟩) (Kd.V_far (p := ⟨gb120, 0, none⟩) (Kd.V_mono HO113.out (fun k_ hk => (⟨hk, hk.2⟩ : _ ∧ k_ ≠ gb120))) (fun _ hk => hk.2) (.int .i64 t117)) (fun _ hk => hk.2) (.int .i64 t118)) (fun _ h_ => h_.1))) hb); have n1_ := Aside0.mk (Kd.P_below (by (with_reducible repeat (first | apply Kd.P_alloc | apply Kd.P_drewN | apply Kd.P_drew)); exact (Kd.P_mono (Kd.P_far (p := ⟨gb120, 1, none⟩) (Kd.P_far (p := ⟨gb120, 0, none⟩) (Kd.P_mono HO116.out (fun k_ hk => (⟨hk, hk.2⟩ : _ ∧ k_ ≠ gb120))) (fun _ hk => hk.2) (.int .i64 t117)) (fun _ hk => hk.2) (.int .i64 t118)) (fun _ h_ => h_.1))) hb); have n2_ := Aside0.mk (Kd.V_lower (Kd.V_mono (ok' := fun k_ => k_ ≠ gb120) ho0 (fun k_ hk_ => (Kd.freshB (g := gb120) (o := .cells #[.int .i64 t117, .int .i64 t118] 54 (0, 0)) (by (with_reducible repeat (first | refine blk_drewN ?_ _ | refine blk_drew ?_ | refine blk_alloc ?_ _)); refine blk_put (cs := #[.int .i64 t117, .int .i64 0]) ?_ 1 _ rfl; (with_reducible repeat (first | refine blk_drewN ?_ _ | refine blk_drew ?_ | refine blk_alloc ?_ _)); refine blk_put (cs := #[.int .i64 0, .int .i64 0]) ?_ 0 _ rfl; (with_reducible repeat (first | refine blk_drewN ?_ _ | refine blk_drew ?_ | refine blk_alloc ?_ _)); exact BK120.out) k_ hk_))) (below_size (by repeat (first | (with_reducible first | exact HB.out | apply below_alloc | apply pw_below_drewN | apply below_drew1 | refine below_set ?_ GE120.out) | exact HB.out)))); have n3_ := Aside0.mk (blk_below (g := gb120) (o := .cells #[.int .i64 t117, .int .i64 t118] 54 (0, 0)) (by (with_reducible repeat (first | refine blk_drewN ?_ _ | refine blk_drew ?_ | refine blk_alloc ?_ _)); refine blk_put (cs := #[.int .i64 t117, .int .i64 0]) ?_ 1 _ rfl; (with_reducible repeat (first | refine blk_drewN ?_ _ | refine blk_drew ?_ | refine blk_alloc ?_ _)); refine blk_put (cs := #[.int .i64 0, .int .i64 0]) ?_ 0 _ rfl; (with_reducible repeat (first | refine blk_drewN ?_ _ | refine blk_drew ?_ | refine blk_alloc ?_ _)); exact BK120.out) hb); have n4_ := Aside0.mk (below_step (by repeat (first | (with_reducible first | exact HB.out | apply below_alloc | apply pw_below_drewN | apply below_drew1 | refine below_set ?_ GE120.out) | exact HB.out)) hb); clear HO113; clear HO116; clear BK120; clear HB; have HO113 := n0_; have HO116 := n1_; have HO123 := n2_; have BK120 := n3_; have HB := n4_; clear n0_ n1_ n2_ n3_ n4_; (try clear hb); (try clear hb2); (try clear hk); (try clear hi); (try clear ho0); obtain ⟨Ao33, co33, eo33⟩ := Kd.V_slice HO123.out; subst eo33) | ((with_reducible refine gate_callee (f := 27) rfl ?_); refine goesL_ (some 17) rfl rfl Try.func27 (by kernel_rfl) rfl #[.slice Ao33 t121.length co33] rfl (by (try simp only [List.map_toArray, List.map_cons, List.map_nil]); first | done | rfl | (simp only [List.length_drop, List.length_take]; rfl)) ?_; (with_reducible refine (lines_New.calls _ _ t121 t124 _ ?side1 ?side2 A5.out).mono ?_); (case side1 => repeat (first | exact (Kd.V_reads' HO123.out).2.2 | (with_reducible refine Kd.C_alloc ?_ _) | (with_reducible refine Kd.C_drewN ?_ _) | (with_reducible refine Kd.C_drew ?_))); (case side2 => exact (Kd.V_reads' HO123.out).2.1); rintro e w34 ⟨v125, rfl, ho0, hb⟩; refine ⟨_, rfl, ?_⟩; have n0_ := Aside0.mk (Kd.V_below (by (with_reducible repeat (first | apply Kd.V_alloc | apply Kd.V_drewN | apply Kd.V_drew)); exact HO113.out) hb); have n1_ := Aside0.mk (Kd.P_below (by (with_reducible repeat (first | apply Kd.P_alloc | apply Kd.P_drewN | apply Kd.P_drew)); exact HO116.out) hb); have n2_ := Aside0.mk (Kd.V_below (by (with_reducible repeat (first | apply Kd.V_alloc | apply Kd.V_drewN | apply Kd.V_drew)); exact HO123.out) hb); have n3_ := Aside0.mk (Kd.P_lower (Kd.P_mono (ok' := fun k_ => k_ ≠ gb120) ho0 (fun k_ hk_ => (Kd.freshB (g := gb120) (o := .cells #[.int .i64 t117, .int .i64 t118] 54 (0, 0)) (by (with_reducible repeat (first | refine blk_drewN ?_ _ | refine blk_drew ?_ | refine blk_alloc ?_ _)); exact BK120.out) k_ hk_))) (below_size (by repeat (first | (with_reducible first | exact HB.out | apply below_alloc | apply pw_below_drewN | apply below_drew1 | refine below_set ?_ GE120.out) | exact HB.out)))); have n4_ := Aside0.mk (blk_below (g := gb120) (o := .cells #[.int .i64 t117, .int .i64 t118] 54 (0, 0)) (by (with_reducible repeat (first | refine blk_drewN ?_ _ | refine blk_drew ?_ | refine blk_alloc ?_ _)); exact BK120.out) hb); have n5_ := Aside0.mk (below_step (by repeat (first | (with_reducible first | exact HB.out | apply below_alloc | apply pw_below_drewN | apply below_drew1 | refine below_set ?_ GE120.out) | exact HB.out)) hb); clear HO113; clear HO116; clear HO123; clear BK120; clear HB; have HO113 := n0_; have HO116 := n1_; have HO123 := n2_; have HO126 := n3_; have BK120 := n4_; have HB := n5_; clear n0_ n1_ n2_ n3_ n4_ n5_; (try clear hb); (try clear hb2); (try clear hk); (try clear hi); (try clear ho0)) | ((with_reducible refine gate_callee (f := 29) rfl ?_); refine goesL_ (some 18) rfl rfl Try.func29 (by kernel_rfl) rfl #[v125, .int .i64 2] rfl (by (try simp only [List.map_toArray, List.map_cons, List.map_nil]); first | done | rfl | (simp only [List.length_drop, List.length_take]; rfl)) ?_; (with_reducible refine (lines_Index_Place.calls k _ t124 2 t127 t128 t129 _ ?side1 A6.out).mono ?_); (case side1 => exact Kd.P_now (by (with_reducible repeat (first | apply Kd.P_alloc | apply Kd.P_drewN | apply Kd.P_drew)); exact HO126.out)); rintro e w35 ⟨rfl, hb⟩; refine ⟨_, rfl, ?_⟩; have n0_ := Aside0.mk (Kd.V_below (by (with_reducible repeat (first | apply Kd.V_alloc | apply Kd.V_drewN | apply Kd.V_drew)); exact HO113.out) hb); have n1_ := Aside0.mk (Kd.P_below (by (with_reducible repeat (first | apply Kd.P_alloc | apply Kd.P_drewN | apply Kd.P_drew)); exact HO116.out) hb); have n2_ := Aside0.mk (Kd.V_below (by (with_reducible repeat (first | apply Kd.V_alloc | apply Kd.V_drewN | apply Kd.V_drew)); exact HO123.out) hb); have n3_ := Aside0.mk (Kd.P_below (by (with_reducible repeat (first | apply Kd.P_alloc | apply Kd.P_drewN | apply Kd.P_drew)); exact HO126.out) hb); have n4_ := Aside0.mk (blk_below (g := gb120) (o := .cells #[.int .i64 t117, .int .i64 t118] 54 (0, 0)) (by (with_reducible repeat (first | refine blk_drewN ?_ _ | refine blk_drew ?_ | refine blk_alloc ?_ _)); exact BK120.out) hb); have n5_ := Aside0.mk (below_step (by repeat (first | (with_reducible first | exact HB.out | apply below_alloc | apply pw_below_drewN | apply below_drew1 | refine below_set ?_ GE120.out) | exact HB.out)) hb); clear HO113; clear HO116; clear HO123; clear HO126; clear BK120; clear HB; have HO113 := n0_; have HO116 := n1_; have HO123 := n2_; have HO126 := n3_; have BK120 := n4_; have HB := n5_; clear n0_ n1_ n2_ n3_ n4_ n5_; (try clear hb); (try clear hb2); (try clear hk); (try clear hi)) | ((with_reducible refine gate_dst (N := 4) rfl ?_); refine box_event ?hg (N := 4) ?hd (cs := #[.int .i64 0, .int .i64 0]) (t := 54) ?hr ?_; (case hd => rfl); (case hg => rfl); (case hr => first | (go_simp; done) | (go_simp; rfl)); intro gb130 hg w36 hbox hb; have n0_ := Aside0.mk (Kd.V_below (Kd.V_elderB (by (with_reducible repeat (first | apply Kd.V_alloc | apply Kd.V_drewN | apply Kd.V_drew)); exact HO113.out) gb130 (Nat.le_of_eq hg.symm)) hb); have n1_ := Aside0.mk (Kd.P_below (Kd.P_elderB (by (with_reducible repeat (first | apply Kd.P_alloc | apply Kd.P_drewN | apply Kd.P_drew)); exact HO116.out) gb130 (Nat.le_of_eq hg.symm)) hb); have n2_ := Aside0.mk (Kd.V_below (Kd.V_elderB (by (with_reducible repeat (first | apply Kd.V_alloc | apply Kd.V_drewN | apply Kd.V_drew)); exact HO123.out) gb130 (Nat.le_of_eq hg.symm)) hb); have n3_ := Aside0.mk (Kd.P_below (Kd.P_elderB (by (with_reducible repeat (first | apply Kd.P_alloc | apply Kd.P_drewN | apply Kd.P_drew)); exact HO126.out) gb130 (Nat.le_of_eq hg.symm)) hb); have n4_ := Aside0.mk (blk_below (g := gb120) (o := .cells #[.int .i64 t117, .int .i64 t118] 54 (0, 0)) (by (with_reducible repeat (first | refine blk_drewN ?_ _ | refine blk_drew ?_ | refine blk_alloc ?_ _)); exact BK120.out) hb); have n5_ := Aside0.mk (below_step (by repeat (first | (with_reducible first | exact HB.out | apply below_alloc | apply pw_below_drewN | apply below_drew1 | refine below_set ?_ GE120.out) | exact HB.out)) hb); have n6_ := Aside0.mk (hbox); have n7_ := Aside0.mk ((by rw [hg]; exact (below_size (by repeat (first | (with_reducible first | exact HB.out | apply below_alloc | apply pw_below_drewN | apply below_drew1 | refine below_set ?_ GE120.out) | exact HB.out))) : w.heap.size ≤ gb130)); have n8_ := Aside0.mk ((by rw [hg]; exact (below_size (by repeat (first | (with_reducible first | exact HB.out | apply below_alloc | apply pw_below_drewN | apply below_drew1 | refine below_set ?_ GE120.out) | exact HB.out))) : w.heap.size ≤ gb130)); have n9_ := Aside0.mk ((by rw [hg]; exact Nat.ne_of_lt (blk_lt (g := gb120) (o := .cells #[.int .i64 t117, .int .i64 t118] 54 (0, 0)) (by (with_reducible repeat (first | refine blk_drewN ?_ _ | refine blk_drew ?_ | refine blk_alloc ?_ _)); exact BK120.out)) : gb120 ≠ gb130)); have n10_ := Aside0.mk ((by rw [hg]; exact Nat.ne_of_gt (blk_lt (g := gb120) (o := .cells #[.int .i64 t117, .int .i64 t118] 54 (0, 0)) (by (with_reducible repeat (first | refine blk_drewN ?_ _ | refine blk_drew ?_ | refine blk_alloc ?_ _)); exact BK120.out)) : gb130 ≠ gb120)); clear HO113; clear HO116; clear HO123; clear HO126; clear BK120; clear HB; have HO113 := n0_; have HO116 := n1_; have HO123 := n2_; have HO126 := n3_; have BK120 := n4_; have HB := n5_; have BK130 := n6_; have GW130 := n7_; have GE130 := n8_; have NB120_130 := n9_; have NB130_120 := n10_; clear n0_ n1_ n2_ n3_ n4_ n5_ n6_ n7_ n8_ n9_ n10_; clear hb hbox hg; have hnb37 := NB130_120.out; have hnc37 := NB120_130.out; have hcz38_0 : w36.cell? ⟨gb130, 0, none⟩ = some (.int .i64 0) := (blk_cell BK130.out 0).trans rfl; have hcz38_1 : w36.cell? ⟨gb130, 1, none⟩ = some (.int .i64 0) := (blk_cell BK130.out 1).trans rfl; have hfz38_0 := blk_frozen BK130.out 0; have hfz38_1 := blk_frozen BK130.out 1) | ((with_reducible refine gate_callee (f := 33) rfl ?_); refine goesL_ (some 22) rfl rfl Try.func33 (by kernel_rfl) rfl #[v115] rfl (by (try simp only [List.map_toArray, List.map_cons, List.map_nil]); first | done | rfl | (simp only [List.length_drop, List.length_take]; rfl)) ?_; (with_reducible refine (lines_Index_Lines.calls _ t114 t131 _ ?side1 A7.out).mono ?_); (case side1 => exact Kd.P_now (by (with_reducible repeat (first | apply Kd.P_alloc | apply Kd.P_drewN | apply Kd.P_drew)); exact (Kd.P_far (p := ⟨gb130, 1, none⟩) (Kd.P_far (p := ⟨gb130, 0, none⟩) (Kd.P_mono HO116.out (fun k_ hk => (⟨hk, hk.2⟩ : _ ∧ k_ ≠ gb130))) (fun _ hk => hk.2) (.int .i64 t127)) (fun _ hk => hk.2) (.int .i64 t128)))); rintro e w' ⟨rfl, ⟨nd, rfl⟩⟩; refine ⟨_, rfl, ?_⟩; have hcz39_0 : w36.cell? ⟨gb120, 0, none⟩ = some (.int .i64 t117) := (blk_cell BK120.out 0).trans rfl; have hcz39_1 : w36.cell? ⟨gb120, 1, none⟩ = some (.int .i64 t118) := (blk_cell BK120.out 1).trans rfl; have hfz39_0 := blk_frozen BK120.out 0; have hfz39_1 := blk_frozen BK120.out 1))
          go_ret
          exact ⟨by first | rfl | (simp [errW_none, errW_some] <;> rfl) | (simp [*, errW_none, errW_some] <;> rfl), by repeat (first | (with_reducible first | exact HB.out | apply below_alloc | apply pw_below_drewN | apply below_drew1 | refine below_set ?_ GE120.out | refine below_set ?_ GE130.out) | exact HB.out)⟩
      · rw [if_neg c10] at H
        have c10b0 : (t129 == 0) = false := beq_eq_false_iff_ne.mpr c10
        have c10b1 : (t129 != 0) = true := bne_iff_ne.mpr c10
        obtain rfl := Option.some.inj H
        go_enter Try.func26, Try.ntmps26
        go_wp2_with (first | ((with_reducible refine gate_dst (N := 7) rfl ?_); refine const_goes (N := some 7) rfl rfl (a0 := ([97, 10, 98, 99] : List Int)) rfl (by first | rfl | (simp; done)) (by first | rfl | (simp; done)) (by first | rfl | (simp; done)) Try.underlying22 Try.underlying5 ?_; (with_reducible refine (const_bytes.calls ([97, 10, 98, 99] : List Int) t111 _ A1.out).mono ?_); rintro e w40 ⟨v112, rfl, ho0, hb⟩; refine ⟨_, rfl, ?_⟩; have n0_ := Aside0.mk (Kd.V_lower (Kd.V_mono (ok' := fun k_ => True) ho0 (fun k_ hk_ => trivial)) (below_size (by repeat (first | (with_reducible first | exact HB.out | apply below_alloc | apply pw_below_drewN | apply below_drew1) | exact HB.out)))); have n1_ := Aside0.mk (below_step (by repeat (first | (with_reducible first | exact HB.out | apply below_alloc | apply pw_below_drewN | apply below_drew1) | exact HB.out)) hb); clear HB; have HO113 := n0_; have HB := n1_; clear n0_ n1_; (try clear hb); (try clear hb2); (try clear hk); (try clear hi); (try clear ho0); obtain ⟨Ao41, co41, eo41⟩ := Kd.V_slice HO113.out; subst eo41) | ((with_reducible refine gate_callee (f := 27) rfl ?_); refine goesL_ (some 8) rfl rfl Try.func27 (by kernel_rfl) rfl #[.slice Ao41 t111.length co41] rfl (by (try simp only [List.map_toArray, List.map_cons, List.map_nil]); first | done | rfl | (simp only [List.length_drop, List.length_take]; rfl)) ?_; (with_reducible refine (lines_New.calls _ _ t111 t114 _ ?side1 ?side2 A2.out).mono ?_); (case side1 => repeat (first | exact (Kd.V_reads' HO113.out).2.2 | (with_reducible refine Kd.C_alloc ?_ _) | (with_reducible refine Kd.C_drewN ?_ _) | (with_reducible refine Kd.C_drew ?_))); (case side2 => exact (Kd.V_reads' HO113.out).2.1); rintro e w42 ⟨v115, rfl, ho0, hb⟩; refine ⟨_, rfl, ?_⟩; have n0_ := Aside0.mk (Kd.V_below (by (with_reducible repeat (first | apply Kd.V_alloc | apply Kd.V_drewN | apply Kd.V_drew)); exact HO113.out) hb); have n1_ := Aside0.mk (Kd.P_lower (Kd.P_mono (ok' := fun k_ => True) ho0 (fun k_ hk_ => trivial)) (below_size (by repeat (first | (with_reducible first | exact HB.out | apply below_alloc | apply pw_below_drewN | apply below_drew1) | exact HB.out)))); have n2_ := Aside0.mk (below_step (by repeat (first | (with_reducible first | exact HB.out | apply below_alloc | apply pw_below_drewN | apply below_drew1) | exact HB.out)) hb); clear HO113; clear HB; have HO113 := n0_; have HO116 := n1_; have HB := n2_; clear n0_ n1_ n2_; (try clear hb); (try clear hb2); (try clear hk); (try clear hi); (try clear ho0)) | ((with_reducible refine gate_callee (f := 29) rfl ?_); refine goesL_ (some 11) rfl rfl Try.func29 (by kernel_rfl) rfl #[v115, .int .i64 3] rfl (by (try simp only [List.map_toArray, List.map_cons, List.map_nil]); first | done | rfl | (simp only [List.length_drop, List.length_take]; rfl)) ?_; (with_reducible refine (lines_Index_Place.calls k _ t114 3 t117 t118 t119 _ ?side1 A3.out).mono ?_); (case side1 => exact Kd.P_now (by (with_reducible repeat (first | apply Kd.P_alloc | apply Kd.P_drewN | apply Kd.P_drew)); exact HO116.out)); rintro e w43 ⟨rfl, hb⟩; refine ⟨_, rfl, ?_⟩; have n0_ := Aside0.mk (Kd.V_below (by (with_reducible repeat (first | apply Kd.V_alloc | apply Kd.V_drewN | apply Kd.V_drew)); exact HO113.out) hb); have n1_ := Aside0.mk (Kd.P_below (by (with_reducible repeat (first | apply Kd.P_alloc | apply Kd.P_drewN | apply Kd.P_drew)); exact HO116.out) hb); have n2_ := Aside0.mk (below_step (by repeat (first | (with_reducible first | exact HB.out | apply below_alloc | apply pw_below_drewN | apply below_drew1) | exact HB.out)) hb); clear HO113; clear HO116; clear HB; have HO113 := n0_; have HO116 := n1_; have HB := n2_; clear n0_ n1_ n2_; (try clear hb); (try clear hb2); (try clear hk); (try clear hi)) | ((with_reducible refine gate_dst (N := 2) rfl ?_); refine box_event ?hg (N := 2) ?hd (cs := #[.int .i64 0, .int .i64 0]) (t := 54) ?hr ?_; (case hd => rfl); (case hg => rfl); (case hr => first | (go_simp; done) | (go_simp; rfl)); intro gb120 hg w44 hbox hb; have n0_ := Aside0.mk (Kd.V_below (Kd.V_elderB (by (with_reducible repeat (first | apply Kd.V_alloc | apply Kd.V_drewN | apply Kd.V_drew)); exact HO113.out) gb120 (Nat.le_of_eq hg.symm)) hb); have n1_ := Aside0.mk (Kd.P_below (Kd.P_elderB (by (with_reducible repeat (first | apply Kd.P_alloc | apply Kd.P_drewN | apply Kd.P_drew)); exact HO116.out) gb120 (Nat.le_of_eq hg.symm)) hb); have n2_ := Aside0.mk (below_step (by repeat (first | (with_reducible first | exact HB.out | apply below_alloc | apply pw_below_drewN | apply below_drew1) | exact HB.out)) hb); have n3_ := Aside0.mk (hbox); have n4_ := Aside0.mk ((by rw [hg]; exact (below_size (by repeat (first | (with_reducible first | exact HB.out | apply below_alloc | apply pw_below_drewN | apply below_drew1) | exact HB.out))) : w.heap.size ≤ gb120)); have n5_ := Aside0.mk ((by rw [hg]; exact (below_size (by repeat (first | (with_reducible first | exact HB.out | apply below_alloc | apply pw_below_drewN | apply below_drew1) | exact HB.out))) : w.heap.size ≤ gb120)); clear HO113; clear HO116; clear HB; have HO113 := n0_; have HO116 := n1_; have HB := n2_; have BK120 := n3_; have GW120 := n4_; have GE120 := n5_; clear n0_ n1_ n2_ n3_ n4_ n5_; clear hb hbox hg; have hcz45_0 : w44.cell? ⟨gb120, 0, none⟩ = some (.int .i64 0) := (blk_cell BK120.out 0).trans rfl; have hcz45_1 : w44.cell? ⟨gb120, 1, none⟩ = some (.int .i64 0) := (blk_cell BK120.out 1).trans rfl; have hfz45_0 := blk_frozen BK120.out 0; have hfz45_1 := blk_frozen BK120.out 1) | ((with_reducible refine gate_dst (N := 16) rfl ?_); refine const_goes (N := some 16) rfl rfl (a0 := ([97, 10] : List Int)) rfl (by first | rfl | (simp; done)) (by first | rfl | (simp; done)) (by first | rfl | (simp; done)) Try.underlying22 Try.underlying5 ?_; (with_reducible refine (const_bytes.calls ([97, 10] : List Int) t121 _ A4.out).mono ?_); rintro e w46 ⟨v122, rfl, ho0, hb⟩; refine ⟨_, rfl, ?_⟩; have n0_ := Aside0.mk (Kd.V_below (by (with_reducible repeat (first | apply Kd.V_alloc | apply Kd.V_drewN | apply Kd.V_drew)); exact (Kd.V_mono (Kd.V_far (p := ⟨gb120, 1, none⟩) (Kd.V_far (p := ⟨gb120, 0, none⟩) (Kd.V_mono HO113.out (fun k_ hk => (⟨hk, hk.2⟩ : _ ∧ k_ ≠ gb120))) (fun _ hk => hk.2) (.int .i64 t117)) (fun _ hk => hk.2) (.int .i64 t118)) (fun _ h_ => h_.1))) hb); have n1_ := Aside0.mk (Kd.P_below (by (with_reducible repeat (first | apply Kd.P_alloc | apply Kd.P_drewN | apply Kd.P_drew)); exact (Kd.P_mono (Kd.P_far (p := ⟨gb120, 1, none⟩) (Kd.P_far (p := ⟨gb120, 0, none⟩) (Kd.P_mono HO116.out (fun k_ hk => (⟨hk, hk.2⟩ : _ ∧ k_ ≠ gb120))) (fun _ hk => hk.2) (.int .i64 t117)) (fun _ hk => hk.2) (.int .i64 t118)) (fun _ h_ => h_.1))) hb); have n2_ := Aside0.mk (Kd.V_lower (Kd.V_mono (ok' := fun k_ => k_ ≠ gb120) ho0 (fun k_ hk_ => (Kd.freshB (g := gb120) (o := .cells #[.int .i64 t117, .int .i64 t118] 54 (0, 0)) (by (with_reducible repeat (first | refine blk_drewN ?_ _ | refine blk_drew ?_ | refine blk_alloc ?_ _)); refine blk_put (cs := #[.int .i64 t117, .int .i64 0]) ?_ 1 _ rfl; (with_reducible repeat (first | refine blk_drewN ?_ _ | refine blk_drew ?_ | refine blk_alloc ?_ _)); refine blk_put (cs := #[.int .i64 0, .int .i64 0]) ?_ 0 _ rfl; (with_reducible repeat (first | refine blk_drewN ?_ _ | refine blk_drew ?_ | refine blk_alloc ?_ _)); exact BK120.out) k_ hk_))) (below_size (by repeat (first | (with_reducible first | exact HB.out | apply below_alloc | apply pw_below_drewN | apply below_drew1 | refine below_set ?_ GE120.out) | exact HB.out)))); have n3_ := Aside0.mk (blk_below (g := gb120) (o := .cells #[.int .i64 t117, .int .i64 t118] 54 (0, 0)) (by (with_reducible repeat (first | refine blk_drewN ?_ _ | refine blk_drew ?_ | refine blk_alloc ?_ _)); refine blk_put (cs := #[.int .i64 t117, .int .i64 0]) ?_ 1 _ rfl; (with_reducible repeat (first | refine blk_drewN ?_ _ | refine blk_drew ?_ | refine blk_alloc ?_ _)); refine blk_put (cs := #[.int .i64 0, .int .i64 0]) ?_ 0 _ rfl; (with_reducible repeat (first | refine blk_drewN ?_ _ | refine blk_drew ?_ | refine blk_alloc ?_ _)); exact BK120.out) hb); have n4_ := Aside0.mk (below_step (by repeat (first | (with_reducible first | exact HB.out | apply below_alloc | apply pw_below_drewN | apply below_drew1 | refine below_set ?_ GE120.out) | exact HB.out)) hb); clear HO113; clear HO116; clear BK120; clear HB; have HO113 := n0_; have HO116 := n1_; have HO123 := n2_; have BK120 := n3_; have HB := n4_; clear n0_ n1_ n2_ n3_ n4_; (try clear hb); (try clear hb2); (try clear hk); (try clear hi); (try clear ho0); obtain ⟨Ao47, co47, eo47⟩ := Kd.V_slice HO123.out; subst eo47) | ((with_reducible refine gate_callee (f := 27) rfl ?_); refine goesL_ (some 17) rfl rfl Try.func27 (by kernel_rfl) rfl #[.slice Ao47 t121.length co47] rfl (by (try simp only [List.map_toArray, List.map_cons, List.map_nil]); first | done | rfl | (simp only [List.length_drop, List.length_take]; rfl)) ?_; (with_reducible refine (lines_New.calls _ _ t121 t124 _ ?side1 ?side2 A5.out).mono ?_); (case side1 => repeat (first | exact (Kd.V_reads' HO123.out).2.2 | (with_reducible refine Kd.C_alloc ?_ _) | (with_reducible refine Kd.C_drewN ?_ _) | (with_reducible refine Kd.C_drew ?_))); (case side2 => exact (Kd.V_reads' HO123.out).2.1); rintro e w48 ⟨v125, rfl, ho0, hb⟩; refine ⟨_, rfl, ?_⟩; have n0_ := Aside0.mk (Kd.V_below (by (with_reducible repeat (first | apply Kd.V_alloc | apply Kd.V_drewN | apply Kd.V_drew)); exact HO113.out) hb); have n1_ := Aside0.mk (Kd.P_below (by (with_reducible repeat (first | apply Kd.P_alloc | apply Kd.P_drewN | apply Kd.P_drew)); exact HO116.out) hb); have n2_ := Aside0.mk (Kd.V_below (by (with_reducible repeat (first | apply Kd.V_alloc | apply Kd.V_drewN | apply Kd.V_drew)); exact HO123.out) hb); have n3_ := Aside0.mk (Kd.P_lower (Kd.P_mono (ok' := fun k_ => k_ ≠ gb120) ho0 (fun k_ hk_ => (Kd.freshB (g := gb120) (o := .cells #[.int .i64 t117, .int .i64 t118] 54 (0, 0)) (by (with_reducible repeat (first | refine blk_drewN ?_ _ | refine blk_drew ?_ | refine blk_alloc ?_ _)); exact BK120.out) k_ hk_))) (below_size (by repeat (first | (with_reducible first | exact HB.out | apply below_alloc | apply pw_below_drewN | apply below_drew1 | refine below_set ?_ GE120.out) | exact HB.out)))); have n4_ := Aside0.mk (blk_below (g := gb120) (o := .cells #[.int .i64 t117, .int .i64 t118] 54 (0, 0)) (by (with_reducible repeat (first | refine blk_drewN ?_ _ | refine blk_drew ?_ | refine blk_alloc ?_ _)); exact BK120.out) hb); have n5_ := Aside0.mk (below_step (by repeat (first | (with_reducible first | exact HB.out | apply below_alloc | apply pw_below_drewN | apply below_drew1 | refine below_set ?_ GE120.out) | exact HB.out)) hb); clear HO113; clear HO116; clear HO123; clear BK120; clear HB; have HO113 := n0_; have HO116 := n1_; have HO123 := n2_; have HO126 := n3_; have BK120 := n4_; have HB := n5_; clear n0_ n1_ n2_ n3_ n4_ n5_; (try clear hb); (try clear hb2); (try clear hk); (try clear hi); (try clear ho0)) | ((with_reducible refine gate_callee (f := 29) rfl ?_); refine goesL_ (some 18) rfl rfl Try.func29 (by kernel_rfl) rfl #[v125, .int .i64 2] rfl (by (try simp only [List.map_toArray, List.map_cons, List.map_nil]); first | done | rfl | (simp only [List.length_drop, List.length_take]; rfl)) ?_; (with_reducible refine (lines_Index_Place.calls k _ t124 2 t127 t128 t129 _ ?side1 A6.out).mono ?_); (case side1 => exact Kd.P_now (by (with_reducible repeat (first | apply Kd.P_alloc | apply Kd.P_drewN | apply Kd.P_drew)); exact HO126.out)); rintro e w49 ⟨rfl, hb⟩; refine ⟨_, rfl, ?_⟩; have n0_ := Aside0.mk (Kd.V_below (by (with_reducible repeat (first | apply Kd.V_alloc | apply Kd.V_drewN | apply Kd.V_drew)); exact HO113.out) hb); have n1_ := Aside0.mk (Kd.P_below (by (with_reducible repeat (first | apply Kd.P_alloc | apply Kd.P_drewN | apply Kd.P_drew)); exact HO116.out) hb); have n2_ := Aside0.mk (Kd.V_below (by (with_reducible repeat (first | apply Kd.V_alloc | apply Kd.V_drewN | apply Kd.V_drew)); exact HO123.out) hb); have n3_ := Aside0.mk (Kd.P_below (by (with_reducible repeat (first | apply Kd.P_alloc | apply Kd.P_drewN | apply Kd.P_drew)); exact HO126.out) hb); have n4_ := Aside0.mk (blk_below (g := gb120) (o := .cells #[.int .i64 t117, .int .i64 t118] 54 (0, 0)) (by (with_reducible repeat (first | refine blk_drewN ?_ _ | refine blk_drew ?_ | refine blk_alloc ?_ _)); exact BK120.out) hb); have n5_ := Aside0.mk (below_step (by repeat (first | (with_reducible first | exact HB.out | apply below_alloc | apply pw_below_drewN | apply below_drew1 | refine below_set ?_ GE120.out) | exact HB.out)) hb); clear HO113; clear HO116; clear HO123; clear HO126; clear BK120; clear HB; have HO113 := n0_; have HO116 := n1_; have HO123 := n2_; have HO126 := n3_; have BK120 := n4_; have HB := n5_; clear n0_ n1_ n2_ n3_ n4_ n5_; (try clear hb); (try clear hb2); (try clear hk); (try clear hi)) | ((with_reducible refine gate_dst (N := 4) rfl ?_); refine box_event ?hg (N := 4) ?hd (cs := #[.int .i64 0, .int .i64 0]) (t := 54) ?hr ?_; (case hd => rfl); (case hg => rfl); (case hr => first | (go_simp; done) | (go_simp; rfl)); intro gb130 hg w50 hbox hb; have n0_ := Aside0.mk (Kd.V_below (Kd.V_elderB (by (with_reducible repeat (first | apply Kd.V_alloc | apply Kd.V_drewN | apply Kd.V_drew)); exact HO113.out) gb130 (Nat.le_of_eq hg.symm)) hb); have n1_ := Aside0.mk (Kd.P_below (Kd.P_elderB (by (with_reducible repeat (first | apply Kd.P_alloc | apply Kd.P_drewN | apply Kd.P_drew)); exact HO116.out) gb130 (Nat.le_of_eq hg.symm)) hb); have n2_ := Aside0.mk (Kd.V_below (Kd.V_elderB (by (with_reducible repeat (first | apply Kd.V_alloc | apply Kd.V_drewN | apply Kd.V_drew)); exact HO123.out) gb130 (Nat.le_of_eq hg.symm)) hb); have n3_ := Aside0.mk (Kd.P_below (Kd.P_elderB (by (with_reducible repeat (first | apply Kd.P_alloc | apply Kd.P_drewN | apply Kd.P_drew)); exact HO126.out) gb130 (Nat.le_of_eq hg.symm)) hb); have n4_ := Aside0.mk (blk_below (g := gb120) (o := .cells #[.int .i64 t117, .int .i64 t118] 54 (0, 0)) (by (with_reducible repeat (first | refine blk_drewN ?_ _ | refine blk_drew ?_ | refine blk_alloc ?_ _)); exact BK120.out) hb); have n5_ := Aside0.mk (below_step (by repeat (first | (with_reducible first | exact HB.out | apply below_alloc | apply pw_below_drewN | apply below_drew1 | refine below_set ?_ GE120.out) | exact HB.out)) hb); have n6_ := Aside0.mk (hbox); have n7_ := Aside0.mk ((by rw [hg]; exact (below_size (by repeat (first | (with_reducible first | exact HB.out | apply below_alloc | apply pw_below_drewN | apply below_drew1 | refine below_set ?_ GE120.out) | exact HB.out))) : w.heap.size ≤ gb130)); have n8_ := Aside0.mk ((by rw [hg]; exact (below_size (by repeat (first | (with_reducible first | exact HB.out | apply below_alloc | apply pw_below_drewN | apply below_drew1 | refine below_set ?_ GE120.out) | exact HB.out))) : w.heap.size ≤ gb130)); have n9_ := Aside0.mk ((by rw [hg]; exact Nat.ne_of_lt (blk_lt (g := gb120) (o := .cells #[.int .i64 t117, .int .i64 t118] 54 (0, 0)) (by (with_reducible repeat (first | refine blk_drewN ?_ _ | refine blk_drew ?_ | refine blk_alloc ?_ _)); exact BK120.out)) : gb120 ≠ gb130)); have n10_ := Aside0.mk ((by rw [hg]; exact Nat.ne_of_gt (blk_lt (g := gb120) (o := .cells #[.int .i64 t117, .int .i64 t118] 54 (0, 0)) (by (with_reducible repeat (first | refine blk_drewN ?_ _ | refine blk_drew ?_ | refine blk_alloc ?_ _)); exact BK120.out)) : gb130 ≠ gb120)); clear HO113; clear HO116; clear HO123; clear HO126; clear BK120; clear HB; have HO113 := n0_; have HO116 := n1_; have HO123 := n2_; have HO126 := n3_; have BK120 := n4_; have HB := n5_; have BK130 := n6_; have GW130 := n7_; have GE130 := n8_; have NB120_130 := n9_; have NB130_120 := n10_; clear n0_ n1_ n2_ n3_ n4_ n5_ n6_ n7_ n8_ n9_ n10_; clear hb hbox hg; have hnb51 := NB130_120.out; have hnc51 := NB120_130.out; have hcz52_0 : w50.cell? ⟨gb130, 0, none⟩ = some (.int .i64 0) := (blk_cell BK130.out 0).trans rfl; have hcz52_1 : w50.cell? ⟨gb130, 1, none⟩ = some (.int .i64 0) := (blk_cell BK130.out 1).trans rfl; have hfz52_0 := blk_frozen BK130.out 0; have hfz52_1 := blk_frozen BK130.out 1) | ((with_reducible refine gate_callee (f := 33) rfl ?_); refine goesL_ (some 22) rfl rfl Try.func33 (by kernel_rfl) rfl #[v115] rfl (by (try simp only [List.map_toArray, List.map_cons, List.map_nil]); first | done | rfl | (simp only [List.length_drop, List.length_take]; rfl)) ?_; (with_reducible refine (lines_Index_Lines.calls _ t114 t131 _ ?side1 A7.out).mono ?_); (case side1 => exact Kd.P_now (by (with_reducible repeat (first | apply Kd.P_alloc | apply Kd.P_drewN | apply Kd.P_drew)); exact (Kd.P_far (p := ⟨gb130, 1, none⟩) (Kd.P_far (p := ⟨gb130, 0, none⟩) (Kd.P_mono HO116.out (fun k_ hk => (⟨hk, hk.2⟩ : _ ∧ k_ ≠ gb130))) (fun _ hk => hk.2) (.int .i64 t127)) (fun _ hk => hk.2) (.int .i64 t128)))); rintro e w' ⟨rfl, ⟨nd, rfl⟩⟩; refine ⟨_, rfl, ?_⟩))
        go_ret
        exact ⟨by first | rfl | (simp [errW_none, errW_some] <;> rfl) | (simp [*, errW_none, errW_some] <;> rfl), by repeat (first | (with_reducible first | exact HB.out | apply below_alloc | apply pw_below_drewN | apply below_drew1 | refine below_set ?_ GE120.out | refine below_set ?_ GE130.out) | exact HB.out)⟩
    · rw [if_neg c9] at H
      have c9b0 : (t119 == 0) = false := beq_eq_false_iff_ne.mpr c9
      have c9b1 : (t119 != 0) = true := bne_iff_ne.mpr c9
      obtain rfl := Option.some.inj H
      go_enter Try.func26, Try.ntmps26
      go_wp2_with (first | ((with_reducible refine gate_dst (N := 7) rfl ?_); refine const_goes (N := some 7) rfl rfl (a0 := ([97, 10, 98, 99] : List Int)) rfl (by first | rfl | (simp; done)) (by first | rfl | (simp; done)) (by first | rfl | (simp; done)) Try.underlying22 Try.underlying5 ?_; (with_reducible refine (const_bytes.calls ([97, 10, 98, 99] : List Int) t111 _ A1.out).mono ?_); rintro e w53 ⟨v112, rfl, ho0, hb⟩; refine ⟨_, rfl, ?_⟩; have n0_ := Aside0.mk (Kd.V_lower (Kd.V_mono (ok' := fun k_ => True) ho0 (fun k_ hk_ => trivial)) (below_size (by repeat (first | (with_reducible first | exact HB.out | apply below_alloc | apply pw_below_drewN | apply below_drew1) | exact HB.out)))); have n1_ := Aside0.mk (below_step (by repeat (first | (with_reducible first | exact HB.out | apply below_alloc | apply pw_below_drewN | apply below_drew1) | exact HB.out)) hb); clear HB; have HO113 := n0_; have HB := n1_; clear n0_ n1_; (try clear hb); (try clear hb2); (try clear hk); (try clear hi); (try clear ho0); obtain ⟨Ao54, co54, eo54⟩ := Kd.V_slice HO113.out; subst eo54) | ((with_reducible refine gate_callee (f := 27) rfl ?_); refine goesL_ (some 8) rfl rfl Try.func27 (by kernel_rfl) rfl #[.slice Ao54 t111.length co54] rfl (by (try simp only [List.map_toArray, List.map_cons, List.map_nil]); first | done | rfl | (simp only [List.length_drop, List.length_take]; rfl)) ?_; (with_reducible refine (lines_New.calls _ _ t111 t114 _ ?side1 ?side2 A2.out).mono ?_); (case side1 => repeat (first | exact (Kd.V_reads' HO113.out).2.2 | (with_reducible refine Kd.C_alloc ?_ _) | (with_reducible refine Kd.C_drewN ?_ _) | (with_reducible refine Kd.C_drew ?_))); (case side2 => exact (Kd.V_reads' HO113.out).2.1); rintro e w55 ⟨v115, rfl, ho0, hb⟩; refine ⟨_, rfl, ?_⟩; have n0_ := Aside0.mk (Kd.V_below (by (with_reducible repeat (first | apply Kd.V_alloc | apply Kd.V_drewN | apply Kd.V_drew)); exact HO113.out) hb); have n1_ := Aside0.mk (Kd.P_lower (Kd.P_mono (ok' := fun k_ => True) ho0 (fun k_ hk_ => trivial)) (below_size (by repeat (first | (with_reducible first | exact HB.out | apply below_alloc | apply pw_below_drewN | apply below_drew1) | exact HB.out)))); have n2_ := Aside0.mk (below_step (by repeat (first | (with_reducible first | exact HB.out | apply below_alloc | apply pw_below_drewN | apply below_drew1) | exact HB.out)) hb); clear HO113; clear HB; have HO113 := n0_; have HO116 := n1_; have HB := n2_; clear n0_ n1_ n2_; (try clear hb); (try clear hb2); (try clear hk); (try clear hi); (try clear ho0)) | ((with_reducible refine gate_callee (f := 29) rfl ?_); refine goesL_ (some 11) rfl rfl Try.func29 (by kernel_rfl) rfl #[v115, .int .i64 3] rfl (by (try simp only [List.map_toArray, List.map_cons, List.map_nil]); first | done | rfl | (simp only [List.length_drop, List.length_take]; rfl)) ?_; (with_reducible refine (lines_Index_Place.calls k _ t114 3 t117 t118 t119 _ ?side1 A3.out).mono ?_); (case side1 => exact Kd.P_now (by (with_reducible repeat (first | apply Kd.P_alloc | apply Kd.P_drewN | apply Kd.P_drew)); exact HO116.out)); rintro e w56 ⟨rfl, hb⟩; refine ⟨_, rfl, ?_⟩; have n0_ := Aside0.mk (Kd.V_below (by (with_reducible repeat (first | apply Kd.V_alloc | apply Kd.V_drewN | apply Kd.V_drew)); exact HO113.out) hb); have n1_ := Aside0.mk (Kd.P_below (by (with_reducible repeat (first | apply Kd.P_alloc | apply Kd.P_drewN | apply Kd.P_drew)); exact HO116.out) hb); have n2_ := Aside0.mk (below_step (by repeat (first | (with_reducible first | exact HB.out | apply below_alloc | apply pw_below_drewN | apply below_drew1) | exact HB.out)) hb); clear HO113; clear HO116; clear HB; have HO113 := n0_; have HO116 := n1_; have HB := n2_; clear n0_ n1_ n2_; (try clear hb); (try clear hb2); (try clear hk); (try clear hi)) | ((with_reducible refine gate_dst (N := 2) rfl ?_); refine box_event ?hg (N := 2) ?hd (cs := #[.int .i64 0, .int .i64 0]) (t := 54) ?hr ?_; (case hd => rfl); (case hg => rfl); (case hr => first | (go_simp; done) | (go_simp; rfl)); intro gb120 hg w57 hbox hb; have n0_ := Aside0.mk (Kd.V_below (Kd.V_elderB (by (with_reducible repeat (first | apply Kd.V_alloc | apply Kd.V_drewN | apply Kd.V_drew)); exact HO113.out) gb120 (Nat.le_of_eq hg.symm)) hb); have n1_ := Aside0.mk (Kd.P_below (Kd.P_elderB (by (with_reducible repeat (first | apply Kd.P_alloc | apply Kd.P_drewN | apply Kd.P_drew)); exact HO116.out) gb120 (Nat.le_of_eq hg.symm)) hb); have n2_ := Aside0.mk (below_step (by repeat (first | (with_reducible first | exact HB.out | apply below_alloc | apply pw_below_drewN | apply below_drew1) | exact HB.out)) hb); have n3_ := Aside0.mk (hbox); have n4_ := Aside0.mk ((by rw [hg]; exact (below_size (by repeat (first | (with_reducible first | exact HB.out | apply below_alloc | apply pw_below_drewN | apply below_drew1) | exact HB.out))) : w.heap.size ≤ gb120)); have n5_ := Aside0.mk ((by rw [hg]; exact (below_size (by repeat (first | (with_reducible first | exact HB.out | apply below_alloc | apply pw_below_drewN | apply below_drew1) | exact HB.out))) : w.heap.size ≤ gb120)); clear HO113; clear HO116; clear HB; have HO113 := n0_; have HO116 := n1_; have HB := n2_; have BK120 := n3_; have GW120 := n4_; have GE120 := n5_; clear n0_ n1_ n2_ n3_ n4_ n5_; clear hb hbox hg; have hcz58_0 : w57.cell? ⟨gb120, 0, none⟩ = some (.int .i64 0) := (blk_cell BK120.out 0).trans rfl; have hcz58_1 : w57.cell? ⟨gb120, 1, none⟩ = some (.int .i64 0) := (blk_cell BK120.out 1).trans rfl; have hfz58_0 := blk_frozen BK120.out 0; have hfz58_1 := blk_frozen BK120.out 1) | ((with_reducible refine gate_dst (N := 16) rfl ?_); refine const_goes (N := some 16) rfl rfl (a0 := ([97, 10] : List Int)) rfl (by first | rfl | (simp; done)) (by first | rfl | (simp; done)) (by first | rfl | (simp; done)) Try.underlying22 Try.underlying5 ?_; (with_reducible refine (const_bytes.calls ([97, 10] : List Int) t121 _ A4.out).mono ?_); rintro e w59 ⟨v122, rfl, ho0, hb⟩; refine ⟨_, rfl, ?_⟩; have n0_ := Aside0.mk (Kd.V_below (by (with_reducible repeat (first | apply Kd.V_alloc | apply Kd.V_drewN | apply Kd.V_drew)); exact (Kd.V_mono (Kd.V_far (p := ⟨gb120, 1, none⟩) (Kd.V_far (p := ⟨gb120, 0, none⟩) (Kd.V_mono HO113.out (fun k_ hk => (⟨hk, hk.2⟩ : _ ∧ k_ ≠ gb120))) (fun _ hk => hk.2) (.int .i64 t117)) (fun _ hk => hk.2) (.int .i64 t118)) (fun _ h_ => h_.1))) hb); have n1_ := Aside0.mk (Kd.P_below (by (with_reducible repeat (first | apply Kd.P_alloc | apply Kd.P_drewN | apply Kd.P_drew)); exact (Kd.P_mono (Kd.P_far (p := ⟨gb120, 1, none⟩) (Kd.P_far (p := ⟨gb120, 0, none⟩) (Kd.P_mono HO116.out (fun k_ hk => (⟨hk, hk.2⟩ : _ ∧ k_ ≠ gb120))) (fun _ hk => hk.2) (.int .i64 t117)) (fun _ hk => hk.2) (.int .i64 t118)) (fun _ h_ => h_.1))) hb); have n2_ := Aside0.mk (Kd.V_lower (Kd.V_mono (ok' := fun k_ => k_ ≠ gb120) ho0 (fun k_ hk_ => (Kd.freshB (g := gb120) (o := .cells #[.int .i64 t117, .int .i64 t118] 54 (0, 0)) (by (with_reducible repeat (first | refine blk_drewN ?_ _ | refine blk_drew ?_ | refine blk_alloc ?_ _)); refine blk_put (cs := #[.int .i64 t117, .int .i64 0]) ?_ 1 _ rfl; (with_reducible repeat (first | refine blk_drewN ?_ _ | refine blk_drew ?_ | refine blk_alloc ?_ _)); refine blk_put (cs := #[.int .i64 0, .int .i64 0]) ?_ 0 _ rfl; (with_reducible repeat (first | refine blk_drewN ?_ _ | refine blk_drew ?_ | refine blk_alloc ?_ _)); exact BK120.out) k_ hk_))) (below_size (by repeat (first | (with_reducible first | exact HB.out | apply below_alloc | apply pw_below_drewN | apply below_drew1 | refine below_set ?_ GE120.out) | exact HB.out)))); have n3_ := Aside0.mk (blk_below (g := gb120) (o := .cells #[.int .i64 t117, .int .i64 t118] 54 (0, 0)) (by (with_reducible repeat (first | refine blk_drewN ?_ _ | refine blk_drew ?_ | refine blk_alloc ?_ _)); refine blk_put (cs := #[.int .i64 t117, .int .i64 0]) ?_ 1 _ rfl; (with_reducible repeat (first | refine blk_drewN ?_ _ | refine blk_drew ?_ | refine blk_alloc ?_ _)); refine blk_put (cs := #[.int .i64 0, .int .i64 0]) ?_ 0 _ rfl; (with_reducible repeat (first | refine blk_drewN ?_ _ | refine blk_drew ?_ | refine blk_alloc ?_ _)); exact BK120.out) hb); have n4_ := Aside0.mk (below_step (by repeat (first | (with_reducible first | exact HB.out | apply below_alloc | apply pw_below_drewN | apply below_drew1 | refine below_set ?_ GE120.out) | exact HB.out)) hb); clear HO113; clear HO116; clear BK120; clear HB; have HO113 := n0_; have HO116 := n1_; have HO123 := n2_; have BK120 := n3_; have HB := n4_; clear n0_ n1_ n2_ n3_ n4_; (try clear hb); (try clear hb2); (try clear hk); (try clear hi); (try clear ho0); obtain ⟨Ao60, co60, eo60⟩ := Kd.V_slice HO123.out; subst eo60) | ((with_reducible refine gate_callee (f := 27) rfl ?_); refine goesL_ (some 17) rfl rfl Try.func27 (by kernel_rfl) rfl #[.slice Ao60 t121.length co60] rfl (by (try simp only [List.map_toArray, List.map_cons, List.map_nil]); first | done | rfl | (simp only [List.length_drop, List.length_take]; rfl)) ?_; (with_reducible refine (lines_New.calls _ _ t121 t124 _ ?side1 ?side2 A5.out).mono ?_); (case side1 => repeat (first | exact (Kd.V_reads' HO123.out).2.2 | (with_reducible refine Kd.C_alloc ?_ _) | (with_reducible refine Kd.C_drewN ?_ _) | (with_reducible refine Kd.C_drew ?_))); (case side2 => exact (Kd.V_reads' HO123.out).2.1); rintro e w61 ⟨v125, rfl, ho0, hb⟩; refine ⟨_, rfl, ?_⟩; have n0_ := Aside0.mk (Kd.V_below (by (with_reducible repeat (first | apply Kd.V_alloc | apply Kd.V_drewN | apply Kd.V_drew)); exact HO113.out) hb); have n1_ := Aside0.mk (Kd.P_below (by (with_reducible repeat (first | apply Kd.P_alloc | apply Kd.P_drewN | apply Kd.P_drew)); exact HO116.out) hb); have n2_ := Aside0.mk (Kd.V_below (by (with_reducible repeat (first | apply Kd.V_alloc | apply Kd.V_drewN | apply Kd.V_drew)); exact HO123.out) hb); have n3_ := Aside0.mk (Kd.P_lower (Kd.P_mono (ok' := fun k_ => k_ ≠ gb120) ho0 (fun k_ hk_ => (Kd.freshB (g := gb120) (o := .cells #[.int .i64 t117, .int .i64 t118] 54 (0, 0)) (by (with_reducible repeat (first | refine blk_drewN ?_ _ | refine blk_drew ?_ | refine blk_alloc ?_ _)); exact BK120.out) k_ hk_))) (below_size (by repeat (first | (with_reducible first | exact HB.out | apply below_alloc | apply pw_below_drewN | apply below_drew1 | refine below_set ?_ GE120.out) | exact HB.out)))); have n4_ := Aside0.mk (blk_below (g := gb120) (o := .cells #[.int .i64 t117, .int .i64 t118] 54 (0, 0)) (by (with_reducible repeat (first | refine blk_drewN ?_ _ | refine blk_drew ?_ | refine blk_alloc ?_ _)); exact BK120.out) hb); have n5_ := Aside0.mk (below_step (by repeat (first | (with_reducible first | exact HB.out | apply below_alloc | apply pw_below_drewN | apply below_drew1 | refine below_set ?_ GE120.out) | exact HB.out)) hb); clear HO113; clear HO116; clear HO123; clear BK120; clear HB; have HO113 := n0_; have HO116 := n1_; have HO123 := n2_; have HO126 := n3_; have BK120 := n4_; have HB := n5_; clear n0_ n1_ n2_ n3_ n4_ n5_; (try clear hb); (try clear hb2); (try clear hk); (try clear hi); (try clear ho0)) | ((with_reducible refine gate_callee (f := 29) rfl ?_); refine goesL_ (some 18) rfl rfl Try.func29 (by kernel_rfl) rfl #[v125, .int .i64 2] rfl (by (try simp only [List.map_toArray, List.map_cons, List.map_nil]); first | done | rfl | (simp only [List.length_drop, List.length_take]; rfl)) ?_; (with_reducible refine (lines_Index_Place.calls k _ t124 2 t127 t128 t129 _ ?side1 A6.out).mono ?_); (case side1 => exact Kd.P_now (by (with_reducible repeat (first | apply Kd.P_alloc | apply Kd.P_drewN | apply Kd.P_drew)); exact HO126.out)); rintro e w62 ⟨rfl, hb⟩; refine ⟨_, rfl, ?_⟩; have n0_ := Aside0.mk (Kd.V_below (by (with_reducible repeat (first | apply Kd.V_alloc | apply Kd.V_drewN | apply Kd.V_drew)); exact HO113.out) hb); have n1_ := Aside0.mk (Kd.P_below (by (with_reducible repeat (first | apply Kd.P_alloc | apply Kd.P_drewN | apply Kd.P_drew)); exact HO116.out) hb); have n2_ := Aside0.mk (Kd.V_below (by (with_reducible repeat (first | apply Kd.V_alloc | apply Kd.V_drewN | apply Kd.V_drew)); exact HO123.out) hb); have n3_ := Aside0.mk (Kd.P_below (by (with_reducible repeat (first | apply Kd.P_alloc | apply Kd.P_drewN | apply Kd.P_drew)); exact HO126.out) hb); have n4_ := Aside0.mk (blk_below (g := gb120) (o := .cells #[.int .i64 t117, .int .i64 t118] 54 (0, 0)) (by (with_reducible repeat (first | refine blk_drewN ?_ _ | refine blk_drew ?_ | refine blk_alloc ?_ _)); exact BK120.out) hb); have n5_ := Aside0.mk (below_step (by repeat (first | (with_reducible first | exact HB.out | apply below_alloc | apply pw_below_drewN | apply below_drew1 | refine below_set ?_ GE120.out) | exact HB.out)) hb); clear HO113; clear HO116; clear HO123; clear HO126; clear BK120; clear HB; have HO113 := n0_; have HO116 := n1_; have HO123 := n2_; have HO126 := n3_; have BK120 := n4_; have HB := n5_; clear n0_ n1_ n2_ n3_ n4_ n5_; (try clear hb); (try clear hb2); (try clear hk); (try clear hi)) | ((with_reducible refine gate_dst (N := 4) rfl ?_); refine box_event ?hg (N := 4) ?hd (cs := #[.int .i64 0, .int .i64 0]) (t := 54) ?hr ?_; (case hd => rfl); (case hg => rfl); (case hr => first | (go_simp; done) | (go_simp; rfl)); intro gb130 hg w63 hbox hb; have n0_ := Aside0.mk (Kd.V_below (Kd.V_elderB (by (with_reducible repeat (first | apply Kd.V_alloc | apply Kd.V_drewN | apply Kd.V_drew)); exact HO113.out) gb130 (Nat.le_of_eq hg.symm)) hb); have n1_ := Aside0.mk (Kd.P_below (Kd.P_elderB (by (with_reducible repeat (first | apply Kd.P_alloc | apply Kd.P_drewN | apply Kd.P_drew)); exact HO116.out) gb130 (Nat.le_of_eq hg.symm)) hb); have n2_ := Aside0.mk (Kd.V_below (Kd.V_elderB (by (with_reducible repeat (first | apply Kd.V_alloc | apply Kd.V_drewN | apply Kd.V_drew)); exact HO123.out) gb130 (Nat.le_of_eq hg.symm)) hb); have n3_ := Aside0.mk (Kd.P_below (Kd.P_elderB (by (with_reducible repeat (first | apply Kd.P_alloc | apply Kd.P_drewN | apply Kd.P_drew)); exact HO126.out) gb130 (Nat.le_of_eq hg.symm)) hb); have n4_ := Aside0.mk (blk_below (g := gb120) (o := .cells #[.int .i64 t117, .int .i64 t118] 54 (0, 0)) (by (with_reducible repeat (first | refine blk_drewN ?_ _ | refine blk_drew ?_ | refine blk_alloc ?_ _)); exact BK120.out) hb); have n5_ := Aside0.mk (below_step (by repeat (first | (with_reducible first | exact HB.out | apply below_alloc | apply pw_below_drewN | apply below_drew1 | refine below_set ?_ GE120.out) | exact HB.out)) hb); have n6_ := Aside0.mk (hbox); have n7_ := Aside0.mk ((by rw [hg]; exact (below_size (by repeat (first | (with_reducible first | exact HB.out | apply below_alloc | apply pw_below_drewN | apply below_drew1 | refine below_set ?_ GE120.out) | exact HB.out))) : w.heap.size ≤ gb130)); have n8_ := Aside0.mk ((by rw [hg]; exact (below_size (by repeat (first | (with_reducible first | exact HB.out | apply below_alloc | apply pw_below_drewN | apply below_drew1 | refine below_set ?_ GE120.out) | exact HB.out))) : w.heap.size ≤ gb130)); have n9_ := Aside0.mk ((by rw [hg]; exact Nat.ne_of_lt (blk_lt (g := gb120) (o := .cells #[.int .i64 t117, .int .i64 t118] 54 (0, 0)) (by (with_reducible repeat (first | refine blk_drewN ?_ _ | refine blk_drew ?_ | refine blk_alloc ?_ _)); exact BK120.out)) : gb120 ≠ gb130)); have n10_ := Aside0.mk ((by rw [hg]; exact Nat.ne_of_gt (blk_lt (g := gb120) (o := .cells #[.int .i64 t117, .int .i64 t118] 54 (0, 0)) (by (with_reducible repeat (first | refine blk_drewN ?_ _ | refine blk_drew ?_ | refine blk_alloc ?_ _)); exact BK120.out)) : gb130 ≠ gb120)); clear HO113; clear HO116; clear HO123; clear HO126; clear BK120; clear HB; have HO113 := n0_; have HO116 := n1_; have HO123 := n2_; have HO126 := n3_; have BK120 := n4_; have HB := n5_; have BK130 := n6_; have GW130 := n7_; have GE130 := n8_; have NB120_130 := n9_; have NB130_120 := n10_; clear n0_ n1_ n2_ n3_ n4_ n5_ n6_ n7_ n8_ n9_ n10_; clear hb hbox hg; have hnb64 := NB130_120.out; have hnc64 := NB120_130.out; have hcz65_0 : w63.cell? ⟨gb130, 0, none⟩ = some (.int .i64 0) := (blk_cell BK130.out 0).trans rfl; have hcz65_1 : w63.cell? ⟨gb130, 1, none⟩ = some (.int .i64 0) := (blk_cell BK130.out 1).trans rfl; have hfz65_0 := blk_frozen BK130.out 0; have hfz65_1 := blk_frozen BK130.out 1) | ((with_reducible refine gate_callee (f := 33) rfl ?_); refine goesL_ (some 22) rfl rfl Try.func33 (by kernel_rfl) rfl #[v115] rfl (by (try simp only [List.map_toArray, List.map_cons, List.map_nil]); first | done | rfl | (simp only [List.length_drop, List.length_take]; rfl)) ?_; (with_reducible refine (lines_Index_Lines.calls _ t114 t131 _ ?side1 A7.out).mono ?_); (case side1 => exact Kd.P_now (by (with_reducible repeat (first | apply Kd.P_alloc | apply Kd.P_drewN | apply Kd.P_drew)); exact (Kd.P_far (p := ⟨gb130, 1, none⟩) (Kd.P_far (p := ⟨gb130, 0, none⟩) (Kd.P_mono HO116.out (fun k_ hk => (⟨hk, hk.2⟩ : _ ∧ k_ ≠ gb130))) (fun _ hk => hk.2) (.int .i64 t127)) (fun _ hk => hk.2) (.int .i64 t128)))); rintro e w' ⟨rfl, ⟨nd, rfl⟩⟩; refine ⟨_, rfl, ?_⟩))
      go_ret
      exact ⟨by first | rfl | (simp [errW_none, errW_some] <;> rfl) | (simp [*, errW_none, errW_some] <;> rfl), by repeat (first | (with_reducible first | exact HB.out | apply below_alloc | apply pw_below_drewN | apply below_drew1 | refine below_set ?_ GE120.out | refine below_set ?_ GE130.out) | exact HB.out)⟩
  · rw [if_neg c8] at H
    have c8b0 : (t131 == 2) = false := beq_eq_false_iff_ne.mpr c8
    have c8b1 : (t131 != 2) = true := bne_iff_ne.mpr c8
    obtain rfl := Option.some.inj H
    go_enter Try.func26, Try.ntmps26
    go_wp2_with (first | ((with_reducible refine gate_dst (N := 7) rfl ?_); refine const_goes (N := some 7) rfl rfl (a0 := ([97, 10, 98, 99] : List Int)) rfl (by first | rfl | (simp; done)) (by first | rfl | (simp; done)) (by first | rfl | (simp; done)) Try.underlying22 Try.underlying5 ?_; (with_reducible refine (const_bytes.calls ([97, 10, 98, 99] : List Int) t111 _ A1.out).mono ?_); rintro e w66 ⟨v112, rfl, ho0, hb⟩; refine ⟨_, rfl, ?_⟩; have n0_ := Aside0.mk (Kd.V_lower (Kd.V_mono (ok' := fun k_ => True) ho0 (fun k_ hk_ => trivial)) (below_size (by repeat (first | (with_reducible first | exact HB.out | apply below_alloc | apply pw_below_drewN | apply below_drew1) | exact HB.out)))); have n1_ := Aside0.mk (below_step (by repeat (first | (with_reducible first | exact HB.out | apply below_alloc | apply pw_below_drewN | apply below_drew1) | exact HB.out)) hb); clear HB; have HO113 := n0_; have HB := n1_; clear n0_ n1_; (try clear hb); (try clear hb2); (try clear hk); (try clear hi); (try clear ho0); obtain ⟨Ao67, co67, eo67⟩ := Kd.V_slice HO113.out; subst eo67) | ((with_reducible refine gate_callee (f := 27) rfl ?_); refine goesL_ (some 8) rfl rfl Try.func27 (by kernel_rfl) rfl #[.slice Ao67 t111.length co67] rfl (by (try simp only [List.map_toArray, List.map_cons, List.map_nil]); first | done | rfl | (simp only [List.length_drop, List.length_take]; rfl)) ?_; (with_reducible refine (lines_New.calls _ _ t111 t114 _ ?side1 ?side2 A2.out).mono ?_); (case side1 => repeat (first | exact (Kd.V_reads' HO113.out).2.2 | (with_reducible refine Kd.C_alloc ?_ _) | (with_reducible refine Kd.C_drewN ?_ _) | (with_reducible refine Kd.C_drew ?_))); (case side2 => exact (Kd.V_reads' HO113.out).2.1); rintro e w68 ⟨v115, rfl, ho0, hb⟩; refine ⟨_, rfl, ?_⟩; have n0_ := Aside0.mk (Kd.V_below (by (with_reducible repeat (first | apply Kd.V_alloc | apply Kd.V_drewN | apply Kd.V_drew)); exact HO113.out) hb); have n1_ := Aside0.mk (Kd.P_lower (Kd.P_mono (ok' := fun k_ => True) ho0 (fun k_ hk_ => trivial)) (below_size (by repeat (first | (with_reducible first | exact HB.out | apply below_alloc | apply pw_below_drewN | apply below_drew1) | exact HB.out)))); have n2_ := Aside0.mk (below_step (by repeat (first | (with_reducible first | exact HB.out | apply below_alloc | apply pw_below_drewN | apply below_drew1) | exact HB.out)) hb); clear HO113; clear HB; have HO113 := n0_; have HO116 := n1_; have HB := n2_; clear n0_ n1_ n2_; (try clear hb); (try clear hb2); (try clear hk); (try clear hi); (try clear ho0)) | ((with_reducible refine gate_callee (f := 29) rfl ?_); refine goesL_ (some 11) rfl rfl Try.func29 (by kernel_rfl) rfl #[v115, .int .i64 3] rfl (by (try simp only [List.map_toArray, List.map_cons, List.map_nil]); first | done | rfl | (simp only [List.length_drop, List.length_take]; rfl)) ?_; (with_reducible refine (lines_Index_Place.calls k _ t114 3 t117 t118 t119 _ ?side1 A3.out).mono ?_); (case side1 => exact Kd.P_now (by (with_reducible repeat (first | apply Kd.P_alloc | apply Kd.P_drewN | apply Kd.P_drew)); exact HO116.out)); rintro e w69 ⟨rfl, hb⟩; refine ⟨_, rfl, ?_⟩; have n0_ := Aside0.mk (Kd.V_below (by (with_reducible repeat (first | apply Kd.V_alloc | apply Kd.V_drewN | apply Kd.V_drew)); exact HO113.out) hb); have n1_ := Aside0.mk (Kd.P_below (by (with_reducible repeat (first | apply Kd.P_alloc | apply Kd.P_drewN | apply Kd.P_drew)); exact HO116.out) hb); have n2_ := Aside0.mk (below_step (by repeat (first | (with_reducible first | exact HB.out | apply below_alloc | apply pw_below_drewN | apply below_drew1) | exact HB.out)) hb); clear HO113; clear HO116; clear HB; have HO113 := n0_; have HO116 := n1_; have HB := n2_; clear n0_ n1_ n2_; (try clear hb); (try clear hb2); (try clear hk); (try clear hi)) | ((with_reducible refine gate_dst (N := 2) rfl ?_); refine box_event ?hg (N := 2) ?hd (cs := #[.int .i64 0, .int .i64 0]) (t := 54) ?hr ?_; (case hd => rfl); (case hg => rfl); (case hr => first | (go_simp; done) | (go_simp; rfl)); intro gb120 hg w70 hbox hb; have n0_ := Aside0.mk (Kd.V_below (Kd.V_elderB (by (with_reducible repeat (first | apply Kd.V_alloc | apply Kd.V_drewN | apply Kd.V_drew)); exact HO113.out) gb120 (Nat.le_of_eq hg.symm)) hb); have n1_ := Aside0.mk (Kd.P_below (Kd.P_elderB (by (with_reducible repeat (first | apply Kd.P_alloc | apply Kd.P_drewN | apply Kd.P_drew)); exact HO116.out) gb120 (Nat.le_of_eq hg.symm)) hb); have n2_ := Aside0.mk (below_step (by repeat (first | (with_reducible first | exact HB.out | apply below_alloc | apply pw_below_drewN | apply below_drew1) | exact HB.out)) hb); have n3_ := Aside0.mk (hbox); have n4_ := Aside0.mk ((by rw [hg]; exact (below_size (by repeat (first | (with_reducible first | exact HB.out | apply below_alloc | apply pw_below_drewN | apply below_drew1) | exact HB.out))) : w.heap.size ≤ gb120)); have n5_ := Aside0.mk ((by rw [hg]; exact (below_size (by repeat (first | (with_reducible first | exact HB.out | apply below_alloc | apply pw_below_drewN | apply below_drew1) | exact HB.out))) : w.heap.size ≤ gb120)); clear HO113; clear HO116; clear HB; have HO113 := n0_; have HO116 := n1_; have HB := n2_; have BK120 := n3_; have GW120 := n4_; have GE120 := n5_; clear n0_ n1_ n2_ n3_ n4_ n5_; clear hb hbox hg; have hcz71_0 : w70.cell? ⟨gb120, 0, none⟩ = some (.int .i64 0) := (blk_cell BK120.out 0).trans rfl; have hcz71_1 : w70.cell? ⟨gb120, 1, none⟩ = some (.int .i64 0) := (blk_cell BK120.out 1).trans rfl; have hfz71_0 := blk_frozen BK120.out 0; have hfz71_1 := blk_frozen BK120.out 1) | ((with_reducible refine gate_dst (N := 16) rfl ?_); refine const_goes (N := some 16) rfl rfl (a0 := ([97, 10] : List Int)) rfl (by first | rfl | (simp; done)) (by first | rfl | (simp; done)) (by first | rfl | (simp; done)) Try.underlying22 Try.underlying5 ?_; (with_reducible refine (const_bytes.calls ([97, 10] : List Int) t121 _ A4.out).mono ?_); rintro e w72 ⟨v122, rfl, ho0, hb⟩; refine ⟨_, rfl, ?_⟩; have n0_ := Aside0.mk (Kd.V_below (by (with_reducible repeat (first | apply Kd.V_alloc | apply Kd.V_drewN | apply Kd.V_drew)); exact (Kd.V_mono (Kd.V_far (p := ⟨gb120, 1, none⟩) (Kd.V_far (p := ⟨gb120, 0, none⟩) (Kd.V_mono HO113.out (fun k_ hk => (⟨hk, hk.2⟩ : _ ∧ k_ ≠ gb120))) (fun _ hk => hk.2) (.int .i64 t117)) (fun _ hk => hk.2) (.int .i64 t118)) (fun _ h_ => h_.1))) hb); have n1_ := Aside0.mk (Kd.P_below (by (with_reducible repeat (first | apply Kd.P_alloc | apply Kd.P_drewN | apply Kd.P_drew)); exact (Kd.P_mono (Kd.P_far (p := ⟨gb120, 1, none⟩) (Kd.P_far (p := ⟨gb120, 0, none⟩) (Kd.P_mono HO116.out (fun k_ hk => (⟨hk, hk.2⟩ : _ ∧ k_ ≠ gb120))) (fun _ hk => hk.2) (.int .i64 t117)) (fun _ hk => hk.2) (.int .i64 t118)) (fun _ h_ => h_.1))) hb); have n2_ := Aside0.mk (Kd.V_lower (Kd.V_mono (ok' := fun k_ => k_ ≠ gb120) ho0 (fun k_ hk_ => (Kd.freshB (g := gb120) (o := .cells #[.int .i64 t117, .int .i64 t118] 54 (0, 0)) (by (with_reducible repeat (first | refine blk_drewN ?_ _ | refine blk_drew ?_ | refine blk_alloc ?_ _)); refine blk_put (cs := #[.int .i64 t117, .int .i64 0]) ?_ 1 _ rfl; (with_reducible repeat (first | refine blk_drewN ?_ _ | refine blk_drew ?_ | refine blk_alloc ?_ _)); refine blk_put (cs := #[.int .i64 0, .int .i64 0]) ?_ 0 _ rfl; (with_reducible repeat (first | refine blk_drewN ?_ _ | refine blk_drew ?_ | refine blk_alloc ?_ _)); exact BK120.out) k_ hk_))) (below_size (by repeat (first | (with_reducible first | exact HB.out | apply below_alloc | apply pw_below_drewN | apply below_drew1 | refine below_set ?_ GE120.out) | exact HB.out)))); have n3_ := Aside0.mk (blk_below (g := gb120) (o := .cells #[.int .i64 t117, .int .i64 t118] 54 (0, 0)) (by (with_reducible repeat (first | refine blk_drewN ?_ _ | refine blk_drew ?_ | refine blk_alloc ?_ _)); refine blk_put (cs := #[.int .i64 t117, .int .i64 0]) ?_ 1 _ rfl; (with_reducible repeat (first | refine blk_drewN ?_ _ | refine blk_drew ?_ | refine blk_alloc ?_ _)); refine blk_put (cs := #[.int .i64 0, .int .i64 0]) ?_ 0 _ rfl; (with_reducible repeat (first | refine blk_drewN ?_ _ | refine blk_drew ?_ | refine blk_alloc ?_ _)); exact BK120.out) hb); have n4_ := Aside0.mk (below_step (by repeat (first | (with_reducible first | exact HB.out | apply below_alloc | apply pw_below_drewN | apply below_drew1 | refine below_set ?_ GE120.out) | exact HB.out)) hb); clear HO113; clear HO116; clear BK120; clear HB; have HO113 := n0_; have HO116 := n1_; have HO123 := n2_; have BK120 := n3_; have HB := n4_; clear n0_ n1_ n2_ n3_ n4_; (try clear hb); (try clear hb2); (try clear hk); (try clear hi); (try clear ho0); obtain ⟨Ao73, co73, eo73⟩ := Kd.V_slice HO123.out; subst eo73) | ((with_reducible refine gate_callee (f := 27) rfl ?_); refine goesL_ (some 17) rfl rfl Try.func27 (by kernel_rfl) rfl #[.slice Ao73 t121.length co73] rfl (by (try simp only [List.map_toArray, List.map_cons, List.map_nil]); first | done | rfl | (simp only [List.length_drop, List.length_take]; rfl)) ?_; (with_reducible refine (lines_New.calls _ _ t121 t124 _ ?side1 ?side2 A5.out).mono ?_); (case side1 => repeat (first | exact (Kd.V_reads' HO123.out).2.2 | (with_reducible refine Kd.C_alloc ?_ _) | (with_reducible refine Kd.C_drewN ?_ _) | (with_reducible refine Kd.C_drew ?_))); (case side2 => exact (Kd.V_reads' HO123.out).2.1); rintro e w74 ⟨v125, rfl, ho0, hb⟩; refine ⟨_, rfl, ?_⟩; have n0_ := Aside0.mk (Kd.V_below (by (with_reducible repeat (first | apply Kd.V_alloc | apply Kd.V_drewN | apply Kd.V_drew)); exact HO113.out) hb); have n1_ := Aside0.mk (Kd.P_below (by (with_reducible repeat (first | apply Kd.P_alloc | apply Kd.P_drewN | apply Kd.P_drew)); exact HO116.out) hb); have n2_ := Aside0.mk (Kd.V_below (by (with_reducible repeat (first | apply Kd.V_alloc | apply Kd.V_drewN | apply Kd.V_drew)); exact HO123.out) hb); have n3_ := Aside0.mk (Kd.P_lower (Kd.P_mono (ok' := fun k_ => k_ ≠ gb120) ho0 (fun k_ hk_ => (Kd.freshB (g := gb120) (o := .cells #[.int .i64 t117, .int .i64 t118] 54 (0, 0)) (by (with_reducible repeat (first | refine blk_drewN ?_ _ | refine blk_drew ?_ | refine blk_alloc ?_ _)); exact BK120.out) k_ hk_))) (below_size (by repeat (first | (with_reducible first | exact HB.out | apply below_alloc | apply pw_below_drewN | apply below_drew1 | refine below_set ?_ GE120.out) | exact HB.out)))); have n4_ := Aside0.mk (blk_below (g := gb120) (o := .cells #[.int .i64 t117, .int .i64 t118] 54 (0, 0)) (by (with_reducible repeat (first | refine blk_drewN ?_ _ | refine blk_drew ?_ | refine blk_alloc ?_ _)); exact BK120.out) hb); have n5_ := Aside0.mk (below_step (by repeat (first | (with_reducible first | exact HB.out | apply below_alloc | apply pw_below_drewN | apply below_drew1 | refine below_set ?_ GE120.out) | exact HB.out)) hb); clear HO113; clear HO116; clear HO123; clear BK120; clear HB; have HO113 := n0_; have HO116 := n1_; have HO123 := n2_; have HO126 := n3_; have BK120 := n4_; have HB := n5_; clear n0_ n1_ n2_ n3_ n4_ n5_; (try clear hb); (try clear hb2); (try clear hk); (try clear hi); (try clear ho0)) | ((with_reducible refine gate_callee (f := 29) rfl ?_); refine goesL_ (some 18) rfl rfl Try.func29 (by kernel_rfl) rfl #[v125, .int .i64 2] rfl (by (try simp only [List.map_toArray, List.map_cons, List.map_nil]); first | done | rfl | (simp only [List.length_drop, List.length_take]; rfl)) ?_; (with_reducible refine (lines_Index_Place.calls k _ t124 2 t127 t128 t129 _ ?side1 A6.out).mono ?_); (case side1 => exact Kd.P_now (by (with_reducible repeat (first | apply Kd.P_alloc | apply Kd.P_drewN | apply Kd.P_drew)); exact HO126.out)); rintro e w75 ⟨rfl, hb⟩; refine ⟨_, rfl, ?_⟩; have n0_ := Aside0.mk (Kd.V_below (by (with_reducible repeat (first | apply Kd.V_alloc | apply Kd.V_drewN | apply Kd.V_drew)); exact HO113.out) hb); have n1_ := Aside0.mk (Kd.P_below (by (with_reducible repeat (first | apply Kd.P_alloc | apply Kd.P_drewN | apply Kd.P_drew)); exact HO116.out) hb); have n2_ := Aside0.mk (Kd.V_below (by (with_reducible repeat (first | apply Kd.V_alloc | apply Kd.V_drewN | apply Kd.V_drew)); exact HO123.out) hb); have n3_ := Aside0.mk (Kd.P_below (by (with_reducible repeat (first | apply Kd.P_alloc | apply Kd.P_drewN | apply Kd.P_drew)); exact HO126.out) hb); have n4_ := Aside0.mk (blk_below (g := gb120) (o := .cells #[.int .i64 t117, .int .i64 t118] 54 (0, 0)) (by (with_reducible repeat (first | refine blk_drewN ?_ _ | refine blk_drew ?_ | refine blk_alloc ?_ _)); exact BK120.out) hb); have n5_ := Aside0.mk (below_step (by repeat (first | (with_reducible first | exact HB.out | apply below_alloc | apply pw_below_drewN | apply below_drew1 | refine below_set ?_ GE120.out) | exact HB.out)) hb); clear HO113; clear HO116; clear HO123; clear HO126; clear BK120; clear HB; have HO113 := n0_; have HO116 := n1_; have HO123 := n2_; have HO126 := n3_; have BK120 := n4_; have HB := n5_; clear n0_ n1_ n2_ n3_ n4_ n5_; (try clear hb); (try clear hb2); (try clear hk); (try clear hi)) | ((with_reducible refine gate_dst (N := 4) rfl ?_); refine box_event ?hg (N := 4) ?hd (cs := #[.int .i64 0, .int .i64 0]) (t := 54) ?hr ?_; (case hd => rfl); (case hg => rfl); (case hr => first | (go_simp; done) | (go_simp; rfl)); intro gb130 hg w76 hbox hb; have n0_ := Aside0.mk (Kd.V_below (Kd.V_elderB (by (with_reducible repeat (first | apply Kd.V_alloc | apply Kd.V_drewN | apply Kd.V_drew)); exact HO113.out) gb130 (Nat.le_of_eq hg.symm)) hb); have n1_ := Aside0.mk (Kd.P_below (Kd.P_elderB (by (with_reducible repeat (first | apply Kd.P_alloc | apply Kd.P_drewN | apply Kd.P_drew)); exact HO116.out) gb130 (Nat.le_of_eq hg.symm)) hb); have n2_ := Aside0.mk (Kd.V_below (Kd.V_elderB (by (with_reducible repeat (first | apply Kd.V_alloc | apply Kd.V_drewN | apply Kd.V_drew)); exact HO123.out) gb130 (Nat.le_of_eq hg.symm)) hb); have n3_ := Aside0.mk (Kd.P_below (Kd.P_elderB (by (with_reducible repeat (first | apply Kd.P_alloc | apply Kd.P_drewN | apply Kd.P_drew)); exact HO126.out) gb130 (Nat.le_of_eq hg.symm)) hb); have n4_ := Aside0.mk (blk_below (g := gb120) (o := .cells #[.int .i64 t117, .int .i64 t118] 54 (0, 0)) (by (with_reducible repeat (first | refine blk_drewN ?_ _ | refine blk_drew ?_ | refine blk_alloc ?_ _)); exact BK120.out) hb); have n5_ := Aside0.mk (below_step (by repeat (first | (with_reducible first | exact HB.out | apply below_alloc | apply pw_below_drewN | apply below_drew1 | refine below_set ?_ GE120.out) | exact HB.out)) hb); have n6_ := Aside0.mk (hbox); have n7_ := Aside0.mk ((by rw [hg]; exact (below_size (by repeat (first | (with_reducible first | exact HB.out | apply below_alloc | apply pw_below_drewN | apply below_drew1 | refine below_set ?_ GE120.out) | exact HB.out))) : w.heap.size ≤ gb130)); have n8_ := Aside0.mk ((by rw [hg]; exact (below_size (by repeat (first | (with_reducible first | exact HB.out | apply below_alloc | apply pw_below_drewN | apply below_drew1 | refine below_set ?_ GE120.out) | exact HB.out))) : w.heap.size ≤ gb130)); have n9_ := Aside0.mk ((by rw [hg]; exact Nat.ne_of_lt (blk_lt (g := gb120) (o := .cells #[.int .i64 t117, .int .i64 t118] 54 (0, 0)) (by (with_reducible repeat (first | refine blk_drewN ?_ _ | refine blk_drew ?_ | refine blk_alloc ?_ _)); exact BK120.out)) : gb120 ≠ gb130)); have n10_ := Aside0.mk ((by rw [hg]; exact Nat.ne_of_gt (blk_lt (g := gb120) (o := .cells #[.int .i64 t117, .int .i64 t118] 54 (0, 0)) (by (with_reducible repeat (first | refine blk_drewN ?_ _ | refine blk_drew ?_ | refine blk_alloc ?_ _)); exact BK120.out)) : gb130 ≠ gb120)); clear HO113; clear HO116; clear HO123; clear HO126; clear BK120; clear HB; have HO113 := n0_; have HO116 := n1_; have HO123 := n2_; have HO126 := n3_; have BK120 := n4_; have HB := n5_; have BK130 := n6_; have GW130 := n7_; have GE130 := n8_; have NB120_130 := n9_; have NB130_120 := n10_; clear n0_ n1_ n2_ n3_ n4_ n5_ n6_ n7_ n8_ n9_ n10_; clear hb hbox hg; have hnb77 := NB130_120.out; have hnc77 := NB120_130.out; have hcz78_0 : w76.cell? ⟨gb130, 0, none⟩ = some (.int .i64 0) := (blk_cell BK130.out 0).trans rfl; have hcz78_1 : w76.cell? ⟨gb130, 1, none⟩ = some (.int .i64 0) := (blk_cell BK130.out 1).trans rfl; have hfz78_0 := blk_frozen BK130.out 0; have hfz78_1 := blk_frozen BK130.out 1) | ((with_reducible refine gate_callee (f := 33) rfl ?_); refine goesL_ (some 22) rfl rfl Try.func33 (by kernel_rfl) rfl #[v115] rfl (by (try simp only [List.map_toArray, List.map_cons, List.map_nil]); first | done | rfl | (simp only [List.length_drop, List.length_take]; rfl)) ?_; (with_reducible refine (lines_Index_Lines.calls _ t114 t131 _ ?side1 A7.out).mono ?_); (case side1 => exact Kd.P_now (by (with_reducible repeat (first | apply Kd.P_alloc | apply Kd.P_drewN | apply Kd.P_drew)); exact (Kd.P_far (p := ⟨gb130, 1, none⟩) (Kd.P_far (p := ⟨gb130, 0, none⟩) (Kd.P_mono HO116.out (fun k_ hk => (⟨hk, hk.2⟩ : _ ∧ k_ ≠ gb130))) (fun _ hk => hk.2) (.int .i64 t127)) (fun _ hk => hk.2) (.int .i64 t128)))); rintro e w' ⟨rfl, ⟨nd, rfl⟩⟩; refine ⟨_, rfl, ?_⟩))
    go_ret
    exact ⟨by first | rfl | (simp [errW_none, errW_some] <;> rfl) | (simp [*, errW_none, errW_some] <;> rfl), by repeat (first | (with_reducible first | exact HB.out | apply below_alloc | apply pw_below_drewN | apply below_drew1 | refine below_set ?_ GE120.out | refine below_set ?_ GE130.out) | exact HB.out)⟩

end Go.Proofs.Ytgjnelloegkicaa.PLinesOwn
