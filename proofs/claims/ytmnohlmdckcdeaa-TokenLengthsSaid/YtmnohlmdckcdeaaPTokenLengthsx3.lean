-- Laid by a program of ours (the kit's print with words and contracts of our own beside it).
import Derived.Test.YtmnohlmdckcdeaaPTokenLengthsx0
import Derived.Test.YtmnohlmdckcdeaaPTokenLengthsx2
namespace Go.Proofs.Ytmnohlmdckcdeaa.PTokenLengths
open Go.RowKit Go.Proofs.Ytmnohlmdckcdeaa.X Go.Proofs.YtmnohlmdckcdeaaW.PrintWords Go.Proofs.YtmnohlmdckcdeaaW.PrintLast Go.Proofs.YtmnohlmdckcdeaaW.PrintMore
attribute [local go_sem] max2_int min2_int max_two min_two max_three min_three max_four min_four   -- for this text's walks alone
set_option linter.unusedVariables false
set_option linter.unusedSimpArgs false

/-! ### fold_Letter: function 13 -/
def fold_Letter.f (a0 : Int) : Option (Bool) := (fold_great.f a0).bind fun t117 => (if t117 = true then (some true) else ((fold_small.f a0).bind fun t118 => (if t118 = true then (some true) else (if a0 = 223 then (some true) else (if a0 ≥ 255 then (if a0 ≤ 591 then (some true) else (if a0 ≥ 880 then (if a0 ≤ 1023 then (some true) else (if a0 ≥ 1024 then (some (decide (a0 ≤ 1327))) else (some false))) else (if a0 ≥ 1024 then (some (decide (a0 ≤ 1327))) else (some false)))) else (if a0 ≥ 880 then (if a0 ≤ 1023 then (some true) else (if a0 ≥ 1024 then (some (decide (a0 ≤ 1327))) else (some false))) else (if a0 ≥ 1024 then (some (decide (a0 ≤ 1327))) else (some false))))))))
set_option maxHeartbeats 8000000 in
set_option maxRecDepth 100000 in
theorem fold_Letter.calls (a0 : Int) (r : Bool) (w : World) (h : fold_Letter.f a0 = some r) :
  Calls Try.prog 13 #[.int .i32 a0] w fun e w' => e = .returned (.bool r) ∧ Drawn0 w w' := by
 have H : ((fold_great.f a0).bind fun t117 => (if t117 = true then (some true) else ((fold_small.f a0).bind fun t118 => (if t118 = true then (some true) else (if a0 = 223 then (some true) else (if a0 ≥ 255 then (if a0 ≤ 591 then (some true) else (if a0 ≥ 880 then (if a0 ≤ 1023 then (some true) else (if a0 ≥ 1024 then (some (decide (a0 ≤ 1327))) else (some false))) else (if a0 ≥ 1024 then (some (decide (a0 ≤ 1327))) else (some false)))) else (if a0 ≥ 880 then (if a0 ≤ 1023 then (some true) else (if a0 ≥ 1024 then (some (decide (a0 ≤ 1327))) else (some false))) else (if a0 ≥ 1024 then (some (decide (a0 ≤ 1327))) else (some false))))))))) = some r := h
 clear h
 replace H := Option.bind_eq_some_iff.mp H
 obtain ⟨t117, A20, H⟩ := H
 replace H : (if t117 = true then (some true) else ((fold_small.f a0).bind fun t118 => (if t118 = true then (some true) else (if a0 = 223 then (some true) else (if a0 ≥ 255 then (if a0 ≤ 591 then (some true) else (if a0 ≥ 880 then (if a0 ≤ 1023 then (some true) else (if a0 ≥ 1024 then (some (decide (a0 ≤ 1327))) else (some false))) else (if a0 ≥ 1024 then (some (decide (a0 ≤ 1327))) else (some false)))) else (if a0 ≥ 880 then (if a0 ≤ 1023 then (some true) else (if a0 ≥ 1024 then (some (decide (a0 ≤ 1327))) else (some false))) else (if a0 ≥ 1024 then (some (decide (a0 ≤ 1327))) else (some false)))))))) = some r := H
 have A2 := Aside0.mk A20
 clear A20
 by_cases c3 : t117 = true
 ·subst c3
  have H1 : (some true) = some r := by rw [if_pos rfl] at H; exact H
  clear H
  have H := H1
  clear H1
  obtain rfl := Option.some.inj H
  go_enter Try.func13, Try.ntmps13
  go_wp2_with (first | ((with_reducible refine gate_callee (f := 35) rfl ?_); refine goesL_ (some 4) rfl rfl Try.func35 (by kernel_rfl) rfl #[.int .i32 a0] rfl (by (try simp only [List.map_toArray, List.map_cons, List.map_nil]); first | done | rfl | (simp only [List.length_drop, List.length_take]; rfl)) ?_; (with_reducible refine (fold_great.calls a0 true _ A2.out).mono ?_); rintro e w' ⟨rfl, ⟨nd, rfl⟩⟩; refine ⟨_, rfl, ?_⟩))
  go_ret
  exact ⟨by first | rfl | (simp; done) | (simp [*]; done), by repeat (first | exact Drawn0.refl _ | apply Drawn0.step)⟩
 ·replace c3 := Bool.eq_false_iff.mpr c3
  subst c3
  have H1 : ((fold_small.f a0).bind fun t118 => (if t118 = true then (some true) else (if a0 = 223 then (some true) else (if a0 ≥ 255 then (if a0 ≤ 591 then (some true) else (if a0 ≥ 880 then (if a0 ≤ 1023 then (some true) else (if a0 ≥ 1024 then (some (decide (a0 ≤ 1327))) else (some false))) else (if a0 ≥ 1024 then (some (decide (a0 ≤ 1327))) else (some false)))) else (if a0 ≥ 880 then (if a0 ≤ 1023 then (some true) else (if a0 ≥ 1024 then (some (decide (a0 ≤ 1327))) else (some false))) else (if a0 ≥ 1024 then (some (decide (a0 ≤ 1327))) else (some false))))))) = some r := by rw [if_neg (show ¬ (false = true) by decide)] at H; exact H
  clear H
  have H := H1
  clear H1
  replace H := Option.bind_eq_some_iff.mp H
  obtain ⟨t118, A40, H⟩ := H
  replace H : (if t118 = true then (some true) else (if a0 = 223 then (some true) else (if a0 ≥ 255 then (if a0 ≤ 591 then (some true) else (if a0 ≥ 880 then (if a0 ≤ 1023 then (some true) else (if a0 ≥ 1024 then (some (decide (a0 ≤ 1327))) else (some false))) else (if a0 ≥ 1024 then (some (decide (a0 ≤ 1327))) else (some false)))) else (if a0 ≥ 880 then (if a0 ≤ 1023 then (some true) else (if a0 ≥ 1024 then (some (decide (a0 ≤ 1327))) else (some false))) else (if a0 ≥ 1024 then (some (decide (a0 ≤ 1327))) else (some false)))))) = some r := H
  have A4 := Aside0.mk A40
  clear A40
  by_cases c5 : t118 = true
  ·subst c5
   have H1 : (some true) = some r := by rw [if_pos rfl] at H; exact H
   clear H
   have H := H1
   clear H1
   obtain rfl := Option.some.inj H
   go_enter Try.func13, Try.ntmps13
   go_wp2_with (first | ((with_reducible refine gate_callee (f := 35) rfl ?_); refine goesL_ (some 4) rfl rfl Try.func35 (by kernel_rfl) rfl #[.int .i32 a0] rfl (by (try simp only [List.map_toArray, List.map_cons, List.map_nil]); first | done | rfl | (simp only [List.length_drop, List.length_take]; rfl)) ?_; (with_reducible refine (fold_great.calls a0 false _ A2.out).mono ?_); rintro e w' ⟨rfl, ⟨nd, rfl⟩⟩; refine ⟨_, rfl, ?_⟩) | (go_at_call 36; (with_reducible refine (fold_small.calls a0 true _ A4.out).mono ?_); rintro e w' ⟨rfl, ⟨nd, rfl⟩⟩))
   go_ret
   exact ⟨by first | rfl | (simp; done) | (simp [*]; done), by repeat (first | exact Drawn0.refl _ | apply Drawn0.step)⟩
  ·replace c5 := Bool.eq_false_iff.mpr c5
   subst c5
   have H1 : (if a0 = 223 then (some true) else (if a0 ≥ 255 then (if a0 ≤ 591 then (some true) else (if a0 ≥ 880 then (if a0 ≤ 1023 then (some true) else (if a0 ≥ 1024 then (some (decide (a0 ≤ 1327))) else (some false))) else (if a0 ≥ 1024 then (some (decide (a0 ≤ 1327))) else (some false)))) else (if a0 ≥ 880 then (if a0 ≤ 1023 then (some true) else (if a0 ≥ 1024 then (some (decide (a0 ≤ 1327))) else (some false))) else (if a0 ≥ 1024 then (some (decide (a0 ≤ 1327))) else (some false))))) = some r := by rw [if_neg (show ¬ (false = true) by decide)] at H; exact H
   clear H
   have H := H1
   clear H1
   by_cases c6 : a0 = 223
   ·rw [if_pos c6] at H
    have c6b0 : (a0 == 223) = true := beq_iff_eq.mpr c6
    have c6b1 : (a0 != 223) = false := bne_eq_false_iff_eq.mpr c6
    clear c6
    obtain rfl := Option.some.inj H
    go_enter Try.func13, Try.ntmps13
    go_wp2_with (first | ((with_reducible refine gate_callee (f := 35) rfl ?_); refine goesL_ (some 4) rfl rfl Try.func35 (by kernel_rfl) rfl #[.int .i32 a0] rfl (by (try simp only [List.map_toArray, List.map_cons, List.map_nil]); first | done | rfl | (simp only [List.length_drop, List.length_take]; rfl)) ?_; (with_reducible refine (fold_great.calls a0 false _ A2.out).mono ?_); rintro e w' ⟨rfl, ⟨nd, rfl⟩⟩; refine ⟨_, rfl, ?_⟩) | (go_at_call 36; (with_reducible refine (fold_small.calls a0 false _ A4.out).mono ?_); rintro e w' ⟨rfl, ⟨nd, rfl⟩⟩))
    go_ret
    exact ⟨by first | rfl | (simp; done) | (simp [*]; done), by repeat (first | exact Drawn0.refl _ | apply Drawn0.step)⟩
   ·rw [if_neg c6] at H
    have c6b0 : (a0 == 223) = false := beq_eq_false_iff_ne.mpr c6
    have c6b1 : (a0 != 223) = true := bne_iff_ne.mpr c6
    by_cases c7 : a0 ≥ 255
    ·rw [if_pos c7] at H
     have c7b0 : decide (255 ≤ a0) = true := decide_eq_true c7
     clear c7
     by_cases c8 : a0 ≤ 591
     ·rw [if_pos c8] at H
      have c8b0 : decide (a0 ≤ 591) = true := decide_eq_true c8
      clear c8
      obtain rfl := Option.some.inj H
      go_enter Try.func13, Try.ntmps13
      go_wp2_with (first | ((with_reducible refine gate_callee (f := 35) rfl ?_); refine goesL_ (some 4) rfl rfl Try.func35 (by kernel_rfl) rfl #[.int .i32 a0] rfl (by (try simp only [List.map_toArray, List.map_cons, List.map_nil]); first | done | rfl | (simp only [List.length_drop, List.length_take]; rfl)) ?_; (with_reducible refine (fold_great.calls a0 false _ A2.out).mono ?_); rintro e w' ⟨rfl, ⟨nd, rfl⟩⟩; refine ⟨_, rfl, ?_⟩) | (go_at_call 36; (with_reducible refine (fold_small.calls a0 false _ A4.out).mono ?_); rintro e w' ⟨rfl, ⟨nd, rfl⟩⟩))
      go_ret
      exact ⟨by first | rfl | (simp; done) | (simp [*]; done), by repeat (first | exact Drawn0.refl _ | apply Drawn0.step)⟩
     ·rw [if_neg c8] at H
      have c8b0 : decide (a0 ≤ 591) = false := decide_eq_false c8
      clear c8
      by_cases c9 : a0 ≥ 880
      ·rw [if_pos c9] at H
       have c9b0 : decide (880 ≤ a0) = true := decide_eq_true c9
       clear c9
       by_cases c10 : a0 ≤ 1023
       ·rw [if_pos c10] at H
        have c10b0 : decide (a0 ≤ 1023) = true := decide_eq_true c10
        clear c10
        obtain rfl := Option.some.inj H
        go_enter Try.func13, Try.ntmps13
        go_wp2_with (first | ((with_reducible refine gate_callee (f := 35) rfl ?_); refine goesL_ (some 4) rfl rfl Try.func35 (by kernel_rfl) rfl #[.int .i32 a0] rfl (by (try simp only [List.map_toArray, List.map_cons, List.map_nil]); first | done | rfl | (simp only [List.length_drop, List.length_take]; rfl)) ?_; (with_reducible refine (fold_great.calls a0 false _ A2.out).mono ?_); rintro e w' ⟨rfl, ⟨nd, rfl⟩⟩; refine ⟨_, rfl, ?_⟩) | (go_at_call 36; (with_reducible refine (fold_small.calls a0 false _ A4.out).mono ?_); rintro e w' ⟨rfl, ⟨nd, rfl⟩⟩))
        go_ret
        exact ⟨by first | rfl | (simp; done) | (simp [*]; done), by repeat (first | exact Drawn0.refl _ | apply Drawn0.step)⟩
       ·rw [if_neg c10] at H
        have c10b0 : decide (a0 ≤ 1023) = false := decide_eq_false c10
        clear c10
        by_cases c11 : a0 ≥ 1024
        ·rw [if_pos c11] at H
         have c11b0 : decide (1024 ≤ a0) = true := decide_eq_true c11
         clear c11
         obtain rfl := Option.some.inj H
         go_enter Try.func13, Try.ntmps13
         go_wp2_with (first | ((with_reducible refine gate_callee (f := 35) rfl ?_); refine goesL_ (some 4) rfl rfl Try.func35 (by kernel_rfl) rfl #[.int .i32 a0] rfl (by (try simp only [List.map_toArray, List.map_cons, List.map_nil]); first | done | rfl | (simp only [List.length_drop, List.length_take]; rfl)) ?_; (with_reducible refine (fold_great.calls a0 false _ A2.out).mono ?_); rintro e w' ⟨rfl, ⟨nd, rfl⟩⟩; refine ⟨_, rfl, ?_⟩) | (go_at_call 36; (with_reducible refine (fold_small.calls a0 false _ A4.out).mono ?_); rintro e w' ⟨rfl, ⟨nd, rfl⟩⟩))
         go_ret
         exact ⟨by first | rfl | (simp; done) | (simp [*]; done), by repeat (first | exact Drawn0.refl _ | apply Drawn0.step)⟩
        ·rw [if_neg c11] at H
         have c11b0 : decide (1024 ≤ a0) = false := decide_eq_false c11
         clear c11
         obtain rfl := Option.some.inj H
         go_enter Try.func13, Try.ntmps13
         go_wp2_with (first | ((with_reducible refine gate_callee (f := 35) rfl ?_); refine goesL_ (some 4) rfl rfl Try.func35 (by kernel_rfl) rfl #[.int .i32 a0] rfl (by (try simp only [List.map_toArray, List.map_cons, List.map_nil]); first | done | rfl | (simp only [List.length_drop, List.length_take]; rfl)) ?_; (with_reducible refine (fold_great.calls a0 false _ A2.out).mono ?_); rintro e w' ⟨rfl, ⟨nd, rfl⟩⟩; refine ⟨_, rfl, ?_⟩) | (go_at_call 36; (with_reducible refine (fold_small.calls a0 false _ A4.out).mono ?_); rintro e w' ⟨rfl, ⟨nd, rfl⟩⟩))
         go_ret
         exact ⟨by first | rfl | (simp; done) | (simp [*]; done), by repeat (first | exact Drawn0.refl _ | apply Drawn0.step)⟩
      ·rw [if_neg c9] at H
       have c9b0 : decide (880 ≤ a0) = false := decide_eq_false c9
       clear c9
       by_cases c12 : a0 ≥ 1024
       ·rw [if_pos c12] at H
        have c12b0 : decide (1024 ≤ a0) = true := decide_eq_true c12
        clear c12
        obtain rfl := Option.some.inj H
        go_enter Try.func13, Try.ntmps13
        go_wp2_with (first | ((with_reducible refine gate_callee (f := 35) rfl ?_); refine goesL_ (some 4) rfl rfl Try.func35 (by kernel_rfl) rfl #[.int .i32 a0] rfl (by (try simp only [List.map_toArray, List.map_cons, List.map_nil]); first | done | rfl | (simp only [List.length_drop, List.length_take]; rfl)) ?_; (with_reducible refine (fold_great.calls a0 false _ A2.out).mono ?_); rintro e w' ⟨rfl, ⟨nd, rfl⟩⟩; refine ⟨_, rfl, ?_⟩) | (go_at_call 36; (with_reducible refine (fold_small.calls a0 false _ A4.out).mono ?_); rintro e w' ⟨rfl, ⟨nd, rfl⟩⟩))
        go_ret
        exact ⟨by first | rfl | (simp; done) | (simp [*]; done), by repeat (first | exact Drawn0.refl _ | apply Drawn0.step)⟩
       ·rw [if_neg c12] at H
        have c12b0 : decide (1024 ≤ a0) = false := decide_eq_false c12
        clear c12
        obtain rfl := Option.some.inj H
        go_enter Try.func13, Try.ntmps13
        go_wp2_with (first | ((with_reducible refine gate_callee (f := 35) rfl ?_); refine goesL_ (some 4) rfl rfl Try.func35 (by kernel_rfl) rfl #[.int .i32 a0] rfl (by (try simp only [List.map_toArray, List.map_cons, List.map_nil]); first | done | rfl | (simp only [List.length_drop, List.length_take]; rfl)) ?_; (with_reducible refine (fold_great.calls a0 false _ A2.out).mono ?_); rintro e w' ⟨rfl, ⟨nd, rfl⟩⟩; refine ⟨_, rfl, ?_⟩) | (go_at_call 36; (with_reducible refine (fold_small.calls a0 false _ A4.out).mono ?_); rintro e w' ⟨rfl, ⟨nd, rfl⟩⟩))
        go_ret
        exact ⟨by first | rfl | (simp; done) | (simp [*]; done), by repeat (first | exact Drawn0.refl _ | apply Drawn0.step)⟩
    ·rw [if_neg c7] at H
     have c7b0 : decide (255 ≤ a0) = false := decide_eq_false c7
     clear c7
     by_cases c13 : a0 ≥ 880
     ·rw [if_pos c13] at H
      have c13b0 : decide (880 ≤ a0) = true := decide_eq_true c13
      clear c13
      by_cases c14 : a0 ≤ 1023
      ·rw [if_pos c14] at H
       have c14b0 : decide (a0 ≤ 1023) = true := decide_eq_true c14
       clear c14
       obtain rfl := Option.some.inj H
       go_enter Try.func13, Try.ntmps13
       go_wp2_with (first | ((with_reducible refine gate_callee (f := 35) rfl ?_); refine goesL_ (some 4) rfl rfl Try.func35 (by kernel_rfl) rfl #[.int .i32 a0] rfl (by (try simp only [List.map_toArray, List.map_cons, List.map_nil]); first | done | rfl | (simp only [List.length_drop, List.length_take]; rfl)) ?_; (with_reducible refine (fold_great.calls a0 false _ A2.out).mono ?_); rintro e w' ⟨rfl, ⟨nd, rfl⟩⟩; refine ⟨_, rfl, ?_⟩) | (go_at_call 36; (with_reducible refine (fold_small.calls a0 false _ A4.out).mono ?_); rintro e w' ⟨rfl, ⟨nd, rfl⟩⟩))
       go_ret
       exact ⟨by first | rfl | (simp; done) | (simp [*]; done), by repeat (first | exact Drawn0.refl _ | apply Drawn0.step)⟩
      ·rw [if_neg c14] at H
       have c14b0 : decide (a0 ≤ 1023) = false := decide_eq_false c14
       clear c14
       by_cases c15 : a0 ≥ 1024
       ·rw [if_pos c15] at H
        have c15b0 : decide (1024 ≤ a0) = true := decide_eq_true c15
        clear c15
        obtain rfl := Option.some.inj H
        go_enter Try.func13, Try.ntmps13
        go_wp2_with (first | ((with_reducible refine gate_callee (f := 35) rfl ?_); refine goesL_ (some 4) rfl rfl Try.func35 (by kernel_rfl) rfl #[.int .i32 a0] rfl (by (try simp only [List.map_toArray, List.map_cons, List.map_nil]); first | done | rfl | (simp only [List.length_drop, List.length_take]; rfl)) ?_; (with_reducible refine (fold_great.calls a0 false _ A2.out).mono ?_); rintro e w' ⟨rfl, ⟨nd, rfl⟩⟩; refine ⟨_, rfl, ?_⟩) | (go_at_call 36; (with_reducible refine (fold_small.calls a0 false _ A4.out).mono ?_); rintro e w' ⟨rfl, ⟨nd, rfl⟩⟩))
        go_ret
        exact ⟨by first | rfl | (simp; done) | (simp [*]; done), by repeat (first | exact Drawn0.refl _ | apply Drawn0.step)⟩
       ·rw [if_neg c15] at H
        have c15b0 : decide (1024 ≤ a0) = false := decide_eq_false c15
        clear c15
        obtain rfl := Option.some.inj H
        go_enter Try.func13, Try.ntmps13
        go_wp2_with (first | ((with_reducible refine gate_callee (f := 35) rfl ?_); refine goesL_ (some 4) rfl rfl Try.func35 (by kernel_rfl) rfl #[.int .i32 a0] rfl (by (try simp only [List.map_toArray, List.map_cons, List.map_nil]); first | done | rfl | (simp only [List.length_drop, List.length_take]; rfl)) ?_; (with_reducible refine (fold_great.calls a0 false _ A2.out).mono ?_); rintro e w' ⟨rfl, ⟨nd, rfl⟩⟩; refine ⟨_, rfl, ?_⟩) | (go_at_call 36; (with_reducible refine (fold_small.calls a0 false _ A4.out).mono ?_); rintro e w' ⟨rfl, ⟨nd, rfl⟩⟩))
        go_ret
        exact ⟨by first | rfl | (simp; done) | (simp [*]; done), by repeat (first | exact Drawn0.refl _ | apply Drawn0.step)⟩
     ·rw [if_neg c13] at H
      have c13b0 : decide (880 ≤ a0) = false := decide_eq_false c13
      clear c13
      by_cases c16 : a0 ≥ 1024
      ·rw [if_pos c16] at H
       have c16b0 : decide (1024 ≤ a0) = true := decide_eq_true c16
       clear c16
       obtain rfl := Option.some.inj H
       go_enter Try.func13, Try.ntmps13
       go_wp2_with (first | ((with_reducible refine gate_callee (f := 35) rfl ?_); refine goesL_ (some 4) rfl rfl Try.func35 (by kernel_rfl) rfl #[.int .i32 a0] rfl (by (try simp only [List.map_toArray, List.map_cons, List.map_nil]); first | done | rfl | (simp only [List.length_drop, List.length_take]; rfl)) ?_; (with_reducible refine (fold_great.calls a0 false _ A2.out).mono ?_); rintro e w' ⟨rfl, ⟨nd, rfl⟩⟩; refine ⟨_, rfl, ?_⟩) | (go_at_call 36; (with_reducible refine (fold_small.calls a0 false _ A4.out).mono ?_); rintro e w' ⟨rfl, ⟨nd, rfl⟩⟩))
       go_ret
       exact ⟨by first | rfl | (simp; done) | (simp [*]; done), by repeat (first | exact Drawn0.refl _ | apply Drawn0.step)⟩
      ·rw [if_neg c16] at H
       have c16b0 : decide (1024 ≤ a0) = false := decide_eq_false c16
       clear c16
       obtain rfl := Option.some.inj H
       go_enter Try.func13, Try.ntmps13
       go_wp2_with (first | ((with_reducible refine gate_callee (f := 35) rfl ?_); refine goesL_ (some 4) rfl rfl Try.func35 (by kernel_rfl) rfl #[.int .i32 a0] rfl (by (try simp only [List.map_toArray, List.map_cons, List.map_nil]); first | done | rfl | (simp only [List.length_drop, List.length_take]; rfl)) ?_; (with_reducible refine (fold_great.calls a0 false _ A2.out).mono ?_); rintro e w' ⟨rfl, ⟨nd, rfl⟩⟩; refine ⟨_, rfl, ?_⟩) | (go_at_call 36; (with_reducible refine (fold_small.calls a0 false _ A4.out).mono ?_); rintro e w' ⟨rfl, ⟨nd, rfl⟩⟩))
       go_ret
       exact ⟨by first | rfl | (simp; done) | (simp [*]; done), by repeat (first | exact Drawn0.refl _ | apply Drawn0.step)⟩

/-! ### token_Runs_1: function 39 -/
def token_Runs_1.f (a0 : Int) (l1 : List (S53)) : Option (Bool) := if a0 ≥ 0 then (if a0 < (l1.length : Int) then (if 0 ≤ a0 then ((fold_Letter.f ((rd_T53 l1 a0).f0)).bind fun t120 => (some t120)) else (none)) else (some false)) else (some false)
set_option maxHeartbeats 8000000 in
set_option maxRecDepth 100000 in
theorem token_Runs_1.calls {gx_ : Nat} (a0 : Int) (A1 : Option Addr) (c1 : Nat) (l1 : List (S53)) (r : Bool) (w : World) (hr1 : Kd.C k53 w A1 l1.length l1) (hc1 : l1.length ≤ c1) (h : token_Runs_1.f a0 l1 = some r) (hx_ : w.cell? ⟨gx_, 0, none⟩ = some (.slice A1 l1.length c1)) :
    Calls Try.prog 39 #[.int .i64 a0, .pointer (some ⟨gx_, 0, none⟩)] w fun e w' => e = .returned (.bool r) ∧ Drawn0 w w' := by
  have HR1 := Aside0.mk hr1
  have HC1 := Aside0.mk hc1
  clear hr1 hc1
  have H : (if a0 ≥ 0 then (if a0 < (l1.length : Int) then (if 0 ≤ a0 then ((fold_Letter.f ((rd_T53 l1 a0).f0)).bind fun t120 => (some t120)) else (none)) else (some false)) else (some false)) = some r := h
  clear h
  by_cases c3 : a0 ≥ 0
  · rw [if_pos c3] at H
    have c3b0 : decide (0 ≤ a0) = true := decide_eq_true c3
    clear c3
    by_cases c4 : a0 < (l1.length : Int)
    · rw [if_pos c4] at H
      have c4b0 : decide (a0 < (l1.length : Int)) = true := decide_eq_true c4
      clear c4
      by_cases c5 : 0 ≤ a0
      · rw [if_pos c5] at H
        have c5b0 : decide (0 ≤ a0) = true := decide_eq_true c5
        clear c5
        replace H := Option.bind_eq_some_iff.mp H
        obtain ⟨t120, A60, H⟩ := H
        replace H : (some t120) = some r := H
        have A6 := Aside0.mk A60
        clear A60
        obtain rfl := Option.some.inj H
        have p119 : 0 ≤ (a0 : Int) := of_decide_eq_true (by first | (with_reducible assumption) | assumption)
        have q119 : a0 < (l1.length : Int) := of_decide_eq_true (by first | (with_reducible assumption) | assumption)
        obtain ⟨ad119, e119, hx119_0, hx119_1, hx119_2⟩ := at_T53 HR1.out a0 p119 q119
        cases e119
        replace p119 := eq_true p119
        replace q119 := eq_true q119
        go_enter Try.func39, Try.ntmps39
        go_wp2_with (first | (go_at_call 13; (with_reducible refine (fold_Letter.calls ((rd_T53 l1 a0).f0) t120 _ A6.out).mono ?_); rintro e w' ⟨rfl, ⟨nd, rfl⟩⟩))
        go_ret
        exact ⟨by first | rfl | (simp; done) | (simp [*]; done), by repeat (first | exact Drawn0.refl _ | apply Drawn0.step)⟩
      · rw [if_neg c5] at H
        exact absurd H (by simp)
    · rw [if_neg c4] at H
      have c4b0 : decide (a0 < (l1.length : Int)) = false := decide_eq_false c4
      clear c4
      obtain rfl := Option.some.inj H
      go_enter Try.func39, Try.ntmps39
      go_wp2
      go_ret
      exact ⟨by first | rfl | (simp; done) | (simp [*]; done), by repeat (first | exact Drawn0.refl _ | apply Drawn0.step)⟩
  · rw [if_neg c3] at H
    have c3b0 : decide (0 ≤ a0) = false := decide_eq_false c3
    clear c3
    obtain rfl := Option.some.inj H
    go_enter Try.func39, Try.ntmps39
    go_wp2
    go_ret
    exact ⟨by first | rfl | (simp; done) | (simp [*]; done), by repeat (first | exact Drawn0.refl _ | apply Drawn0.step)⟩

/-! ### token_Runs: function 27 -/
mutual
def token_Runs.l0 : Nat → List (S53) → List (S33) → Int → Option ((List (S33)))
  | 0, _, _, _ => none
  | k + 1, x1, x3, x5 => if x5 < (x1.length : Int) then ((token_Runs_1.f x5 x1).bind fun t121 => (if t121 = true then (token_Runs.l1 k x1 x3 x5 x5) else (token_Runs.l0 k x1 x3 (wrap64 (x5 + 1))))) else (some x3)
def token_Runs.l1 : Nat → List (S53) → List (S33) → Int → Int → Option ((List (S33)))
  | 0, _, _, _, _ => none
  | k + 1, x1, x3, x5, x6 => (token_Runs_1.f (wrap64 (x5 + 1)) x1).bind fun t122 => (if t122 = true then (token_Runs.l1 k x1 x3 (wrap64 (x5 + 1)) x6) else (if (wrap64 (x5 + 1)) < (x1.length : Int) then (if 0 ≤ (wrap64 (x5 + 1)) then (if ((rd_T53 x1 (wrap64 (x5 + 1))).f0) = 39 then ((token_Runs_1.f (wrap64 (x5 + 2)) x1).bind fun t124 => (if t124 = true then (token_Runs.l1 k x1 x3 (wrap64 (x5 + 1)) x6) else (if x3.length < 8796093022208 then (token_Runs.l0 k x1 (x3 ++ [(⟨x6, wrap64 (x5 + 1)⟩ : S33)]) (wrap64 (x5 + 1))) else (none)))) else (if x3.length < 8796093022208 then (token_Runs.l0 k x1 (x3 ++ [(⟨x6, wrap64 (x5 + 1)⟩ : S33)]) (wrap64 (x5 + 1))) else (none))) else (none)) else (if x3.length < 8796093022208 then (token_Runs.l0 k x1 (x3 ++ [(⟨x6, wrap64 (x5 + 1)⟩ : S33)]) (wrap64 (x5 + 1))) else (none))))
end
def token_Runs.f (k : Nat) (l0 : List (S53)) : Option ((List (S33))) := token_Runs.l0 k l0 ([] : List (S33)) 0
theorem token_Runs.mono_l : ∀ k, (∀ y0 y1 y2, LeO (token_Runs.l0 k y0 y1 y2) (token_Runs.l0 (k + 1) y0 y1 y2)) ∧ (∀ y0 y1 y2 y3, LeO (token_Runs.l1 k y0 y1 y2 y3) (token_Runs.l1 (k + 1) y0 y1 y2 y3))
  | 0 => ⟨fun _ _ _ r h => by simp [token_Runs.l0] at h, fun _ _ _ _ r h => by simp [token_Runs.l1] at h⟩
  | k + 1 => by
    obtain ⟨ih0, ih1⟩ := token_Runs.mono_l k
    refine ⟨?_, ?_⟩
    · intro y0 y1 y2
      unfold token_Runs.l0
      repeat' first
      | (with_reducible exact ih0 _ _ _)
      | (with_reducible exact ih1 _ _ _ _)
      | (with_reducible exact LeO.refl _)
      | (with_reducible exact LeO.none _)
      | (with_reducible refine LeO.ite ?_ ?_)
      | (with_reducible refine LeO.bind ?_ (fun _ => ?_))
      | exact ih0 _ _ _
      | exact ih1 _ _ _ _
      | exact LeO.none _
      | refine LeO.ite ?_ ?_
      | refine LeO.bind ?_ (fun _ => ?_)
    · intro y0 y1 y2 y3
      unfold token_Runs.l1
      repeat' first
      | (with_reducible exact ih0 _ _ _)
      | (with_reducible exact ih1 _ _ _ _)
      | (with_reducible exact LeO.refl _)
      | (with_reducible exact LeO.none _)
      | (with_reducible refine LeO.ite ?_ ?_)
      | (with_reducible refine LeO.bind ?_ (fun _ => ?_))
      | exact ih0 _ _ _
      | exact ih1 _ _ _ _
      | exact LeO.none _
      | refine LeO.ite ?_ ?_
      | refine LeO.bind ?_ (fun _ => ?_)
theorem token_Runs.mono : ∀ a0 k, LeO (token_Runs.f k a0) (token_Runs.f (k + 1) a0) := by
  intro a0 k
  obtain ⟨ih0, ih1⟩ := token_Runs.mono_l k
  unfold token_Runs.f
  repeat' first
      | (with_reducible exact ih0 _ _ _)
      | (with_reducible exact ih1 _ _ _ _)
      | (with_reducible exact LeO.refl _)
      | (with_reducible exact LeO.none _)
      | (with_reducible refine LeO.ite ?_ ?_)
      | (with_reducible refine LeO.bind ?_ (fun _ => ?_))
      | exact ih0 _ _ _
      | exact ih1 _ _ _ _
      | exact LeO.none _
      | refine LeO.ite ?_ ?_
      | refine LeO.bind ?_ (fun _ => ?_)
set_option maxHeartbeats 8000000 in
set_option maxRecDepth 100000 in
theorem token_Runs.calls (k : Nat) (A0 : Option Addr) (c0 : Nat) (l0 : List (S53)) (r : List (S33)) (w : World) (hr0 : Kd.C k53 w A0 l0.length l0) (hc0 : l0.length ≤ c0) (h : token_Runs.f k l0 = some r) :
    Calls Try.prog 27 #[.slice A0 l0.length c0] w fun e w' => ∃ v0_ : Value, e = .returned (v0_) ∧ Kd.R k33 33 w' w.heap.size (fun _ => True) v0_ r ∧ Below w.heap.size w w' := by
  have hBW : Below w.heap.size w (w.alloc (.cells #[.slice A0 l0.length c0] 34)) := below_alloc (Below.refl _ _) _
  have HBW := Aside0.mk hBW
  replace hr0 := Kd.C_below hr0 hBW
  have hx0 : (w.alloc (.cells #[.slice A0 l0.length c0] 34)).cell? ⟨w.heap.size, 0, none⟩ = some (.slice A0 l0.length c0) := (blk_cell (blk_new w _) 0).trans rfl
  have HX := Aside0.mk hx0
  clear hBW hx0
  have hu33 := Try.underlying33
  have HR0 := Aside0.mk hr0
  have HC0 := Aside0.mk hc0
  clear hr0 hc0
  have H : (token_Runs.l0 k l0 ([] : List (S33)) 0) = some r := h
  clear h
  have H' := Aside0.mk H
  clear H
  go_enter Try.func27, Try.ntmps27
  go_upto_region 1 with (fail)
  generalize w.heap.size = gb_ at HX ⊢
  generalize w.alloc (.cells #[.slice A0 l0.length c0] 34) = w1_ at HX HBW HR0 ⊢
  have HB := Aside0.mk (Below.refl w1_.heap.size w1_)
  have hx_ := pw_cell_below HB.out HX.out
  go_wp2
  go_loopg [3, 5] k (fun kq v3 v5 w' => ∃ (x3_1 : List (S33)) (x5_1 : Int), v5 = .int .i64 x5_1 ∧ Aside0 (token_Runs.l0 kq l0 x3_1 x5_1 = some r) ∧ Aside0 (kq ≤ k) ∧ Aside0 (Kd.R k33 33 w' w1_.heap.size (fun _ => True) v3 x3_1) ∧ Aside0 (Below w1_.heap.size w1_ w'))
  case atStart => exact ⟨(([] : List (S33))), (0), (by first | rfl | (simp; done) | (simp [*]; done)), H', ⟨Nat.le_refl _⟩, ⟨by first | exact Kd.R_nil _ _ _ _ _ | exact Kd.N_nil _ _ _ _ _ | exact Kd.V_nil _ _ _ _ _ | exact Kd.Q_nil _ _ _ _ _ | exact Kd.S_nil _ _ _ _ _⟩, ⟨by repeat (first | (with_reducible first | exact HB.out | apply below_alloc | apply pw_below_drewN | apply below_drew1) | exact HB.out)⟩⟩
  case round =>
    clear H'
    obtain ⟨x3_1, x5_1, rfl, HA, HK1, HO_3, HB⟩ := hrel
    cases gk with
    | zero => exact absurd HA.out (by simp [token_Runs.l0])
    | succ k1 =>
      have H := HA.out
      clear HA
      simp only [token_Runs.l0] at H
      by_cases c2 : x5_1 < (l0.length : Int)
      · rw [if_pos c2] at H
        have c2b0 : decide (x5_1 < (l0.length : Int)) = true := decide_eq_true c2
        clear c2
        replace H := Option.bind_eq_some_iff.mp H
        obtain ⟨t121, A30, H⟩ := H
        replace H : (if t121 = true then (token_Runs.l1 k1 l0 x3_1 x5_1 x5_1) else (token_Runs.l0 k1 l0 x3_1 (wrap64 (x5_1 + 1)))) = some r := H
        have A3 := Aside0.mk A30
        clear A30
        by_cases c4 : t121 = true
        · subst c4
          have H1 : (token_Runs.l1 k1 l0 x3_1 x5_1 x5_1) = some r := by rw [if_pos rfl] at H; exact H
          clear H
          have H := H1
          clear H1
          have H' := Aside0.mk H
          clear H
          have hx_ := pw_cell_below HB.out HX.out
          go_wp2_with (first | (go_at_call 39; (with_reducible refine (token_Runs_1.calls x5_1 _ _ l0 true _ ?side1 ?side2 A3.out (pw_cell_below (by repeat (first | (with_reducible first | exact HB.out | apply below_alloc | apply pw_below_drewN | apply below_drew1) | exact HB.out)) HX.out)).mono ?_); (case side1 => repeat (first | exact (Kd.C_below HR0.out HB.out) | (with_reducible refine Kd.C_alloc ?_ _) | (with_reducible refine Kd.C_drewN ?_ _) | (with_reducible refine Kd.C_drew ?_))); (case side2 => exact HC0.out); rintro e w' ⟨rfl, ⟨nd, rfl⟩⟩))
          go_loopg [5] k1 (fun kq v5 w' => ∃ (x5_2 : Int), v5 = .int .i64 x5_2 ∧ Aside0 (token_Runs.l1 kq l0 x3_1 x5_2 x5_1 = some r) ∧ Aside0 (kq ≤ k1) ∧ Aside0 (Kd.R k33 33 w' w1_.heap.size (fun _ => True) u3 x3_1) ∧ Aside0 (Below w1_.heap.size w1_ w'))
          case atStart => exact ⟨(x5_1), (by first | rfl | (simp; done) | (simp [*]; done)), H', ⟨Nat.le_refl _⟩, ⟨by (with_reducible repeat (first | apply Kd.R_alloc | apply Kd.R_drewN | apply Kd.R_drew)); exact HO_3.out⟩, ⟨by repeat (first | (with_reducible first | exact HB.out | apply below_alloc | apply pw_below_drewN | apply below_drew1) | exact HB.out)⟩⟩
          case round =>
            clear H'
            try clear c2
            try clear c2b0
            try clear p2
            try clear c3
            try clear c4
            obtain ⟨x5_2, rfl, HA, HK2, HO_3, HB⟩ := hrel
            cases gk with
            | zero => exact absurd HA.out (by simp [token_Runs.l1])
            | succ k2 =>
              have H := HA.out
              clear HA
              simp only [token_Runs.l1] at H
              replace H := Option.bind_eq_some_iff.mp H
              obtain ⟨t122, A50, H⟩ := H
              replace H : (if t122 = true then (token_Runs.l1 k2 l0 x3_1 (wrap64 (x5_2 + 1)) x5_1) else (if (wrap64 (x5_2 + 1)) < (l0.length : Int) then (if 0 ≤ (wrap64 (x5_2 + 1)) then (if ((rd_T53 l0 (wrap64 (x5_2 + 1))).f0) = 39 then ((token_Runs_1.f (wrap64 (x5_2 + 2)) l0).bind fun t124 => (if t124 = true then (token_Runs.l1 k2 l0 x3_1 (wrap64 (x5_2 + 1)) x5_1) else (if x3_1.length < 8796093022208 then (token_Runs.l0 k2 l0 (x3_1 ++ [(⟨x5_1, wrap64 (x5_2 + 1)⟩ : S33)]) (wrap64 (x5_2 + 1))) else (none)))) else (if x3_1.length < 8796093022208 then (token_Runs.l0 k2 l0 (x3_1 ++ [(⟨x5_1, wrap64 (x5_2 + 1)⟩ : S33)]) (wrap64 (x5_2 + 1))) else (none))) else (none)) else (if x3_1.length < 8796093022208 then (token_Runs.l0 k2 l0 (x3_1 ++ [(⟨x5_1, wrap64 (x5_2 + 1)⟩ : S33)]) (wrap64 (x5_2 + 1))) else (none)))) = some r := H
              have A5 := Aside0.mk A50
              clear A50
              by_cases c6 : t122 = true
              · subst c6
                have H1 : (token_Runs.l1 k2 l0 x3_1 (wrap64 (x5_2 + 1)) x5_1) = some r := by rw [if_pos rfl] at H; exact H
                clear H
                have H := H1
                clear H1
                have H' := Aside0.mk H
                clear H
                have hx_ := pw_cell_below HB.out HX.out
                go_wp2_with (first | (go_at_call 39; (with_reducible refine (token_Runs_1.calls (wrap64 (x5_2 + 1)) _ _ l0 true _ ?side1 ?side2 A5.out (pw_cell_below (by repeat (first | (with_reducible first | exact HB.out | apply below_alloc | apply pw_below_drewN | apply below_drew1) | exact HB.out)) HX.out)).mono ?_); (case side1 => repeat (first | exact (Kd.C_below HR0.out HB.out) | (with_reducible refine Kd.C_alloc ?_ _) | (with_reducible refine Kd.C_drewN ?_ _) | (with_reducible refine Kd.C_drew ?_))); (case side2 => exact HC0.out); rintro e w' ⟨rfl, ⟨nd, rfl⟩⟩))
                go_roundg k2
                case measure => have := HK1.out; have := HK2.out; omega
                case rel => exact ⟨(wrap64 (x5_2 + 1)), (by first | rfl | (simp; done) | (simp [*]; done)), H', ⟨by have := HK1.out; have := HK2.out; omega⟩, ⟨by (with_reducible repeat (first | apply Kd.R_alloc | apply Kd.R_drewN | apply Kd.R_drew)); exact HO_3.out⟩, ⟨by repeat (first | (with_reducible first | exact HB.out | apply below_alloc | apply pw_below_drewN | apply below_drew1) | exact HB.out)⟩⟩
              · replace c6 := Bool.eq_false_iff.mpr c6
                subst c6
                have H1 : (if (wrap64 (x5_2 + 1)) < (l0.length : Int) then (if 0 ≤ (wrap64 (x5_2 + 1)) then (if ((rd_T53 l0 (wrap64 (x5_2 + 1))).f0) = 39 then ((token_Runs_1.f (wrap64 (x5_2 + 2)) l0).bind fun t124 => (if t124 = true then (token_Runs.l1 k2 l0 x3_1 (wrap64 (x5_2 + 1)) x5_1) else (if x3_1.length < 8796093022208 then (token_Runs.l0 k2 l0 (x3_1 ++ [(⟨x5_1, wrap64 (x5_2 + 1)⟩ : S33)]) (wrap64 (x5_2 + 1))) else (none)))) else (if x3_1.length < 8796093022208 then (token_Runs.l0 k2 l0 (x3_1 ++ [(⟨x5_1, wrap64 (x5_2 + 1)⟩ : S33)]) (wrap64 (x5_2 + 1))) else (none))) else (none)) else (if x3_1.length < 8796093022208 then (token_Runs.l0 k2 l0 (x3_1 ++ [(⟨x5_1, wrap64 (x5_2 + 1)⟩ : S33)]) (wrap64 (x5_2 + 1))) else (none))) = some r := by rw [if_neg (show ¬ (false = true) by decide)] at H; exact H
                clear H
                have H := H1
                clear H1
                by_cases c7 : (wrap64 (x5_2 + 1)) < (l0.length : Int)
                · rw [if_pos c7] at H
                  have c7b0 : decide ((wrap64 (x5_2 + 1)) < (l0.length : Int)) = true := decide_eq_true c7
                  clear c7
                  obtain ⟨ji8, hji8⟩ : ∃ j_ : Int, (wrap64 (x5_2 + 1)) = j_ := ⟨_, rfl⟩
                  replace H : (if 0 ≤ (ji8) then (if ((rd_T53 l0 (ji8)).f0) = 39 then ((token_Runs_1.f (wrap64 (x5_2 + 2)) l0).bind fun t124 => (if t124 = true then (token_Runs.l1 k2 l0 x3_1 ji8 x5_1) else (if x3_1.length < 8796093022208 then (token_Runs.l0 k2 l0 (x3_1 ++ [(⟨x5_1, ji8⟩ : S33)]) ji8) else (none)))) else (if x3_1.length < 8796093022208 then (token_Runs.l0 k2 l0 (x3_1 ++ [(⟨x5_1, ji8⟩ : S33)]) ji8) else (none))) else (none)) = some r := by first | (rw [hji8] at H; exact H) | (simp only [hji8] at H ⊢; exact H)
                  (try rw [hji8] at c7b0)
                  (try rw [hji8] at A5)
                  have hji8w : (IntKind.i64.wrap (x5_2 + 1)) = ji8 := (i64_w _).trans hji8
                  by_cases c9 : 0 ≤ (ji8)
                  · rw [if_pos c9] at H
                    have c9b0 : decide (0 ≤ (ji8)) = true := decide_eq_true c9
                    clear c9
                    by_cases c10 : ((rd_T53 l0 (ji8)).f0) = 39
                    · rw [if_pos c10] at H
                      have c10b0 : (((rd_T53 l0 (ji8)).f0) == 39) = true := beq_iff_eq.mpr c10
                      have c10b1 : (((rd_T53 l0 (ji8)).f0) != 39) = false := bne_eq_false_iff_eq.mpr c10
                      clear c10
                      replace H := Option.bind_eq_some_iff.mp H
                      obtain ⟨t124, A110, H⟩ := H
                      replace H : (if t124 = true then (token_Runs.l1 k2 l0 x3_1 ji8 x5_1) else (if x3_1.length < 8796093022208 then (token_Runs.l0 k2 l0 (x3_1 ++ [(⟨x5_1, ji8⟩ : S33)]) ji8) else (none))) = some r := H
                      have A11 := Aside0.mk A110
                      clear A110
                      by_cases c12 : t124 = true
                      · subst c12
                        have H1 : (token_Runs.l1 k2 l0 x3_1 ji8 x5_1) = some r := by rw [if_pos rfl] at H; exact H
                        clear H
                        have H := H1
                        clear H1
                        have H' := Aside0.mk H
                        clear H
                        have hx_ := pw_cell_below HB.out HX.out
                        go_wp2_with (first | (go_at_call 39; (with_reducible refine (token_Runs_1.calls ji8 _ _ l0 false _ ?side1 ?side2 A5.out (pw_cell_below (by repeat (first | (with_reducible first | exact HB.out | apply below_alloc | apply pw_below_drewN | apply below_drew1) | exact HB.out)) HX.out)).mono ?_); (case side1 => repeat (first | exact (Kd.C_below HR0.out HB.out) | (with_reducible refine Kd.C_alloc ?_ _) | (with_reducible refine Kd.C_drewN ?_ _) | (with_reducible refine Kd.C_drew ?_))); (case side2 => exact HC0.out); rintro e w' ⟨rfl, ⟨nd, rfl⟩⟩; have p123 : 0 ≤ ((ji8) : Int) := of_decide_eq_true (by first | (with_reducible assumption) | assumption); have q123 : (ji8) < (l0.length : Int) := of_decide_eq_true (by first | (with_reducible assumption) | assumption); obtain ⟨ad123, e123, hx123_0, hx123_1, hx123_2⟩ := at_T53 HR0.out (ji8) p123 q123; cases e123; replace hx123_0 := (HB.out.cell (World.block_lt_of_cell? w1_ _ hx123_0)).trans hx123_0; replace hx123_1 := (HB.out.cell (World.block_lt_of_cell? w1_ _ hx123_1)).trans hx123_1; replace hx123_2 := (HB.out.cell (World.block_lt_of_cell? w1_ _ hx123_2)).trans hx123_2; replace p123 := eq_true p123; replace q123 := eq_true q123) | (go_at_call 39; (with_reducible refine (token_Runs_1.calls (wrap64 (x5_2 + 2)) _ _ l0 true _ ?side1 ?side2 A11.out (pw_cell_below (by repeat (first | (with_reducible first | exact HB.out | apply below_alloc | apply pw_below_drewN | apply below_drew1) | exact HB.out)) HX.out)).mono ?_); (case side1 => repeat (first | exact (Kd.C_below HR0.out (by repeat (first | (with_reducible first | exact HB.out | apply below_alloc | apply pw_below_drewN | apply below_drew1) | exact HB.out))) | (with_reducible refine Kd.C_alloc ?_ _) | (with_reducible refine Kd.C_drewN ?_ _) | (with_reducible refine Kd.C_drew ?_))); (case side2 => exact HC0.out); rintro e w' ⟨rfl, ⟨nd, rfl⟩⟩))
                        go_roundg k2
                        case measure => have := HK1.out; have := HK2.out; omega
                        case rel => exact ⟨(ji8), (by first | rfl | (simp; done) | (simp only [← hji8] <;> (first | rfl | simp)) | (simp [*]; done)), (by first | exact H' | (rw [hji8]; exact H') | (simp only [hji8]; exact H')), ⟨by have := HK1.out; have := HK2.out; omega⟩, ⟨by (with_reducible repeat (first | apply Kd.R_alloc | apply Kd.R_drewN | apply Kd.R_drew)); exact HO_3.out⟩, ⟨by repeat (first | (with_reducible first | exact HB.out | apply below_alloc | apply pw_below_drewN | apply below_drew1) | exact HB.out)⟩⟩
                      · replace c12 := Bool.eq_false_iff.mpr c12
                        subst c12
                        have H1 : (if x3_1.length < 8796093022208 then (token_Runs.l0 k2 l0 (x3_1 ++ [(⟨x5_1, ji8⟩ : S33)]) ji8) else (none)) = some r := by rw [if_neg (show ¬ (false = true) by decide)] at H; exact H
                        clear H
                        have H := H1
                        clear H1
                        by_cases c13 : x3_1.length < 8796093022208
                        · rw [if_pos c13] at H
                          have LMc13 := Aside0.mk c13
                          clear c13
                          obtain ⟨y125, hy125⟩ : ∃ y_ : List (S33), y_ = (x3_1 ++ [(⟨x5_1, ji8⟩ : S33)]) := ⟨_, rfl⟩
                          replace H : (token_Runs.l0 k2 l0 y125 ji8) = some r := by first | (rw [hy125]; with_reducible exact H) | (have H2_ := (Option.bind_some _ _).symm.trans H; rw [hy125]; with_reducible exact H2_) | (have H2_ := (Option.bind_some _ _).symm.trans H; with_reducible exact H2_) | with_reducible exact H | (rw [hy125]; exact H) | exact H
                          have Ny125 := Aside0.mk hy125
                          clear hy125
                          have H' := Aside0.mk H
                          clear H
                          have hx_ := pw_cell_below HB.out HX.out
                          go_wp2_with (first | (go_at_call 39; (with_reducible refine (token_Runs_1.calls ji8 _ _ l0 false _ ?side1 ?side2 A5.out (pw_cell_below (by repeat (first | (with_reducible first | exact HB.out | apply below_alloc | apply pw_below_drewN | apply below_drew1) | exact HB.out)) HX.out)).mono ?_); (case side1 => repeat (first | exact (Kd.C_below HR0.out HB.out) | (with_reducible refine Kd.C_alloc ?_ _) | (with_reducible refine Kd.C_drewN ?_ _) | (with_reducible refine Kd.C_drew ?_))); (case side2 => exact HC0.out); rintro e w' ⟨rfl, ⟨nd, rfl⟩⟩; have p123 : 0 ≤ ((ji8) : Int) := of_decide_eq_true (by first | (with_reducible assumption) | assumption); have q123 : (ji8) < (l0.length : Int) := of_decide_eq_true (by first | (with_reducible assumption) | assumption); obtain ⟨ad123, e123, hx123_0, hx123_1, hx123_2⟩ := at_T53 HR0.out (ji8) p123 q123; cases e123; replace hx123_0 := (HB.out.cell (World.block_lt_of_cell? w1_ _ hx123_0)).trans hx123_0; replace hx123_1 := (HB.out.cell (World.block_lt_of_cell? w1_ _ hx123_1)).trans hx123_1; replace hx123_2 := (HB.out.cell (World.block_lt_of_cell? w1_ _ hx123_2)).trans hx123_2; replace p123 := eq_true p123; replace q123 := eq_true q123) | (go_at_call 39; (with_reducible refine (token_Runs_1.calls (wrap64 (x5_2 + 2)) _ _ l0 false _ ?side1 ?side2 A11.out (pw_cell_below (by repeat (first | (with_reducible first | exact HB.out | apply below_alloc | apply pw_below_drewN | apply below_drew1) | exact HB.out)) HX.out)).mono ?_); (case side1 => repeat (first | exact (Kd.C_below HR0.out (by repeat (first | (with_reducible first | exact HB.out | apply below_alloc | apply pw_below_drewN | apply below_drew1) | exact HB.out))) | (with_reducible refine Kd.C_alloc ?_ _) | (with_reducible refine Kd.C_drewN ?_ _) | (with_reducible refine Kd.C_drew ?_))); (case side2 => exact HC0.out); rintro e w' ⟨rfl, ⟨nd, rfl⟩⟩) | ((with_reducible refine gate_builtin (b := .append) (xs := #[.tmp 47, .tmp 52]) rfl ?_); (try (refine gate_guard (by rfl) ?_; dsimp only)); at_builtin; refine Kd.R_append k33 (w0 := w1_) w1_.heap.size rfl (.tmp 47) (.tmp 52) 39 33 (.agg #[(.int .i64 0), (.int .i64 0)]) 16 rfl Try.underlying39 info33 rfl (by decide) (by omega) u3 x3_1 (⟨x5_1, ji8⟩ : S33) [.int .i64 x5_1, .int .i64 ji8] (fun _ => True) (fun _ => False) rfl rfl ?aP (fun _ hk => hk.elim) ?aF ?aO ?aB ?aS ?aL ?_; (case aP => exact k33_mkM _ _ _ (⟨x5_1, ji8⟩ : S33)); (case aB => exact (by repeat (first | (with_reducible first | exact HB.out | apply below_alloc | apply pw_below_drewN | apply below_drew1) | exact HB.out))); (case aF => exact (fun _ _ => trivial)); (case aO => exact (by (with_reducible repeat (first | apply Kd.R_alloc | apply Kd.R_drewN | apply Kd.R_drew)); exact HO_3.out)); (case aS => exact (below_size (by repeat (first | (with_reducible first | exact HB.out | apply below_alloc | apply pw_below_drewN | apply below_drew1) | exact HB.out)))); (case aL => have := LMc13.out; omega); intro v126 w14 ho hb hg hat; rw [← Ny125.out] at ho; have n0_ := Aside0.mk (hb); have n1_ := Aside0.mk (ho); clear HB; clear HO_3; have HB := n0_; have HO127 := n1_; clear n0_ n1_; clear ho hb hg hat))
                          go_roundg k2
                          case measure => have := HK1.out; have := HK2.out; omega
                          case rel => exact ⟨(y125), (ji8), (by first | rfl | (simp; done) | (simp only [← hji8] <;> (first | rfl | simp)) | (simp [*]; done)), (by first | exact H' | (rw [hji8]; exact H') | (simp only [hji8]; exact H')), ⟨by have := HK1.out; have := HK2.out; omega⟩, ⟨by (with_reducible repeat (first | apply Kd.R_alloc | apply Kd.R_drewN | apply Kd.R_drew)); exact HO127.out⟩, ⟨by repeat (first | (with_reducible first | exact HB.out | apply below_alloc | apply pw_below_drewN | apply below_drew1) | exact HB.out)⟩⟩
                        · rw [if_neg c13] at H
                          exact absurd H (by simp)
                    · rw [if_neg c10] at H
                      have c10b0 : (((rd_T53 l0 (ji8)).f0) == 39) = false := beq_eq_false_iff_ne.mpr c10
                      have c10b1 : (((rd_T53 l0 (ji8)).f0) != 39) = true := bne_iff_ne.mpr c10
                      by_cases c15 : x3_1.length < 8796093022208
                      · rw [if_pos c15] at H
                        have LMc15 := Aside0.mk c15
                        clear c15
                        obtain ⟨y128, hy128⟩ : ∃ y_ : List (S33), y_ = (x3_1 ++ [(⟨x5_1, ji8⟩ : S33)]) := ⟨_, rfl⟩
                        replace H : (token_Runs.l0 k2 l0 y128 ji8) = some r := by first | (rw [hy128]; with_reducible exact H) | (have H2_ := (Option.bind_some _ _).symm.trans H; rw [hy128]; with_reducible exact H2_) | (have H2_ := (Option.bind_some _ _).symm.trans H; with_reducible exact H2_) | with_reducible exact H | (rw [hy128]; exact H) | exact H
                        have Ny128 := Aside0.mk hy128
                        clear hy128
                        have H' := Aside0.mk H
                        clear H
                        have hx_ := pw_cell_below HB.out HX.out
                        go_wp2_with (first | (go_at_call 39; (with_reducible refine (token_Runs_1.calls ji8 _ _ l0 false _ ?side1 ?side2 A5.out (pw_cell_below (by repeat (first | (with_reducible first | exact HB.out | apply below_alloc | apply pw_below_drewN | apply below_drew1) | exact HB.out)) HX.out)).mono ?_); (case side1 => repeat (first | exact (Kd.C_below HR0.out HB.out) | (with_reducible refine Kd.C_alloc ?_ _) | (with_reducible refine Kd.C_drewN ?_ _) | (with_reducible refine Kd.C_drew ?_))); (case side2 => exact HC0.out); rintro e w' ⟨rfl, ⟨nd, rfl⟩⟩; have p123 : 0 ≤ ((ji8) : Int) := of_decide_eq_true (by first | (with_reducible assumption) | assumption); have q123 : (ji8) < (l0.length : Int) := of_decide_eq_true (by first | (with_reducible assumption) | assumption); obtain ⟨ad123, e123, hx123_0, hx123_1, hx123_2⟩ := at_T53 HR0.out (ji8) p123 q123; cases e123; replace hx123_0 := (HB.out.cell (World.block_lt_of_cell? w1_ _ hx123_0)).trans hx123_0; replace hx123_1 := (HB.out.cell (World.block_lt_of_cell? w1_ _ hx123_1)).trans hx123_1; replace hx123_2 := (HB.out.cell (World.block_lt_of_cell? w1_ _ hx123_2)).trans hx123_2; replace p123 := eq_true p123; replace q123 := eq_true q123) | ((with_reducible refine gate_builtin (b := .append) (xs := #[.tmp 47, .tmp 52]) rfl ?_); (try (refine gate_guard (by rfl) ?_; dsimp only)); at_builtin; refine Kd.R_append k33 (w0 := w1_) w1_.heap.size rfl (.tmp 47) (.tmp 52) 39 33 (.agg #[(.int .i64 0), (.int .i64 0)]) 16 rfl Try.underlying39 info33 rfl (by decide) (by omega) u3 x3_1 (⟨x5_1, ji8⟩ : S33) [.int .i64 x5_1, .int .i64 ji8] (fun _ => True) (fun _ => False) rfl rfl ?aP (fun _ hk => hk.elim) ?aF ?aO ?aB ?aS ?aL ?_; (case aP => exact k33_mkM _ _ _ (⟨x5_1, ji8⟩ : S33)); (case aB => exact (by repeat (first | (with_reducible first | exact HB.out | apply below_alloc | apply pw_below_drewN | apply below_drew1) | exact HB.out))); (case aF => exact (fun _ _ => trivial)); (case aO => exact (by (with_reducible repeat (first | apply Kd.R_alloc | apply Kd.R_drewN | apply Kd.R_drew)); exact HO_3.out)); (case aS => exact (below_size (by repeat (first | (with_reducible first | exact HB.out | apply below_alloc | apply pw_below_drewN | apply below_drew1) | exact HB.out)))); (case aL => have := LMc15.out; omega); intro v129 w16 ho hb hg hat; rw [← Ny128.out] at ho; have n0_ := Aside0.mk (hb); have n1_ := Aside0.mk (ho); clear HB; clear HO_3; have HB := n0_; have HO130 := n1_; clear n0_ n1_; clear ho hb hg hat))
                        go_roundg k2
                        case measure => have := HK1.out; have := HK2.out; omega
                        case rel => exact ⟨(y128), (ji8), (by first | rfl | (simp; done) | (simp only [← hji8] <;> (first | rfl | simp)) | (simp [*]; done)), (by first | exact H' | (rw [hji8]; exact H') | (simp only [hji8]; exact H')), ⟨by have := HK1.out; have := HK2.out; omega⟩, ⟨by (with_reducible repeat (first | apply Kd.R_alloc | apply Kd.R_drewN | apply Kd.R_drew)); exact HO130.out⟩, ⟨by repeat (first | (with_reducible first | exact HB.out | apply below_alloc | apply pw_below_drewN | apply below_drew1) | exact HB.out)⟩⟩
                      · rw [if_neg c15] at H
                        exact absurd H (by simp)
                  · rw [if_neg c9] at H
                    exact absurd H (by simp)
                · rw [if_neg c7] at H
                  have c7b0 : decide ((wrap64 (x5_2 + 1)) < (l0.length : Int)) = false := decide_eq_false c7
                  clear c7
                  by_cases c17 : x3_1.length < 8796093022208
                  · rw [if_pos c17] at H
                    have LMc17 := Aside0.mk c17
                    clear c17
                    obtain ⟨y131, hy131⟩ : ∃ y_ : List (S33), y_ = (x3_1 ++ [(⟨x5_1, wrap64 (x5_2 + 1)⟩ : S33)]) := ⟨_, rfl⟩
                    replace H : (token_Runs.l0 k2 l0 y131 (wrap64 (x5_2 + 1))) = some r := by first | (rw [hy131]; with_reducible exact H) | (have H2_ := (Option.bind_some _ _).symm.trans H; rw [hy131]; with_reducible exact H2_) | (have H2_ := (Option.bind_some _ _).symm.trans H; with_reducible exact H2_) | with_reducible exact H | (rw [hy131]; exact H) | exact H
                    have Ny131 := Aside0.mk hy131
                    clear hy131
                    have H' := Aside0.mk H
                    clear H
                    have hx_ := pw_cell_below HB.out HX.out
                    go_wp2_with (first | (go_at_call 39; (with_reducible refine (token_Runs_1.calls (wrap64 (x5_2 + 1)) _ _ l0 false _ ?side1 ?side2 A5.out (pw_cell_below (by repeat (first | (with_reducible first | exact HB.out | apply below_alloc | apply pw_below_drewN | apply below_drew1) | exact HB.out)) HX.out)).mono ?_); (case side1 => repeat (first | exact (Kd.C_below HR0.out HB.out) | (with_reducible refine Kd.C_alloc ?_ _) | (with_reducible refine Kd.C_drewN ?_ _) | (with_reducible refine Kd.C_drew ?_))); (case side2 => exact HC0.out); rintro e w' ⟨rfl, ⟨nd, rfl⟩⟩) | ((with_reducible refine gate_builtin (b := .append) (xs := #[.tmp 47, .tmp 52]) rfl ?_); (try (refine gate_guard (by rfl) ?_; dsimp only)); at_builtin; refine Kd.R_append k33 (w0 := w1_) w1_.heap.size rfl (.tmp 47) (.tmp 52) 39 33 (.agg #[(.int .i64 0), (.int .i64 0)]) 16 rfl Try.underlying39 info33 rfl (by decide) (by omega) u3 x3_1 (⟨x5_1, wrap64 (x5_2 + 1)⟩ : S33) [.int .i64 x5_1, .int .i64 (wrap64 (x5_2 + 1))] (fun _ => True) (fun _ => False) rfl rfl ?aP (fun _ hk => hk.elim) ?aF ?aO ?aB ?aS ?aL ?_; (case aP => exact k33_mkM _ _ _ (⟨x5_1, wrap64 (x5_2 + 1)⟩ : S33)); (case aB => exact (by repeat (first | (with_reducible first | exact HB.out | apply below_alloc | apply pw_below_drewN | apply below_drew1) | exact HB.out))); (case aF => exact (fun _ _ => trivial)); (case aO => exact (by (with_reducible repeat (first | apply Kd.R_alloc | apply Kd.R_drewN | apply Kd.R_drew)); exact HO_3.out)); (case aS => exact (below_size (by repeat (first | (with_reducible first | exact HB.out | apply below_alloc | apply pw_below_drewN | apply below_drew1) | exact HB.out)))); (case aL => have := LMc17.out; omega); intro v132 w18 ho hb hg hat; rw [← Ny131.out] at ho; have n0_ := Aside0.mk (hb); have n1_ := Aside0.mk (ho); clear HB; clear HO_3; have HB := n0_; have HO133 := n1_; clear n0_ n1_; clear ho hb hg hat))
                    go_roundg k2
                    case measure => have := HK1.out; have := HK2.out; omega
                    case rel => exact ⟨(y131), (wrap64 (x5_2 + 1)), (by first | rfl | (simp; done) | (simp [*]; done)), H', ⟨by have := HK1.out; have := HK2.out; omega⟩, ⟨by (with_reducible repeat (first | apply Kd.R_alloc | apply Kd.R_drewN | apply Kd.R_drew)); exact HO133.out⟩, ⟨by repeat (first | (with_reducible first | exact HB.out | apply below_alloc | apply pw_below_drewN | apply below_drew1) | exact HB.out)⟩⟩
                  · rw [if_neg c17] at H
                    exact absurd H (by simp)
        · replace c4 := Bool.eq_false_iff.mpr c4
          subst c4
          have H1 : (token_Runs.l0 k1 l0 x3_1 (wrap64 (x5_1 + 1))) = some r := by rw [if_neg (show ¬ (false = true) by decide)] at H; exact H
          clear H
          have H := H1
          clear H1
          have H' := Aside0.mk H
          clear H
          have hx_ := pw_cell_below HB.out HX.out
          go_wp2_with (first | (go_at_call 39; (with_reducible refine (token_Runs_1.calls x5_1 _ _ l0 false _ ?side1 ?side2 A3.out (pw_cell_below (by repeat (first | (with_reducible first | exact HB.out | apply below_alloc | apply pw_below_drewN | apply below_drew1) | exact HB.out)) HX.out)).mono ?_); (case side1 => repeat (first | exact (Kd.C_below HR0.out HB.out) | (with_reducible refine Kd.C_alloc ?_ _) | (with_reducible refine Kd.C_drewN ?_ _) | (with_reducible refine Kd.C_drew ?_))); (case side2 => exact HC0.out); rintro e w' ⟨rfl, ⟨nd, rfl⟩⟩))
          go_roundg k1
          case measure => have := HK1.out; omega
          case rel => exact ⟨(x3_1), (wrap64 (x5_1 + 1)), (by first | rfl | (simp; done) | (simp [*]; done)), H', ⟨by have := HK1.out; omega⟩, ⟨by (with_reducible repeat (first | apply Kd.R_alloc | apply Kd.R_drewN | apply Kd.R_drew)); exact HO_3.out⟩, ⟨by repeat (first | (with_reducible first | exact HB.out | apply below_alloc | apply pw_below_drewN | apply below_drew1) | exact HB.out)⟩⟩
      · rw [if_neg c2] at H
        have c2b0 : decide (x5_1 < (l0.length : Int)) = false := decide_eq_false c2
        clear c2
        obtain rfl := Option.some.inj H
        have hx_ := pw_cell_below HB.out HX.out
        go_wp2
        go_ret
        exact ⟨_, by first | rfl | (simp [errW_none, errW_some] <;> rfl) | (simp [*, errW_none, errW_some] <;> rfl), by (with_reducible repeat (first | apply Kd.R_alloc | apply Kd.R_drewN | apply Kd.R_drew)); exact Kd.R_lower HO_3.out HBW.out.size, below_step HBW.out (by repeat (first | (with_reducible first | exact HB.out | apply below_alloc | apply pw_below_drewN | apply below_drew1) | exact HB.out))⟩


/-! ### fold_Great: function 15 -/
def fold_Great.f (a0 : Int) : Option (Bool) := (fold_great.f a0).bind fun t119 => (some t119)
set_option maxHeartbeats 8000000 in
set_option maxRecDepth 100000 in
theorem fold_Great.calls (a0 : Int) (r : Bool) (w : World) (h : fold_Great.f a0 = some r) :
  Calls Try.prog 15 #[.int .i32 a0] w fun e w' => e = .returned (.bool r) ∧ Drawn0 w w' := by
 have H : ((fold_great.f a0).bind fun t119 => (some t119)) = some r := h
 clear h
 replace H := Option.bind_eq_some_iff.mp H
 obtain ⟨t119, A20, H⟩ := H
 replace H : (some t119) = some r := H
 have A2 := Aside0.mk A20
 clear A20
 obtain rfl := Option.some.inj H
 go_enter Try.func15, Try.ntmps15
 go_wp2_with (first | ((with_reducible refine gate_callee (f := 35) rfl ?_); refine goesL_ (some 4) rfl rfl Try.func35 (by kernel_rfl) rfl #[.int .i32 a0] rfl (by (try simp only [List.map_toArray, List.map_cons, List.map_nil]); first | done | rfl | (simp only [List.length_drop, List.length_take]; rfl)) ?_; (with_reducible refine (fold_great.calls a0 t119 _ A2.out).mono ?_); rintro e w' ⟨rfl, ⟨nd, rfl⟩⟩; refine ⟨_, rfl, ?_⟩))
 go_ret
 exact ⟨by first | rfl | (simp; done) | (simp [*]; done), by repeat (first | exact Drawn0.refl _ | apply Drawn0.step)⟩

/-! ### fold_Small: function 16 -/
def fold_Small.f (a0 : Int) : Option (Bool) := (fold_small.f a0).bind fun t120 => (some t120)
set_option maxHeartbeats 8000000 in
set_option maxRecDepth 100000 in
theorem fold_Small.calls (a0 : Int) (r : Bool) (w : World) (h : fold_Small.f a0 = some r) :
  Calls Try.prog 16 #[.int .i32 a0] w fun e w' => e = .returned (.bool r) ∧ Drawn0 w w' := by
 have H : ((fold_small.f a0).bind fun t120 => (some t120)) = some r := h
 clear h
 replace H := Option.bind_eq_some_iff.mp H
 obtain ⟨t120, A20, H⟩ := H
 replace H : (some t120) = some r := H
 have A2 := Aside0.mk A20
 clear A20
 obtain rfl := Option.some.inj H
 go_enter Try.func16, Try.ntmps16
 go_wp2_with (first | ((with_reducible refine gate_callee (f := 36) rfl ?_); refine goesL_ (some 4) rfl rfl Try.func36 (by kernel_rfl) rfl #[.int .i32 a0] rfl (by (try simp only [List.map_toArray, List.map_cons, List.map_nil]); first | done | rfl | (simp only [List.length_drop, List.length_take]; rfl)) ?_; (with_reducible refine (fold_small.calls a0 t120 _ A2.out).mono ?_); rintro e w' ⟨rfl, ⟨nd, rfl⟩⟩; refine ⟨_, rfl, ?_⟩))
 go_ret
 exact ⟨by first | rfl | (simp; done) | (simp [*]; done), by repeat (first | exact Drawn0.refl _ | apply Drawn0.step)⟩

/-! ### token_parts: function 41 -/
def token_parts.j0 : Nat → List (S53) → Int → Int → Bool → Option (Bool)
 | 0, _, _, _, _ => none
 | k + 1, x0, x2, x3, x9 => if x9 = true then (some false) else (if 0 ≤ (wrap64 (x3 - 1)) then (if (wrap64 (x3 - 1)) < (x0.length : Int) then ((fold_Small.f ((rd_T53 x0 (wrap64 (x3 - 1))).f0)).bind fun t124 => (if t124 = true then (some true) else ((fold_Great.f ((rd_T53 x0 (wrap64 (x3 - 1))).f0)).bind fun t126 => (if t126 = true then (if (wrap64 (x3 + 1)) < x2 then (if 0 ≤ (wrap64 (x3 + 1)) then (if (wrap64 (x3 + 1)) < (x0.length : Int) then ((fold_Small.f ((rd_T53 x0 (wrap64 (x3 + 1))).f0)).bind fun t128 => (some t128)) else (none)) else (none)) else (some false)) else (some false))))) else (none)) else (none))
def token_parts.f (k : Nat) (l0 : List (S53)) (a1 : Int) (a2 : Int) (a3 : Int) : Option (Bool) := if a3 = a1 then (token_parts.j0 k l0 a2 a3 true) else (if 0 ≤ a3 then (if a3 < (l0.length : Int) then ((fold_Great.f ((rd_T53 l0 a3).f0)).bind fun t122 => (token_parts.j0 k l0 a2 a3 (!t122))) else (none)) else (none))
theorem token_parts.mono_l : ∀ k, (∀ y0 y1 y2 y3, LeO (token_parts.j0 k y0 y1 y2 y3) (token_parts.j0 (k + 1) y0 y1 y2 y3))
 | 0 => fun _ _ _ _ r h => by simp [token_parts.j0] at h
 | k + 1 => by
  have ih0 := token_parts.mono_l k
  ·intro y0 y1 y2 y3
   unfold token_parts.j0
   repeat' first
   | (with_reducible exact ih0 _ _ _ _)
   | (with_reducible exact LeO.refl _)
   | (with_reducible exact LeO.none _)
   | (with_reducible refine LeO.ite ?_ ?_)
   | (with_reducible refine LeO.bind ?_ (fun _ => ?_))
   | exact ih0 _ _ _ _
   | exact LeO.none _
   | refine LeO.ite ?_ ?_
   | refine LeO.bind ?_ (fun _ => ?_)
theorem token_parts.mono : ∀ a0 a1 a2 a3 k, LeO (token_parts.f k a0 a1 a2 a3) (token_parts.f (k + 1) a0 a1 a2 a3) := by
 intro a0 a1 a2 a3 k
 have ih0 := token_parts.mono_l k
 unfold token_parts.f
 repeat' first
   | (with_reducible exact ih0 _ _ _ _)
   | (with_reducible exact LeO.refl _)
   | (with_reducible exact LeO.none _)
   | (with_reducible refine LeO.ite ?_ ?_)
   | (with_reducible refine LeO.bind ?_ (fun _ => ?_))
   | exact ih0 _ _ _ _
   | exact LeO.none _
   | refine LeO.ite ?_ ?_
   | refine LeO.bind ?_ (fun _ => ?_)
set_option maxHeartbeats 8000000 in
set_option maxRecDepth 100000 in
theorem token_parts.calls (k : Nat) (A0 : Option Addr) (c0 : Nat) (l0 : List (S53)) (a1 : Int) (a2 : Int) (a3 : Int) (r : Bool) (w : World) (hr0 : Kd.C k53 w A0 l0.length l0) (hc0 : l0.length ≤ c0) (h : token_parts.f k l0 a1 a2 a3 = some r) :
  Calls Try.prog 41 #[.slice A0 l0.length c0, .int .i64 a1, .int .i64 a2, .int .i64 a3] w fun e w' => e = .returned (.bool r) ∧ Drawn0 w w' := by
 have HR0 := Aside0.mk hr0
 have HC0 := Aside0.mk hc0
 clear hr0 hc0
 have H : (if a3 = a1 then (token_parts.j0 k l0 a2 a3 true) else (if 0 ≤ a3 then (if a3 < (l0.length : Int) then ((fold_Great.f ((rd_T53 l0 a3).f0)).bind fun t122 => (token_parts.j0 k l0 a2 a3 (!t122))) else (none)) else (none))) = some r := h
 clear h
 have HC5 := Aside0.mk H
 clear H
 go_enter Try.func41, Try.ntmps41
 go_upto_region 1 with (fail)
 go_cut [9] (fun v9 wc => ∃ (kq : Nat) (x9_4 : Bool), v9 = .bool x9_4 ∧ Aside0 (token_parts.j0 kq l0 a2 a3 x9_4 = some r) ∧ Aside0 (kq ≤ k) ∧ Drawn0 w wc)
 case first =>
  have H := HC5.out
  clear HC5
  by_cases c6 : a3 = a1
  ·rw [if_pos c6] at H
   have c6b0 : (a3 == a1) = true := beq_iff_eq.mpr c6
   have c6b1 : (a3 != a1) = false := bne_eq_false_iff_eq.mpr c6
   clear c6
   (first | rw [c6b0] | (simp only [i64_w, i32_w]; rw [c6b0]) | skip)
   have H' := Aside0.mk H
   clear H
   go_wp2
   go_meet
   case rel => exact ⟨_, (true), (by first | rfl | (simp; done) | (simp [*]; done)), H', ⟨by first | omega | exact Nat.le_refl _⟩, by repeat (first | exact Drawn0.refl _ | apply Drawn0.step)⟩
  ·rw [if_neg c6] at H
   have c6b0 : (a3 == a1) = false := beq_eq_false_iff_ne.mpr c6
   have c6b1 : (a3 != a1) = true := bne_iff_ne.mpr c6
   (first | rw [c6b0] | (simp only [i64_w, i32_w]; rw [c6b0]) | skip)
   by_cases c7 : 0 ≤ a3
   ·rw [if_pos c7] at H
    have c7b0 : decide (0 ≤ a3) = true := decide_eq_true c7
    clear c7
    by_cases c8 : a3 < (l0.length : Int)
    ·rw [if_pos c8] at H
     have c8b0 : decide (a3 < (l0.length : Int)) = true := decide_eq_true c8
     clear c8
     replace H := Option.bind_eq_some_iff.mp H
     obtain ⟨t122, A90, H⟩ := H
     replace H : (token_parts.j0 k l0 a2 a3 (!t122)) = some r := H
     have A9 := Aside0.mk A90
     clear A90
     have H' := Aside0.mk H
     clear H
     have p121 : 0 ≤ (a3 : Int) := of_decide_eq_true (by first | (with_reducible assumption) | assumption)
     have q121 : a3 < (l0.length : Int) := of_decide_eq_true (by first | (with_reducible assumption) | assumption)
     obtain ⟨ad121, e121, hx121_0, hx121_1, hx121_2⟩ := at_T53 HR0.out a3 p121 q121
     cases e121
     replace p121 := eq_true p121
     replace q121 := eq_true q121
     go_wp2_with (first | (go_at_call 15; (with_reducible refine (fold_Great.calls ((rd_T53 l0 a3).f0) t122 _ A9.out).mono ?_); rintro e w' ⟨rfl, ⟨nd, rfl⟩⟩))
     go_meet
     case rel => exact ⟨_, (!t122), (by first | rfl | (simp; done) | (simp [*]; done)), H', ⟨by first | omega | exact Nat.le_refl _⟩, by repeat (first | exact Drawn0.refl _ | apply Drawn0.step)⟩
    ·rw [if_neg c8] at H
     exact absurd H (by simp)
   ·rw [if_neg c7] at H
    exact absurd H (by simp)
 case rest =>
  clear HC5
  try clear p1
  try clear q1
  try clear hx1
  try clear p2
  try clear c4
  try clear c6
  try clear c6b0
  try clear c6b1
  try clear c7
  try clear c7b0
  try clear c8
  try clear c8b0
  try clear hx121_0
  try clear hx121_1
  try clear hx121_2
  try clear p121
  try clear q121
  obtain ⟨kq, x9_4, rfl, HA, HJ4, ⟨mc4, rfl⟩⟩ := hcut
  cases kq with
  | zero => exact absurd HA.out (by simp [token_parts.j0])
  | succ kj4 =>
   have H := HA.out
   clear HA
   simp only [token_parts.j0] at H
   by_cases c10 : x9_4 = true
   ·subst c10
    have H1 : (some false) = some r := by rw [if_pos rfl] at H; exact H
    clear H
    have H := H1
    clear H1
    obtain rfl := Option.some.inj H
    go_wp2
    go_ret
    exact ⟨by first | rfl | (simp; done) | (simp [*]; done), by repeat (first | exact Drawn0.refl _ | apply Drawn0.step)⟩
   ·replace c10 := Bool.eq_false_iff.mpr c10
    subst c10
    have H1 : (if 0 ≤ (wrap64 (a3 - 1)) then (if (wrap64 (a3 - 1)) < (l0.length : Int) then ((fold_Small.f ((rd_T53 l0 (wrap64 (a3 - 1))).f0)).bind fun t124 => (if t124 = true then (some true) else ((fold_Great.f ((rd_T53 l0 (wrap64 (a3 - 1))).f0)).bind fun t126 => (if t126 = true then (if (wrap64 (a3 + 1)) < a2 then (if 0 ≤ (wrap64 (a3 + 1)) then (if (wrap64 (a3 + 1)) < (l0.length : Int) then ((fold_Small.f ((rd_T53 l0 (wrap64 (a3 + 1))).f0)).bind fun t128 => (some t128)) else (none)) else (none)) else (some false)) else (some false))))) else (none)) else (none)) = some r := by rw [if_neg (show ¬ (false = true) by decide)] at H; exact H
    clear H
    have H := H1
    clear H1
    obtain ⟨ji11, hji11⟩ : ∃ j_ : Int, (wrap64 (a3 - 1)) = j_ := ⟨_, rfl⟩
    replace H : (if 0 ≤ (ji11) then (if (ji11) < (l0.length : Int) then ((fold_Small.f ((rd_T53 l0 (ji11)).f0)).bind fun t124 => (if t124 = true then (some true) else ((fold_Great.f ((rd_T53 l0 (ji11)).f0)).bind fun t126 => (if t126 = true then (if (wrap64 (a3 + 1)) < a2 then (if 0 ≤ (wrap64 (a3 + 1)) then (if (wrap64 (a3 + 1)) < (l0.length : Int) then ((fold_Small.f ((rd_T53 l0 (wrap64 (a3 + 1))).f0)).bind fun t128 => (some t128)) else (none)) else (none)) else (some false)) else (some false))))) else (none)) else (none)) = some r := by first | (rw [hji11] at H; exact H) | (simp only [hji11] at H ⊢; exact H)
    have hji11w : (IntKind.i64.wrap (a3 - 1)) = ji11 := (i64_w _).trans hji11
    by_cases c12 : 0 ≤ (ji11)
    ·rw [if_pos c12] at H
     have c12b0 : decide (0 ≤ (ji11)) = true := decide_eq_true c12
     clear c12
     by_cases c13 : (ji11) < (l0.length : Int)
     ·rw [if_pos c13] at H
      have c13b0 : decide ((ji11) < (l0.length : Int)) = true := decide_eq_true c13
      clear c13
      replace H := Option.bind_eq_some_iff.mp H
      obtain ⟨t124, A140, H⟩ := H
      replace H : (if t124 = true then (some true) else ((fold_Great.f ((rd_T53 l0 (ji11)).f0)).bind fun t126 => (if t126 = true then (if (wrap64 (a3 + 1)) < a2 then (if 0 ≤ (wrap64 (a3 + 1)) then (if (wrap64 (a3 + 1)) < (l0.length : Int) then ((fold_Small.f ((rd_T53 l0 (wrap64 (a3 + 1))).f0)).bind fun t128 => (some t128)) else (none)) else (none)) else (some false)) else (some false)))) = some r := H
      have A14 := Aside0.mk A140
      clear A140
      by_cases c15 : t124 = true
      ·subst c15
       have H1 : (some true) = some r := by rw [if_pos rfl] at H; exact H
       clear H
       have H := H1
       clear H1
       obtain rfl := Option.some.inj H
       have p123 : 0 ≤ ((ji11) : Int) := of_decide_eq_true (by first | (with_reducible assumption) | assumption)
       have q123 : (ji11) < (l0.length : Int) := of_decide_eq_true (by first | (with_reducible assumption) | assumption)
       obtain ⟨ad123, e123, hx123_0, hx123_1, hx123_2⟩ := at_T53 HR0.out (ji11) p123 q123
       cases e123
       replace p123 := eq_true p123
       replace q123 := eq_true q123
       go_wp2_with (first | ((with_reducible refine gate_callee (f := 16) rfl ?_); refine goesL_ (some 29) rfl rfl Try.func16 (by kernel_rfl) rfl #[.int .i32 ((rd_T53 l0 (ji11)).f0)] rfl (by (try simp only [List.map_toArray, List.map_cons, List.map_nil]); first | done | (simp only [hji11]; rfl) | rfl | (simp only [List.length_drop, List.length_take]; rfl)) ?_; (with_reducible refine (fold_Small.calls ((rd_T53 l0 (ji11)).f0) true _ A14.out).mono ?_); rintro e w' ⟨rfl, ⟨nd, rfl⟩⟩; refine ⟨_, rfl, ?_⟩))
       go_ret
       exact ⟨by first | rfl | (simp; done) | (simp only [← hji11] <;> (first | rfl | simp)) | (simp [*]; done), by repeat (first | exact Drawn0.refl _ | apply Drawn0.step)⟩
      ·replace c15 := Bool.eq_false_iff.mpr c15
       subst c15
       have H1 : ((fold_Great.f ((rd_T53 l0 (ji11)).f0)).bind fun t126 => (if t126 = true then (if (wrap64 (a3 + 1)) < a2 then (if 0 ≤ (wrap64 (a3 + 1)) then (if (wrap64 (a3 + 1)) < (l0.length : Int) then ((fold_Small.f ((rd_T53 l0 (wrap64 (a3 + 1))).f0)).bind fun t128 => (some t128)) else (none)) else (none)) else (some false)) else (some false))) = some r := by rw [if_neg (show ¬ (false = true) by decide)] at H; exact H
       clear H
       have H := H1
       clear H1
       replace H := Option.bind_eq_some_iff.mp H
       obtain ⟨t126, A160, H⟩ := H
       replace H : (if t126 = true then (if (wrap64 (a3 + 1)) < a2 then (if 0 ≤ (wrap64 (a3 + 1)) then (if (wrap64 (a3 + 1)) < (l0.length : Int) then ((fold_Small.f ((rd_T53 l0 (wrap64 (a3 + 1))).f0)).bind fun t128 => (some t128)) else (none)) else (none)) else (some false)) else (some false)) = some r := H
       have A16 := Aside0.mk A160
       clear A160
       by_cases c17 : t126 = true
       ·subst c17
        have H1 : (if (wrap64 (a3 + 1)) < a2 then (if 0 ≤ (wrap64 (a3 + 1)) then (if (wrap64 (a3 + 1)) < (l0.length : Int) then ((fold_Small.f ((rd_T53 l0 (wrap64 (a3 + 1))).f0)).bind fun t128 => (some t128)) else (none)) else (none)) else (some false)) = some r := by rw [if_pos rfl] at H; exact H
        clear H
        have H := H1
        clear H1
        by_cases c18 : (wrap64 (a3 + 1)) < a2
        ·rw [if_pos c18] at H
         have c18b0 : decide ((wrap64 (a3 + 1)) < a2) = true := decide_eq_true c18
         clear c18
         obtain ⟨ji19, hji19⟩ : ∃ j_ : Int, (wrap64 (a3 + 1)) = j_ := ⟨_, rfl⟩
         replace H : (if 0 ≤ (ji19) then (if (ji19) < (l0.length : Int) then ((fold_Small.f ((rd_T53 l0 (ji19)).f0)).bind fun t128 => (some t128)) else (none)) else (none)) = some r := by first | (rw [hji19] at H; exact H) | (simp only [hji19] at H ⊢; exact H)
         (try rw [hji19] at c18b0)
         (try rw [hji19] at A14)
         (try rw [hji19] at A16)
         have hji19w : (IntKind.i64.wrap (a3 + 1)) = ji19 := (i64_w _).trans hji19
         by_cases c20 : 0 ≤ (ji19)
         ·rw [if_pos c20] at H
          have c20b0 : decide (0 ≤ (ji19)) = true := decide_eq_true c20
          clear c20
          by_cases c21 : (ji19) < (l0.length : Int)
          ·rw [if_pos c21] at H
           have c21b0 : decide ((ji19) < (l0.length : Int)) = true := decide_eq_true c21
           clear c21
           replace H := Option.bind_eq_some_iff.mp H
           obtain ⟨t128, A220, H⟩ := H
           replace H : (some t128) = some r := H
           have A22 := Aside0.mk A220
           clear A220
           obtain rfl := Option.some.inj H
           have p123 : 0 ≤ ((ji11) : Int) := of_decide_eq_true (by first | (with_reducible assumption) | assumption)
           have q123 : (ji11) < (l0.length : Int) := of_decide_eq_true (by first | (with_reducible assumption) | assumption)
           obtain ⟨ad123, e123, hx123_0, hx123_1, hx123_2⟩ := at_T53 HR0.out (ji11) p123 q123
           cases e123
           replace p123 := eq_true p123
           replace q123 := eq_true q123
           go_wp2_with (first | ((with_reducible refine gate_callee (f := 16) rfl ?_); refine goesL_ (some 29) rfl rfl Try.func16 (by kernel_rfl) rfl #[.int .i32 ((rd_T53 l0 (ji11)).f0)] rfl (by (try simp only [List.map_toArray, List.map_cons, List.map_nil]); first | done | (simp only [hji11]; rfl) | rfl | (simp only [List.length_drop, List.length_take]; rfl)) ?_; (with_reducible refine (fold_Small.calls ((rd_T53 l0 (ji11)).f0) false _ A14.out).mono ?_); rintro e w' ⟨rfl, ⟨nd, rfl⟩⟩; refine ⟨_, rfl, ?_⟩; have p125 : 0 ≤ ((ji11) : Int) := of_decide_eq_true (by first | (with_reducible assumption) | assumption); have q125 : (ji11) < (l0.length : Int) := of_decide_eq_true (by first | (with_reducible assumption) | assumption); obtain ⟨ad125, e125, hx125_0, hx125_1, hx125_2⟩ := at_T53 HR0.out (ji11) p125 q125; obtain rfl : ad123 = ad125 := (by injection e125); replace p125 := eq_true p125; replace q125 := eq_true q125) | ((with_reducible refine gate_callee (f := 15) rfl ?_); refine goesL_ (some 36) rfl rfl Try.func15 (by kernel_rfl) rfl #[.int .i32 ((rd_T53 l0 (ji11)).f0)] rfl (by (try simp only [List.map_toArray, List.map_cons, List.map_nil]); first | done | (simp only [hji11]; rfl) | rfl | (simp only [List.length_drop, List.length_take]; rfl)) ?_; (with_reducible refine (fold_Great.calls ((rd_T53 l0 (ji11)).f0) true _ A16.out).mono ?_); rintro e w' ⟨rfl, ⟨nd, rfl⟩⟩; refine ⟨_, rfl, ?_⟩; have p127 : 0 ≤ ((ji19) : Int) := of_decide_eq_true (by first | (with_reducible assumption) | assumption); have q127 : (ji19) < (l0.length : Int) := of_decide_eq_true (by first | (with_reducible assumption) | assumption); obtain ⟨ad127, e127, hx127_0, hx127_1, hx127_2⟩ := at_T53 HR0.out (ji19) p127 q127; obtain rfl : ad123 = ad127 := (by injection e127); replace p127 := eq_true p127; replace q127 := eq_true q127) | (go_at_call 16; (with_reducible refine (fold_Small.calls ((rd_T53 l0 (ji19)).f0) t128 _ A22.out).mono ?_); rintro e w' ⟨rfl, ⟨nd, rfl⟩⟩))
           go_ret
           exact ⟨by first | rfl | (simp; done) | (simp only [← hji11, ← hji19] <;> (first | rfl | simp)) | (simp [*]; done), by repeat (first | exact Drawn0.refl _ | apply Drawn0.step)⟩
          ·rw [if_neg c21] at H
           exact absurd H (by simp)
         ·rw [if_neg c20] at H
          exact absurd H (by simp)
        ·rw [if_neg c18] at H
         have c18b0 : decide ((wrap64 (a3 + 1)) < a2) = false := decide_eq_false c18
         clear c18
         obtain rfl := Option.some.inj H
         have p123 : 0 ≤ ((ji11) : Int) := of_decide_eq_true (by first | (with_reducible assumption) | assumption)
         have q123 : (ji11) < (l0.length : Int) := of_decide_eq_true (by first | (with_reducible assumption) | assumption)
         obtain ⟨ad123, e123, hx123_0, hx123_1, hx123_2⟩ := at_T53 HR0.out (ji11) p123 q123
         cases e123
         replace p123 := eq_true p123
         replace q123 := eq_true q123
         go_wp2_with (first | ((with_reducible refine gate_callee (f := 16) rfl ?_); refine goesL_ (some 29) rfl rfl Try.func16 (by kernel_rfl) rfl #[.int .i32 ((rd_T53 l0 (ji11)).f0)] rfl (by (try simp only [List.map_toArray, List.map_cons, List.map_nil]); first | done | (simp only [hji11]; rfl) | rfl | (simp only [List.length_drop, List.length_take]; rfl)) ?_; (with_reducible refine (fold_Small.calls ((rd_T53 l0 (ji11)).f0) false _ A14.out).mono ?_); rintro e w' ⟨rfl, ⟨nd, rfl⟩⟩; refine ⟨_, rfl, ?_⟩; have p125 : 0 ≤ ((ji11) : Int) := of_decide_eq_true (by first | (with_reducible assumption) | assumption); have q125 : (ji11) < (l0.length : Int) := of_decide_eq_true (by first | (with_reducible assumption) | assumption); obtain ⟨ad125, e125, hx125_0, hx125_1, hx125_2⟩ := at_T53 HR0.out (ji11) p125 q125; obtain rfl : ad123 = ad125 := (by injection e125); replace p125 := eq_true p125; replace q125 := eq_true q125) | ((with_reducible refine gate_callee (f := 15) rfl ?_); refine goesL_ (some 36) rfl rfl Try.func15 (by kernel_rfl) rfl #[.int .i32 ((rd_T53 l0 (ji11)).f0)] rfl (by (try simp only [List.map_toArray, List.map_cons, List.map_nil]); first | done | (simp only [hji11]; rfl) | rfl | (simp only [List.length_drop, List.length_take]; rfl)) ?_; (with_reducible refine (fold_Great.calls ((rd_T53 l0 (ji11)).f0) true _ A16.out).mono ?_); rintro e w' ⟨rfl, ⟨nd, rfl⟩⟩; refine ⟨_, rfl, ?_⟩))
         go_ret
         exact ⟨by first | rfl | (simp; done) | (simp only [← hji11] <;> (first | rfl | simp)) | (simp [*]; done), by repeat (first | exact Drawn0.refl _ | apply Drawn0.step)⟩
       ·replace c17 := Bool.eq_false_iff.mpr c17
        subst c17
        have H1 : (some false) = some r := by rw [if_neg (show ¬ (false = true) by decide)] at H; exact H
        clear H
        have H := H1
        clear H1
        obtain rfl := Option.some.inj H
        have p123 : 0 ≤ ((ji11) : Int) := of_decide_eq_true (by first | (with_reducible assumption) | assumption)
        have q123 : (ji11) < (l0.length : Int) := of_decide_eq_true (by first | (with_reducible assumption) | assumption)
        obtain ⟨ad123, e123, hx123_0, hx123_1, hx123_2⟩ := at_T53 HR0.out (ji11) p123 q123
        cases e123
        replace p123 := eq_true p123
        replace q123 := eq_true q123
        go_wp2_with (first | ((with_reducible refine gate_callee (f := 16) rfl ?_); refine goesL_ (some 29) rfl rfl Try.func16 (by kernel_rfl) rfl #[.int .i32 ((rd_T53 l0 (ji11)).f0)] rfl (by (try simp only [List.map_toArray, List.map_cons, List.map_nil]); first | done | (simp only [hji11]; rfl) | rfl | (simp only [List.length_drop, List.length_take]; rfl)) ?_; (with_reducible refine (fold_Small.calls ((rd_T53 l0 (ji11)).f0) false _ A14.out).mono ?_); rintro e w' ⟨rfl, ⟨nd, rfl⟩⟩; refine ⟨_, rfl, ?_⟩; have p125 : 0 ≤ ((ji11) : Int) := of_decide_eq_true (by first | (with_reducible assumption) | assumption); have q125 : (ji11) < (l0.length : Int) := of_decide_eq_true (by first | (with_reducible assumption) | assumption); obtain ⟨ad125, e125, hx125_0, hx125_1, hx125_2⟩ := at_T53 HR0.out (ji11) p125 q125; obtain rfl : ad123 = ad125 := (by injection e125); replace p125 := eq_true p125; replace q125 := eq_true q125) | ((with_reducible refine gate_callee (f := 15) rfl ?_); refine goesL_ (some 36) rfl rfl Try.func15 (by kernel_rfl) rfl #[.int .i32 ((rd_T53 l0 (ji11)).f0)] rfl (by (try simp only [List.map_toArray, List.map_cons, List.map_nil]); first | done | (simp only [hji11]; rfl) | rfl | (simp only [List.length_drop, List.length_take]; rfl)) ?_; (with_reducible refine (fold_Great.calls ((rd_T53 l0 (ji11)).f0) false _ A16.out).mono ?_); rintro e w' ⟨rfl, ⟨nd, rfl⟩⟩; refine ⟨_, rfl, ?_⟩))
        go_ret
        exact ⟨by first | rfl | (simp; done) | (simp only [← hji11] <;> (first | rfl | simp)) | (simp [*]; done), by repeat (first | exact Drawn0.refl _ | apply Drawn0.step)⟩
     ·rw [if_neg c13] at H
      exact absurd H (by simp)
    ·rw [if_neg c12] at H
     exact absurd H (by simp)

end Go.Proofs.Ytmnohlmdckcdeaa.PTokenLengths
