-- Laid by a program of ours (the kit's print with words and contracts of our own beside it).
import Derived.Test.YtmnohlmdckcdeaaPFoldTwicex0
import Derived.Test.YtmnohlmdckcdeaaPFoldTwicex1
namespace Go.Proofs.Ytmnohlmdckcdeaa.PFoldTwice
open Go.RowKit Go.Proofs.Ytmnohlmdckcdeaa.X Go.Proofs.YtmnohlmdckcdeaaW.PrintWords Go.Proofs.YtmnohlmdckcdeaaW.PrintLast Go.Proofs.YtmnohlmdckcdeaaW.PrintMore
attribute [local go_sem] max2_int min2_int max_two min_two max_three min_three max_four min_four   -- for this text's walks alone
set_option linter.unusedVariables false
set_option linter.unusedSimpArgs false

/-! ### fold_great: function 35 -/
def fold_great.f (a0 : Int) : Option (Bool) := if a0 ≥ 65 then (if a0 ≤ 90 then (some true) else (if a0 ≥ 192 then (if a0 ≤ 222 then (some (a0 != 215)) else (some false)) else (some false))) else (if a0 ≥ 192 then (if a0 ≤ 222 then (some (a0 != 215)) else (some false)) else (some false))
set_option maxHeartbeats 8000000 in
set_option maxRecDepth 100000 in
theorem fold_great.calls (a0 : Int) (r : Bool) (w : World) (h : fold_great.f a0 = some r) :
    Calls Try.prog 35 #[.int .i32 a0] w fun e w' => e = .returned (.bool r) ∧ Drawn0 w w' := by
  have H : (if a0 ≥ 65 then (if a0 ≤ 90 then (some true) else (if a0 ≥ 192 then (if a0 ≤ 222 then (some (a0 != 215)) else (some false)) else (some false))) else (if a0 ≥ 192 then (if a0 ≤ 222 then (some (a0 != 215)) else (some false)) else (some false))) = some r := h
  clear h
  by_cases c2 : a0 ≥ 65
  · rw [if_pos c2] at H
    have c2b0 : decide (65 ≤ a0) = true := decide_eq_true c2
    clear c2
    by_cases c3 : a0 ≤ 90
    · rw [if_pos c3] at H
      have c3b0 : decide (a0 ≤ 90) = true := decide_eq_true c3
      clear c3
      obtain rfl := Option.some.inj H
      go_enter Try.func35, Try.ntmps35
      go_wp2
      go_ret
      exact ⟨by first | rfl | (simp; done) | (simp [*]; done), by repeat (first | exact Drawn0.refl _ | apply Drawn0.step)⟩
    · rw [if_neg c3] at H
      have c3b0 : decide (a0 ≤ 90) = false := decide_eq_false c3
      clear c3
      by_cases c4 : a0 ≥ 192
      · rw [if_pos c4] at H
        have c4b0 : decide (192 ≤ a0) = true := decide_eq_true c4
        clear c4
        by_cases c5 : a0 ≤ 222
        · rw [if_pos c5] at H
          have c5b0 : decide (a0 ≤ 222) = true := decide_eq_true c5
          clear c5
          obtain rfl := Option.some.inj H
          go_enter Try.func35, Try.ntmps35
          go_wp2
          go_ret
          exact ⟨by first | rfl | (simp; done) | (simp [*]; done), by repeat (first | exact Drawn0.refl _ | apply Drawn0.step)⟩
        · rw [if_neg c5] at H
          have c5b0 : decide (a0 ≤ 222) = false := decide_eq_false c5
          clear c5
          obtain rfl := Option.some.inj H
          go_enter Try.func35, Try.ntmps35
          go_wp2
          go_ret
          exact ⟨by first | rfl | (simp; done) | (simp [*]; done), by repeat (first | exact Drawn0.refl _ | apply Drawn0.step)⟩
      · rw [if_neg c4] at H
        have c4b0 : decide (192 ≤ a0) = false := decide_eq_false c4
        clear c4
        obtain rfl := Option.some.inj H
        go_enter Try.func35, Try.ntmps35
        go_wp2
        go_ret
        exact ⟨by first | rfl | (simp; done) | (simp [*]; done), by repeat (first | exact Drawn0.refl _ | apply Drawn0.step)⟩
  · rw [if_neg c2] at H
    have c2b0 : decide (65 ≤ a0) = false := decide_eq_false c2
    clear c2
    by_cases c6 : a0 ≥ 192
    · rw [if_pos c6] at H
      have c6b0 : decide (192 ≤ a0) = true := decide_eq_true c6
      clear c6
      by_cases c7 : a0 ≤ 222
      · rw [if_pos c7] at H
        have c7b0 : decide (a0 ≤ 222) = true := decide_eq_true c7
        clear c7
        obtain rfl := Option.some.inj H
        go_enter Try.func35, Try.ntmps35
        go_wp2
        go_ret
        exact ⟨by first | rfl | (simp; done) | (simp [*]; done), by repeat (first | exact Drawn0.refl _ | apply Drawn0.step)⟩
      · rw [if_neg c7] at H
        have c7b0 : decide (a0 ≤ 222) = false := decide_eq_false c7
        clear c7
        obtain rfl := Option.some.inj H
        go_enter Try.func35, Try.ntmps35
        go_wp2
        go_ret
        exact ⟨by first | rfl | (simp; done) | (simp [*]; done), by repeat (first | exact Drawn0.refl _ | apply Drawn0.step)⟩
    · rw [if_neg c6] at H
      have c6b0 : decide (192 ≤ a0) = false := decide_eq_false c6
      clear c6
      obtain rfl := Option.some.inj H
      go_enter Try.func35, Try.ntmps35
      go_wp2
      go_ret
      exact ⟨by first | rfl | (simp; done) | (simp [*]; done), by repeat (first | exact Drawn0.refl _ | apply Drawn0.step)⟩

/-! ### fold_small: function 36 -/
def fold_small.f (a0 : Int) : Option (Bool) := if a0 ≥ 97 then (if a0 ≤ 122 then (some true) else (if a0 ≥ 224 then (if a0 ≤ 254 then (some (a0 != 247)) else (some false)) else (some false))) else (if a0 ≥ 224 then (if a0 ≤ 254 then (some (a0 != 247)) else (some false)) else (some false))
set_option maxHeartbeats 8000000 in
set_option maxRecDepth 100000 in
theorem fold_small.calls (a0 : Int) (r : Bool) (w : World) (h : fold_small.f a0 = some r) :
    Calls Try.prog 36 #[.int .i32 a0] w fun e w' => e = .returned (.bool r) ∧ Drawn0 w w' := by
  have H : (if a0 ≥ 97 then (if a0 ≤ 122 then (some true) else (if a0 ≥ 224 then (if a0 ≤ 254 then (some (a0 != 247)) else (some false)) else (some false))) else (if a0 ≥ 224 then (if a0 ≤ 254 then (some (a0 != 247)) else (some false)) else (some false))) = some r := h
  clear h
  by_cases c2 : a0 ≥ 97
  · rw [if_pos c2] at H
    have c2b0 : decide (97 ≤ a0) = true := decide_eq_true c2
    clear c2
    by_cases c3 : a0 ≤ 122
    · rw [if_pos c3] at H
      have c3b0 : decide (a0 ≤ 122) = true := decide_eq_true c3
      clear c3
      obtain rfl := Option.some.inj H
      go_enter Try.func36, Try.ntmps36
      go_wp2
      go_ret
      exact ⟨by first | rfl | (simp; done) | (simp [*]; done), by repeat (first | exact Drawn0.refl _ | apply Drawn0.step)⟩
    · rw [if_neg c3] at H
      have c3b0 : decide (a0 ≤ 122) = false := decide_eq_false c3
      clear c3
      by_cases c4 : a0 ≥ 224
      · rw [if_pos c4] at H
        have c4b0 : decide (224 ≤ a0) = true := decide_eq_true c4
        clear c4
        by_cases c5 : a0 ≤ 254
        · rw [if_pos c5] at H
          have c5b0 : decide (a0 ≤ 254) = true := decide_eq_true c5
          clear c5
          obtain rfl := Option.some.inj H
          go_enter Try.func36, Try.ntmps36
          go_wp2
          go_ret
          exact ⟨by first | rfl | (simp; done) | (simp [*]; done), by repeat (first | exact Drawn0.refl _ | apply Drawn0.step)⟩
        · rw [if_neg c5] at H
          have c5b0 : decide (a0 ≤ 254) = false := decide_eq_false c5
          clear c5
          obtain rfl := Option.some.inj H
          go_enter Try.func36, Try.ntmps36
          go_wp2
          go_ret
          exact ⟨by first | rfl | (simp; done) | (simp [*]; done), by repeat (first | exact Drawn0.refl _ | apply Drawn0.step)⟩
      · rw [if_neg c4] at H
        have c4b0 : decide (224 ≤ a0) = false := decide_eq_false c4
        clear c4
        obtain rfl := Option.some.inj H
        go_enter Try.func36, Try.ntmps36
        go_wp2
        go_ret
        exact ⟨by first | rfl | (simp; done) | (simp [*]; done), by repeat (first | exact Drawn0.refl _ | apply Drawn0.step)⟩
  · rw [if_neg c2] at H
    have c2b0 : decide (97 ≤ a0) = false := decide_eq_false c2
    clear c2
    by_cases c6 : a0 ≥ 224
    · rw [if_pos c6] at H
      have c6b0 : decide (224 ≤ a0) = true := decide_eq_true c6
      clear c6
      by_cases c7 : a0 ≤ 254
      · rw [if_pos c7] at H
        have c7b0 : decide (a0 ≤ 254) = true := decide_eq_true c7
        clear c7
        obtain rfl := Option.some.inj H
        go_enter Try.func36, Try.ntmps36
        go_wp2
        go_ret
        exact ⟨by first | rfl | (simp; done) | (simp [*]; done), by repeat (first | exact Drawn0.refl _ | apply Drawn0.step)⟩
      · rw [if_neg c7] at H
        have c7b0 : decide (a0 ≤ 254) = false := decide_eq_false c7
        clear c7
        obtain rfl := Option.some.inj H
        go_enter Try.func36, Try.ntmps36
        go_wp2
        go_ret
        exact ⟨by first | rfl | (simp; done) | (simp [*]; done), by repeat (first | exact Drawn0.refl _ | apply Drawn0.step)⟩
    · rw [if_neg c6] at H
      have c6b0 : decide (224 ≤ a0) = false := decide_eq_false c6
      clear c6
      obtain rfl := Option.some.inj H
      go_enter Try.func36, Try.ntmps36
      go_wp2
      go_ret
      exact ⟨by first | rfl | (simp; done) | (simp [*]; done), by repeat (first | exact Drawn0.refl _ | apply Drawn0.step)⟩

/-! ### fold_Of: function 21 -/
mutual
def fold_Of.l0 : Nat → Int → Int → Bool → List Int → Int → Int → Option (Int)
  | 0, _, _, _, _, _, _ => none
  | k + 1, x3, x4, x5, x9, x10, x11 => if x11 < x10 then (if 0 ≤ x11 then (if x11 < (x9.length : Int) then ((fold_great.f (rd x9 x11)).bind fun t132 => (if t132 = true then (if x5 = true then (fold_Of.l0 k (wrap64 (x3 + 1)) x4 true x9 x10 (wrap64 (x11 + 1))) else (fold_Of.l0 k (wrap64 (x3 + 1)) x4 (x11 == 0) x9 x10 (wrap64 (x11 + 1)))) else ((fold_small.f (rd x9 x11)).bind fun t133 => (if t133 = true then (fold_Of.l0 k x3 (wrap64 (x4 + 1)) x5 x9 x10 (wrap64 (x11 + 1))) else (fold_Of.l0 k x3 x4 x5 x9 x10 (wrap64 (x11 + 1))))))) else (none)) else (none)) else (if x3 = 0 then (some 1) else (if x3 > 1 then (fold_Of.j1 k x3 x5 (x4 == 0)) else (fold_Of.j1 k x3 x5 false)))
def fold_Of.j1 : Nat → Int → Bool → Bool → Option (Int)
  | 0, _, _, _ => none
  | k + 1, x3, x5, x35 => if x35 = true then (some 3) else (if x3 = 1 then (if x5 = true then (some 2) else (some 0)) else (some 0))
end
def fold_Of.f (k : Nat) (a0 : ByteArray) : Option (Int) := (utf_Runes.f k a0).bind fun t128 => (fold_Of.l0 k 0 0 false t128 (t128.length : Int) 0)
theorem fold_Of.mono_l : ∀ k, (∀ y0 y1 y2 y3 y4 y5, LeO (fold_Of.l0 k y0 y1 y2 y3 y4 y5) (fold_Of.l0 (k + 1) y0 y1 y2 y3 y4 y5)) ∧ (∀ y0 y1 y2, LeO (fold_Of.j1 k y0 y1 y2) (fold_Of.j1 (k + 1) y0 y1 y2))
  | 0 => ⟨fun _ _ _ _ _ _ r h => by simp [fold_Of.l0] at h, fun _ _ _ r h => by simp [fold_Of.j1] at h⟩
  | k + 1 => by
    obtain ⟨ih0, ih1⟩ := fold_Of.mono_l k
    refine ⟨?_, ?_⟩
    · intro y0 y1 y2 y3 y4 y5
      unfold fold_Of.l0
      repeat' first
      | (with_reducible exact ih0 _ _ _ _ _ _)
      | (with_reducible exact ih1 _ _ _)
      | (with_reducible exact utf_Runes.mono _ _)
      | (with_reducible exact LeO.refl _)
      | (with_reducible exact LeO.none _)
      | (with_reducible refine LeO.ite ?_ ?_)
      | (with_reducible refine LeO.bind ?_ (fun _ => ?_))
      | exact ih0 _ _ _ _ _ _
      | exact ih1 _ _ _
      | exact utf_Runes.mono _ _
      | exact LeO.none _
      | refine LeO.ite ?_ ?_
      | refine LeO.bind ?_ (fun _ => ?_)
    · intro y0 y1 y2
      unfold fold_Of.j1
      repeat' first
      | (with_reducible exact ih0 _ _ _ _ _ _)
      | (with_reducible exact ih1 _ _ _)
      | (with_reducible exact utf_Runes.mono _ _)
      | (with_reducible exact LeO.refl _)
      | (with_reducible exact LeO.none _)
      | (with_reducible refine LeO.ite ?_ ?_)
      | (with_reducible refine LeO.bind ?_ (fun _ => ?_))
      | exact ih0 _ _ _ _ _ _
      | exact ih1 _ _ _
      | exact utf_Runes.mono _ _
      | exact LeO.none _
      | refine LeO.ite ?_ ?_
      | refine LeO.bind ?_ (fun _ => ?_)
theorem fold_Of.mono : ∀ a0 k, LeO (fold_Of.f k a0) (fold_Of.f (k + 1) a0) := by
  intro a0 k
  obtain ⟨ih0, ih1⟩ := fold_Of.mono_l k
  unfold fold_Of.f
  repeat' first
      | (with_reducible exact ih0 _ _ _ _ _ _)
      | (with_reducible exact ih1 _ _ _)
      | (with_reducible exact utf_Runes.mono _ _)
      | (with_reducible exact LeO.refl _)
      | (with_reducible exact LeO.none _)
      | (with_reducible refine LeO.ite ?_ ?_)
      | (with_reducible refine LeO.bind ?_ (fun _ => ?_))
      | exact ih0 _ _ _ _ _ _
      | exact ih1 _ _ _
      | exact utf_Runes.mono _ _
      | exact LeO.none _
      | refine LeO.ite ?_ ?_
      | refine LeO.bind ?_ (fun _ => ?_)
set_option maxHeartbeats 8000000 in
set_option maxRecDepth 100000 in
theorem fold_Of.calls (k : Nat) (a0 : ByteArray) (r : Int) (w : World) (h : fold_Of.f k a0 = some r) :
    Calls Try.prog 21 #[.string a0] w fun e w' => e = .returned (.int .u8 r) ∧ Below w.heap.size w w' := by
  have HB := Aside0.mk (Below.refl w.heap.size w)
  have H : ((utf_Runes.f k a0).bind fun t128 => (fold_Of.l0 k 0 0 false t128 (t128.length : Int) 0)) = some r := h
  clear h
  replace H := Option.bind_eq_some_iff.mp H
  obtain ⟨t128, A20, H⟩ := H
  replace H : (fold_Of.l0 k 0 0 false t128 (t128.length : Int) 0) = some r := H
  have A2 := Aside0.mk A20
  clear A20
  have H' := Aside0.mk H
  clear H
  go_enter Try.func21, Try.ntmps21
  go_wp2_with (first | ((with_reducible refine gate_callee (f := 33) rfl ?_); refine goesL_ (some 9) rfl rfl Try.func33 (by kernel_rfl) rfl #[.string a0] rfl (by (try simp only [List.map_toArray, List.map_cons, List.map_nil]); first | done | rfl | (simp only [List.length_drop, List.length_take]; rfl)) ?_; (with_reducible refine (utf_Runes.calls k a0 t128 _ A2.out).mono ?_); rintro e w3 ⟨v129, rfl, ho0, hb⟩; refine ⟨_, rfl, ?_⟩; have n0_ := Aside0.mk (Kd.R_lower ho0 (below_size (by repeat (first | (with_reducible first | exact HB.out | apply below_alloc | apply pw_below_drewN | apply below_drew1) | exact HB.out)))); have n1_ := Aside0.mk (below_step (by repeat (first | (with_reducible first | exact HB.out | apply below_alloc | apply pw_below_drewN | apply below_drew1) | exact HB.out)) hb); clear HB; have HO130 := n0_; have HB := n1_; clear n0_ n1_; (try clear hb); (try clear hb2); (try clear hk); (try clear hi); (try clear ho0); obtain ⟨Ao4, co4, eo4⟩ := Kd.R_slice HO130.out; subst eo4))
  go_loopg [3, 4, 5, 11] k (fun kq v3 v4 v5 v11 w' => ∃ (x3_1 : Int) (x4_1 : Int) (x5_1 : Bool) (x11_1 : Int), v3 = .int .i64 x3_1 ∧ v4 = .int .i64 x4_1 ∧ v5 = .bool x5_1 ∧ v11 = .int .i64 x11_1 ∧ Aside0 (fold_Of.l0 kq x3_1 x4_1 x5_1 t128 (t128.length : Int) x11_1 = some r) ∧ Aside0 (kq ≤ k) ∧ Aside0 (Kd.R (Kd.int .i32) 21 w' w.heap.size (fun _ => True) (.slice Ao4 t128.length co4) t128) ∧ Aside0 (Below w.heap.size w w'))
  case atStart => exact ⟨(0), (0), (false), (0), (by first | rfl | (simp; done) | (simp [*]; done)), (by first | rfl | (simp; done) | (simp [*]; done)), (by first | rfl | (simp; done) | (simp [*]; done)), (by first | rfl | (simp; done) | (simp [*]; done)), H', ⟨Nat.le_refl _⟩, ⟨by (with_reducible repeat (first | apply Kd.R_alloc | apply Kd.R_drewN | apply Kd.R_drew)); exact HO130.out⟩, ⟨by repeat (first | (with_reducible first | exact HB.out | apply below_alloc | apply pw_below_drewN | apply below_drew1) | exact HB.out)⟩⟩
  case round =>
    clear H'
    try clear c2
    try clear p2
    try clear c3
    obtain ⟨x3_1, x4_1, x5_1, x11_1, rfl, rfl, rfl, rfl, HA, HK1, HO_9, HB⟩ := hrel
    cases gk with
    | zero => exact absurd HA.out (by simp [fold_Of.l0])
    | succ k1 =>
      have H := HA.out
      clear HA
      simp only [fold_Of.l0] at H
      by_cases c5 : x11_1 < (t128.length : Int)
      · rw [if_pos c5] at H
        have c5b0 : decide (x11_1 < (t128.length : Int)) = true := decide_eq_true c5
        clear c5
        by_cases c6 : 0 ≤ x11_1
        · rw [if_pos c6] at H
          have c6b0 : decide (0 ≤ x11_1) = true := decide_eq_true c6
          clear c6
          by_cases c7 : x11_1 < (t128.length : Int)
          · rw [if_pos c7] at H
            have c7b0 : decide (x11_1 < (t128.length : Int)) = true := decide_eq_true c7
            clear c7
            replace H := Option.bind_eq_some_iff.mp H
            obtain ⟨t132, A80, H⟩ := H
            replace H : (if t132 = true then (if x5_1 = true then (fold_Of.l0 k1 (wrap64 (x3_1 + 1)) x4_1 true t128 (t128.length : Int) (wrap64 (x11_1 + 1))) else (fold_Of.l0 k1 (wrap64 (x3_1 + 1)) x4_1 (x11_1 == 0) t128 (t128.length : Int) (wrap64 (x11_1 + 1)))) else ((fold_small.f (rd t128 x11_1)).bind fun t133 => (if t133 = true then (fold_Of.l0 k1 x3_1 (wrap64 (x4_1 + 1)) x5_1 t128 (t128.length : Int) (wrap64 (x11_1 + 1))) else (fold_Of.l0 k1 x3_1 x4_1 x5_1 t128 (t128.length : Int) (wrap64 (x11_1 + 1)))))) = some r := H
            have A8 := Aside0.mk A80
            clear A80
            by_cases c9 : t132 = true
            · subst c9
              have H1 : (if x5_1 = true then (fold_Of.l0 k1 (wrap64 (x3_1 + 1)) x4_1 true t128 (t128.length : Int) (wrap64 (x11_1 + 1))) else (fold_Of.l0 k1 (wrap64 (x3_1 + 1)) x4_1 (x11_1 == 0) t128 (t128.length : Int) (wrap64 (x11_1 + 1)))) = some r := by rw [if_pos rfl] at H; exact H
              clear H
              have H := H1
              clear H1
              by_cases c10 : x5_1 = true
              · subst c10
                have H1 : (fold_Of.l0 k1 (wrap64 (x3_1 + 1)) x4_1 true t128 (t128.length : Int) (wrap64 (x11_1 + 1))) = some r := by rw [if_pos rfl] at H; exact H
                clear H
                have H := H1
                clear H1
                have H' := Aside0.mk H
                clear H
                have p131 : 0 ≤ (x11_1 : Int) := of_decide_eq_true (by first | (with_reducible assumption) | assumption)
                have q131 : x11_1 < (t128.length : Int) := of_decide_eq_true (by first | (with_reducible assumption) | assumption)
                obtain ⟨ad131, e131, hx131_0⟩ := Kd.at_int (Kd.R_reads' HO_9.out).2.2 x11_1 p131 q131
                cases e131
                replace p131 := eq_true p131
                replace q131 := eq_true q131
                go_wp2_with (first | ((with_reducible refine gate_callee (f := 35) rfl ?_); refine goesL_ (some 18) rfl rfl Try.func35 (by kernel_rfl) rfl #[.int .i32 (rd t128 x11_1)] rfl (by (try simp only [List.map_toArray, List.map_cons, List.map_nil]); first | done | rfl | (simp only [List.length_drop, List.length_take]; rfl)) ?_; (with_reducible refine (fold_great.calls (rd t128 x11_1) true _ A8.out).mono ?_); rintro e w' ⟨rfl, ⟨nd, rfl⟩⟩; refine ⟨_, rfl, ?_⟩))
                go_roundg k1
                case measure => have := HK1.out; omega
                case rel => exact ⟨(wrap64 (x3_1 + 1)), (x4_1), (true), (wrap64 (x11_1 + 1)), (by first | rfl | (simp; done) | (simp [*]; done)), (by first | rfl | (simp; done) | (simp [*]; done)), (by first | rfl | (simp; done) | (simp [*]; done)), (by first | rfl | (simp; done) | (simp [*]; done)), H', ⟨by have := HK1.out; omega⟩, ⟨by (with_reducible repeat (first | apply Kd.R_alloc | apply Kd.R_drewN | apply Kd.R_drew)); exact HO_9.out⟩, ⟨by repeat (first | (with_reducible first | exact HB.out | apply below_alloc | apply pw_below_drewN | apply below_drew1) | exact HB.out)⟩⟩
              · replace c10 := Bool.eq_false_iff.mpr c10
                subst c10
                have H1 : (fold_Of.l0 k1 (wrap64 (x3_1 + 1)) x4_1 (x11_1 == 0) t128 (t128.length : Int) (wrap64 (x11_1 + 1))) = some r := by rw [if_neg (show ¬ (false = true) by decide)] at H; exact H
                clear H
                have H := H1
                clear H1
                have H' := Aside0.mk H
                clear H
                have p131 : 0 ≤ (x11_1 : Int) := of_decide_eq_true (by first | (with_reducible assumption) | assumption)
                have q131 : x11_1 < (t128.length : Int) := of_decide_eq_true (by first | (with_reducible assumption) | assumption)
                obtain ⟨ad131, e131, hx131_0⟩ := Kd.at_int (Kd.R_reads' HO_9.out).2.2 x11_1 p131 q131
                cases e131
                replace p131 := eq_true p131
                replace q131 := eq_true q131
                go_wp2_with (first | ((with_reducible refine gate_callee (f := 35) rfl ?_); refine goesL_ (some 18) rfl rfl Try.func35 (by kernel_rfl) rfl #[.int .i32 (rd t128 x11_1)] rfl (by (try simp only [List.map_toArray, List.map_cons, List.map_nil]); first | done | rfl | (simp only [List.length_drop, List.length_take]; rfl)) ?_; (with_reducible refine (fold_great.calls (rd t128 x11_1) true _ A8.out).mono ?_); rintro e w' ⟨rfl, ⟨nd, rfl⟩⟩; refine ⟨_, rfl, ?_⟩))
                go_roundg k1
                case measure => have := HK1.out; omega
                case rel => exact ⟨(wrap64 (x3_1 + 1)), (x4_1), ((x11_1 == 0)), (wrap64 (x11_1 + 1)), (by first | rfl | (simp; done) | (simp [*]; done)), (by first | rfl | (simp; done) | (simp [*]; done)), (by first | rfl | (simp; done) | (simp [*]; done)), (by first | rfl | (simp; done) | (simp [*]; done)), H', ⟨by have := HK1.out; omega⟩, ⟨by (with_reducible repeat (first | apply Kd.R_alloc | apply Kd.R_drewN | apply Kd.R_drew)); exact HO_9.out⟩, ⟨by repeat (first | (with_reducible first | exact HB.out | apply below_alloc | apply pw_below_drewN | apply below_drew1) | exact HB.out)⟩⟩
            · replace c9 := Bool.eq_false_iff.mpr c9
              subst c9
              have H1 : ((fold_small.f (rd t128 x11_1)).bind fun t133 => (if t133 = true then (fold_Of.l0 k1 x3_1 (wrap64 (x4_1 + 1)) x5_1 t128 (t128.length : Int) (wrap64 (x11_1 + 1))) else (fold_Of.l0 k1 x3_1 x4_1 x5_1 t128 (t128.length : Int) (wrap64 (x11_1 + 1))))) = some r := by rw [if_neg (show ¬ (false = true) by decide)] at H; exact H
              clear H
              have H := H1
              clear H1
              replace H := Option.bind_eq_some_iff.mp H
              obtain ⟨t133, A110, H⟩ := H
              replace H : (if t133 = true then (fold_Of.l0 k1 x3_1 (wrap64 (x4_1 + 1)) x5_1 t128 (t128.length : Int) (wrap64 (x11_1 + 1))) else (fold_Of.l0 k1 x3_1 x4_1 x5_1 t128 (t128.length : Int) (wrap64 (x11_1 + 1)))) = some r := H
              have A11 := Aside0.mk A110
              clear A110
              by_cases c12 : t133 = true
              · subst c12
                have H1 : (fold_Of.l0 k1 x3_1 (wrap64 (x4_1 + 1)) x5_1 t128 (t128.length : Int) (wrap64 (x11_1 + 1))) = some r := by rw [if_pos rfl] at H; exact H
                clear H
                have H := H1
                clear H1
                have H' := Aside0.mk H
                clear H
                have p131 : 0 ≤ (x11_1 : Int) := of_decide_eq_true (by first | (with_reducible assumption) | assumption)
                have q131 : x11_1 < (t128.length : Int) := of_decide_eq_true (by first | (with_reducible assumption) | assumption)
                obtain ⟨ad131, e131, hx131_0⟩ := Kd.at_int (Kd.R_reads' HO_9.out).2.2 x11_1 p131 q131
                cases e131
                replace p131 := eq_true p131
                replace q131 := eq_true q131
                go_wp2_with (first | ((with_reducible refine gate_callee (f := 35) rfl ?_); refine goesL_ (some 18) rfl rfl Try.func35 (by kernel_rfl) rfl #[.int .i32 (rd t128 x11_1)] rfl (by (try simp only [List.map_toArray, List.map_cons, List.map_nil]); first | done | rfl | (simp only [List.length_drop, List.length_take]; rfl)) ?_; (with_reducible refine (fold_great.calls (rd t128 x11_1) false _ A8.out).mono ?_); rintro e w' ⟨rfl, ⟨nd, rfl⟩⟩; refine ⟨_, rfl, ?_⟩) | ((with_reducible refine gate_callee (f := 36) rfl ?_); refine goesL_ (some 28) rfl rfl Try.func36 (by kernel_rfl) rfl #[.int .i32 (rd t128 x11_1)] rfl (by (try simp only [List.map_toArray, List.map_cons, List.map_nil]); first | done | rfl | (simp only [List.length_drop, List.length_take]; rfl)) ?_; (with_reducible refine (fold_small.calls (rd t128 x11_1) true _ A11.out).mono ?_); rintro e w' ⟨rfl, ⟨nd, rfl⟩⟩; refine ⟨_, rfl, ?_⟩))
                go_roundg k1
                case measure => have := HK1.out; omega
                case rel => exact ⟨(x3_1), (wrap64 (x4_1 + 1)), (x5_1), (wrap64 (x11_1 + 1)), (by first | rfl | (simp; done) | (simp [*]; done)), (by first | rfl | (simp; done) | (simp [*]; done)), (by first | rfl | (simp; done) | (simp [*]; done)), (by first | rfl | (simp; done) | (simp [*]; done)), H', ⟨by have := HK1.out; omega⟩, ⟨by (with_reducible repeat (first | apply Kd.R_alloc | apply Kd.R_drewN | apply Kd.R_drew)); exact HO_9.out⟩, ⟨by repeat (first | (with_reducible first | exact HB.out | apply below_alloc | apply pw_below_drewN | apply below_drew1) | exact HB.out)⟩⟩
              · replace c12 := Bool.eq_false_iff.mpr c12
                subst c12
                have H1 : (fold_Of.l0 k1 x3_1 x4_1 x5_1 t128 (t128.length : Int) (wrap64 (x11_1 + 1))) = some r := by rw [if_neg (show ¬ (false = true) by decide)] at H; exact H
                clear H
                have H := H1
                clear H1
                have H' := Aside0.mk H
                clear H
                have p131 : 0 ≤ (x11_1 : Int) := of_decide_eq_true (by first | (with_reducible assumption) | assumption)
                have q131 : x11_1 < (t128.length : Int) := of_decide_eq_true (by first | (with_reducible assumption) | assumption)
                obtain ⟨ad131, e131, hx131_0⟩ := Kd.at_int (Kd.R_reads' HO_9.out).2.2 x11_1 p131 q131
                cases e131
                replace p131 := eq_true p131
                replace q131 := eq_true q131
                go_wp2_with (first | ((with_reducible refine gate_callee (f := 35) rfl ?_); refine goesL_ (some 18) rfl rfl Try.func35 (by kernel_rfl) rfl #[.int .i32 (rd t128 x11_1)] rfl (by (try simp only [List.map_toArray, List.map_cons, List.map_nil]); first | done | rfl | (simp only [List.length_drop, List.length_take]; rfl)) ?_; (with_reducible refine (fold_great.calls (rd t128 x11_1) false _ A8.out).mono ?_); rintro e w' ⟨rfl, ⟨nd, rfl⟩⟩; refine ⟨_, rfl, ?_⟩) | ((with_reducible refine gate_callee (f := 36) rfl ?_); refine goesL_ (some 28) rfl rfl Try.func36 (by kernel_rfl) rfl #[.int .i32 (rd t128 x11_1)] rfl (by (try simp only [List.map_toArray, List.map_cons, List.map_nil]); first | done | rfl | (simp only [List.length_drop, List.length_take]; rfl)) ?_; (with_reducible refine (fold_small.calls (rd t128 x11_1) false _ A11.out).mono ?_); rintro e w' ⟨rfl, ⟨nd, rfl⟩⟩; refine ⟨_, rfl, ?_⟩))
                go_roundg k1
                case measure => have := HK1.out; omega
                case rel => exact ⟨(x3_1), (x4_1), (x5_1), (wrap64 (x11_1 + 1)), (by first | rfl | (simp; done) | (simp [*]; done)), (by first | rfl | (simp; done) | (simp [*]; done)), (by first | rfl | (simp; done) | (simp [*]; done)), (by first | rfl | (simp; done) | (simp [*]; done)), H', ⟨by have := HK1.out; omega⟩, ⟨by (with_reducible repeat (first | apply Kd.R_alloc | apply Kd.R_drewN | apply Kd.R_drew)); exact HO_9.out⟩, ⟨by repeat (first | (with_reducible first | exact HB.out | apply below_alloc | apply pw_below_drewN | apply below_drew1) | exact HB.out)⟩⟩
          · rw [if_neg c7] at H
            exact absurd H (by simp)
        · rw [if_neg c6] at H
          exact absurd H (by simp)
      · rw [if_neg c5] at H
        have c5b0 : decide (x11_1 < (t128.length : Int)) = false := decide_eq_false c5
        clear c5
        by_cases c13 : x3_1 = 0
        · rw [if_pos c13] at H
          have c13b0 : (x3_1 == 0) = true := beq_iff_eq.mpr c13
          have c13b1 : (x3_1 != 0) = false := bne_eq_false_iff_eq.mpr c13
          clear c13
          obtain rfl := Option.some.inj H
          go_wp2
          go_ret
          exact ⟨by first | rfl | (simp [errW_none, errW_some] <;> rfl) | (simp [*, errW_none, errW_some] <;> rfl), by repeat (first | (with_reducible first | exact HB.out | apply below_alloc | apply pw_below_drewN | apply below_drew1) | exact HB.out)⟩
        · rw [if_neg c13] at H
          have c13b0 : (x3_1 == 0) = false := beq_eq_false_iff_ne.mpr c13
          have c13b1 : (x3_1 != 0) = true := bne_iff_ne.mpr c13
          have HC14 := Aside0.mk H
          clear H
          go_upto_region 13 with (fail)
          go_cut [35] (fun v35 wc => ∃ (kq : Nat) (x35_13 : Bool), v35 = .bool x35_13 ∧ Aside0 (fold_Of.j1 kq x3_1 x5_1 x35_13 = some r) ∧ Aside0 (kq ≤ k1) ∧ Aside0 (Below w.heap.size w wc))
          case first =>
            have H := HC14.out
            clear HC14
            by_cases c15 : x3_1 > 1
            · rw [if_pos c15] at H
              have c15b0 : decide (1 < x3_1) = true := decide_eq_true c15
              clear c15
              (first | rw [c15b0] | (simp only [i64_w, i32_w]; rw [c15b0]) | skip)
              have H' := Aside0.mk H
              clear H
              go_wp2
              go_meet
              case rel => exact ⟨_, ((x4_1 == 0)), (by first | rfl | (simp; done) | (simp [*]; done)), H', ⟨by have := HK1.out; first | omega | exact Nat.le_refl _⟩, ⟨by repeat (first | (with_reducible first | exact HB.out | apply below_alloc | apply pw_below_drewN | apply below_drew1) | exact HB.out)⟩⟩
            · rw [if_neg c15] at H
              have c15b0 : decide (1 < x3_1) = false := decide_eq_false c15
              clear c15
              (first | rw [c15b0] | (simp only [i64_w, i32_w]; rw [c15b0]) | skip)
              have H' := Aside0.mk H
              clear H
              go_wp2
              go_meet
              case rel => exact ⟨_, (false), (by first | rfl | (simp; done) | (simp [*]; done)), H', ⟨by have := HK1.out; first | omega | exact Nat.le_refl _⟩, ⟨by repeat (first | (with_reducible first | exact HB.out | apply below_alloc | apply pw_below_drewN | apply below_drew1) | exact HB.out)⟩⟩
          case rest =>
            clear HC14
            try clear c1
            try clear p1
            try clear q1
            try clear hx1
            try clear c2
            try clear p2
            try clear c3
            try clear c5
            try clear c5b0
            try clear c6
            try clear c6b0
            try clear p6
            try clear c7
            try clear c7b0
            try clear c9
            try clear c10
            try clear c12
            try clear c13
            try clear c13b0
            try clear c13b1
            try clear p13
            try clear q13
            try clear hx13
            try clear c15
            try clear c15b0
            try clear hx131_0
            try clear p131
            try clear p2
            try clear q131
            obtain ⟨kq, x35_13, rfl, HA, HJ13, HB⟩ := hcut
            cases kq with
            | zero => exact absurd HA.out (by simp [fold_Of.j1])
            | succ kj13 =>
              have H := HA.out
              clear HA
              simp only [fold_Of.j1] at H
              by_cases c16 : x35_13 = true
              · subst c16
                have H1 : (some 3) = some r := by rw [if_pos rfl] at H; exact H
                clear H
                have H := H1
                clear H1
                obtain rfl := Option.some.inj H
                go_wp2
                go_ret
                exact ⟨by first | rfl | (simp [errW_none, errW_some] <;> rfl) | (simp [*, errW_none, errW_some] <;> rfl), by repeat (first | (with_reducible first | exact HB.out | apply below_alloc | apply pw_below_drewN | apply below_drew1) | exact HB.out)⟩
              · replace c16 := Bool.eq_false_iff.mpr c16
                subst c16
                have H1 : (if x3_1 = 1 then (if x5_1 = true then (some 2) else (some 0)) else (some 0)) = some r := by rw [if_neg (show ¬ (false = true) by decide)] at H; exact H
                clear H
                have H := H1
                clear H1
                by_cases c17 : x3_1 = 1
                · rw [if_pos c17] at H
                  have c17b0 : (x3_1 == 1) = true := beq_iff_eq.mpr c17
                  have c17b1 : (x3_1 != 1) = false := bne_eq_false_iff_eq.mpr c17
                  clear c17
                  by_cases c18 : x5_1 = true
                  · subst c18
                    have H1 : (some 2) = some r := by rw [if_pos rfl] at H; exact H
                    clear H
                    have H := H1
                    clear H1
                    obtain rfl := Option.some.inj H
                    go_wp2
                    go_ret
                    exact ⟨by first | rfl | (simp [errW_none, errW_some] <;> rfl) | (simp [*, errW_none, errW_some] <;> rfl), by repeat (first | (with_reducible first | exact HB.out | apply below_alloc | apply pw_below_drewN | apply below_drew1) | exact HB.out)⟩
                  · replace c18 := Bool.eq_false_iff.mpr c18
                    subst c18
                    have H1 : (some 0) = some r := by rw [if_neg (show ¬ (false = true) by decide)] at H; exact H
                    clear H
                    have H := H1
                    clear H1
                    obtain rfl := Option.some.inj H
                    go_wp2
                    go_ret
                    exact ⟨by first | rfl | (simp [errW_none, errW_some] <;> rfl) | (simp [*, errW_none, errW_some] <;> rfl), by repeat (first | (with_reducible first | exact HB.out | apply below_alloc | apply pw_below_drewN | apply below_drew1) | exact HB.out)⟩
                · rw [if_neg c17] at H
                  have c17b0 : (x3_1 == 1) = false := beq_eq_false_iff_ne.mpr c17
                  have c17b1 : (x3_1 != 1) = true := bne_iff_ne.mpr c17
                  obtain rfl := Option.some.inj H
                  go_wp2
                  go_ret
                  exact ⟨by first | rfl | (simp [errW_none, errW_some] <;> rfl) | (simp [*, errW_none, errW_some] <;> rfl), by repeat (first | (with_reducible first | exact HB.out | apply below_alloc | apply pw_below_drewN | apply below_drew1) | exact HB.out)⟩

/-! ### fold_Up: function 17 -/
def fold_Up.f (a0 : Int) : Option (Int) := (fold_small.f a0).bind fun t134 => (if t134 = true then (some (wrap32 (a0 - 32))) else (some a0))
set_option maxHeartbeats 8000000 in
set_option maxRecDepth 100000 in
theorem fold_Up.calls (a0 : Int) (r : Int) (w : World) (h : fold_Up.f a0 = some r) :
    Calls Try.prog 17 #[.int .i32 a0] w fun e w' => e = .returned (.int .i32 r) ∧ Drawn0 w w' := by
  have H : ((fold_small.f a0).bind fun t134 => (if t134 = true then (some (wrap32 (a0 - 32))) else (some a0))) = some r := h
  clear h
  replace H := Option.bind_eq_some_iff.mp H
  obtain ⟨t134, A20, H⟩ := H
  replace H : (if t134 = true then (some (wrap32 (a0 - 32))) else (some a0)) = some r := H
  have A2 := Aside0.mk A20
  clear A20
  by_cases c3 : t134 = true
  · subst c3
    have H1 : (some (wrap32 (a0 - 32))) = some r := by rw [if_pos rfl] at H; exact H
    clear H
    have H := H1
    clear H1
    obtain rfl := Option.some.inj H
    go_enter Try.func17, Try.ntmps17
    go_wp2_with (first | ((with_reducible refine gate_callee (f := 36) rfl ?_); refine goesL_ (some 4) rfl rfl Try.func36 (by kernel_rfl) rfl #[.int .i32 a0] rfl (by (try simp only [List.map_toArray, List.map_cons, List.map_nil]); first | done | rfl | (simp only [List.length_drop, List.length_take]; rfl)) ?_; (with_reducible refine (fold_small.calls a0 true _ A2.out).mono ?_); rintro e w' ⟨rfl, ⟨nd, rfl⟩⟩; refine ⟨_, rfl, ?_⟩))
    go_ret
    exact ⟨by first | rfl | (simp; done) | (simp [*]; done), by repeat (first | exact Drawn0.refl _ | apply Drawn0.step)⟩
  · replace c3 := Bool.eq_false_iff.mpr c3
    subst c3
    have H1 : (some a0) = some r := by rw [if_neg (show ¬ (false = true) by decide)] at H; exact H
    clear H
    have H := H1
    clear H1
    obtain rfl := Option.some.inj H
    go_enter Try.func17, Try.ntmps17
    go_wp2_with (first | ((with_reducible refine gate_callee (f := 36) rfl ?_); refine goesL_ (some 4) rfl rfl Try.func36 (by kernel_rfl) rfl #[.int .i32 a0] rfl (by (try simp only [List.map_toArray, List.map_cons, List.map_nil]); first | done | rfl | (simp only [List.length_drop, List.length_take]; rfl)) ?_; (with_reducible refine (fold_small.calls a0 false _ A2.out).mono ?_); rintro e w' ⟨rfl, ⟨nd, rfl⟩⟩; refine ⟨_, rfl, ?_⟩))
    go_ret
    exact ⟨by first | rfl | (simp; done) | (simp [*]; done), by repeat (first | exact Drawn0.refl _ | apply Drawn0.step)⟩

/-! ### fold_Down: function 18 -/
def fold_Down.f (a0 : Int) : Option (Int) := (fold_great.f a0).bind fun t135 => (if t135 = true then (some (wrap32 (a0 + 32))) else (some a0))
set_option maxHeartbeats 8000000 in
set_option maxRecDepth 100000 in
theorem fold_Down.calls (a0 : Int) (r : Int) (w : World) (h : fold_Down.f a0 = some r) :
    Calls Try.prog 18 #[.int .i32 a0] w fun e w' => e = .returned (.int .i32 r) ∧ Drawn0 w w' := by
  have H : ((fold_great.f a0).bind fun t135 => (if t135 = true then (some (wrap32 (a0 + 32))) else (some a0))) = some r := h
  clear h
  replace H := Option.bind_eq_some_iff.mp H
  obtain ⟨t135, A20, H⟩ := H
  replace H : (if t135 = true then (some (wrap32 (a0 + 32))) else (some a0)) = some r := H
  have A2 := Aside0.mk A20
  clear A20
  by_cases c3 : t135 = true
  · subst c3
    have H1 : (some (wrap32 (a0 + 32))) = some r := by rw [if_pos rfl] at H; exact H
    clear H
    have H := H1
    clear H1
    obtain rfl := Option.some.inj H
    go_enter Try.func18, Try.ntmps18
    go_wp2_with (first | ((with_reducible refine gate_callee (f := 35) rfl ?_); refine goesL_ (some 4) rfl rfl Try.func35 (by kernel_rfl) rfl #[.int .i32 a0] rfl (by (try simp only [List.map_toArray, List.map_cons, List.map_nil]); first | done | rfl | (simp only [List.length_drop, List.length_take]; rfl)) ?_; (with_reducible refine (fold_great.calls a0 true _ A2.out).mono ?_); rintro e w' ⟨rfl, ⟨nd, rfl⟩⟩; refine ⟨_, rfl, ?_⟩))
    go_ret
    exact ⟨by first | rfl | (simp; done) | (simp [*]; done), by repeat (first | exact Drawn0.refl _ | apply Drawn0.step)⟩
  · replace c3 := Bool.eq_false_iff.mpr c3
    subst c3
    have H1 : (some a0) = some r := by rw [if_neg (show ¬ (false = true) by decide)] at H; exact H
    clear H
    have H := H1
    clear H1
    obtain rfl := Option.some.inj H
    go_enter Try.func18, Try.ntmps18
    go_wp2_with (first | ((with_reducible refine gate_callee (f := 35) rfl ?_); refine goesL_ (some 4) rfl rfl Try.func35 (by kernel_rfl) rfl #[.int .i32 a0] rfl (by (try simp only [List.map_toArray, List.map_cons, List.map_nil]); first | done | rfl | (simp only [List.length_drop, List.length_take]; rfl)) ?_; (with_reducible refine (fold_great.calls a0 false _ A2.out).mono ?_); rintro e w' ⟨rfl, ⟨nd, rfl⟩⟩; refine ⟨_, rfl, ?_⟩))
    go_ret
    exact ⟨by first | rfl | (simp; done) | (simp [*]; done), by repeat (first | exact Drawn0.refl _ | apply Drawn0.step)⟩

/-! ### utf_Put: function 37 -/
def utf_Put.j0 : Nat → Int → List Int → Bool → Option (List Int × Int)
  | 0, _, _, _ => none
  | k + 1, x1, x6, x27 => if x27 = true then (some (([] : List Int), 2)) else (if x1 < 128 then (if x6.length < 140737488355328 then (some ((x6 ++ [(x1) % 256]), 0)) else (none)) else (if x1 < 2048 then (if x6.length < 140737488355328 then ((some (x6 ++ [Go.bits .or .u8 192 ((x1 / 64) % 256)] : List Int)).bind fun y145 => (if y145.length < 140737488355328 then (some ((y145 ++ [Go.bits .or .u8 128 (Go.bits .and .u8 ((x1) % 256) 191)]), 0)) else (none))) else (none)) else (if x1 < 65536 then ((some (([Go.bits .or .u8 224 ((x1 / 4096) % 256), Go.bits .or .u8 128 (Go.bits .and .u8 ((x1 / 64) % 256) 191)] : List Int) : List Int)).bind fun y151 => (if x6.length + y151.length < 140737488355328 then ((some (x6 ++ y151 : List Int)).bind fun y154 => (if y154.length < 140737488355328 then (some ((y154 ++ [Go.bits .or .u8 128 (Go.bits .and .u8 ((x1) % 256) 191)]), 0)) else (none))) else (none))) else ((some (([Go.bits .or .u8 240 ((x1 / 262144) % 256), Go.bits .or .u8 128 (Go.bits .and .u8 ((x1 / 4096) % 256) 191), Go.bits .or .u8 128 (Go.bits .and .u8 ((x1 / 64) % 256) 191)] : List Int) : List Int)).bind fun y160 => (if x6.length + y160.length < 140737488355328 then ((some (x6 ++ y160 : List Int)).bind fun y163 => (if y163.length < 140737488355328 then (some ((y163 ++ [Go.bits .or .u8 128 (Go.bits .and .u8 ((x1) % 256) 191)]), 0)) else (none))) else (none))))))
def utf_Put.f (k : Nat) (l0 : List Int) (a1 : Int) : Option (List Int × Int) := (some (([] : List Int) : List Int)).bind fun y136 => (if y136.length + l0.length < 140737488355328 then ((some (y136 ++ l0 : List Int)).bind fun y139 => (if a1 < 0 then (utf_Put.j0 k a1 y139 true) else (if a1 > 1114111 then (utf_Put.j0 k a1 y139 true) else (if a1 ≥ 55296 then (utf_Put.j0 k a1 y139 (decide (a1 < 57344))) else (utf_Put.j0 k a1 y139 false))))) else (none))
theorem utf_Put.mono_l : ∀ k, (∀ y0 y1 y2, LeO (utf_Put.j0 k y0 y1 y2) (utf_Put.j0 (k + 1) y0 y1 y2))
  | 0 => fun _ _ _ r h => by simp [utf_Put.j0] at h
  | k + 1 => by
    have ih0 := utf_Put.mono_l k
    · intro y0 y1 y2
      unfold utf_Put.j0
      repeat' first
      | (with_reducible exact ih0 _ _ _)
      | (with_reducible exact LeO.refl _)
      | (with_reducible exact LeO.none _)
      | (with_reducible refine LeO.ite ?_ ?_)
      | (with_reducible refine LeO.bind ?_ (fun _ => ?_))
      | exact ih0 _ _ _
      | exact LeO.none _
      | refine LeO.ite ?_ ?_
      | refine LeO.bind ?_ (fun _ => ?_)
theorem utf_Put.mono : ∀ a0 a1 k, LeO (utf_Put.f k a0 a1) (utf_Put.f (k + 1) a0 a1) := by
  intro a0 a1 k
  have ih0 := utf_Put.mono_l k
  unfold utf_Put.f
  repeat' first
      | (with_reducible exact ih0 _ _ _)
      | (with_reducible exact LeO.refl _)
      | (with_reducible exact LeO.none _)
      | (with_reducible refine LeO.ite ?_ ?_)
      | (with_reducible refine LeO.bind ?_ (fun _ => ?_))
      | exact ih0 _ _ _
      | exact LeO.none _
      | refine LeO.ite ?_ ?_
      | refine LeO.bind ?_ (fun _ => ?_)
set_option maxHeartbeats 8000000 in
set_option maxRecDepth 100000 in
theorem utf_Put.calls (k : Nat) (A0 : Option Addr) (c0 : Nat) (l0 : List Int) (a1 : Int) (r1 : List Int) (r2 : Int) (w : World) (hr0 : Kd.C (Kd.int .u8) w A0 l0.length l0) (hc0 : l0.length ≤ c0) (h : utf_Put.f k l0 a1 = some (r1, r2)) :
    Calls Try.prog 37 #[.slice A0 l0.length c0, .int .i32 a1] w fun e w' => ∃ v0_ : Value, e = .returned (.tuple #[v0_, .int .i64 r2]) ∧ Kd.R (Kd.int .u8) 5 w' w.heap.size (fun _ => True) v0_ r1 ∧ Below w.heap.size w w' := by
  have HR0 := Aside0.mk hr0
  have HC0 := Aside0.mk hc0
  clear hr0 hc0
  have HB := Aside0.mk (Below.refl w.heap.size w)
  have H : ((some (([] : List Int) : List Int)).bind fun y136 => (if y136.length + l0.length < 140737488355328 then ((some (y136 ++ l0 : List Int)).bind fun y139 => (if a1 < 0 then (utf_Put.j0 k a1 y139 true) else (if a1 > 1114111 then (utf_Put.j0 k a1 y139 true) else (if a1 ≥ 55296 then (utf_Put.j0 k a1 y139 (decide (a1 < 57344))) else (utf_Put.j0 k a1 y139 false))))) else (none))) = some (r1, r2) := h
  clear h
  obtain ⟨y136, hy136⟩ : ∃ y_ : List Int, y_ = (([] : List Int)) := ⟨_, rfl⟩
  replace H : (if y136.length + l0.length < 140737488355328 then ((some (y136 ++ l0 : List Int)).bind fun y139 => (if a1 < 0 then (utf_Put.j0 k a1 y139 true) else (if a1 > 1114111 then (utf_Put.j0 k a1 y139 true) else (if a1 ≥ 55296 then (utf_Put.j0 k a1 y139 (decide (a1 < 57344))) else (utf_Put.j0 k a1 y139 false))))) else (none)) = some (r1, r2) := by first | (rw [hy136]; with_reducible exact H) | (have H2_ := (Option.bind_some _ _).symm.trans H; rw [hy136]; with_reducible exact H2_) | (have H2_ := (Option.bind_some _ _).symm.trans H; with_reducible exact H2_) | with_reducible exact H | (rw [hy136]; exact H) | exact H
  have Ny136 := Aside0.mk hy136
  clear hy136
  by_cases c3 : y136.length + l0.length < 140737488355328
  · rw [if_pos c3] at H
    have LMc3 := Aside0.mk c3
    clear c3
    obtain ⟨y139, hy139⟩ : ∃ y_ : List Int, y_ = (y136 ++ l0) := ⟨_, rfl⟩
    replace H : (if a1 < 0 then (utf_Put.j0 k a1 y139 true) else (if a1 > 1114111 then (utf_Put.j0 k a1 y139 true) else (if a1 ≥ 55296 then (utf_Put.j0 k a1 y139 (decide (a1 < 57344))) else (utf_Put.j0 k a1 y139 false)))) = some (r1, r2) := by first | (rw [hy139]; with_reducible exact H) | (have H2_ := (Option.bind_some _ _).symm.trans H; rw [hy139]; with_reducible exact H2_) | (have H2_ := (Option.bind_some _ _).symm.trans H; with_reducible exact H2_) | with_reducible exact H | (rw [hy139]; exact H) | exact H
    have Ny139 := Aside0.mk hy139
    clear hy139
    have HC4 := Aside0.mk H
    clear H
    go_enter Try.func37, Try.ntmps37
    go_upto_region 3 with (first | ((with_reducible refine gate_dst (N := 7) rfl ?_); refine Kd.R_lit (Kd.int .u8) _ 5 ?hg (N := 7) ?hd (xs := ([] : List Int)) (inner := []) (ok := fun _ => True) (okp := fun _ => True) ?hr ?hp (fun _ hk => hk) trivial (Below.refl _ _) (Nat.le_refl _) (by simp) ?_; (case hd => rfl); (case hg => rfl); (case hr => first | (go_simp; done) | (go_simp; rfl)); (case hp => exact (Reps.none _ _)); intro v137 w5 ho6 hb hg_ hnew_; clear hg_ hnew_; (first | rw [← Ny136.out] at ho6 | (simp only [Int.reduceToNat] at ho6; rw [← Ny136.out] at ho6)); have n0_ := Aside0.mk (Kd.R_lower ho6 (below_size (by repeat (first | (with_reducible first | exact HB.out | apply below_alloc | apply pw_below_drewN | apply below_drew1) | exact HB.out)))); have n1_ := Aside0.mk (below_step (by repeat (first | (with_reducible first | exact HB.out | apply below_alloc | apply pw_below_drewN | apply below_drew1) | exact HB.out)) hb); clear HB; have HO138 := n0_; have HB := n1_; clear n0_ n1_; clear hb ho6) | ((with_reducible refine gate_builtin (b := .append) (xs := #[.tmp 7, .tmp 8]) rfl ?_); at_builtin; refine Kd.R_append_rows (Kd.int .u8) (w0 := w) w.heap.size rfl (.tmp 7) (.tmp 8) 32 5 (.int .u8 0) 1 rfl Try.underlying32 info5 rfl (by decide) (by omega) v137 y136 l0 _ _ _ (fun _ => True) (fun _ => False) rfl rfl ?aO ?aR (fun _ _ h => h) (fun _ h => h.elim) ?aF ?aB ?aS ?aL ?_; (case aR => repeat (first | exact (Kd.C_below HR0.out HB.out) | (with_reducible refine Kd.C_alloc ?_ _) | (with_reducible refine Kd.C_drewN ?_ _) | (with_reducible refine Kd.C_drew ?_))); (case aB => exact (by repeat (first | (with_reducible first | exact HB.out | apply below_alloc | apply pw_below_drewN | apply below_drew1) | exact HB.out))); (case aF => exact (fun _ _ => trivial)); (case aO => exact (by (with_reducible repeat (first | apply Kd.R_alloc | apply Kd.R_drewN | apply Kd.R_drew)); exact HO138.out)); (case aS => exact (below_size (by repeat (first | (with_reducible first | exact HB.out | apply below_alloc | apply pw_below_drewN | apply below_drew1) | exact HB.out)))); (case aL => have := LMc3.out; omega); intro v140 w7 ho hb hg hat; rw [← Ny139.out] at ho; have n0_ := Aside0.mk (hb); have n1_ := Aside0.mk (ho); clear HB; clear HO138; have HB := n0_; have HO141 := n1_; clear n0_ n1_; clear ho hb hg hat))
    (try simp only [Act.put, List.setIfInBounds_toArray, List.set_cons_zero, List.set_cons_succ])
    go_cut [27] (fun v27 wc => ∃ (kq : Nat) (x27_3 : Bool), v27 = .bool x27_3 ∧ Aside0 (utf_Put.j0 kq a1 y139 x27_3 = some (r1, r2)) ∧ Aside0 (kq ≤ k) ∧ Aside0 (Kd.R (Kd.int .u8) 5 wc w.heap.size (fun _ => True) v140 y139) ∧ Aside0 (Below w.heap.size w wc))
    case first =>
      have H := HC4.out
      clear HC4
      by_cases c8 : a1 < 0
      · rw [if_pos c8] at H
        have c8b0 : decide (a1 < 0) = true := decide_eq_true c8
        clear c8
        (first | rw [c8b0] | (simp only [i64_w, i32_w]; rw [c8b0]) | skip)
        have H' := Aside0.mk H
        clear H
        go_wp2
        go_meet
        case rel => exact ⟨_, (true), (by first | rfl | (simp; done) | (simp [*]; done)), H', ⟨by first | omega | exact Nat.le_refl _⟩, ⟨by (with_reducible repeat (first | apply Kd.R_alloc | apply Kd.R_drewN | apply Kd.R_drew)); exact HO141.out⟩, ⟨by repeat (first | (with_reducible first | exact HB.out | apply below_alloc | apply pw_below_drewN | apply below_drew1) | exact HB.out)⟩⟩
      · rw [if_neg c8] at H
        have c8b0 : decide (a1 < 0) = false := decide_eq_false c8
        clear c8
        (first | rw [c8b0] | (simp only [i64_w, i32_w]; rw [c8b0]) | skip)
        by_cases c9 : a1 > 1114111
        · rw [if_pos c9] at H
          have c9b0 : decide (1114111 < a1) = true := decide_eq_true c9
          clear c9
          have H' := Aside0.mk H
          clear H
          go_wp2
          go_meet
          case rel => exact ⟨_, (true), (by first | rfl | (simp; done) | (simp [*]; done)), H', ⟨by first | omega | exact Nat.le_refl _⟩, ⟨by (with_reducible repeat (first | apply Kd.R_alloc | apply Kd.R_drewN | apply Kd.R_drew)); exact HO141.out⟩, ⟨by repeat (first | (with_reducible first | exact HB.out | apply below_alloc | apply pw_below_drewN | apply below_drew1) | exact HB.out)⟩⟩
        · rw [if_neg c9] at H
          have c9b0 : decide (1114111 < a1) = false := decide_eq_false c9
          clear c9
          by_cases c10 : a1 ≥ 55296
          · rw [if_pos c10] at H
            have c10b0 : decide (55296 ≤ a1) = true := decide_eq_true c10
            clear c10
            have H' := Aside0.mk H
            clear H
            go_wp2
            go_meet
            case rel => exact ⟨_, (decide (a1 < 57344)), (by first | rfl | (simp; done) | (simp [*]; done)), H', ⟨by first | omega | exact Nat.le_refl _⟩, ⟨by (with_reducible repeat (first | apply Kd.R_alloc | apply Kd.R_drewN | apply Kd.R_drew)); exact HO141.out⟩, ⟨by repeat (first | (with_reducible first | exact HB.out | apply below_alloc | apply pw_below_drewN | apply below_drew1) | exact HB.out)⟩⟩
          · rw [if_neg c10] at H
            have c10b0 : decide (55296 ≤ a1) = false := decide_eq_false c10
            clear c10
            have H' := Aside0.mk H
            clear H
            go_wp2
            go_meet
            case rel => exact ⟨_, (false), (by first | rfl | (simp; done) | (simp [*]; done)), H', ⟨by first | omega | exact Nat.le_refl _⟩, ⟨by (with_reducible repeat (first | apply Kd.R_alloc | apply Kd.R_drewN | apply Kd.R_drew)); exact HO141.out⟩, ⟨by repeat (first | (with_reducible first | exact HB.out | apply below_alloc | apply pw_below_drewN | apply below_drew1) | exact HB.out)⟩⟩
    case rest =>
      clear HC4
      try clear c1
      try clear p2
      try clear c3
      try clear c8
      try clear c8b0
      try clear c9
      try clear c9b0
      try clear c10
      try clear c10b0
      obtain ⟨kq, x27_3, rfl, HA, HJ3, HO_6, HB⟩ := hcut
      cases kq with
      | zero => exact absurd HA.out (by simp [utf_Put.j0])
      | succ kj3 =>
        have H := HA.out
        clear HA
        simp only [utf_Put.j0] at H
        by_cases c11 : x27_3 = true
        · subst c11
          have H1 : (some (([] : List Int), 2)) = some (r1, r2) := by rw [if_pos rfl] at H; exact H
          clear H
          have H := H1
          clear H1
          simp only [Option.some.injEq, Prod.mk.injEq] at H
          obtain ⟨rfl, rfl⟩ := H
          go_wp2
          go_ret2
          exact ⟨_, by first | rfl | (simp [errW_none, errW_some] <;> rfl) | (simp [*, errW_none, errW_some] <;> rfl), by first | exact Kd.R_nil _ _ _ _ _ | exact Kd.N_nil _ _ _ _ _ | exact Kd.V_nil _ _ _ _ _ | exact Kd.Q_nil _ _ _ _ _ | exact Kd.S_nil _ _ _ _ _, by repeat (first | (with_reducible first | exact HB.out | apply below_alloc | apply pw_below_drewN | apply below_drew1) | exact HB.out)⟩
        · replace c11 := Bool.eq_false_iff.mpr c11
          subst c11
          have H1 : (if a1 < 128 then (if y139.length < 140737488355328 then (some ((y139 ++ [(a1) % 256]), 0)) else (none)) else (if a1 < 2048 then (if y139.length < 140737488355328 then ((some (y139 ++ [Go.bits .or .u8 192 ((a1 / 64) % 256)] : List Int)).bind fun y145 => (if y145.length < 140737488355328 then (some ((y145 ++ [Go.bits .or .u8 128 (Go.bits .and .u8 ((a1) % 256) 191)]), 0)) else (none))) else (none)) else (if a1 < 65536 then ((some (([Go.bits .or .u8 224 ((a1 / 4096) % 256), Go.bits .or .u8 128 (Go.bits .and .u8 ((a1 / 64) % 256) 191)] : List Int) : List Int)).bind fun y151 => (if y139.length + y151.length < 140737488355328 then ((some (y139 ++ y151 : List Int)).bind fun y154 => (if y154.length < 140737488355328 then (some ((y154 ++ [Go.bits .or .u8 128 (Go.bits .and .u8 ((a1) % 256) 191)]), 0)) else (none))) else (none))) else ((some (([Go.bits .or .u8 240 ((a1 / 262144) % 256), Go.bits .or .u8 128 (Go.bits .and .u8 ((a1 / 4096) % 256) 191), Go.bits .or .u8 128 (Go.bits .and .u8 ((a1 / 64) % 256) 191)] : List Int) : List Int)).bind fun y160 => (if y139.length + y160.length < 140737488355328 then ((some (y139 ++ y160 : List Int)).bind fun y163 => (if y163.length < 140737488355328 then (some ((y163 ++ [Go.bits .or .u8 128 (Go.bits .and .u8 ((a1) % 256) 191)]), 0)) else (none))) else (none)))))) = some (r1, r2) := by rw [if_neg (show ¬ (false = true) by decide)] at H; exact H
          clear H
          have H := H1
          clear H1
          by_cases c12 : a1 < 128
          · rw [if_pos c12] at H
            have c12b0 : decide (a1 < 128) = true := decide_eq_true c12
            clear c12
            by_cases c13 : y139.length < 140737488355328
            · rw [if_pos c13] at H
              have LMc13 := Aside0.mk c13
              clear c13
              obtain ⟨y142, hy142⟩ : ∃ y_ : List Int, y_ = (y139 ++ [(a1) % 256]) := ⟨_, rfl⟩
              replace H : (some (y142, 0)) = some (r1, r2) := by first | (rw [hy142]; with_reducible exact H) | (have H2_ := (Option.bind_some _ _).symm.trans H; rw [hy142]; with_reducible exact H2_) | (have H2_ := (Option.bind_some _ _).symm.trans H; with_reducible exact H2_) | with_reducible exact H | (rw [hy142]; exact H) | exact H
              have Ny142 := Aside0.mk hy142
              clear hy142
              simp only [Option.some.injEq, Prod.mk.injEq] at H
              obtain ⟨rfl, rfl⟩ := H
              go_wp2_with (first | ((with_reducible refine gate_builtin (b := .append) (xs := #[.tmp 45, .tmp 48]) rfl ?_); at_builtin; refine Kd.R_append (Kd.int .u8) (w0 := w) w.heap.size rfl (.tmp 45) (.tmp 48) 32 5 (.int .u8 0) 1 rfl Try.underlying32 info5 rfl (by decide) (by omega) v140 y139 ((a1) % 256) [.int .u8 ((a1) % 256)] (fun _ => True) (fun _ => False) rfl rfl ?aP (fun _ hk => hk.elim) ?aF ?aO ?aB ?aS ?aL ?_; (case aP => exact rfl); (case aB => exact (by repeat (first | (with_reducible first | exact HB.out | apply below_alloc | apply pw_below_drewN | apply below_drew1) | exact HB.out))); (case aF => exact (fun _ _ => trivial)); (case aO => exact (by (with_reducible repeat (first | apply Kd.R_alloc | apply Kd.R_drewN | apply Kd.R_drew)); exact HO_6.out)); (case aS => exact (below_size (by repeat (first | (with_reducible first | exact HB.out | apply below_alloc | apply pw_below_drewN | apply below_drew1) | exact HB.out)))); (case aL => have := LMc13.out; omega); intro v143 w14 ho hb hg hat; rw [← Ny142.out] at ho; have n0_ := Aside0.mk (hb); have n1_ := Aside0.mk (ho); clear HB; clear HO_6; have HB := n0_; have HO144 := n1_; clear n0_ n1_; clear ho hb hg hat))
              go_ret2
              exact ⟨_, by first | rfl | (simp [errW_none, errW_some] <;> rfl) | (simp [*, errW_none, errW_some] <;> rfl), by (with_reducible repeat (first | apply Kd.R_alloc | apply Kd.R_drewN | apply Kd.R_drew)); exact HO144.out, by repeat (first | (with_reducible first | exact HB.out | apply below_alloc | apply pw_below_drewN | apply below_drew1) | exact HB.out)⟩
            · rw [if_neg c13] at H
              exact absurd H (by simp)
          · rw [if_neg c12] at H
            have c12b0 : decide (a1 < 128) = false := decide_eq_false c12
            clear c12
            by_cases c15 : a1 < 2048
            · rw [if_pos c15] at H
              have c15b0 : decide (a1 < 2048) = true := decide_eq_true c15
              clear c15
              by_cases c16 : y139.length < 140737488355328
              · rw [if_pos c16] at H
                have LMc16 := Aside0.mk c16
                clear c16
                obtain ⟨y145, hy145⟩ : ∃ y_ : List Int, y_ = (y139 ++ [Go.bits .or .u8 192 ((a1 / 64) % 256)]) := ⟨_, rfl⟩
                replace H : (if y145.length < 140737488355328 then (some ((y145 ++ [Go.bits .or .u8 128 (Go.bits .and .u8 ((a1) % 256) 191)]), 0)) else (none)) = some (r1, r2) := by first | (rw [hy145]; with_reducible exact H) | (have H2_ := (Option.bind_some _ _).symm.trans H; rw [hy145]; with_reducible exact H2_) | (have H2_ := (Option.bind_some _ _).symm.trans H; with_reducible exact H2_) | with_reducible exact H | (rw [hy145]; exact H) | exact H
                have Ny145 := Aside0.mk hy145
                clear hy145
                by_cases c17 : y145.length < 140737488355328
                · rw [if_pos c17] at H
                  have LMc17 := Aside0.mk c17
                  clear c17
                  obtain ⟨y148, hy148⟩ : ∃ y_ : List Int, y_ = (y145 ++ [Go.bits .or .u8 128 (Go.bits .and .u8 ((a1) % 256) 191)]) := ⟨_, rfl⟩
                  replace H : (some (y148, 0)) = some (r1, r2) := by first | (rw [hy148]; with_reducible exact H) | (have H2_ := (Option.bind_some _ _).symm.trans H; rw [hy148]; with_reducible exact H2_) | (have H2_ := (Option.bind_some _ _).symm.trans H; with_reducible exact H2_) | with_reducible exact H | (rw [hy148]; exact H) | exact H
                  have Ny148 := Aside0.mk hy148
                  clear hy148
                  simp only [Option.some.injEq, Prod.mk.injEq] at H
                  obtain ⟨rfl, rfl⟩ := H
                  go_wp2_with (first | ((with_reducible refine gate_builtin (b := .append) (xs := #[.tmp 53, .tmp 58]) rfl ?_); at_builtin; refine Kd.R_append (Kd.int .u8) (w0 := w) w.heap.size rfl (.tmp 53) (.tmp 58) 32 5 (.int .u8 0) 1 rfl Try.underlying32 info5 rfl (by decide) (by omega) v140 y139 (Go.bits .or .u8 192 ((a1 / 64) % 256)) [.int .u8 (Go.bits .or .u8 192 ((a1 / 64) % 256))] (fun _ => True) (fun _ => False) rfl rfl ?aP (fun _ hk => hk.elim) ?aF ?aO ?aB ?aS ?aL ?_; (case aP => exact rfl); (case aB => exact (by repeat (first | (with_reducible first | exact HB.out | apply below_alloc | apply pw_below_drewN | apply below_drew1) | exact HB.out))); (case aF => exact (fun _ _ => trivial)); (case aO => exact (by (with_reducible repeat (first | apply Kd.R_alloc | apply Kd.R_drewN | apply Kd.R_drew)); exact HO_6.out)); (case aS => exact (below_size (by repeat (first | (with_reducible first | exact HB.out | apply below_alloc | apply pw_below_drewN | apply below_drew1) | exact HB.out)))); (case aL => have := LMc16.out; omega); intro v146 w18 ho hb hg hat; rw [← Ny145.out] at ho; have n0_ := Aside0.mk (hb); have n1_ := Aside0.mk (ho); clear HB; clear HO_6; have HB := n0_; have HO147 := n1_; clear n0_ n1_; clear ho hb hg hat) | ((with_reducible refine gate_builtin (b := .append) (xs := #[.tmp 75, .tmp 80]) rfl ?_); at_builtin; refine Kd.R_append (Kd.int .u8) (w0 := w) w.heap.size rfl (.tmp 75) (.tmp 80) 32 5 (.int .u8 0) 1 rfl Try.underlying32 info5 rfl (by decide) (by omega) v146 y145 (Go.bits .or .u8 128 (Go.bits .and .u8 ((a1) % 256) 191)) [.int .u8 (Go.bits .or .u8 128 (Go.bits .and .u8 ((a1) % 256) 191))] (fun _ => True) (fun _ => False) rfl rfl ?aP (fun _ hk => hk.elim) ?aF ?aO ?aB ?aS ?aL ?_; (case aP => exact rfl); (case aB => exact (by repeat (first | (with_reducible first | exact HB.out | apply below_alloc | apply pw_below_drewN | apply below_drew1) | exact HB.out))); (case aF => exact (fun _ _ => trivial)); (case aO => exact (by (with_reducible repeat (first | apply Kd.R_alloc | apply Kd.R_drewN | apply Kd.R_drew)); exact HO147.out)); (case aS => exact (below_size (by repeat (first | (with_reducible first | exact HB.out | apply below_alloc | apply pw_below_drewN | apply below_drew1) | exact HB.out)))); (case aL => have := LMc17.out; omega); intro v149 w19 ho hb hg hat; rw [← Ny148.out] at ho; have n0_ := Aside0.mk (hb); have n1_ := Aside0.mk (ho); clear HB; clear HO147; have HB := n0_; have HO150 := n1_; clear n0_ n1_; clear ho hb hg hat))
                  go_ret2
                  exact ⟨_, by first | rfl | (simp [errW_none, errW_some] <;> rfl) | (simp [*, errW_none, errW_some] <;> rfl), by (with_reducible repeat (first | apply Kd.R_alloc | apply Kd.R_drewN | apply Kd.R_drew)); exact HO150.out, by repeat (first | (with_reducible first | exact HB.out | apply below_alloc | apply pw_below_drewN | apply below_drew1) | exact HB.out)⟩
                · rw [if_neg c17] at H
                  exact absurd H (by simp)
              · rw [if_neg c16] at H
                exact absurd H (by simp)
            · rw [if_neg c15] at H
              have c15b0 : decide (a1 < 2048) = false := decide_eq_false c15
              clear c15
              by_cases c20 : a1 < 65536
              · rw [if_pos c20] at H
                have c20b0 : decide (a1 < 65536) = true := decide_eq_true c20
                clear c20
                obtain ⟨y151, hy151⟩ : ∃ y_ : List Int, y_ = (([Go.bits .or .u8 224 ((a1 / 4096) % 256), Go.bits .or .u8 128 (Go.bits .and .u8 ((a1 / 64) % 256) 191)] : List Int)) := ⟨_, rfl⟩
                replace H : (if y139.length + y151.length < 140737488355328 then ((some (y139 ++ y151 : List Int)).bind fun y154 => (if y154.length < 140737488355328 then (some ((y154 ++ [Go.bits .or .u8 128 (Go.bits .and .u8 ((a1) % 256) 191)]), 0)) else (none))) else (none)) = some (r1, r2) := by first | (rw [hy151]; with_reducible exact H) | (have H2_ := (Option.bind_some _ _).symm.trans H; rw [hy151]; with_reducible exact H2_) | (have H2_ := (Option.bind_some _ _).symm.trans H; with_reducible exact H2_) | with_reducible exact H | (rw [hy151]; exact H) | exact H
                have Ny151 := Aside0.mk hy151
                clear hy151
                by_cases c21 : y139.length + y151.length < 140737488355328
                · rw [if_pos c21] at H
                  have LMc21 := Aside0.mk c21
                  clear c21
                  obtain ⟨y154, hy154⟩ : ∃ y_ : List Int, y_ = (y139 ++ y151) := ⟨_, rfl⟩
                  replace H : (if y154.length < 140737488355328 then (some ((y154 ++ [Go.bits .or .u8 128 (Go.bits .and .u8 ((a1) % 256) 191)]), 0)) else (none)) = some (r1, r2) := by first | (rw [hy154]; with_reducible exact H) | (have H2_ := (Option.bind_some _ _).symm.trans H; rw [hy154]; with_reducible exact H2_) | (have H2_ := (Option.bind_some _ _).symm.trans H; with_reducible exact H2_) | with_reducible exact H | (rw [hy154]; exact H) | exact H
                  have Ny154 := Aside0.mk hy154
                  clear hy154
                  by_cases c22 : y154.length < 140737488355328
                  · rw [if_pos c22] at H
                    have LMc22 := Aside0.mk c22
                    clear c22
                    obtain ⟨y157, hy157⟩ : ∃ y_ : List Int, y_ = (y154 ++ [Go.bits .or .u8 128 (Go.bits .and .u8 ((a1) % 256) 191)]) := ⟨_, rfl⟩
                    replace H : (some (y157, 0)) = some (r1, r2) := by first | (rw [hy157]; with_reducible exact H) | (have H2_ := (Option.bind_some _ _).symm.trans H; rw [hy157]; with_reducible exact H2_) | (have H2_ := (Option.bind_some _ _).symm.trans H; with_reducible exact H2_) | with_reducible exact H | (rw [hy157]; exact H) | exact H
                    have Ny157 := Aside0.mk hy157
                    clear hy157
                    simp only [Option.some.injEq, Prod.mk.injEq] at H
                    obtain ⟨rfl, rfl⟩ := H
                    go_wp2_with (first | ((with_reducible refine gate_dst (N := 73) rfl ?_); refine Kd.R_lit (Kd.int .u8) _ 5 ?hg (N := 73) ?hd (xs := ([Go.bits .or .u8 224 ((a1 / 4096) % 256), Go.bits .or .u8 128 (Go.bits .and .u8 ((a1 / 64) % 256) 191)] : List Int)) (inner := [.int .u8 (Go.bits .or .u8 224 ((a1 / 4096) % 256)), .int .u8 (Go.bits .or .u8 128 (Go.bits .and .u8 ((a1 / 64) % 256) 191))]) (ok := fun _ => True) (okp := fun _ => True) ?hr ?hp (fun _ hk => hk) trivial (Below.refl _ _) (Nat.le_refl _) (by simp) ?_; (case hd => rfl); (case hg => rfl); (case hr => first | (go_simp; done) | (go_simp; rfl)); (case hp => exact (Reps.one (show Kd.M (Kd.int .u8) _ _ _ (Go.bits .or .u8 224 ((a1 / 4096) % 256)) [.int .u8 (Go.bits .or .u8 224 ((a1 / 4096) % 256))] from rfl) (Reps.one (show Kd.M (Kd.int .u8) _ _ _ (Go.bits .or .u8 128 (Go.bits .and .u8 ((a1 / 64) % 256) 191)) [.int .u8 (Go.bits .or .u8 128 (Go.bits .and .u8 ((a1 / 64) % 256) 191))] from rfl) (Reps.none _ _)))); intro v152 w23 ho24 hb hg_ hnew_; clear hg_ hnew_; (first | rw [← Ny151.out] at ho24 | (simp only [Int.reduceToNat] at ho24; rw [← Ny151.out] at ho24)); have n0_ := Aside0.mk (Kd.R_elder' (by (with_reducible repeat (first | apply Kd.R_alloc | apply Kd.R_drewN | apply Kd.R_drew)); exact HO_6.out) (Kd.R_base ho24) hb); have n1_ := Aside0.mk (Kd.R_lower (Kd.R_new' ho24 (Kd.R_lt (by (with_reducible repeat (first | apply Kd.R_alloc | apply Kd.R_drewN | apply Kd.R_drew)); exact HO_6.out))) (below_size (by repeat (first | (with_reducible first | exact HB.out | apply below_alloc | apply pw_below_drewN | apply below_drew1) | exact HB.out)))); have n2_ := Aside0.mk (below_step (by repeat (first | (with_reducible first | exact HB.out | apply below_alloc | apply pw_below_drewN | apply below_drew1) | exact HB.out)) hb); clear HO_6; clear HB; have HO_6 := n0_; have HO153 := n1_; have HB := n2_; clear n0_ n1_ n2_; clear hb ho24; obtain ⟨Ao26, co26, eo26⟩ := Kd.R_slice HO153.out; subst eo26) | ((with_reducible refine gate_builtin (b := .append) (xs := #[.tmp 63, .tmp 73]) rfl ?_); at_builtin; refine Kd.R_append_rows (Kd.int .u8) (w0 := w) w.heap.size rfl (.tmp 63) (.tmp 73) 32 5 (.int .u8 0) 1 rfl Try.underlying32 info5 rfl (by decide) (by omega) v140 y139 y151 _ _ _ (fun k_ => some k_ ≠ (.slice Ao26 y151.length co26 : Value).ownBlock) (fun _ => False) rfl rfl ?aO ?aR (fun _ _ h => h) (fun _ h => h.elim) ?aF ?aB ?aS ?aL ?_; (case aR => repeat (first | exact (Kd.R_reads' HO153.out).2.2 | (with_reducible refine Kd.C_alloc ?_ _) | (with_reducible refine Kd.C_drewN ?_ _) | (with_reducible refine Kd.C_drew ?_))); (case aB => exact (by repeat (first | (with_reducible first | exact HB.out | apply below_alloc | apply pw_below_drewN | apply below_drew1) | exact HB.out))); (case aF => exact (fun k_ hk => Kd.fresh' (Kd.R_lt (by (with_reducible repeat (first | apply Kd.R_alloc | apply Kd.R_drewN | apply Kd.R_drew)); exact HO153.out)) k_ hk)); (case aO => exact (by (with_reducible repeat (first | apply Kd.R_alloc | apply Kd.R_drewN | apply Kd.R_drew)); exact Kd.R_mono HO_6.out (fun _ hk => hk.2))); (case aS => exact (below_size (by repeat (first | (with_reducible first | exact HB.out | apply below_alloc | apply pw_below_drewN | apply below_drew1) | exact HB.out)))); (case aL => have := LMc21.out; omega); intro v155 w25 ho hb hg hat; rw [← Ny154.out] at ho; have n0_ := Aside0.mk (Kd.R_after (ok := (fun _ => True)) (by (with_reducible repeat (first | apply Kd.R_alloc | apply Kd.R_drewN | apply Kd.R_drew)); exact HO153.out) hg hat); have n1_ := Aside0.mk (hb); have n2_ := Aside0.mk (ho); clear HO153; clear HB; clear HO_6; have HO153 := n0_; have HB := n1_; have HO156 := n2_; clear n0_ n1_ n2_; clear ho hb hg hat) | ((with_reducible refine gate_builtin (b := .append) (xs := #[.tmp 75, .tmp 80]) rfl ?_); at_builtin; refine Kd.R_append (Kd.int .u8) (w0 := w) w.heap.size rfl (.tmp 75) (.tmp 80) 32 5 (.int .u8 0) 1 rfl Try.underlying32 info5 rfl (by decide) (by omega) v155 y154 (Go.bits .or .u8 128 (Go.bits .and .u8 ((a1) % 256) 191)) [.int .u8 (Go.bits .or .u8 128 (Go.bits .and .u8 ((a1) % 256) 191))] (fun k_ => some k_ ≠ (.slice Ao26 y151.length co26 : Value).ownBlock) (fun _ => False) rfl rfl ?aP (fun _ hk => hk.elim) ?aF ?aO ?aB ?aS ?aL ?_; (case aP => exact rfl); (case aB => exact (by repeat (first | (with_reducible first | exact HB.out | apply below_alloc | apply pw_below_drewN | apply below_drew1) | exact HB.out))); (case aF => exact (fun k_ hk => Kd.fresh' (Kd.R_lt (by (with_reducible repeat (first | apply Kd.R_alloc | apply Kd.R_drewN | apply Kd.R_drew)); exact HO153.out)) k_ hk)); (case aO => exact (by (with_reducible repeat (first | apply Kd.R_alloc | apply Kd.R_drewN | apply Kd.R_drew)); exact HO156.out)); (case aS => exact (below_size (by repeat (first | (with_reducible first | exact HB.out | apply below_alloc | apply pw_below_drewN | apply below_drew1) | exact HB.out)))); (case aL => have := LMc22.out; omega); intro v158 w27 ho hb hg hat; rw [← Ny157.out] at ho; have n0_ := Aside0.mk (Kd.R_after (ok := (fun _ => True)) (by (with_reducible repeat (first | apply Kd.R_alloc | apply Kd.R_drewN | apply Kd.R_drew)); exact HO153.out) hg hat); have n1_ := Aside0.mk (hb); have n2_ := Aside0.mk (ho); clear HO153; clear HB; clear HO156; have HO153 := n0_; have HB := n1_; have HO159 := n2_; clear n0_ n1_ n2_; clear ho hb hg hat))
                    go_ret2
                    exact ⟨_, by first | rfl | (simp [errW_none, errW_some] <;> rfl) | (simp [*, errW_none, errW_some] <;> rfl), by (with_reducible repeat (first | apply Kd.R_alloc | apply Kd.R_drewN | apply Kd.R_drew)); exact Kd.R_mono HO159.out (fun _ hk => trivial), by repeat (first | (with_reducible first | exact HB.out | apply below_alloc | apply pw_below_drewN | apply below_drew1) | exact HB.out)⟩
                  · rw [if_neg c22] at H
                    exact absurd H (by simp)
                · rw [if_neg c21] at H
                  exact absurd H (by simp)
              · rw [if_neg c20] at H
                have c20b0 : decide (a1 < 65536) = false := decide_eq_false c20
                clear c20
                obtain ⟨y160, hy160⟩ : ∃ y_ : List Int, y_ = (([Go.bits .or .u8 240 ((a1 / 262144) % 256), Go.bits .or .u8 128 (Go.bits .and .u8 ((a1 / 4096) % 256) 191), Go.bits .or .u8 128 (Go.bits .and .u8 ((a1 / 64) % 256) 191)] : List Int)) := ⟨_, rfl⟩
                replace H : (if y139.length + y160.length < 140737488355328 then ((some (y139 ++ y160 : List Int)).bind fun y163 => (if y163.length < 140737488355328 then (some ((y163 ++ [Go.bits .or .u8 128 (Go.bits .and .u8 ((a1) % 256) 191)]), 0)) else (none))) else (none)) = some (r1, r2) := by first | (rw [hy160]; with_reducible exact H) | (have H2_ := (Option.bind_some _ _).symm.trans H; rw [hy160]; with_reducible exact H2_) | (have H2_ := (Option.bind_some _ _).symm.trans H; with_reducible exact H2_) | with_reducible exact H | (rw [hy160]; exact H) | exact H
                have Ny160 := Aside0.mk hy160
                clear hy160
                by_cases c28 : y139.length + y160.length < 140737488355328
                · rw [if_pos c28] at H
                  have LMc28 := Aside0.mk c28
                  clear c28
                  obtain ⟨y163, hy163⟩ : ∃ y_ : List Int, y_ = (y139 ++ y160) := ⟨_, rfl⟩
                  replace H : (if y163.length < 140737488355328 then (some ((y163 ++ [Go.bits .or .u8 128 (Go.bits .and .u8 ((a1) % 256) 191)]), 0)) else (none)) = some (r1, r2) := by first | (rw [hy163]; with_reducible exact H) | (have H2_ := (Option.bind_some _ _).symm.trans H; rw [hy163]; with_reducible exact H2_) | (have H2_ := (Option.bind_some _ _).symm.trans H; with_reducible exact H2_) | with_reducible exact H | (rw [hy163]; exact H) | exact H
                  have Ny163 := Aside0.mk hy163
                  clear hy163
                  by_cases c29 : y163.length < 140737488355328
                  · rw [if_pos c29] at H
                    have LMc29 := Aside0.mk c29
                    clear c29
                    obtain ⟨y166, hy166⟩ : ∃ y_ : List Int, y_ = (y163 ++ [Go.bits .or .u8 128 (Go.bits .and .u8 ((a1) % 256) 191)]) := ⟨_, rfl⟩
                    replace H : (some (y166, 0)) = some (r1, r2) := by first | (rw [hy166]; with_reducible exact H) | (have H2_ := (Option.bind_some _ _).symm.trans H; rw [hy166]; with_reducible exact H2_) | (have H2_ := (Option.bind_some _ _).symm.trans H; with_reducible exact H2_) | with_reducible exact H | (rw [hy166]; exact H) | exact H
                    have Ny166 := Aside0.mk hy166
                    clear hy166
                    simp only [Option.some.injEq, Prod.mk.injEq] at H
                    obtain ⟨rfl, rfl⟩ := H
                    go_wp2_with (first | ((with_reducible refine gate_dst (N := 25) rfl ?_); refine Kd.R_lit (Kd.int .u8) _ 5 ?hg (N := 25) ?hd (xs := ([Go.bits .or .u8 240 ((a1 / 262144) % 256), Go.bits .or .u8 128 (Go.bits .and .u8 ((a1 / 4096) % 256) 191), Go.bits .or .u8 128 (Go.bits .and .u8 ((a1 / 64) % 256) 191)] : List Int)) (inner := [.int .u8 (Go.bits .or .u8 240 ((a1 / 262144) % 256)), .int .u8 (Go.bits .or .u8 128 (Go.bits .and .u8 ((a1 / 4096) % 256) 191)), .int .u8 (Go.bits .or .u8 128 (Go.bits .and .u8 ((a1 / 64) % 256) 191))]) (ok := fun _ => True) (okp := fun _ => True) ?hr ?hp (fun _ hk => hk) trivial (Below.refl _ _) (Nat.le_refl _) (by simp) ?_; (case hd => rfl); (case hg => rfl); (case hr => first | (go_simp; done) | (go_simp; rfl)); (case hp => exact (Reps.one (show Kd.M (Kd.int .u8) _ _ _ (Go.bits .or .u8 240 ((a1 / 262144) % 256)) [.int .u8 (Go.bits .or .u8 240 ((a1 / 262144) % 256))] from rfl) (Reps.one (show Kd.M (Kd.int .u8) _ _ _ (Go.bits .or .u8 128 (Go.bits .and .u8 ((a1 / 4096) % 256) 191)) [.int .u8 (Go.bits .or .u8 128 (Go.bits .and .u8 ((a1 / 4096) % 256) 191))] from rfl) (Reps.one (show Kd.M (Kd.int .u8) _ _ _ (Go.bits .or .u8 128 (Go.bits .and .u8 ((a1 / 64) % 256) 191)) [.int .u8 (Go.bits .or .u8 128 (Go.bits .and .u8 ((a1 / 64) % 256) 191))] from rfl) (Reps.none _ _))))); intro v161 w30 ho31 hb hg_ hnew_; clear hg_ hnew_; (first | rw [← Ny160.out] at ho31 | (simp only [Int.reduceToNat] at ho31; rw [← Ny160.out] at ho31)); have n0_ := Aside0.mk (Kd.R_elder' (by (with_reducible repeat (first | apply Kd.R_alloc | apply Kd.R_drewN | apply Kd.R_drew)); exact HO_6.out) (Kd.R_base ho31) hb); have n1_ := Aside0.mk (Kd.R_lower (Kd.R_new' ho31 (Kd.R_lt (by (with_reducible repeat (first | apply Kd.R_alloc | apply Kd.R_drewN | apply Kd.R_drew)); exact HO_6.out))) (below_size (by repeat (first | (with_reducible first | exact HB.out | apply below_alloc | apply pw_below_drewN | apply below_drew1) | exact HB.out)))); have n2_ := Aside0.mk (below_step (by repeat (first | (with_reducible first | exact HB.out | apply below_alloc | apply pw_below_drewN | apply below_drew1) | exact HB.out)) hb); clear HO_6; clear HB; have HO_6 := n0_; have HO162 := n1_; have HB := n2_; clear n0_ n1_ n2_; clear hb ho31; obtain ⟨Ao33, co33, eo33⟩ := Kd.R_slice HO162.out; subst eo33) | ((with_reducible refine gate_builtin (b := .append) (xs := #[.tmp 10, .tmp 25]) rfl ?_); at_builtin; refine Kd.R_append_rows (Kd.int .u8) (w0 := w) w.heap.size rfl (.tmp 10) (.tmp 25) 32 5 (.int .u8 0) 1 rfl Try.underlying32 info5 rfl (by decide) (by omega) v140 y139 y160 _ _ _ (fun k_ => some k_ ≠ (.slice Ao33 y160.length co33 : Value).ownBlock) (fun _ => False) rfl rfl ?aO ?aR (fun _ _ h => h) (fun _ h => h.elim) ?aF ?aB ?aS ?aL ?_; (case aR => repeat (first | exact (Kd.R_reads' HO162.out).2.2 | (with_reducible refine Kd.C_alloc ?_ _) | (with_reducible refine Kd.C_drewN ?_ _) | (with_reducible refine Kd.C_drew ?_))); (case aB => exact (by repeat (first | (with_reducible first | exact HB.out | apply below_alloc | apply pw_below_drewN | apply below_drew1) | exact HB.out))); (case aF => exact (fun k_ hk => Kd.fresh' (Kd.R_lt (by (with_reducible repeat (first | apply Kd.R_alloc | apply Kd.R_drewN | apply Kd.R_drew)); exact HO162.out)) k_ hk)); (case aO => exact (by (with_reducible repeat (first | apply Kd.R_alloc | apply Kd.R_drewN | apply Kd.R_drew)); exact Kd.R_mono HO_6.out (fun _ hk => hk.2))); (case aS => exact (below_size (by repeat (first | (with_reducible first | exact HB.out | apply below_alloc | apply pw_below_drewN | apply below_drew1) | exact HB.out)))); (case aL => have := LMc28.out; omega); intro v164 w32 ho hb hg hat; rw [← Ny163.out] at ho; have n0_ := Aside0.mk (Kd.R_after (ok := (fun _ => True)) (by (with_reducible repeat (first | apply Kd.R_alloc | apply Kd.R_drewN | apply Kd.R_drew)); exact HO162.out) hg hat); have n1_ := Aside0.mk (hb); have n2_ := Aside0.mk (ho); clear HO162; clear HB; clear HO_6; have HO162 := n0_; have HB := n1_; have HO165 := n2_; clear n0_ n1_ n2_; clear ho hb hg hat) | ((with_reducible refine gate_builtin (b := .append) (xs := #[.tmp 75, .tmp 80]) rfl ?_); at_builtin; refine Kd.R_append (Kd.int .u8) (w0 := w) w.heap.size rfl (.tmp 75) (.tmp 80) 32 5 (.int .u8 0) 1 rfl Try.underlying32 info5 rfl (by decide) (by omega) v164 y163 (Go.bits .or .u8 128 (Go.bits .and .u8 ((a1) % 256) 191)) [.int .u8 (Go.bits .or .u8 128 (Go.bits .and .u8 ((a1) % 256) 191))] (fun k_ => some k_ ≠ (.slice Ao33 y160.length co33 : Value).ownBlock) (fun _ => False) rfl rfl ?aP (fun _ hk => hk.elim) ?aF ?aO ?aB ?aS ?aL ?_; (case aP => exact rfl); (case aB => exact (by repeat (first | (with_reducible first | exact HB.out | apply below_alloc | apply pw_below_drewN | apply below_drew1) | exact HB.out))); (case aF => exact (fun k_ hk => Kd.fresh' (Kd.R_lt (by (with_reducible repeat (first | apply Kd.R_alloc | apply Kd.R_drewN | apply Kd.R_drew)); exact HO162.out)) k_ hk)); (case aO => exact (by (with_reducible repeat (first | apply Kd.R_alloc | apply Kd.R_drewN | apply Kd.R_drew)); exact HO165.out)); (case aS => exact (below_size (by repeat (first | (with_reducible first | exact HB.out | apply below_alloc | apply pw_below_drewN | apply below_drew1) | exact HB.out)))); (case aL => have := LMc29.out; omega); intro v167 w34 ho hb hg hat; rw [← Ny166.out] at ho; have n0_ := Aside0.mk (Kd.R_after (ok := (fun _ => True)) (by (with_reducible repeat (first | apply Kd.R_alloc | apply Kd.R_drewN | apply Kd.R_drew)); exact HO162.out) hg hat); have n1_ := Aside0.mk (hb); have n2_ := Aside0.mk (ho); clear HO162; clear HB; clear HO165; have HO162 := n0_; have HB := n1_; have HO168 := n2_; clear n0_ n1_ n2_; clear ho hb hg hat))
                    go_ret2
                    exact ⟨_, by first | rfl | (simp [errW_none, errW_some] <;> rfl) | (simp [*, errW_none, errW_some] <;> rfl), by (with_reducible repeat (first | apply Kd.R_alloc | apply Kd.R_drewN | apply Kd.R_drew)); exact Kd.R_mono HO168.out (fun _ hk => trivial), by repeat (first | (with_reducible first | exact HB.out | apply below_alloc | apply pw_below_drewN | apply below_drew1) | exact HB.out)⟩
                  · rw [if_neg c29] at H
                    exact absurd H (by simp)
                · rw [if_neg c28] at H
                  exact absurd H (by simp)
  · rw [if_neg c3] at H
    exact absurd H (by simp)

end Go.Proofs.Ytmnohlmdckcdeaa.PFoldTwice
