-- Laid by a program of ours (the kit's print with words and contracts of our own beside it).
import Derived.Test.YtekalnhackjldaaDoorPDecodeBackx0
namespace Go.Proofs.YtekalnhackjldaaDoor.PDecodeBack
open Go.RowKit Go.Proofs.YtekalnhackjldaaDoor.X Go.Proofs.YtekalnhackjldaaDoorW.PrintWords Go.Proofs.YtekalnhackjldaaDoorW.PrintLast Go.Proofs.YtekalnhackjldaaDoorW.PrintMore
attribute [local go_sem] max2_int min2_int max_two min_two max_three min_three max_four min_four   -- for this text's walks alone
set_option linter.unusedVariables false
set_option linter.unusedSimpArgs false

/-! ### decode_Entity: function 12 -/
def decode_Entity.f (l0 : List Int) : Option (Int × Int × Bool) := some (Go.Proofs.YtekalnhackjldaaDoor.H.entF l0)
theorem decode_Entity.calls (A0 : Option Addr) (c0 : Nat) (l0 : List Int) (r1 : Int) (r2 : Int) (r3 : Bool) (w : World) (hr0 : Kd.C (Kd.int .u8) w A0 l0.length l0) (hc0 : l0.length ≤ c0) (h : decode_Entity.f l0 = some (r1, r2, r3)) (hL : Go.Proofs.YtekalnhackjldaaDoor.H.Laid w) :
    Calls Tryd.prog 12 #[.slice A0 l0.length c0] w fun e w' => e = .returned (.tuple #[.int .i32 r1, .int .i64 r2, .bool r3]) ∧ Below w.heap.size w w' := by
  have h1 : Go.Proofs.YtekalnhackjldaaDoor.H.entF l0 = (r1, r2, r3) := Option.some.inj h
  have h2 := Go.Proofs.YtekalnhackjldaaDoor.H.ent_at A0 c0 l0 w hr0 hc0 hL
  rw [h1] at h2
  exact h2

/-! ### decode_valid: function 34 -/
def decode_valid.f (a0 : Int) : Option (Bool) := if a0 > 0 then (if a0 ≤ 1114111 then (if a0 ≥ 55296 then (some (!(decide (a0 < 57344)))) else (some (!false))) else (some false)) else (some false)
set_option maxHeartbeats 8000000 in
set_option maxRecDepth 100000 in
theorem decode_valid.calls (a0 : Int) (r : Bool) (w : World) (h : decode_valid.f a0 = some r) :
  Calls Tryd.prog 34 #[.int .u64 a0] w fun e w' => e = .returned (.bool r) ∧ Drawn0 w w' := by
 have H : (if a0 > 0 then (if a0 ≤ 1114111 then (if a0 ≥ 55296 then (some (!(decide (a0 < 57344)))) else (some (!false))) else (some false)) else (some false)) = some r := h
 clear h
 by_cases c2 : a0 > 0
 ·rw [if_pos c2] at H
  have c2b0 : decide (0 < a0) = true := decide_eq_true c2
  clear c2
  by_cases c3 : a0 ≤ 1114111
  ·rw [if_pos c3] at H
   have c3b0 : decide (a0 ≤ 1114111) = true := decide_eq_true c3
   clear c3
   by_cases c4 : a0 ≥ 55296
   ·rw [if_pos c4] at H
    have c4b0 : decide (55296 ≤ a0) = true := decide_eq_true c4
    clear c4
    obtain rfl := Option.some.inj H
    go_enter Tryd.func34, Tryd.ntmps34
    go_wp2
    go_ret
    exact ⟨by first | rfl | (simp; done) | (simp [*]; done) | (simp [wrap64, wrap32]; done), by repeat (first | exact Drawn0.refl _ | apply Drawn0.step)⟩
   ·rw [if_neg c4] at H
    have c4b0 : decide (55296 ≤ a0) = false := decide_eq_false c4
    clear c4
    obtain rfl := Option.some.inj H
    go_enter Tryd.func34, Tryd.ntmps34
    go_wp2
    go_ret
    exact ⟨by first | rfl | (simp; done) | (simp [*]; done) | (simp [wrap64, wrap32]; done), by repeat (first | exact Drawn0.refl _ | apply Drawn0.step)⟩
  ·rw [if_neg c3] at H
   have c3b0 : decide (a0 ≤ 1114111) = false := decide_eq_false c3
   clear c3
   obtain rfl := Option.some.inj H
   go_enter Tryd.func34, Tryd.ntmps34
   go_wp2
   go_ret
   exact ⟨by first | rfl | (simp; done) | (simp [*]; done) | (simp [wrap64, wrap32]; done), by repeat (first | exact Drawn0.refl _ | apply Drawn0.step)⟩
 ·rw [if_neg c2] at H
  have c2b0 : decide (0 < a0) = false := decide_eq_false c2
  clear c2
  obtain rfl := Option.some.inj H
  go_enter Tryd.func34, Tryd.ntmps34
  go_wp2
  go_ret
  exact ⟨by first | rfl | (simp; done) | (simp [*]; done) | (simp [wrap64, wrap32]; done), by repeat (first | exact Drawn0.refl _ | apply Drawn0.step)⟩

/-! ### decode_digits: function 37 -/
mutual
def decode_digits.l0 : Nat → Int → List Int → Int → Int → Option (Int × Bool)
 | 0, _, _, _, _ => none
 | k + 1, x6, x15, x16, x17 => if x17 < x16 then (if 0 ≤ x17 then (if x17 < (x15.length : Int) then (if (rd x15 x17) ≥ 48 then (decode_digits.j1 k x6 (rd x15 x17) x15 x16 x17 (decide ((rd x15 x17) ≤ 57))) else (decode_digits.j1 k x6 (rd x15 x17) x15 x16 x17 false)) else (none)) else (none)) else (some (x6, true))
def decode_digits.j1 : Nat → Int → Int → List Int → Int → Int → Bool → Option (Int × Bool)
 | 0, _, _, _, _, _, _ => none
 | k + 1, x6, x8, x15, x16, x17, x21 => if x21 = true then (decode_digits.l0 k (Go.bits .or .u64 (IntKind.u64.wrap (x6 * 16)) ((x8 - 48) % 256)) x15 x16 (wrap64 (x17 + 1))) else (if x8 ≥ 97 then (decode_digits.j2 k x6 x8 x15 x16 x17 (decide (x8 ≤ 102))) else (decode_digits.j2 k x6 x8 x15 x16 x17 false))
def decode_digits.j2 : Nat → Int → Int → List Int → Int → Int → Bool → Option (Int × Bool)
 | 0, _, _, _, _, _, _ => none
 | k + 1, x6, x8, x15, x16, x17, x34 => if x34 = true then (decode_digits.l0 k (Go.bits .or .u64 (IntKind.u64.wrap (x6 * 16)) ((((x8 - 97) % 256) + 10) % 256)) x15 x16 (wrap64 (x17 + 1))) else (if x8 ≥ 65 then (if x8 ≤ 70 then (decode_digits.l0 k (Go.bits .or .u64 (IntKind.u64.wrap (x6 * 16)) ((((x8 - 65) % 256) + 10) % 256)) x15 x16 (wrap64 (x17 + 1))) else (some (0, false))) else (some (0, false)))
end
def decode_digits.f (k : Nat) (l0 : List Int) (a1 : Int) : Option (Int × Bool) := if (l0.length : Int) < a1 then (some (0, false)) else (if 0 ≤ a1 then (if a1 ≤ (l0.length : Int) then ((some (l0.take (a1 : Int).toNat : List Int)).bind fun y101 => (decode_digits.l0 k 0 y101 (y101.length : Int) 0)) else (none)) else (none))
theorem decode_digits.mono_l : ∀ k, (∀ y0 y1 y2 y3, LeO (decode_digits.l0 k y0 y1 y2 y3) (decode_digits.l0 (k + 1) y0 y1 y2 y3)) ∧ (∀ y0 y1 y2 y3 y4 y5, LeO (decode_digits.j1 k y0 y1 y2 y3 y4 y5) (decode_digits.j1 (k + 1) y0 y1 y2 y3 y4 y5)) ∧ (∀ y0 y1 y2 y3 y4 y5, LeO (decode_digits.j2 k y0 y1 y2 y3 y4 y5) (decode_digits.j2 (k + 1) y0 y1 y2 y3 y4 y5))
 | 0 => ⟨fun _ _ _ _ r h => by simp [decode_digits.l0] at h, fun _ _ _ _ _ _ r h => by simp [decode_digits.j1] at h, fun _ _ _ _ _ _ r h => by simp [decode_digits.j2] at h⟩
 | k + 1 => by
  obtain ⟨ih0, ih1, ih2⟩ := decode_digits.mono_l k
  refine ⟨?_, ?_, ?_⟩
  ·intro y0 y1 y2 y3
   unfold decode_digits.l0
   repeat' first
   | (with_reducible exact ih0 _ _ _ _)
   | (with_reducible exact ih1 _ _ _ _ _ _)
   | (with_reducible exact ih2 _ _ _ _ _ _)
   | (with_reducible exact LeO.refl _)
   | (with_reducible exact LeO.none _)
   | (with_reducible refine LeO.ite ?_ ?_)
   | (with_reducible refine LeO.bind ?_ (fun _ => ?_))
   | exact ih0 _ _ _ _
   | exact ih1 _ _ _ _ _ _
   | exact ih2 _ _ _ _ _ _
   | exact LeO.none _
   | refine LeO.ite ?_ ?_
   | refine LeO.bind ?_ (fun _ => ?_)
  ·intro y0 y1 y2 y3 y4 y5
   unfold decode_digits.j1
   repeat' first
   | (with_reducible exact ih0 _ _ _ _)
   | (with_reducible exact ih1 _ _ _ _ _ _)
   | (with_reducible exact ih2 _ _ _ _ _ _)
   | (with_reducible exact LeO.refl _)
   | (with_reducible exact LeO.none _)
   | (with_reducible refine LeO.ite ?_ ?_)
   | (with_reducible refine LeO.bind ?_ (fun _ => ?_))
   | exact ih0 _ _ _ _
   | exact ih1 _ _ _ _ _ _
   | exact ih2 _ _ _ _ _ _
   | exact LeO.none _
   | refine LeO.ite ?_ ?_
   | refine LeO.bind ?_ (fun _ => ?_)
  ·intro y0 y1 y2 y3 y4 y5
   unfold decode_digits.j2
   repeat' first
   | (with_reducible exact ih0 _ _ _ _)
   | (with_reducible exact ih1 _ _ _ _ _ _)
   | (with_reducible exact ih2 _ _ _ _ _ _)
   | (with_reducible exact LeO.refl _)
   | (with_reducible exact LeO.none _)
   | (with_reducible refine LeO.ite ?_ ?_)
   | (with_reducible refine LeO.bind ?_ (fun _ => ?_))
   | exact ih0 _ _ _ _
   | exact ih1 _ _ _ _ _ _
   | exact ih2 _ _ _ _ _ _
   | exact LeO.none _
   | refine LeO.ite ?_ ?_
   | refine LeO.bind ?_ (fun _ => ?_)
theorem decode_digits.mono : ∀ a0 a1 k, LeO (decode_digits.f k a0 a1) (decode_digits.f (k + 1) a0 a1) := by
 intro a0 a1 k
 obtain ⟨ih0, ih1, ih2⟩ := decode_digits.mono_l k
 unfold decode_digits.f
 repeat' first
   | (with_reducible exact ih0 _ _ _ _)
   | (with_reducible exact ih1 _ _ _ _ _ _)
   | (with_reducible exact ih2 _ _ _ _ _ _)
   | (with_reducible exact LeO.refl _)
   | (with_reducible exact LeO.none _)
   | (with_reducible refine LeO.ite ?_ ?_)
   | (with_reducible refine LeO.bind ?_ (fun _ => ?_))
   | exact ih0 _ _ _ _
   | exact ih1 _ _ _ _ _ _
   | exact ih2 _ _ _ _ _ _
   | exact LeO.none _
   | refine LeO.ite ?_ ?_
   | refine LeO.bind ?_ (fun _ => ?_)
set_option maxHeartbeats 8000000 in
set_option maxRecDepth 100000 in
theorem decode_digits.calls (k : Nat) (A0 : Option Addr) (c0 : Nat) (l0 : List Int) (a1 : Int) (r1 : Int) (r2 : Bool) (w : World) (hr0 : Kd.C (Kd.int .u8) w A0 l0.length l0) (hc0 : l0.length ≤ c0) (h : decode_digits.f k l0 a1 = some (r1, r2)) :
  Calls Tryd.prog 37 #[.slice A0 l0.length c0, .int .i64 a1] w fun e w' => e = .returned (.tuple #[.int .u64 r1, .bool r2]) ∧ Drawn0 w w' := by
 have HR0 := Aside0.mk hr0
 have HC0 := Aside0.mk hc0
 clear hr0 hc0
 have H : (if (l0.length : Int) < a1 then (some (0, false)) else (if 0 ≤ a1 then (if a1 ≤ (l0.length : Int) then ((some (l0.take (a1 : Int).toNat : List Int)).bind fun y101 => (decode_digits.l0 k 0 y101 (y101.length : Int) 0)) else (none)) else (none))) = some (r1, r2) := h
 clear h
 by_cases c3 : (l0.length : Int) < a1
 ·rw [if_pos c3] at H
  have c3b0 : decide ((l0.length : Int) < a1) = true := decide_eq_true c3
  clear c3
  simp only [Option.some.injEq, Prod.mk.injEq] at H
  obtain ⟨rfl, rfl⟩ := H
  go_enter Tryd.func37, Tryd.ntmps37
  go_wp2
  go_ret2
  exact ⟨by first | rfl | (simp; done) | (simp [*]; done) | (simp [wrap64, wrap32]; done), by repeat (first | exact Drawn0.refl _ | apply Drawn0.step)⟩
 ·rw [if_neg c3] at H
  have c3b0 : decide ((l0.length : Int) < a1) = false := decide_eq_false c3
  clear c3
  by_cases c4 : 0 ≤ a1
  ·rw [if_pos c4] at H
   have c4b0 := eq_true c4
   have c4b1 : decide (0 ≤ a1) = true := decide_eq_true c4
   clear c4
   by_cases c5 : a1 ≤ (l0.length : Int)
   ·rw [if_pos c5] at H
    have c5b0 := eq_true c5
    have c5b1 : decide (a1 ≤ (l0.length : Int)) = true := decide_eq_true c5
    clear c5
    obtain ⟨y101, hy101⟩ : ∃ y_ : List Int, y_ = (l0.take (a1 : Int).toNat) := ⟨_, rfl⟩
    replace H : (decode_digits.l0 k 0 y101 (y101.length : Int) 0) = some (r1, r2) := by first | (rw [hy101]; with_reducible exact H) | (have H2_ := (Option.bind_some _ _).symm.trans H; rw [hy101]; with_reducible exact H2_) | (have H2_ := (Option.bind_some _ _).symm.trans H; with_reducible exact H2_) | with_reducible exact H | (rw [hy101]; exact H) | exact H
    have Ny101 := Aside0.mk hy101
    clear hy101
    have H' := Aside0.mk H
    clear H
    have q6 : (a1 : Int) ≤ ((l0.length : Int) : Int) := of_decide_eq_true (by first | (with_reducible assumption) | assumption)
    obtain ⟨i06, hi06, _, hsz6, _⟩ := info_parts info5
    have hroom6 : l0.length ≤ c0 := HC0.out
    have hC6 : Kd.C (Kd.int .u8) _ A0 l0.length l0 := HR0.out
    have hcut6 := cut_to (P := Tryd.prog) 22 5 .i64 Tryd.underlying22 hi06 A0 l0.length c0 a1 (of_decide_eq_true (by first | (with_reducible assumption) | assumption)) q6 hroom6
    have hr6 := Kd.C_take (m := (a1 : Int).toNat) hC6 (by omega)
    have hy6 : y101.length = (a1 : Int).toNat := (by rw [Ny101.out, List.length_take]; omega)
    rw [← Ny101.out] at hr6
    rw [← hy6] at hcut6
    have HR104 := Aside0.mk hr6
    have HC104 := Aside0.mk (show y101.length ≤ c0 from by omega)
    clear hr6 hC6 hroom6 hi06 hsz6
    have KY6 := Aside0.mk hy6
    clear hy6
    replace q6 := eq_true q6
    go_enter Tryd.func37, Tryd.ntmps37
    go_wp2
    go_loopg [6, 17] k (fun kq v6 v17 w' => ∃ (x6_1 : Int) (x17_1 : Int), v6 = .int .u64 x6_1 ∧ v17 = .int .i64 x17_1 ∧ Aside0 (decode_digits.l0 kq x6_1 y101 (y101.length : Int) x17_1 = some (r1, r2)) ∧ Aside0 (kq ≤ k) ∧ Drawn0 w w')
    case atStart => exact ⟨(0), (0), (by first | rfl | (simp; done) | (simp [*]; done) | (simp [wrap64, wrap32]; done)), (by first | rfl | (simp; done) | (simp [*]; done) | (simp [wrap64, wrap32]; done)), H', ⟨Nat.le_refl _⟩, by repeat (first | exact Drawn0.refl _ | apply Drawn0.step)⟩
    case round =>
     clear H'
     try clear p2
     try clear c3
     try clear c3b0
     try clear c4
     try clear c4b0
     try clear c4b1
     try clear c5
     try clear c5b0
     try clear c5b1
     try clear q6
     try clear q6
     obtain ⟨x6_1, x17_1, rfl, rfl, HA, HK1, ⟨m1, rfl⟩⟩ := hrel
     cases gk with
     | zero => exact absurd HA.out (by simp [decode_digits.l0])
     | succ k1 =>
      have H := HA.out
      clear HA
      simp only [decode_digits.l0] at H
      by_cases c7 : x17_1 < (y101.length : Int)
      ·rw [if_pos c7] at H
       have c7b0 : decide (x17_1 < (y101.length : Int)) = true := decide_eq_true c7
       clear c7
       by_cases c8 : 0 ≤ x17_1
       ·rw [if_pos c8] at H
        have c8b0 : decide (0 ≤ x17_1) = true := decide_eq_true c8
        clear c8
        by_cases c9 : x17_1 < (y101.length : Int)
        ·rw [if_pos c9] at H
         have c9b0 : decide (x17_1 < (y101.length : Int)) = true := decide_eq_true c9
         clear c9
         have HC10 := Aside0.mk H
         clear H
         have p105 : 0 ≤ (x17_1 : Int) := of_decide_eq_true (by first | (with_reducible assumption) | assumption)
         have q105 : x17_1 < (y101.length : Int) := of_decide_eq_true (by first | (with_reducible assumption) | assumption)
         obtain ⟨ad105, e105, hx105_0⟩ := Kd.at_int HR104.out x17_1 p105 q105
         cases e105
         replace p105 := eq_true p105
         replace q105 := eq_true q105
         go_upto_region 8 with (fail)
         go_cut [21] (fun v21 wc => ∃ (kq : Nat) (x21_9 : Bool), v21 = .bool x21_9 ∧ Aside0 (decode_digits.j1 kq x6_1 (rd y101 x17_1) y101 (y101.length : Int) x17_1 x21_9 = some (r1, r2)) ∧ Aside0 (kq ≤ k1) ∧ Drawn0 w wc)
         case first =>
          have H := HC10.out
          clear HC10
          by_cases c11 : (rd y101 x17_1) ≥ 48
          ·rw [if_pos c11] at H
           have c11b0 : decide (48 ≤ (rd y101 x17_1)) = true := decide_eq_true c11
           clear c11
           (first | rw [c11b0] | (simp only [i64_w, i32_w]; rw [c11b0]) | skip)
           have H' := Aside0.mk H
           clear H
           go_wp2
           go_meet
           case rel => exact ⟨_, (decide ((rd y101 x17_1) ≤ 57)), (by first | rfl | (simp; done) | (simp [*]; done) | (simp [wrap64, wrap32]; done)), H', ⟨by have := HK1.out; first | omega | exact Nat.le_refl _⟩, by repeat (first | exact Drawn0.refl _ | apply Drawn0.step)⟩
          ·rw [if_neg c11] at H
           have c11b0 : decide (48 ≤ (rd y101 x17_1)) = false := decide_eq_false c11
           clear c11
           (first | rw [c11b0] | (simp only [i64_w, i32_w]; rw [c11b0]) | skip)
           have H' := Aside0.mk H
           clear H
           go_wp2
           go_meet
           case rel => exact ⟨_, (false), (by first | rfl | (simp; done) | (simp [*]; done) | (simp [wrap64, wrap32]; done)), H', ⟨by have := HK1.out; first | omega | exact Nat.le_refl _⟩, by repeat (first | exact Drawn0.refl _ | apply Drawn0.step)⟩
         case rest =>
          clear HC10
          try clear c1
          try clear p1
          try clear q1
          try clear hx1
          try clear p2
          try clear c3
          try clear c3b0
          try clear c4
          try clear c4b0
          try clear c4b1
          try clear c5
          try clear c5b0
          try clear c5b1
          try clear q6
          try clear c7
          try clear c7b0
          try clear c8
          try clear c8b0
          try clear c9
          try clear c9b0
          try clear p10
          try clear q10
          try clear hx10
          try clear c11
          try clear c11b0
          try clear hx105_0
          try clear p105
          try clear p2
          try clear q105
          try clear q6
          obtain ⟨kq, x21_9, rfl, HA, HJ9, ⟨mc9, rfl⟩⟩ := hcut
          cases kq with
          | zero => exact absurd HA.out (by simp [decode_digits.j1])
          | succ kj9 =>
           have H := HA.out
           clear HA
           simp only [decode_digits.j1] at H
           by_cases c12 : x21_9 = true
           ·subst c12
            have H1 : (decode_digits.l0 kj9 (Go.bits .or .u64 (IntKind.u64.wrap (x6_1 * 16)) (((rd y101 x17_1) - 48) % 256)) y101 (y101.length : Int) (wrap64 (x17_1 + 1))) = some (r1, r2) := by rw [if_pos rfl] at H; exact H
            clear H
            have H := H1
            clear H1
            have H' := Aside0.mk H
            clear H
            go_wp2
            go_roundg kj9
            case measure => have := HK1.out; have := HJ9.out; omega
            case rel => exact ⟨(Go.bits .or .u64 (IntKind.u64.wrap (x6_1 * 16)) (((rd y101 x17_1) - 48) % 256)), (wrap64 (x17_1 + 1)), (by first | rfl | (simp; done) | (simp [*]; done) | (simp [wrap64, wrap32]; done)), (by first | rfl | (simp; done) | (simp [*]; done) | (simp [wrap64, wrap32]; done)), H', ⟨by have := HK1.out; have := HJ9.out; omega⟩, by repeat (first | exact Drawn0.refl _ | apply Drawn0.step)⟩
           ·replace c12 := Bool.eq_false_iff.mpr c12
            subst c12
            have H1 : (if (rd y101 x17_1) ≥ 97 then (decode_digits.j2 kj9 x6_1 (rd y101 x17_1) y101 (y101.length : Int) x17_1 (decide ((rd y101 x17_1) ≤ 102))) else (decode_digits.j2 kj9 x6_1 (rd y101 x17_1) y101 (y101.length : Int) x17_1 false)) = some (r1, r2) := by rw [if_neg (show ¬ (false = true) by decide)] at H; exact H
            clear H
            have H := H1
            clear H1
            have HC13 := Aside0.mk H
            clear H
            go_upto_region 10 with (fail)
            go_cut [34] (fun v34 wc => ∃ (kq : Nat) (x34_12 : Bool), v34 = .bool x34_12 ∧ Aside0 (decode_digits.j2 kq x6_1 (rd y101 x17_1) y101 (y101.length : Int) x17_1 x34_12 = some (r1, r2)) ∧ Aside0 (kq ≤ kj9) ∧ Drawn0 w wc)
            case first =>
             have H := HC13.out
             clear HC13
             by_cases c14 : (rd y101 x17_1) ≥ 97
             ·rw [if_pos c14] at H
              have c14b0 : decide (97 ≤ (rd y101 x17_1)) = true := decide_eq_true c14
              clear c14
              (first | rw [c14b0] | (simp only [i64_w, i32_w]; rw [c14b0]) | skip)
              have H' := Aside0.mk H
              clear H
              go_wp2
              go_meet
              case rel => exact ⟨_, (decide ((rd y101 x17_1) ≤ 102)), (by first | rfl | (simp; done) | (simp [*]; done) | (simp [wrap64, wrap32]; done)), H', ⟨by have := HK1.out; have := HJ9.out; first | omega | exact Nat.le_refl _⟩, by repeat (first | exact Drawn0.refl _ | apply Drawn0.step)⟩
             ·rw [if_neg c14] at H
              have c14b0 : decide (97 ≤ (rd y101 x17_1)) = false := decide_eq_false c14
              clear c14
              (first | rw [c14b0] | (simp only [i64_w, i32_w]; rw [c14b0]) | skip)
              have H' := Aside0.mk H
              clear H
              go_wp2
              go_meet
              case rel => exact ⟨_, (false), (by first | rfl | (simp; done) | (simp [*]; done) | (simp [wrap64, wrap32]; done)), H', ⟨by have := HK1.out; have := HJ9.out; first | omega | exact Nat.le_refl _⟩, by repeat (first | exact Drawn0.refl _ | apply Drawn0.step)⟩
            case rest =>
             clear HC13
             try clear c1
             try clear p1
             try clear q1
             try clear hx1
             try clear p2
             try clear c3
             try clear c3b0
             try clear c4
             try clear c4b0
             try clear c4b1
             try clear c5
             try clear c5b0
             try clear c5b1
             try clear p6
             try clear q6
             try clear c7
             try clear c7b0
             try clear c8
             try clear c8b0
             try clear c9
             try clear c9b0
             try clear p10
             try clear q10
             try clear hx10
             try clear c11
             try clear c11b0
             try clear c12
             try clear c14
             try clear c14b0
             try clear hx105_0
             try clear p1
             try clear p10
             try clear p105
             try clear p2
             try clear q1
             try clear q10
             try clear q105
             try clear q6
             obtain ⟨kq, x34_12, rfl, HA, HJ12, ⟨mc12, rfl⟩⟩ := hcut
             cases kq with
             | zero => exact absurd HA.out (by simp [decode_digits.j2])
             | succ kj12 =>
              have H := HA.out
              clear HA
              simp only [decode_digits.j2] at H
              by_cases c15 : x34_12 = true
              ·subst c15
               have H1 : (decode_digits.l0 kj12 (Go.bits .or .u64 (IntKind.u64.wrap (x6_1 * 16)) (((((rd y101 x17_1) - 97) % 256) + 10) % 256)) y101 (y101.length : Int) (wrap64 (x17_1 + 1))) = some (r1, r2) := by rw [if_pos rfl] at H; exact H
               clear H
               have H := H1
               clear H1
               have H' := Aside0.mk H
               clear H
               go_wp2
               go_roundg kj12
               case measure => have := HK1.out; have := HJ9.out; have := HJ12.out; omega
               case rel => exact ⟨(Go.bits .or .u64 (IntKind.u64.wrap (x6_1 * 16)) (((((rd y101 x17_1) - 97) % 256) + 10) % 256)), (wrap64 (x17_1 + 1)), (by first | rfl | (simp; done) | (simp [*]; done) | (simp [wrap64, wrap32]; done)), (by first | rfl | (simp; done) | (simp [*]; done) | (simp [wrap64, wrap32]; done)), H', ⟨by have := HK1.out; have := HJ9.out; have := HJ12.out; omega⟩, by repeat (first | exact Drawn0.refl _ | apply Drawn0.step)⟩
              ·replace c15 := Bool.eq_false_iff.mpr c15
               subst c15
               have H1 : (if (rd y101 x17_1) ≥ 65 then (if (rd y101 x17_1) ≤ 70 then (decode_digits.l0 kj12 (Go.bits .or .u64 (IntKind.u64.wrap (x6_1 * 16)) (((((rd y101 x17_1) - 65) % 256) + 10) % 256)) y101 (y101.length : Int) (wrap64 (x17_1 + 1))) else (some (0, false))) else (some (0, false))) = some (r1, r2) := by rw [if_neg (show ¬ (false = true) by decide)] at H; exact H
               clear H
               have H := H1
               clear H1
               by_cases c16 : (rd y101 x17_1) ≥ 65
               ·rw [if_pos c16] at H
                have c16b0 : decide (65 ≤ (rd y101 x17_1)) = true := decide_eq_true c16
                clear c16
                by_cases c17 : (rd y101 x17_1) ≤ 70
                ·rw [if_pos c17] at H
                 have c17b0 : decide ((rd y101 x17_1) ≤ 70) = true := decide_eq_true c17
                 clear c17
                 have H' := Aside0.mk H
                 clear H
                 go_wp2
                 go_roundg kj12
                 case measure => have := HK1.out; have := HJ9.out; have := HJ12.out; omega
                 case rel => exact ⟨(Go.bits .or .u64 (IntKind.u64.wrap (x6_1 * 16)) (((((rd y101 x17_1) - 65) % 256) + 10) % 256)), (wrap64 (x17_1 + 1)), (by first | rfl | (simp; done) | (simp [*]; done) | (simp [wrap64, wrap32]; done)), (by first | rfl | (simp; done) | (simp [*]; done) | (simp [wrap64, wrap32]; done)), H', ⟨by have := HK1.out; have := HJ9.out; have := HJ12.out; omega⟩, by repeat (first | exact Drawn0.refl _ | apply Drawn0.step)⟩
                ·rw [if_neg c17] at H
                 have c17b0 : decide ((rd y101 x17_1) ≤ 70) = false := decide_eq_false c17
                 clear c17
                 simp only [Option.some.injEq, Prod.mk.injEq] at H
                 obtain ⟨rfl, rfl⟩ := H
                 go_wp2
                 go_ret2
                 exact ⟨by first | rfl | (simp; done) | (simp [*]; done) | (simp [wrap64, wrap32]; done), by repeat (first | exact Drawn0.refl _ | apply Drawn0.step)⟩
               ·rw [if_neg c16] at H
                have c16b0 : decide (65 ≤ (rd y101 x17_1)) = false := decide_eq_false c16
                clear c16
                simp only [Option.some.injEq, Prod.mk.injEq] at H
                obtain ⟨rfl, rfl⟩ := H
                go_wp2
                go_ret2
                exact ⟨by first | rfl | (simp; done) | (simp [*]; done) | (simp [wrap64, wrap32]; done), by repeat (first | exact Drawn0.refl _ | apply Drawn0.step)⟩
        ·rw [if_neg c9] at H
         exact absurd H (by simp)
       ·rw [if_neg c8] at H
        exact absurd H (by simp)
      ·rw [if_neg c7] at H
       have c7b0 : decide (x17_1 < (y101.length : Int)) = false := decide_eq_false c7
       clear c7
       simp only [Option.some.injEq, Prod.mk.injEq] at H
       obtain ⟨rfl, rfl⟩ := H
       go_wp2
       go_ret2
       exact ⟨by first | rfl | (simp; done) | (simp [*]; done) | (simp [wrap64, wrap32]; done), by repeat (first | exact Drawn0.refl _ | apply Drawn0.step)⟩
   ·rw [if_neg c5] at H
    exact absurd H (by simp)
  ·rw [if_neg c4] at H
   exact absurd H (by simp)

end Go.Proofs.YtekalnhackjldaaDoor.PDecodeBack
