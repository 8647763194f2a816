-- Laid by a program of ours (the kit's print with words and contracts of our own beside it).
import Derived.Test.YtekalnhackjldaaDoorPDecodeBackx0
import Derived.Test.YtekalnhackjldaaDoorPDecodeBackx2
import Derived.Test.YtekalnhackjldaaDoorPDecodeBackx3
import Derived.Test.YtekalnhackjldaaDoorPDecodeBackx4
namespace Go.Proofs.YtekalnhackjldaaDoor.PDecodeBack
open Go.RowKit Go.Proofs.YtekalnhackjldaaDoor.X Go.Proofs.YtekalnhackjldaaDoorW.PrintWords Go.Proofs.YtekalnhackjldaaDoorW.PrintLast Go.Proofs.YtekalnhackjldaaDoorW.PrintMore
attribute [local go_sem] max2_int min2_int max_two min_two max_three min_three max_four min_four   -- for this text's walks alone
set_option linter.unusedVariables false
set_option linter.unusedSimpArgs false

/-! ### decode_one: function 38 -/
mutual
def decode_one.j0 : Nat → Int → Int → List Int → Bool → Bool → Option (Int × Int)
 | 0, _, _, _, _, _ => none
 | k + 1, x0, x1, x2, x8, x17 => if x17 = true then ((decode_Entity.f x2).bind fun bt126 => (if bt126.2.2 = true then (some (bt126.1, bt126.2.1)) else ((utf_Next.f k x2).bind fun bt129 => (some (bt129.1, bt129.2))))) else (if x8 = true then (if x0 = 2 then (if 0 < (x2.length : Int) then (if (rd x2 0) = 92 then (if (x2.length : Int) > 1 then (if 1 < (x2.length : Int) then ((decode_punct.f (rd x2 1)).bind fun t133 => (decode_one.j1 k x0 x1 x2 t133)) else (none)) else (decode_one.j1 k x0 x1 x2 false)) else (decode_one.j1 k x0 x1 x2 false)) else (none)) else (decode_one.j1 k x0 x1 x2 false)) else (decode_one.j1 k x0 x1 x2 false))
def decode_one.j1 : Nat → Int → Int → List Int → Bool → Option (Int × Int)
 | 0, _, _, _, _ => none
 | k + 1, x0, x1, x2, x42 => if x42 = true then (if 1 < (x2.length : Int) then (some (wrap32 (rd x2 1), 2)) else (none)) else (if x1 = 5 then (if x0 = 8 then (if (x2.length : Int) > 1 then (if 0 < (x2.length : Int) then (if (rd x2 0) = 39 then (if 1 < (x2.length : Int) then (decode_one.j2 k x0 x1 x2 ((rd x2 1) == 39)) else (none)) else (decode_one.j2 k x0 x1 x2 false)) else (none)) else (decode_one.j2 k x0 x1 x2 false)) else (decode_one.j2 k x0 x1 x2 false)) else (decode_one.j2 k x0 x1 x2 false))
def decode_one.j2 : Nat → Int → Int → List Int → Bool → Option (Int × Int)
 | 0, _, _, _, _ => none
 | k + 1, x0, x1, x2, x69 => if x69 = true then (some (39, 2)) else (if x1 = 5 then (if 0 < (x2.length : Int) then (if (rd x2 0) = 92 then (if x0 ≥ 4 then (decode_one.j3 k x0 x2 (decide (x0 ≤ 7))) else (decode_one.j3 k x0 x2 false)) else (decode_one.j3 k x0 x2 false)) else (none)) else (decode_one.j3 k x0 x2 false))
def decode_one.j3 : Nat → Int → List Int → Bool → Option (Int × Int)
 | 0, _, _, _ => none
 | k + 1, x0, x2, x93 => if x93 = true then ((decode_Escape.f k x0 x2).bind fun bt138 => (if bt138.2.2 = true then (some (bt138.1, bt138.2.1)) else ((utf_Next.f k x2).bind fun bt141 => (some (bt141.1, bt141.2))))) else ((utf_Next.f k x2).bind fun bt143 => (some (bt143.1, bt143.2)))
end
def decode_one.f (k : Nat) (a0 : Int) (a1 : Int) (l2 : List Int) : Option (Int × Int) := if a1 = 1 then (if a0 = 1 then (if 0 < (l2.length : Int) then (decode_one.j0 k a0 a1 l2 (a1 == 1) ((rd l2 0) == 38)) else (none)) else (if a0 = 2 then (if 0 < (l2.length : Int) then (decode_one.j0 k a0 a1 l2 (a1 == 1) ((rd l2 0) == 38)) else (none)) else (decode_one.j0 k a0 a1 l2 (a1 == 1) false))) else (decode_one.j0 k a0 a1 l2 (a1 == 1) false)
theorem decode_one.mono_l : ∀ k, (∀ y0 y1 y2 y3 y4, LeO (decode_one.j0 k y0 y1 y2 y3 y4) (decode_one.j0 (k + 1) y0 y1 y2 y3 y4)) ∧ (∀ y0 y1 y2 y3, LeO (decode_one.j1 k y0 y1 y2 y3) (decode_one.j1 (k + 1) y0 y1 y2 y3)) ∧ (∀ y0 y1 y2 y3, LeO (decode_one.j2 k y0 y1 y2 y3) (decode_one.j2 (k + 1) y0 y1 y2 y3)) ∧ (∀ y0 y1 y2, LeO (decode_one.j3 k y0 y1 y2) (decode_one.j3 (k + 1) y0 y1 y2))
 | 0 => ⟨fun _ _ _ _ _ r h => by simp [decode_one.j0] at h, fun _ _ _ _ r h => by simp [decode_one.j1] at h, fun _ _ _ _ r h => by simp [decode_one.j2] at h, fun _ _ _ r h => by simp [decode_one.j3] at h⟩
 | k + 1 => by
  obtain ⟨ih0, ih1, ih2, ih3⟩ := decode_one.mono_l k
  refine ⟨?_, ?_, ?_, ?_⟩
  ·intro y0 y1 y2 y3 y4
   unfold decode_one.j0
   repeat' first
   | (with_reducible exact ih0 _ _ _ _ _)
   | (with_reducible exact ih1 _ _ _ _)
   | (with_reducible exact ih2 _ _ _ _)
   | (with_reducible exact ih3 _ _ _)
   | (with_reducible exact decode_Escape.mono _ _ _)
   | (with_reducible exact utf_Next.mono _ _)
   | (with_reducible exact LeO.refl _)
   | (with_reducible exact LeO.none _)
   | (with_reducible refine LeO.ite ?_ ?_)
   | (with_reducible refine LeO.bind ?_ (fun _ => ?_))
   | exact ih0 _ _ _ _ _
   | exact ih1 _ _ _ _
   | exact ih2 _ _ _ _
   | exact ih3 _ _ _
   | exact decode_Escape.mono _ _ _
   | exact utf_Next.mono _ _
   | exact LeO.none _
   | refine LeO.ite ?_ ?_
   | refine LeO.bind ?_ (fun _ => ?_)
  ·intro y0 y1 y2 y3
   unfold decode_one.j1
   repeat' first
   | (with_reducible exact ih0 _ _ _ _ _)
   | (with_reducible exact ih1 _ _ _ _)
   | (with_reducible exact ih2 _ _ _ _)
   | (with_reducible exact ih3 _ _ _)
   | (with_reducible exact decode_Escape.mono _ _ _)
   | (with_reducible exact utf_Next.mono _ _)
   | (with_reducible exact LeO.refl _)
   | (with_reducible exact LeO.none _)
   | (with_reducible refine LeO.ite ?_ ?_)
   | (with_reducible refine LeO.bind ?_ (fun _ => ?_))
   | exact ih0 _ _ _ _ _
   | exact ih1 _ _ _ _
   | exact ih2 _ _ _ _
   | exact ih3 _ _ _
   | exact decode_Escape.mono _ _ _
   | exact utf_Next.mono _ _
   | exact LeO.none _
   | refine LeO.ite ?_ ?_
   | refine LeO.bind ?_ (fun _ => ?_)
  ·intro y0 y1 y2 y3
   unfold decode_one.j2
   repeat' first
   | (with_reducible exact ih0 _ _ _ _ _)
   | (with_reducible exact ih1 _ _ _ _)
   | (with_reducible exact ih2 _ _ _ _)
   | (with_reducible exact ih3 _ _ _)
   | (with_reducible exact decode_Escape.mono _ _ _)
   | (with_reducible exact utf_Next.mono _ _)
   | (with_reducible exact LeO.refl _)
   | (with_reducible exact LeO.none _)
   | (with_reducible refine LeO.ite ?_ ?_)
   | (with_reducible refine LeO.bind ?_ (fun _ => ?_))
   | exact ih0 _ _ _ _ _
   | exact ih1 _ _ _ _
   | exact ih2 _ _ _ _
   | exact ih3 _ _ _
   | exact decode_Escape.mono _ _ _
   | exact utf_Next.mono _ _
   | exact LeO.none _
   | refine LeO.ite ?_ ?_
   | refine LeO.bind ?_ (fun _ => ?_)
  ·intro y0 y1 y2
   unfold decode_one.j3
   repeat' first
   | (with_reducible exact ih0 _ _ _ _ _)
   | (with_reducible exact ih1 _ _ _ _)
   | (with_reducible exact ih2 _ _ _ _)
   | (with_reducible exact ih3 _ _ _)
   | (with_reducible exact decode_Escape.mono _ _ _)
   | (with_reducible exact utf_Next.mono _ _)
   | (with_reducible exact LeO.refl _)
   | (with_reducible exact LeO.none _)
   | (with_reducible refine LeO.ite ?_ ?_)
   | (with_reducible refine LeO.bind ?_ (fun _ => ?_))
   | exact ih0 _ _ _ _ _
   | exact ih1 _ _ _ _
   | exact ih2 _ _ _ _
   | exact ih3 _ _ _
   | exact decode_Escape.mono _ _ _
   | exact utf_Next.mono _ _
   | exact LeO.none _
   | refine LeO.ite ?_ ?_
   | refine LeO.bind ?_ (fun _ => ?_)
theorem decode_one.mono : ∀ a0 a1 a2 k, LeO (decode_one.f k a0 a1 a2) (decode_one.f (k + 1) a0 a1 a2) := by
 intro a0 a1 a2 k
 obtain ⟨ih0, ih1, ih2, ih3⟩ := decode_one.mono_l k
 unfold decode_one.f
 repeat' first
   | (with_reducible exact ih0 _ _ _ _ _)
   | (with_reducible exact ih1 _ _ _ _)
   | (with_reducible exact ih2 _ _ _ _)
   | (with_reducible exact ih3 _ _ _)
   | (with_reducible exact decode_Escape.mono _ _ _)
   | (with_reducible exact utf_Next.mono _ _)
   | (with_reducible exact LeO.refl _)
   | (with_reducible exact LeO.none _)
   | (with_reducible refine LeO.ite ?_ ?_)
   | (with_reducible refine LeO.bind ?_ (fun _ => ?_))
   | exact ih0 _ _ _ _ _
   | exact ih1 _ _ _ _
   | exact ih2 _ _ _ _
   | exact ih3 _ _ _
   | exact decode_Escape.mono _ _ _
   | exact utf_Next.mono _ _
   | exact LeO.none _
   | refine LeO.ite ?_ ?_
   | refine LeO.bind ?_ (fun _ => ?_)
set_option maxHeartbeats 8000000 in
set_option maxRecDepth 100000 in
theorem decode_one.calls (k : Nat) (a0 : Int) (a1 : Int) (A2 : Option Addr) (c2 : Nat) (l2 : List Int) (r1 : Int) (r2 : Int) (w : World) (hr2 : Kd.C (Kd.int .u8) w A2 l2.length l2) (hc2 : l2.length ≤ c2) (h : decode_one.f k a0 a1 l2 = some (r1, r2)) (hL : Go.Proofs.YtekalnhackjldaaDoor.H.Laid w) :
  Calls Tryd.prog 38 #[.int .u8 a0, .int .u8 a1, .slice A2 l2.length c2] w fun e w' => e = .returned (.tuple #[.int .i32 r1, .int .i64 r2]) ∧ Below w.heap.size w w' := by
 have HL := Aside0.mk hL
 clear hL
 have HR2 := Aside0.mk hr2
 have HC2 := Aside0.mk hc2
 clear hr2 hc2
 have HB := Aside0.mk (Below.refl w.heap.size w)
 have H : (if a1 = 1 then (if a0 = 1 then (if 0 < (l2.length : Int) then (decode_one.j0 k a0 a1 l2 (a1 == 1) ((rd l2 0) == 38)) else (none)) else (if a0 = 2 then (if 0 < (l2.length : Int) then (decode_one.j0 k a0 a1 l2 (a1 == 1) ((rd l2 0) == 38)) else (none)) else (decode_one.j0 k a0 a1 l2 (a1 == 1) false))) else (decode_one.j0 k a0 a1 l2 (a1 == 1) false)) = some (r1, r2) := h
 clear h
 have HC4 := Aside0.mk H
 clear H
 go_enter Tryd.func38, Tryd.ntmps38
 go_upto_region 2 with (fail)
 go_cut [8, 17] (fun v8 v17 wc => v8 = .bool (a1 == 1) ∧ ∃ (kq : Nat) (x17_3 : Bool), v17 = .bool x17_3 ∧ Aside0 (decode_one.j0 kq a0 a1 l2 (a1 == 1) x17_3 = some (r1, r2)) ∧ Aside0 (kq ≤ k) ∧ Aside0 (Below w.heap.size w wc))
 case first =>
  have H := HC4.out
  clear HC4
  by_cases c5 : a1 = 1
  ·rw [if_pos c5] at H
   have c5b0 : (a1 == 1) = true := beq_iff_eq.mpr c5
   have c5b1 : (a1 != 1) = false := bne_eq_false_iff_eq.mpr c5
   clear c5
   (first | rw [c5b0] | (simp only [i64_w, i32_w]; rw [c5b0]) | skip)
   by_cases c6 : a0 = 1
   ·rw [if_pos c6] at H
    have c6b0 : (a0 == 1) = true := beq_iff_eq.mpr c6
    have c6b1 : (a0 != 1) = false := bne_eq_false_iff_eq.mpr c6
    clear c6
    by_cases c7 : 0 < (l2.length : Int)
    ·rw [if_pos c7] at H
     have c7b0 : decide (0 < (l2.length : Int)) = true := decide_eq_true c7
     have c7b1 : decide (0 < l2.length) = true := decide_eq_true (by omega)
     clear c7
     have H' := Aside0.mk H
     clear H
     have p124 : 0 ≤ (0 : Int) := (by omega)
     have q124 : 0 < (l2.length : Int) := of_decide_eq_true (by first | (with_reducible assumption) | assumption)
     obtain ⟨ad124, e124, hx124_0⟩ := Kd.at_int HR2.out 0 p124 q124
     cases e124
     have qi124 : (0 < l2.length) = True := eq_true (by omega)
     (try rw [show ((0 : Int)).toNat = 0 from rfl] at hx124_0)
     (try rw [Addr.add_zero'] at hx124_0)
     replace hx124_0 := (HB.out.cell (World.block_lt_of_cell? w _ hx124_0)).trans hx124_0
     replace p124 := eq_true p124
     replace q124 := eq_true q124
     go_wp2
     go_meet
     case rel => exact ⟨(by first | rfl | (simp [*]; done)), _, (((rd l2 0) == 38)), (by first | rfl | (simp; done) | (simp [*]; done) | (simp [wrap64, wrap32]; done)), H', ⟨by first | omega | exact Nat.le_refl _⟩, ⟨by repeat (first | (with_reducible first | exact HB.out | apply below_alloc | apply pw_below_drewN | apply below_drew1) | exact HB.out)⟩⟩
    ·rw [if_neg c7] at H
     exact absurd H (by simp)
   ·rw [if_neg c6] at H
    have c6b0 : (a0 == 1) = false := beq_eq_false_iff_ne.mpr c6
    have c6b1 : (a0 != 1) = true := bne_iff_ne.mpr c6
    by_cases c8 : a0 = 2
    ·rw [if_pos c8] at H
     have c8b0 : (a0 == 2) = true := beq_iff_eq.mpr c8
     have c8b1 : (a0 != 2) = false := bne_eq_false_iff_eq.mpr c8
     clear c8
     by_cases c9 : 0 < (l2.length : Int)
     ·rw [if_pos c9] at H
      have c9b0 : decide (0 < (l2.length : Int)) = true := decide_eq_true c9
      have c9b1 : decide (0 < l2.length) = true := decide_eq_true (by omega)
      clear c9
      have H' := Aside0.mk H
      clear H
      have p125 : 0 ≤ (0 : Int) := (by omega)
      have q125 : 0 < (l2.length : Int) := of_decide_eq_true (by first | (with_reducible assumption) | assumption)
      obtain ⟨ad125, e125, hx125_0⟩ := Kd.at_int HR2.out 0 p125 q125
      cases e125
      have qi125 : (0 < l2.length) = True := eq_true (by omega)
      (try rw [show ((0 : Int)).toNat = 0 from rfl] at hx125_0)
      (try rw [Addr.add_zero'] at hx125_0)
      replace hx125_0 := (HB.out.cell (World.block_lt_of_cell? w _ hx125_0)).trans hx125_0
      replace p125 := eq_true p125
      replace q125 := eq_true q125
      go_wp2
      go_meet
      case rel => exact ⟨(by first | rfl | (simp [*]; done)), _, (((rd l2 0) == 38)), (by first | rfl | (simp; done) | (simp [*]; done) | (simp [wrap64, wrap32]; done)), H', ⟨by first | omega | exact Nat.le_refl _⟩, ⟨by repeat (first | (with_reducible first | exact HB.out | apply below_alloc | apply pw_below_drewN | apply below_drew1) | exact HB.out)⟩⟩
     ·rw [if_neg c9] at H
      exact absurd H (by simp)
    ·rw [if_neg c8] at H
     have c8b0 : (a0 == 2) = false := beq_eq_false_iff_ne.mpr c8
     have c8b1 : (a0 != 2) = true := bne_iff_ne.mpr c8
     have H' := Aside0.mk H
     clear H
     go_wp2
     go_meet
     case rel => exact ⟨(by first | rfl | (simp [*]; done)), _, (false), (by first | rfl | (simp; done) | (simp [*]; done) | (simp [wrap64, wrap32]; done)), H', ⟨by first | omega | exact Nat.le_refl _⟩, ⟨by repeat (first | (with_reducible first | exact HB.out | apply below_alloc | apply pw_below_drewN | apply below_drew1) | exact HB.out)⟩⟩
  ·rw [if_neg c5] at H
   have c5b0 : (a1 == 1) = false := beq_eq_false_iff_ne.mpr c5
   have c5b1 : (a1 != 1) = true := bne_iff_ne.mpr c5
   (first | rw [c5b0] | (simp only [i64_w, i32_w]; rw [c5b0]) | skip)
   have H' := Aside0.mk H
   clear H
   go_wp2
   go_meet
   case rel => exact ⟨(by first | rfl | (simp [*]; done)), _, (false), (by first | rfl | (simp; done) | (simp [*]; done) | (simp [wrap64, wrap32]; done)), H', ⟨by first | omega | exact Nat.le_refl _⟩, ⟨by repeat (first | (with_reducible first | exact HB.out | apply below_alloc | apply pw_below_drewN | apply below_drew1) | exact HB.out)⟩⟩
 case rest =>
  clear HC4
  try clear p1
  try clear q1
  try clear hx1
  try clear qi1
  try clear c2
  try clear p2
  try clear c3
  try clear c5
  try clear c5b0
  try clear c5b1
  try clear c6
  try clear c6b0
  try clear c6b1
  try clear c7
  try clear c7b0
  try clear c7b1
  try clear c8
  try clear c8b0
  try clear c8b1
  try clear c9
  try clear c9b0
  try clear c9b1
  try clear hx124_0
  try clear hx125_0
  try clear p124
  try clear p125
  try clear q124
  try clear q125
  obtain ⟨rfl, kq, x17_3, rfl, HA, HJ3, HB⟩ := hcut
  cases kq with
  | zero => exact absurd HA.out (by simp [decode_one.j0])
  | succ kj3 =>
   have H := HA.out
   clear HA
   simp only [decode_one.j0] at H
   by_cases c10 : x17_3 = true
   ·subst c10
    have H1 : ((decode_Entity.f l2).bind fun bt126 => (if bt126.2.2 = true then (some (bt126.1, bt126.2.1)) else ((utf_Next.f kj3 l2).bind fun bt129 => (some (bt129.1, bt129.2))))) = some (r1, r2) := by rw [if_pos rfl] at H; exact H
    clear H
    have H := H1
    clear H1
    replace H := Option.bind_eq_some_iff.mp H
    obtain ⟨⟨t126, t127, t128⟩, A110, H⟩ := H
    replace H : (if t128 = true then (some (t126, t127)) else ((utf_Next.f kj3 l2).bind fun bt129 => (some (bt129.1, bt129.2)))) = some (r1, r2) := H
    have A11 := Aside0.mk A110
    clear A110
    by_cases c12 : t128 = true
    ·subst c12
     have H1 : (some (t126, t127)) = some (r1, r2) := by rw [if_pos rfl] at H; exact H
     clear H
     have H := H1
     clear H1
     simp only [Option.some.injEq, Prod.mk.injEq] at H
     obtain ⟨rfl, rfl⟩ := H
     go_wp2_with (first | ((with_reducible refine gate_callee (f := 12) rfl ?_); refine goesL_ (some 35) rfl rfl Tryd.func12 (by kernel_rfl) rfl #[.slice A2 l2.length c2] rfl (by (try simp only [List.map_toArray, List.map_cons, List.map_nil]); first | done | rfl | (simp only [List.length_drop, List.length_take]; rfl)) ?_; (with_reducible refine (decode_Entity.calls _ _ l2 t126 t127 true _ ?side1 ?side2 A11.out ?sideL).mono ?_); (case sideL => first | exact HL.out | exact HL.out.below HB.out | exact HL.out.below (by repeat (first | (with_reducible first | exact HB.out | apply below_alloc | apply pw_below_drewN | apply below_drew1 | refine below_set ?_ (Aside0.out (by assumption))) | exact HB.out))); (case side1 => repeat (first | exact (Kd.C_below HR2.out HB.out) | (with_reducible refine Kd.C_alloc ?_ _) | (with_reducible refine Kd.C_drewN ?_ _) | (with_reducible refine Kd.C_drew ?_))); (case side2 => exact HC2.out); rintro e w13 ⟨rfl, hb⟩; refine ⟨_, rfl, ?_⟩; have n0_ := Aside0.mk (below_step (by repeat (first | (with_reducible first | exact HB.out | apply below_alloc | apply pw_below_drewN | apply below_drew1) | exact HB.out)) hb); clear HB; have HB := n0_; clear n0_; (try clear hb); (try clear hb2); (try clear hk); (try clear hi)))
     go_ret2
     exact ⟨by first | rfl | (simp [errW_none, errW_some] <;> rfl) | (simp [*, errW_none, errW_some] <;> rfl), by repeat (first | (with_reducible first | exact HB.out | apply below_alloc | apply pw_below_drewN | apply below_drew1) | exact HB.out)⟩
    ·replace c12 := Bool.eq_false_iff.mpr c12
     subst c12
     have H1 : ((utf_Next.f kj3 l2).bind fun bt129 => (some (bt129.1, bt129.2))) = some (r1, r2) := by rw [if_neg (show ¬ (false = true) by decide)] at H; exact H
     clear H
     have H := H1
     clear H1
     replace H := Option.bind_eq_some_iff.mp H
     obtain ⟨⟨t129, t130⟩, A140, H⟩ := H
     replace H : (some (t129, t130)) = some (r1, r2) := H
     have A14 := Aside0.mk A140
     clear A140
     simp only [Option.some.injEq, Prod.mk.injEq] at H
     obtain ⟨rfl, rfl⟩ := H
     go_wp2_with (first | ((with_reducible refine gate_callee (f := 12) rfl ?_); refine goesL_ (some 35) rfl rfl Tryd.func12 (by kernel_rfl) rfl #[.slice A2 l2.length c2] rfl (by (try simp only [List.map_toArray, List.map_cons, List.map_nil]); first | done | rfl | (simp only [List.length_drop, List.length_take]; rfl)) ?_; (with_reducible refine (decode_Entity.calls _ _ l2 t126 t127 false _ ?side1 ?side2 A11.out ?sideL).mono ?_); (case sideL => first | exact HL.out | exact HL.out.below HB.out | exact HL.out.below (by repeat (first | (with_reducible first | exact HB.out | apply below_alloc | apply pw_below_drewN | apply below_drew1 | refine below_set ?_ (Aside0.out (by assumption))) | exact HB.out))); (case side1 => repeat (first | exact (Kd.C_below HR2.out HB.out) | (with_reducible refine Kd.C_alloc ?_ _) | (with_reducible refine Kd.C_drewN ?_ _) | (with_reducible refine Kd.C_drew ?_))); (case side2 => exact HC2.out); rintro e w15 ⟨rfl, hb⟩; refine ⟨_, rfl, ?_⟩; have n0_ := Aside0.mk (below_step (by repeat (first | (with_reducible first | exact HB.out | apply below_alloc | apply pw_below_drewN | apply below_drew1) | exact HB.out)) hb); clear HB; have HB := n0_; clear n0_; (try clear hb); (try clear hb2); (try clear hk); (try clear hi)) | ((with_reducible refine gate_callee (f := 41) rfl ?_); refine goesL_ (some 121) rfl rfl Tryd.func41 (by kernel_rfl) rfl #[.slice A2 l2.length c2] rfl (by (try simp only [List.map_toArray, List.map_cons, List.map_nil]); first | done | rfl | (simp only [List.length_drop, List.length_take]; rfl)) ?_; (with_reducible refine (utf_Next.calls kj3 _ _ l2 t129 t130 _ ?side1 ?side2 A14.out).mono ?_); (case side1 => repeat (first | exact (Kd.C_below HR2.out HB.out) | (with_reducible refine Kd.C_alloc ?_ _) | (with_reducible refine Kd.C_drewN ?_ _) | (with_reducible refine Kd.C_drew ?_))); (case side2 => exact HC2.out); rintro e w' ⟨rfl, ⟨nd, rfl⟩⟩; refine ⟨_, rfl, ?_⟩))
     go_ret2
     exact ⟨by first | rfl | (simp [errW_none, errW_some] <;> rfl) | (simp [*, errW_none, errW_some] <;> rfl), by repeat (first | (with_reducible first | exact HB.out | apply below_alloc | apply pw_below_drewN | apply below_drew1) | exact HB.out)⟩
   ·replace c10 := Bool.eq_false_iff.mpr c10
    subst c10
    have H1 : (if (a1 == 1) = true then (if a0 = 2 then (if 0 < (l2.length : Int) then (if (rd l2 0) = 92 then (if (l2.length : Int) > 1 then (if 1 < (l2.length : Int) then ((decode_punct.f (rd l2 1)).bind fun t133 => (decode_one.j1 kj3 a0 a1 l2 t133)) else (none)) else (decode_one.j1 kj3 a0 a1 l2 false)) else (decode_one.j1 kj3 a0 a1 l2 false)) else (none)) else (decode_one.j1 kj3 a0 a1 l2 false)) else (decode_one.j1 kj3 a0 a1 l2 false)) = some (r1, r2) := by rw [if_neg (show ¬ (false = true) by decide)] at H; exact H
    clear H
    have H := H1
    clear H1
    have HC16 := Aside0.mk H
    clear H
    go_upto_region 6 with (fail)
    go_cut [8, 42] (fun v8 v42 wc => v8 = .bool (a1 == 1) ∧ ∃ (kq : Nat) (x42_15 : Bool), v42 = .bool x42_15 ∧ Aside0 (decode_one.j1 kq a0 a1 l2 x42_15 = some (r1, r2)) ∧ Aside0 (kq ≤ kj3) ∧ Aside0 (Below w.heap.size w wc))
    case first =>
     have H := HC16.out
     clear HC16
     by_cases c17 : (a1 == 1) = true
     ·rw [if_pos c17] at H
      have c17b0 : (a1 == 1) = true := c17
      (try (have c17b1 : decide (a1 = 1) = true := by simpa using c17))
      (try (have c17b2 : (a1 == 1) = true := by simpa using c17))
      clear c17
      (first | rw [c17b0] | (simp only [i64_w, i32_w]; rw [c17b0]) | skip)
      by_cases c18 : a0 = 2
      ·rw [if_pos c18] at H
       have c18b0 : (a0 == 2) = true := beq_iff_eq.mpr c18
       have c18b1 : (a0 != 2) = false := bne_eq_false_iff_eq.mpr c18
       clear c18
       by_cases c19 : 0 < (l2.length : Int)
       ·rw [if_pos c19] at H
        have c19b0 : decide (0 < (l2.length : Int)) = true := decide_eq_true c19
        have c19b1 : decide (0 < l2.length) = true := decide_eq_true (by omega)
        clear c19
        by_cases c20 : (rd l2 0) = 92
        ·rw [if_pos c20] at H
         have c20b0 : ((rd l2 0) == 92) = true := beq_iff_eq.mpr c20
         have c20b1 : ((rd l2 0) != 92) = false := bne_eq_false_iff_eq.mpr c20
         clear c20
         by_cases c21 : (l2.length : Int) > 1
         ·rw [if_pos c21] at H
          have c21b0 : decide (1 < (l2.length : Int)) = true := decide_eq_true c21
          have c21b1 : decide (1 < l2.length) = true := decide_eq_true (by omega)
          clear c21
          by_cases c22 : 1 < (l2.length : Int)
          ·rw [if_pos c22] at H
           have c22b0 : decide (1 < (l2.length : Int)) = true := decide_eq_true c22
           have c22b1 : decide (1 < l2.length) = true := decide_eq_true (by omega)
           clear c22
           replace H := Option.bind_eq_some_iff.mp H
           obtain ⟨t133, A230, H⟩ := H
           replace H : (decode_one.j1 kj3 a0 a1 l2 t133) = some (r1, r2) := H
           have A23 := Aside0.mk A230
           clear A230
           have H' := Aside0.mk H
           clear H
           have p131 : 0 ≤ (0 : Int) := (by omega)
           have q131 : 0 < (l2.length : Int) := of_decide_eq_true (by first | (with_reducible assumption) | assumption)
           obtain ⟨ad131, e131, hx131_0⟩ := Kd.at_int HR2.out 0 p131 q131
           cases e131
           have qi131 : (0 < l2.length) = True := eq_true (by omega)
           (try rw [show ((0 : Int)).toNat = 0 from rfl] at hx131_0)
           (try rw [Addr.add_zero'] at hx131_0)
           replace hx131_0 := (HB.out.cell (World.block_lt_of_cell? w _ hx131_0)).trans hx131_0
           replace p131 := eq_true p131
           replace q131 := eq_true q131
           have p132 : 0 ≤ (1 : Int) := (by omega)
           have q132 : 1 < (l2.length : Int) := of_decide_eq_true (by first | (with_reducible assumption) | assumption)
           obtain ⟨ad132, e132, hx132_0⟩ := Kd.at_int HR2.out 1 p132 q132
           obtain rfl : ad131 = ad132 := (by injection e132)
           (try simp only [show (1 : Int).toNat = 1 from rfl, Nat.reduceMul, Nat.reduceEqDiff, Go.Addr.add, ↓reduceIte] at hx132_0)
           have qi132 : (1 < l2.length) = True := eq_true (by omega)
           (try rw [show ((1 : Int)).toNat = 1 from rfl] at hx132_0)
           replace hx132_0 := (HB.out.cell (World.block_lt_of_cell? w _ hx132_0)).trans hx132_0
           replace p132 := eq_true p132
           replace q132 := eq_true q132
           go_wp2_with (first | (go_at_call 53; (with_reducible refine (decode_punct.calls (rd l2 1) t133 _ A23.out).mono ?_); rintro e w' ⟨rfl, ⟨nd, rfl⟩⟩))
           go_meet
           case rel => exact ⟨(by first | rfl | (simp [*]; done)), _, (t133), (by first | rfl | (simp; done) | (simp [*]; done) | (simp [wrap64, wrap32]; done)), H', ⟨by have := HJ3.out; first | omega | exact Nat.le_refl _⟩, ⟨by repeat (first | (with_reducible first | exact HB.out | apply below_alloc | apply pw_below_drewN | apply below_drew1) | exact HB.out)⟩⟩
          ·rw [if_neg c22] at H
           exact absurd H (by simp)
         ·rw [if_neg c21] at H
          have c21b0 : decide (1 < (l2.length : Int)) = false := decide_eq_false c21
          have c21b1 : decide (1 < l2.length) = false := decide_eq_false (by omega)
          clear c21
          have H' := Aside0.mk H
          clear H
          have p131 : 0 ≤ (0 : Int) := (by omega)
          have q131 : 0 < (l2.length : Int) := of_decide_eq_true (by first | (with_reducible assumption) | assumption)
          obtain ⟨ad131, e131, hx131_0⟩ := Kd.at_int HR2.out 0 p131 q131
          cases e131
          have qi131 : (0 < l2.length) = True := eq_true (by omega)
          (try rw [show ((0 : Int)).toNat = 0 from rfl] at hx131_0)
          (try rw [Addr.add_zero'] at hx131_0)
          replace hx131_0 := (HB.out.cell (World.block_lt_of_cell? w _ hx131_0)).trans hx131_0
          replace p131 := eq_true p131
          replace q131 := eq_true q131
          go_wp2
          go_meet
          case rel => exact ⟨(by first | rfl | (simp [*]; done)), _, (false), (by first | rfl | (simp; done) | (simp [*]; done) | (simp [wrap64, wrap32]; done)), H', ⟨by have := HJ3.out; first | omega | exact Nat.le_refl _⟩, ⟨by repeat (first | (with_reducible first | exact HB.out | apply below_alloc | apply pw_below_drewN | apply below_drew1) | exact HB.out)⟩⟩
        ·rw [if_neg c20] at H
         have c20b0 : ((rd l2 0) == 92) = false := beq_eq_false_iff_ne.mpr c20
         have c20b1 : ((rd l2 0) != 92) = true := bne_iff_ne.mpr c20
         have H' := Aside0.mk H
         clear H
         have p131 : 0 ≤ (0 : Int) := (by omega)
         have q131 : 0 < (l2.length : Int) := of_decide_eq_true (by first | (with_reducible assumption) | assumption)
         obtain ⟨ad131, e131, hx131_0⟩ := Kd.at_int HR2.out 0 p131 q131
         cases e131
         have qi131 : (0 < l2.length) = True := eq_true (by omega)
         (try rw [show ((0 : Int)).toNat = 0 from rfl] at hx131_0)
         (try rw [Addr.add_zero'] at hx131_0)
         replace hx131_0 := (HB.out.cell (World.block_lt_of_cell? w _ hx131_0)).trans hx131_0
         replace p131 := eq_true p131
         replace q131 := eq_true q131
         go_wp2
         go_meet
         case rel => exact ⟨(by first | rfl | (simp [*]; done)), _, (false), (by first | rfl | (simp; done) | (simp [*]; done) | (simp [wrap64, wrap32]; done)), H', ⟨by have := HJ3.out; first | omega | exact Nat.le_refl _⟩, ⟨by repeat (first | (with_reducible first | exact HB.out | apply below_alloc | apply pw_below_drewN | apply below_drew1) | exact HB.out)⟩⟩
       ·rw [if_neg c19] at H
        exact absurd H (by simp)
      ·rw [if_neg c18] at H
       have c18b0 : (a0 == 2) = false := beq_eq_false_iff_ne.mpr c18
       have c18b1 : (a0 != 2) = true := bne_iff_ne.mpr c18
       have H' := Aside0.mk H
       clear H
       go_wp2
       go_meet
       case rel => exact ⟨(by first | rfl | (simp [*]; done)), _, (false), (by first | rfl | (simp; done) | (simp [*]; done) | (simp [wrap64, wrap32]; done)), H', ⟨by have := HJ3.out; first | omega | exact Nat.le_refl _⟩, ⟨by repeat (first | (with_reducible first | exact HB.out | apply below_alloc | apply pw_below_drewN | apply below_drew1) | exact HB.out)⟩⟩
     ·rw [if_neg c17] at H
      have c17b0 : (a1 == 1) = false := by simpa using c17
      (try (have c17b1 : decide (a1 = 1) = false := by simpa using c17))
      (try (have c17b2 : (a1 == 1) = false := by simpa using c17))
      (try (have c17b3 : ¬ (a1 = 1) := by simpa using c17))
      clear c17
      (first | rw [c17b0] | (simp only [i64_w, i32_w]; rw [c17b0]) | skip)
      have H' := Aside0.mk H
      clear H
      go_wp2
      go_meet
      case rel => exact ⟨(by first | rfl | (simp [*]; done)), _, (false), (by first | rfl | (simp; done) | (simp [*]; done) | (simp [wrap64, wrap32]; done)), H', ⟨by have := HJ3.out; first | omega | exact Nat.le_refl _⟩, ⟨by repeat (first | (with_reducible first | exact HB.out | apply below_alloc | apply pw_below_drewN | apply below_drew1) | exact HB.out)⟩⟩
    case rest =>
     clear HC16
     try clear c1
     try clear p1
     try clear q1
     try clear hx1
     try clear qi1
     try clear c2
     try clear p2
     try clear c3
     try clear c4
     try clear c5
     try clear c5b0
     try clear c5b1
     try clear c6
     try clear c6b0
     try clear c6b1
     try clear c7
     try clear c7b0
     try clear c7b1
     try clear c8
     try clear c8b0
     try clear c8b1
     try clear c9
     try clear c9b0
     try clear c9b1
     try clear c10
     try clear c12
     try clear p12
     try clear q12
     try clear hx12
     try clear qi12
     try clear p13
     try clear q13
     try clear hx13
     try clear qi13
     try clear c17
     try clear c17b0
     try clear c17b1
     try clear c17b2
     try clear c18
     try clear c18b0
     try clear c18b1
     try clear c19
     try clear c19b0
     try clear c19b1
     try clear c20
     try clear c20b0
     try clear c20b1
     try clear c21
     try clear c21b0
     try clear c21b1
     try clear c22
     try clear c22b0
     try clear c22b1
     try clear hx124_0
     try clear hx125_0
     try clear hx131_0
     try clear hx132_0
     try clear p1
     try clear p124
     try clear p125
     try clear p131
     try clear p132
     try clear p2
     try clear q1
     try clear q124
     try clear q125
     try clear q131
     try clear q132
     obtain ⟨rfl, kq, x42_15, rfl, HA, HJ15, HB⟩ := hcut
     cases kq with
     | zero => exact absurd HA.out (by simp [decode_one.j1])
     | succ kj15 =>
      have H := HA.out
      clear HA
      simp only [decode_one.j1] at H
      by_cases c24 : x42_15 = true
      ·subst c24
       have H1 : (if 1 < (l2.length : Int) then (some (wrap32 (rd l2 1), 2)) else (none)) = some (r1, r2) := by rw [if_pos rfl] at H; exact H
       clear H
       have H := H1
       clear H1
       by_cases c25 : 1 < (l2.length : Int)
       ·rw [if_pos c25] at H
        have c25b0 : decide (1 < (l2.length : Int)) = true := decide_eq_true c25
        have c25b1 : decide (1 < l2.length) = true := decide_eq_true (by omega)
        clear c25
        simp only [Option.some.injEq, Prod.mk.injEq] at H
        obtain ⟨rfl, rfl⟩ := H
        have p134 : 0 ≤ (1 : Int) := (by omega)
        have q134 : 1 < (l2.length : Int) := of_decide_eq_true (by first | (with_reducible assumption) | assumption)
        obtain ⟨ad134, e134, hx134_0⟩ := Kd.at_int HR2.out 1 p134 q134
        cases e134
        (try simp only [show (1 : Int).toNat = 1 from rfl, Nat.reduceMul, Nat.reduceEqDiff, Go.Addr.add, ↓reduceIte] at hx134_0)
        have qi134 : (1 < l2.length) = True := eq_true (by omega)
        (try rw [show ((1 : Int)).toNat = 1 from rfl] at hx134_0)
        replace hx134_0 := (HB.out.cell (World.block_lt_of_cell? w _ hx134_0)).trans hx134_0
        replace p134 := eq_true p134
        replace q134 := eq_true q134
        go_wp2
        go_ret2
        exact ⟨by first | rfl | (simp [errW_none, errW_some] <;> rfl) | (simp [*, errW_none, errW_some] <;> rfl), by repeat (first | (with_reducible first | exact HB.out | apply below_alloc | apply pw_below_drewN | apply below_drew1) | exact HB.out)⟩
       ·rw [if_neg c25] at H
        exact absurd H (by simp)
      ·replace c24 := Bool.eq_false_iff.mpr c24
       subst c24
       have H1 : (if a1 = 5 then (if a0 = 8 then (if (l2.length : Int) > 1 then (if 0 < (l2.length : Int) then (if (rd l2 0) = 39 then (if 1 < (l2.length : Int) then (decode_one.j2 kj15 a0 a1 l2 ((rd l2 1) == 39)) else (none)) else (decode_one.j2 kj15 a0 a1 l2 false)) else (none)) else (decode_one.j2 kj15 a0 a1 l2 false)) else (decode_one.j2 kj15 a0 a1 l2 false)) else (decode_one.j2 kj15 a0 a1 l2 false)) = some (r1, r2) := by rw [if_neg (show ¬ (false = true) by decide)] at H; exact H
       clear H
       have H := H1
       clear H1
       have HC26 := Aside0.mk H
       clear H
       go_upto_region 8 with (fail)
       go_cut [8, 69] (fun v8 v69 wc => v8 = .bool (a1 == 1) ∧ ∃ (kq : Nat) (x69_25 : Bool), v69 = .bool x69_25 ∧ Aside0 (decode_one.j2 kq a0 a1 l2 x69_25 = some (r1, r2)) ∧ Aside0 (kq ≤ kj15) ∧ Aside0 (Below w.heap.size w wc))
       case first =>
        have H := HC26.out
        clear HC26
        by_cases c27 : a1 = 5
        ·rw [if_pos c27] at H
         have c27b0 : (a1 == 5) = true := beq_iff_eq.mpr c27
         have c27b1 : (a1 != 5) = false := bne_eq_false_iff_eq.mpr c27
         clear c27
         (first | rw [c27b0] | (simp only [i64_w, i32_w]; rw [c27b0]) | skip)
         by_cases c28 : a0 = 8
         ·rw [if_pos c28] at H
          have c28b0 : (a0 == 8) = true := beq_iff_eq.mpr c28
          have c28b1 : (a0 != 8) = false := bne_eq_false_iff_eq.mpr c28
          clear c28
          by_cases c29 : (l2.length : Int) > 1
          ·rw [if_pos c29] at H
           have c29b0 : decide (1 < (l2.length : Int)) = true := decide_eq_true c29
           have c29b1 : decide (1 < l2.length) = true := decide_eq_true (by omega)
           clear c29
           by_cases c30 : 0 < (l2.length : Int)
           ·rw [if_pos c30] at H
            have c30b0 : decide (0 < (l2.length : Int)) = true := decide_eq_true c30
            have c30b1 : decide (0 < l2.length) = true := decide_eq_true (by omega)
            clear c30
            by_cases c31 : (rd l2 0) = 39
            ·rw [if_pos c31] at H
             have c31b0 : ((rd l2 0) == 39) = true := beq_iff_eq.mpr c31
             have c31b1 : ((rd l2 0) != 39) = false := bne_eq_false_iff_eq.mpr c31
             clear c31
             by_cases c32 : 1 < (l2.length : Int)
             ·rw [if_pos c32] at H
              have c32b0 : decide (1 < (l2.length : Int)) = true := decide_eq_true c32
              have c32b1 : decide (1 < l2.length) = true := decide_eq_true (by omega)
              clear c32
              have H' := Aside0.mk H
              clear H
              have p135 : 0 ≤ (0 : Int) := (by omega)
              have q135 : 0 < (l2.length : Int) := of_decide_eq_true (by first | (with_reducible assumption) | assumption)
              obtain ⟨ad135, e135, hx135_0⟩ := Kd.at_int HR2.out 0 p135 q135
              cases e135
              have qi135 : (0 < l2.length) = True := eq_true (by omega)
              (try rw [show ((0 : Int)).toNat = 0 from rfl] at hx135_0)
              (try rw [Addr.add_zero'] at hx135_0)
              replace hx135_0 := (HB.out.cell (World.block_lt_of_cell? w _ hx135_0)).trans hx135_0
              replace p135 := eq_true p135
              replace q135 := eq_true q135
              have p136 : 0 ≤ (1 : Int) := (by omega)
              have q136 : 1 < (l2.length : Int) := of_decide_eq_true (by first | (with_reducible assumption) | assumption)
              obtain ⟨ad136, e136, hx136_0⟩ := Kd.at_int HR2.out 1 p136 q136
              obtain rfl : ad135 = ad136 := (by injection e136)
              (try simp only [show (1 : Int).toNat = 1 from rfl, Nat.reduceMul, Nat.reduceEqDiff, Go.Addr.add, ↓reduceIte] at hx136_0)
              have qi136 : (1 < l2.length) = True := eq_true (by omega)
              (try rw [show ((1 : Int)).toNat = 1 from rfl] at hx136_0)
              replace hx136_0 := (HB.out.cell (World.block_lt_of_cell? w _ hx136_0)).trans hx136_0
              replace p136 := eq_true p136
              replace q136 := eq_true q136
              go_wp2
              go_meet
              case rel => exact ⟨(by first | rfl | (simp [*]; done)), _, (((rd l2 1) == 39)), (by first | rfl | (simp; done) | (simp [*]; done) | (simp [wrap64, wrap32]; done)), H', ⟨by have := HJ3.out; have := HJ15.out; first | omega | exact Nat.le_refl _⟩, ⟨by repeat (first | (with_reducible first | exact HB.out | apply below_alloc | apply pw_below_drewN | apply below_drew1) | exact HB.out)⟩⟩
             ·rw [if_neg c32] at H
              exact absurd H (by simp)
            ·rw [if_neg c31] at H
             have c31b0 : ((rd l2 0) == 39) = false := beq_eq_false_iff_ne.mpr c31
             have c31b1 : ((rd l2 0) != 39) = true := bne_iff_ne.mpr c31
             have H' := Aside0.mk H
             clear H
             have p135 : 0 ≤ (0 : Int) := (by omega)
             have q135 : 0 < (l2.length : Int) := of_decide_eq_true (by first | (with_reducible assumption) | assumption)
             obtain ⟨ad135, e135, hx135_0⟩ := Kd.at_int HR2.out 0 p135 q135
             cases e135
             have qi135 : (0 < l2.length) = True := eq_true (by omega)
             (try rw [show ((0 : Int)).toNat = 0 from rfl] at hx135_0)
             (try rw [Addr.add_zero'] at hx135_0)
             replace hx135_0 := (HB.out.cell (World.block_lt_of_cell? w _ hx135_0)).trans hx135_0
             replace p135 := eq_true p135
             replace q135 := eq_true q135
             go_wp2
             go_meet
             case rel => exact ⟨(by first | rfl | (simp [*]; done)), _, (false), (by first | rfl | (simp; done) | (simp [*]; done) | (simp [wrap64, wrap32]; done)), H', ⟨by have := HJ3.out; have := HJ15.out; first | omega | exact Nat.le_refl _⟩, ⟨by repeat (first | (with_reducible first | exact HB.out | apply below_alloc | apply pw_below_drewN | apply below_drew1) | exact HB.out)⟩⟩
           ·rw [if_neg c30] at H
            exact absurd H (by simp)
          ·rw [if_neg c29] at H
           have c29b0 : decide (1 < (l2.length : Int)) = false := decide_eq_false c29
           have c29b1 : decide (1 < l2.length) = false := decide_eq_false (by omega)
           clear c29
           have H' := Aside0.mk H
           clear H
           go_wp2
           go_meet
           case rel => exact ⟨(by first | rfl | (simp [*]; done)), _, (false), (by first | rfl | (simp; done) | (simp [*]; done) | (simp [wrap64, wrap32]; done)), H', ⟨by have := HJ3.out; have := HJ15.out; first | omega | exact Nat.le_refl _⟩, ⟨by repeat (first | (with_reducible first | exact HB.out | apply below_alloc | apply pw_below_drewN | apply below_drew1) | exact HB.out)⟩⟩
         ·rw [if_neg c28] at H
          have c28b0 : (a0 == 8) = false := beq_eq_false_iff_ne.mpr c28
          have c28b1 : (a0 != 8) = true := bne_iff_ne.mpr c28
          have H' := Aside0.mk H
          clear H
          go_wp2
          go_meet
          case rel => exact ⟨(by first | rfl | (simp [*]; done)), _, (false), (by first | rfl | (simp; done) | (simp [*]; done) | (simp [wrap64, wrap32]; done)), H', ⟨by have := HJ3.out; have := HJ15.out; first | omega | exact Nat.le_refl _⟩, ⟨by repeat (first | (with_reducible first | exact HB.out | apply below_alloc | apply pw_below_drewN | apply below_drew1) | exact HB.out)⟩⟩
        ·rw [if_neg c27] at H
         have c27b0 : (a1 == 5) = false := beq_eq_false_iff_ne.mpr c27
         have c27b1 : (a1 != 5) = true := bne_iff_ne.mpr c27
         (first | rw [c27b0] | (simp only [i64_w, i32_w]; rw [c27b0]) | skip)
         have H' := Aside0.mk H
         clear H
         go_wp2
         go_meet
         case rel => exact ⟨(by first | rfl | (simp [*]; done)), _, (false), (by first | rfl | (simp; done) | (simp [*]; done) | (simp [wrap64, wrap32]; done)), H', ⟨by have := HJ3.out; have := HJ15.out; first | omega | exact Nat.le_refl _⟩, ⟨by repeat (first | (with_reducible first | exact HB.out | apply below_alloc | apply pw_below_drewN | apply below_drew1) | exact HB.out)⟩⟩
       case rest =>
        clear HC26
        try clear c1
        try clear p1
        try clear q1
        try clear hx1
        try clear qi1
        try clear c2
        try clear p2
        try clear c3
        try clear p3
        try clear c4
        try clear c5
        try clear c5b0
        try clear c5b1
        try clear c6
        try clear c6b0
        try clear c6b1
        try clear c7
        try clear c7b0
        try clear c7b1
        try clear c8
        try clear c8b0
        try clear c8b1
        try clear c9
        try clear c9b0
        try clear c9b1
        try clear c10
        try clear c12
        try clear p12
        try clear q12
        try clear hx12
        try clear qi12
        try clear p13
        try clear q13
        try clear hx13
        try clear qi13
        try clear c17
        try clear c17b0
        try clear c17b1
        try clear c17b2
        try clear c18
        try clear c18b0
        try clear c18b1
        try clear c19
        try clear c19b0
        try clear c19b1
        try clear c20
        try clear c20b0
        try clear c20b1
        try clear c21
        try clear c21b0
        try clear c21b1
        try clear c22
        try clear c22b0
        try clear c22b1
        try clear c24
        try clear c25
        try clear c25b0
        try clear c25b1
        try clear c27
        try clear c27b0
        try clear c27b1
        try clear c28
        try clear c28b0
        try clear c28b1
        try clear c29
        try clear c29b0
        try clear c29b1
        try clear c30
        try clear c30b0
        try clear c30b1
        try clear c31
        try clear c31b0
        try clear c31b1
        try clear c32
        try clear c32b0
        try clear c32b1
        try clear p32
        try clear hx124_0
        try clear hx125_0
        try clear hx131_0
        try clear hx132_0
        try clear hx134_0
        try clear hx135_0
        try clear hx136_0
        try clear p1
        try clear p12
        try clear p124
        try clear p125
        try clear p13
        try clear p131
        try clear p132
        try clear p134
        try clear p135
        try clear p136
        try clear p2
        try clear q1
        try clear q12
        try clear q124
        try clear q125
        try clear q13
        try clear q131
        try clear q132
        try clear q134
        try clear q135
        try clear q136
        obtain ⟨rfl, kq, x69_25, rfl, HA, HJ25, HB⟩ := hcut
        cases kq with
        | zero => exact absurd HA.out (by simp [decode_one.j2])
        | succ kj25 =>
         have H := HA.out
         clear HA
         simp only [decode_one.j2] at H
         by_cases c33 : x69_25 = true
         ·subst c33
          have H1 : (some (39, 2)) = some (r1, r2) := by rw [if_pos rfl] at H; exact H
          clear H
          have H := H1
          clear H1
          simp only [Option.some.injEq, Prod.mk.injEq] at H
          obtain ⟨rfl, rfl⟩ := H
          go_wp2
          go_ret2
          exact ⟨by first | rfl | (simp [errW_none, errW_some] <;> rfl) | (simp [*, errW_none, errW_some] <;> rfl), by repeat (first | (with_reducible first | exact HB.out | apply below_alloc | apply pw_below_drewN | apply below_drew1) | exact HB.out)⟩
         ·replace c33 := Bool.eq_false_iff.mpr c33
          subst c33
          have H1 : (if a1 = 5 then (if 0 < (l2.length : Int) then (if (rd l2 0) = 92 then (if a0 ≥ 4 then (decode_one.j3 kj25 a0 l2 (decide (a0 ≤ 7))) else (decode_one.j3 kj25 a0 l2 false)) else (decode_one.j3 kj25 a0 l2 false)) else (none)) else (decode_one.j3 kj25 a0 l2 false)) = some (r1, r2) := by rw [if_neg (show ¬ (false = true) by decide)] at H; exact H
          clear H
          have H := H1
          clear H1
          have HC34 := Aside0.mk H
          clear H
          go_upto_region 10 with (fail)
          go_cut [8, 93] (fun v8 v93 wc => v8 = .bool (a1 == 1) ∧ ∃ (kq : Nat) (x93_33 : Bool), v93 = .bool x93_33 ∧ Aside0 (decode_one.j3 kq a0 l2 x93_33 = some (r1, r2)) ∧ Aside0 (kq ≤ kj25) ∧ Aside0 (Below w.heap.size w wc))
          case first =>
           have H := HC34.out
           clear HC34
           by_cases c35 : a1 = 5
           ·rw [if_pos c35] at H
            have c35b0 : (a1 == 5) = true := beq_iff_eq.mpr c35
            have c35b1 : (a1 != 5) = false := bne_eq_false_iff_eq.mpr c35
            clear c35
            (first | rw [c35b0] | (simp only [i64_w, i32_w]; rw [c35b0]) | skip)
            by_cases c36 : 0 < (l2.length : Int)
            ·rw [if_pos c36] at H
             have c36b0 : decide (0 < (l2.length : Int)) = true := decide_eq_true c36
             have c36b1 : decide (0 < l2.length) = true := decide_eq_true (by omega)
             clear c36
             by_cases c37 : (rd l2 0) = 92
             ·rw [if_pos c37] at H
              have c37b0 : ((rd l2 0) == 92) = true := beq_iff_eq.mpr c37
              have c37b1 : ((rd l2 0) != 92) = false := bne_eq_false_iff_eq.mpr c37
              clear c37
              by_cases c38 : a0 ≥ 4
              ·rw [if_pos c38] at H
               have c38b0 : decide (4 ≤ a0) = true := decide_eq_true c38
               clear c38
               have H' := Aside0.mk H
               clear H
               have p137 : 0 ≤ (0 : Int) := (by omega)
               have q137 : 0 < (l2.length : Int) := of_decide_eq_true (by first | (with_reducible assumption) | assumption)
               obtain ⟨ad137, e137, hx137_0⟩ := Kd.at_int HR2.out 0 p137 q137
               cases e137
               have qi137 : (0 < l2.length) = True := eq_true (by omega)
               (try rw [show ((0 : Int)).toNat = 0 from rfl] at hx137_0)
               (try rw [Addr.add_zero'] at hx137_0)
               replace hx137_0 := (HB.out.cell (World.block_lt_of_cell? w _ hx137_0)).trans hx137_0
               replace p137 := eq_true p137
               replace q137 := eq_true q137
               go_wp2
               go_meet
               case rel => exact ⟨(by first | rfl | (simp [*]; done)), _, (decide (a0 ≤ 7)), (by first | rfl | (simp; done) | (simp [*]; done) | (simp [wrap64, wrap32]; done)), H', ⟨by have := HJ3.out; have := HJ15.out; have := HJ25.out; first | omega | exact Nat.le_refl _⟩, ⟨by repeat (first | (with_reducible first | exact HB.out | apply below_alloc | apply pw_below_drewN | apply below_drew1) | exact HB.out)⟩⟩
              ·rw [if_neg c38] at H
               have c38b0 : decide (4 ≤ a0) = false := decide_eq_false c38
               clear c38
               have H' := Aside0.mk H
               clear H
               have p137 : 0 ≤ (0 : Int) := (by omega)
               have q137 : 0 < (l2.length : Int) := of_decide_eq_true (by first | (with_reducible assumption) | assumption)
               obtain ⟨ad137, e137, hx137_0⟩ := Kd.at_int HR2.out 0 p137 q137
               cases e137
               have qi137 : (0 < l2.length) = True := eq_true (by omega)
               (try rw [show ((0 : Int)).toNat = 0 from rfl] at hx137_0)
               (try rw [Addr.add_zero'] at hx137_0)
               replace hx137_0 := (HB.out.cell (World.block_lt_of_cell? w _ hx137_0)).trans hx137_0
               replace p137 := eq_true p137
               replace q137 := eq_true q137
               go_wp2
               go_meet
               case rel => exact ⟨(by first | rfl | (simp [*]; done)), _, (false), (by first | rfl | (simp; done) | (simp [*]; done) | (simp [wrap64, wrap32]; done)), H', ⟨by have := HJ3.out; have := HJ15.out; have := HJ25.out; first | omega | exact Nat.le_refl _⟩, ⟨by repeat (first | (with_reducible first | exact HB.out | apply below_alloc | apply pw_below_drewN | apply below_drew1) | exact HB.out)⟩⟩
             ·rw [if_neg c37] at H
              have c37b0 : ((rd l2 0) == 92) = false := beq_eq_false_iff_ne.mpr c37
              have c37b1 : ((rd l2 0) != 92) = true := bne_iff_ne.mpr c37
              have H' := Aside0.mk H
              clear H
              have p137 : 0 ≤ (0 : Int) := (by omega)
              have q137 : 0 < (l2.length : Int) := of_decide_eq_true (by first | (with_reducible assumption) | assumption)
              obtain ⟨ad137, e137, hx137_0⟩ := Kd.at_int HR2.out 0 p137 q137
              cases e137
              have qi137 : (0 < l2.length) = True := eq_true (by omega)
              (try rw [show ((0 : Int)).toNat = 0 from rfl] at hx137_0)
              (try rw [Addr.add_zero'] at hx137_0)
              replace hx137_0 := (HB.out.cell (World.block_lt_of_cell? w _ hx137_0)).trans hx137_0
              replace p137 := eq_true p137
              replace q137 := eq_true q137
              go_wp2
              go_meet
              case rel => exact ⟨(by first | rfl | (simp [*]; done)), _, (false), (by first | rfl | (simp; done) | (simp [*]; done) | (simp [wrap64, wrap32]; done)), H', ⟨by have := HJ3.out; have := HJ15.out; have := HJ25.out; first | omega | exact Nat.le_refl _⟩, ⟨by repeat (first | (with_reducible first | exact HB.out | apply below_alloc | apply pw_below_drewN | apply below_drew1) | exact HB.out)⟩⟩
            ·rw [if_neg c36] at H
             exact absurd H (by simp)
           ·rw [if_neg c35] at H
            have c35b0 : (a1 == 5) = false := beq_eq_false_iff_ne.mpr c35
            have c35b1 : (a1 != 5) = true := bne_iff_ne.mpr c35
            (first | rw [c35b0] | (simp only [i64_w, i32_w]; rw [c35b0]) | skip)
            have H' := Aside0.mk H
            clear H
            go_wp2
            go_meet
            case rel => exact ⟨(by first | rfl | (simp [*]; done)), _, (false), (by first | rfl | (simp; done) | (simp [*]; done) | (simp [wrap64, wrap32]; done)), H', ⟨by have := HJ3.out; have := HJ15.out; have := HJ25.out; first | omega | exact Nat.le_refl _⟩, ⟨by repeat (first | (with_reducible first | exact HB.out | apply below_alloc | apply pw_below_drewN | apply below_drew1) | exact HB.out)⟩⟩
          case rest =>
           clear HC34
           try clear c1
           try clear p1
           try clear q1
           try clear hx1
           try clear qi1
           try clear c2
           try clear p2
           try clear c3
           try clear p3
           try clear c4
           try clear c5
           try clear c5b0
           try clear c5b1
           try clear c6
           try clear c6b0
           try clear c6b1
           try clear c7
           try clear c7b0
           try clear c7b1
           try clear c8
           try clear c8b0
           try clear c8b1
           try clear c9
           try clear c9b0
           try clear c9b1
           try clear c10
           try clear c12
           try clear p12
           try clear q12
           try clear hx12
           try clear qi12
           try clear p13
           try clear q13
           try clear hx13
           try clear qi13
           try clear c17
           try clear c17b0
           try clear c17b1
           try clear c17b2
           try clear c18
           try clear c18b0
           try clear c18b1
           try clear c19
           try clear c19b0
           try clear c19b1
           try clear c20
           try clear c20b0
           try clear c20b1
           try clear c21
           try clear c21b0
           try clear c21b1
           try clear c22
           try clear c22b0
           try clear c22b1
           try clear c24
           try clear c25
           try clear c25b0
           try clear c25b1
           try clear c27
           try clear c27b0
           try clear c27b1
           try clear c28
           try clear c28b0
           try clear c28b1
           try clear c29
           try clear c29b0
           try clear c29b1
           try clear c30
           try clear c30b0
           try clear c30b1
           try clear c31
           try clear c31b0
           try clear c31b1
           try clear c32
           try clear c32b0
           try clear c32b1
           try clear p32
           try clear c33
           try clear c35
           try clear c35b0
           try clear c35b1
           try clear c36
           try clear c36b0
           try clear c36b1
           try clear c37
           try clear c37b0
           try clear c37b1
           try clear c38
           try clear c38b0
           try clear hx124_0
           try clear hx125_0
           try clear hx131_0
           try clear hx132_0
           try clear hx134_0
           try clear hx135_0
           try clear hx136_0
           try clear hx137_0
           try clear p1
           try clear p12
           try clear p124
           try clear p125
           try clear p13
           try clear p131
           try clear p132
           try clear p134
           try clear p135
           try clear p136
           try clear p137
           try clear p2
           try clear p3
           try clear p32
           try clear q1
           try clear q12
           try clear q124
           try clear q125
           try clear q13
           try clear q131
           try clear q132
           try clear q134
           try clear q135
           try clear q136
           try clear q137
           obtain ⟨rfl, kq, x93_33, rfl, HA, HJ33, HB⟩ := hcut
           cases kq with
           | zero => exact absurd HA.out (by simp [decode_one.j3])
           | succ kj33 =>
            have H := HA.out
            clear HA
            simp only [decode_one.j3] at H
            by_cases c39 : x93_33 = true
            ·subst c39
             have H1 : ((decode_Escape.f kj33 a0 l2).bind fun bt138 => (if bt138.2.2 = true then (some (bt138.1, bt138.2.1)) else ((utf_Next.f kj33 l2).bind fun bt141 => (some (bt141.1, bt141.2))))) = some (r1, r2) := by rw [if_pos rfl] at H; exact H
             clear H
             have H := H1
             clear H1
             replace H := Option.bind_eq_some_iff.mp H
             obtain ⟨⟨t138, t139, t140⟩, A400, H⟩ := H
             replace H : (if t140 = true then (some (t138, t139)) else ((utf_Next.f kj33 l2).bind fun bt141 => (some (bt141.1, bt141.2)))) = some (r1, r2) := H
             have A40 := Aside0.mk A400
             clear A400
             by_cases c41 : t140 = true
             ·subst c41
              have H1 : (some (t138, t139)) = some (r1, r2) := by rw [if_pos rfl] at H; exact H
              clear H
              have H := H1
              clear H1
              simp only [Option.some.injEq, Prod.mk.injEq] at H
              obtain ⟨rfl, rfl⟩ := H
              go_wp2_with (first | ((with_reducible refine gate_callee (f := 14) rfl ?_); refine goesL_ (some 113) rfl rfl Tryd.func14 (by kernel_rfl) rfl #[.int .u8 a0, .slice A2 l2.length c2] rfl (by (try simp only [List.map_toArray, List.map_cons, List.map_nil]); first | done | rfl | (simp only [List.length_drop, List.length_take]; rfl)) ?_; (with_reducible refine (decode_Escape.calls kj33 a0 _ _ l2 t138 t139 true _ ?side1 ?side2 A40.out).mono ?_); (case side1 => repeat (first | exact (Kd.C_below HR2.out HB.out) | (with_reducible refine Kd.C_alloc ?_ _) | (with_reducible refine Kd.C_drewN ?_ _) | (with_reducible refine Kd.C_drew ?_))); (case side2 => exact HC2.out); rintro e w' ⟨rfl, ⟨nd, rfl⟩⟩; refine ⟨_, rfl, ?_⟩))
              go_ret2
              exact ⟨by first | rfl | (simp [errW_none, errW_some] <;> rfl) | (simp [*, errW_none, errW_some] <;> rfl), by repeat (first | (with_reducible first | exact HB.out | apply below_alloc | apply pw_below_drewN | apply below_drew1) | exact HB.out)⟩
             ·replace c41 := Bool.eq_false_iff.mpr c41
              subst c41
              have H1 : ((utf_Next.f kj33 l2).bind fun bt141 => (some (bt141.1, bt141.2))) = some (r1, r2) := by rw [if_neg (show ¬ (false = true) by decide)] at H; exact H
              clear H
              have H := H1
              clear H1
              replace H := Option.bind_eq_some_iff.mp H
              obtain ⟨⟨t141, t142⟩, A420, H⟩ := H
              replace H : (some (t141, t142)) = some (r1, r2) := H
              have A42 := Aside0.mk A420
              clear A420
              simp only [Option.some.injEq, Prod.mk.injEq] at H
              obtain ⟨rfl, rfl⟩ := H
              go_wp2_with (first | ((with_reducible refine gate_callee (f := 14) rfl ?_); refine goesL_ (some 113) rfl rfl Tryd.func14 (by kernel_rfl) rfl #[.int .u8 a0, .slice A2 l2.length c2] rfl (by (try simp only [List.map_toArray, List.map_cons, List.map_nil]); first | done | rfl | (simp only [List.length_drop, List.length_take]; rfl)) ?_; (with_reducible refine (decode_Escape.calls kj33 a0 _ _ l2 t138 t139 false _ ?side1 ?side2 A40.out).mono ?_); (case side1 => repeat (first | exact (Kd.C_below HR2.out HB.out) | (with_reducible refine Kd.C_alloc ?_ _) | (with_reducible refine Kd.C_drewN ?_ _) | (with_reducible refine Kd.C_drew ?_))); (case side2 => exact HC2.out); rintro e w' ⟨rfl, ⟨nd, rfl⟩⟩; refine ⟨_, rfl, ?_⟩) | ((with_reducible refine gate_callee (f := 41) rfl ?_); refine goesL_ (some 121) rfl rfl Tryd.func41 (by kernel_rfl) rfl #[.slice A2 l2.length c2] rfl (by (try simp only [List.map_toArray, List.map_cons, List.map_nil]); first | done | rfl | (simp only [List.length_drop, List.length_take]; rfl)) ?_; (with_reducible refine (utf_Next.calls kj33 _ _ l2 t141 t142 _ ?side1 ?side2 A42.out).mono ?_); (case side1 => repeat (first | exact (Kd.C_below HR2.out (by repeat (first | (with_reducible first | exact HB.out | apply below_alloc | apply pw_below_drewN | apply below_drew1) | exact HB.out))) | (with_reducible refine Kd.C_alloc ?_ _) | (with_reducible refine Kd.C_drewN ?_ _) | (with_reducible refine Kd.C_drew ?_))); (case side2 => exact HC2.out); rintro e w' ⟨rfl, ⟨nd, rfl⟩⟩; refine ⟨_, rfl, ?_⟩))
              go_ret2
              exact ⟨by first | rfl | (simp [errW_none, errW_some] <;> rfl) | (simp [*, errW_none, errW_some] <;> rfl), by repeat (first | (with_reducible first | exact HB.out | apply below_alloc | apply pw_below_drewN | apply below_drew1) | exact HB.out)⟩
            ·replace c39 := Bool.eq_false_iff.mpr c39
             subst c39
             have H1 : ((utf_Next.f kj33 l2).bind fun bt143 => (some (bt143.1, bt143.2))) = some (r1, r2) := by rw [if_neg (show ¬ (false = true) by decide)] at H; exact H
             clear H
             have H := H1
             clear H1
             replace H := Option.bind_eq_some_iff.mp H
             obtain ⟨⟨t143, t144⟩, A430, H⟩ := H
             replace H : (some (t143, t144)) = some (r1, r2) := H
             have A43 := Aside0.mk A430
             clear A430
             simp only [Option.some.injEq, Prod.mk.injEq] at H
             obtain ⟨rfl, rfl⟩ := H
             go_wp2_with (first | ((with_reducible refine gate_callee (f := 41) rfl ?_); refine goesL_ (some 121) rfl rfl Tryd.func41 (by kernel_rfl) rfl #[.slice A2 l2.length c2] rfl (by (try simp only [List.map_toArray, List.map_cons, List.map_nil]); first | done | rfl | (simp only [List.length_drop, List.length_take]; rfl)) ?_; (with_reducible refine (utf_Next.calls kj33 _ _ l2 t143 t144 _ ?side1 ?side2 A43.out).mono ?_); (case side1 => repeat (first | exact (Kd.C_below HR2.out HB.out) | (with_reducible refine Kd.C_alloc ?_ _) | (with_reducible refine Kd.C_drewN ?_ _) | (with_reducible refine Kd.C_drew ?_))); (case side2 => exact HC2.out); rintro e w' ⟨rfl, ⟨nd, rfl⟩⟩; refine ⟨_, rfl, ?_⟩))
             go_ret2
             exact ⟨by first | rfl | (simp [errW_none, errW_some] <;> rfl) | (simp [*, errW_none, errW_some] <;> rfl), by repeat (first | (with_reducible first | exact HB.out | apply below_alloc | apply pw_below_drewN | apply below_drew1) | exact HB.out)⟩

end Go.Proofs.YtekalnhackjldaaDoor.PDecodeBack
