-- Laid by a program of ours (the kit's print with words and contracts of our own beside it).
import Derived.Test.YtekalnhackjldaaDoorPTokenWordsx0
import Derived.Test.YtekalnhackjldaaDoorPTokenWordsx14
namespace Go.Proofs.YtekalnhackjldaaDoor.PTokenWords
open Go.RowKit Go.Proofs.YtekalnhackjldaaDoor.X Go.Proofs.YtekalnhackjldaaDoorW.PrintWords Go.Proofs.YtekalnhackjldaaDoorW.PrintLast Go.Proofs.YtekalnhackjldaaDoorW.PrintMore
attribute [local go_sem] max2_int min2_int max_two min_two max_three min_three max_four min_four   -- for this text's walks alone
set_option linter.unusedVariables false
set_option linter.unusedSimpArgs false

/-! ### redpenref15_Split: function 50 -/
mutual
def redpenref15_Split.j0 : Nat → List (S45) → Int → Int → Option ((List (S93)))
 | 0, _, _, _ => none
 | k + 1, x0, x1, x2 => if x2 > (x0.length : Int) then (redpenref15_Split.j1 k x0 x1 (x0.length : Int)) else (redpenref15_Split.j1 k x0 x1 x2)
def redpenref15_Split.j1 : Nat → List (S45) → Int → Int → Option ((List (S93)))
 | 0, _, _, _ => none
 | k + 1, x0, x1, x2 => redpenref15_Split.l0 k x0 x2 ([] : List (S93)) x1
def redpenref15_Split.l0 : Nat → List (S45) → Int → List (S93) → Int → Option ((List (S93)))
 | 0, _, _, _, _ => none
 | k + 1, x0, x2, x7, x8 => if x8 < x2 then (redpenref15_Split.l1 k x0 x2 x7 x8 (wrap64 (x8 + 1))) else (some x7)
def redpenref15_Split.l1 : Nat → List (S45) → Int → List (S93) → Int → Int → Option ((List (S93)))
 | 0, _, _, _, _, _ => none
 | k + 1, x0, x2, x7, x8, x9 => if x9 < x2 then (if 0 ≤ (wrap64 (x9 - 1)) then (if (wrap64 (x9 - 1)) < (x0.length : Int) then (if 0 ≤ x9 then (if x9 < (x0.length : Int) then ((redpenref01_Great.f ((rd_T45 x0 x9).f0)).bind fun t336 => (if t336 = true then ((redpenref01_Small.f ((rd_T45 x0 (wrap64 (x9 - 1))).f0)).bind fun t337 => (redpenref15_Split.j4 k x0 x2 x7 x8 x9 ((rd_T45 x0 (wrap64 (x9 - 1))).f0) ((rd_T45 x0 x9).f0) t337)) else (redpenref15_Split.j4 k x0 x2 x7 x8 x9 ((rd_T45 x0 (wrap64 (x9 - 1))).f0) ((rd_T45 x0 x9).f0) false))) else (none)) else (none)) else (none)) else (none)) else (if x7.length < 8796093022208 then (redpenref15_Split.l0 k x0 x2 (x7 ++ [(⟨x8, x9⟩ : S93)]) x9) else (none))
def redpenref15_Split.j4 : Nat → List (S45) → Int → List (S93) → Int → Int → Int → Int → Bool → Option ((List (S93)))
 | 0, _, _, _, _, _, _, _, _ => none
 | k + 1, x0, x2, x7, x8, x9, x10, x11, x45 => if x45 = true then (if x7.length < 8796093022208 then (redpenref15_Split.l0 k x0 x2 (x7 ++ [(⟨x8, x9⟩ : S93)]) x9) else (none)) else ((redpenref01_Great.f x11).bind fun t341 => (if t341 = true then ((redpenref01_Great.f x10).bind fun t342 => (if t342 = true then (if (wrap64 (x9 + 1)) < x2 then (if 0 ≤ (wrap64 (x9 + 1)) then (if (wrap64 (x9 + 1)) < (x0.length : Int) then ((redpenref01_Small.f ((rd_T45 x0 (wrap64 (x9 + 1))).f0)).bind fun t344 => (if t344 = true then (if x7.length < 8796093022208 then (redpenref15_Split.l0 k x0 x2 (x7 ++ [(⟨x8, x9⟩ : S93)]) x9) else (none)) else (redpenref15_Split.l1 k x0 x2 x7 x8 (wrap64 (x9 + 1))))) else (none)) else (none)) else (redpenref15_Split.l1 k x0 x2 x7 x8 (wrap64 (x9 + 1)))) else (redpenref15_Split.l1 k x0 x2 x7 x8 (wrap64 (x9 + 1))))) else (redpenref15_Split.l1 k x0 x2 x7 x8 (wrap64 (x9 + 1)))))
end
def redpenref15_Split.f (k : Nat) (l0 : List (S45)) (a1 : Int) (a2 : Int) : Option ((List (S93))) := if a1 < 0 then (redpenref15_Split.j0 k l0 0 a2) else (redpenref15_Split.j0 k l0 a1 a2)
theorem redpenref15_Split.mono_l : ∀ k, (∀ y0 y1 y2, LeO (redpenref15_Split.j0 k y0 y1 y2) (redpenref15_Split.j0 (k + 1) y0 y1 y2)) ∧ (∀ y0 y1 y2, LeO (redpenref15_Split.j1 k y0 y1 y2) (redpenref15_Split.j1 (k + 1) y0 y1 y2)) ∧ (∀ y0 y1 y2 y3, LeO (redpenref15_Split.l0 k y0 y1 y2 y3) (redpenref15_Split.l0 (k + 1) y0 y1 y2 y3)) ∧ (∀ y0 y1 y2 y3 y4, LeO (redpenref15_Split.l1 k y0 y1 y2 y3 y4) (redpenref15_Split.l1 (k + 1) y0 y1 y2 y3 y4)) ∧ (∀ y0 y1 y2 y3 y4 y5 y6 y7, LeO (redpenref15_Split.j4 k y0 y1 y2 y3 y4 y5 y6 y7) (redpenref15_Split.j4 (k + 1) y0 y1 y2 y3 y4 y5 y6 y7))
 | 0 => ⟨fun _ _ _ r h => by simp [redpenref15_Split.j0] at h, fun _ _ _ r h => by simp [redpenref15_Split.j1] at h, fun _ _ _ _ r h => by simp [redpenref15_Split.l0] at h, fun _ _ _ _ _ r h => by simp [redpenref15_Split.l1] at h, fun _ _ _ _ _ _ _ _ r h => by simp [redpenref15_Split.j4] at h⟩
 | k + 1 => by
  obtain ⟨ih0, ih1, ih2, ih3, ih4⟩ := redpenref15_Split.mono_l k
  refine ⟨?_, ?_, ?_, ?_, ?_⟩
  ·intro y0 y1 y2
   unfold redpenref15_Split.j0
   repeat' first
   | (with_reducible exact ih0 _ _ _)
   | (with_reducible exact ih1 _ _ _)
   | (with_reducible exact ih2 _ _ _ _)
   | (with_reducible exact ih3 _ _ _ _ _)
   | (with_reducible exact ih4 _ _ _ _ _ _ _ _)
   | (with_reducible exact LeO.refl _)
   | (with_reducible exact LeO.none _)
   | (with_reducible refine LeO.ite ?_ ?_)
   | (with_reducible refine LeO.bind ?_ (fun _ => ?_))
  ·intro y0 y1 y2
   unfold redpenref15_Split.j1
   repeat' first
   | (with_reducible exact ih0 _ _ _)
   | (with_reducible exact ih1 _ _ _)
   | (with_reducible exact ih2 _ _ _ _)
   | (with_reducible exact ih3 _ _ _ _ _)
   | (with_reducible exact ih4 _ _ _ _ _ _ _ _)
   | (with_reducible exact LeO.refl _)
   | (with_reducible exact LeO.none _)
   | (with_reducible refine LeO.ite ?_ ?_)
   | (with_reducible refine LeO.bind ?_ (fun _ => ?_))
  ·intro y0 y1 y2 y3
   unfold redpenref15_Split.l0
   repeat' first
   | (with_reducible exact ih0 _ _ _)
   | (with_reducible exact ih1 _ _ _)
   | (with_reducible exact ih2 _ _ _ _)
   | (with_reducible exact ih3 _ _ _ _ _)
   | (with_reducible exact ih4 _ _ _ _ _ _ _ _)
   | (with_reducible exact LeO.refl _)
   | (with_reducible exact LeO.none _)
   | (with_reducible refine LeO.ite ?_ ?_)
   | (with_reducible refine LeO.bind ?_ (fun _ => ?_))
  ·intro y0 y1 y2 y3 y4
   unfold redpenref15_Split.l1
   repeat' first
   | (with_reducible exact ih0 _ _ _)
   | (with_reducible exact ih1 _ _ _)
   | (with_reducible exact ih2 _ _ _ _)
   | (with_reducible exact ih3 _ _ _ _ _)
   | (with_reducible exact ih4 _ _ _ _ _ _ _ _)
   | (with_reducible exact LeO.refl _)
   | (with_reducible exact LeO.none _)
   | (with_reducible refine LeO.ite ?_ ?_)
   | (with_reducible refine LeO.bind ?_ (fun _ => ?_))
  ·intro y0 y1 y2 y3 y4 y5 y6 y7
   unfold redpenref15_Split.j4
   repeat' first
   | (with_reducible exact ih0 _ _ _)
   | (with_reducible exact ih1 _ _ _)
   | (with_reducible exact ih2 _ _ _ _)
   | (with_reducible exact ih3 _ _ _ _ _)
   | (with_reducible exact ih4 _ _ _ _ _ _ _ _)
   | (with_reducible exact LeO.refl _)
   | (with_reducible exact LeO.none _)
   | (with_reducible refine LeO.ite ?_ ?_)
   | (with_reducible refine LeO.bind ?_ (fun _ => ?_))
theorem redpenref15_Split.mono : ∀ a0 a1 a2 k, LeO (redpenref15_Split.f k a0 a1 a2) (redpenref15_Split.f (k + 1) a0 a1 a2) := by
 intro a0 a1 a2 k
 obtain ⟨ih0, ih1, ih2, ih3, ih4⟩ := redpenref15_Split.mono_l k
 unfold redpenref15_Split.f
 repeat' first
   | (with_reducible exact ih0 _ _ _)
   | (with_reducible exact ih1 _ _ _)
   | (with_reducible exact ih2 _ _ _ _)
   | (with_reducible exact ih3 _ _ _ _ _)
   | (with_reducible exact ih4 _ _ _ _ _ _ _ _)
   | (with_reducible exact LeO.refl _)
   | (with_reducible exact LeO.none _)
   | (with_reducible refine LeO.ite ?_ ?_)
   | (with_reducible refine LeO.bind ?_ (fun _ => ?_))
set_option maxHeartbeats 8000000 in
set_option maxRecDepth 100000 in
theorem redpenref15_Split.calls (k : Nat) (A0 : Option Addr) (c0 : Nat) (l0 : List (S45)) (a1 : Int) (a2 : Int) (r : List (S93)) (w : World) (hr0 : Kd.C k45 w A0 l0.length l0) (hc0 : l0.length ≤ c0) (h : redpenref15_Split.f k l0 a1 a2 = some r) :
  Calls Tryd.prog 50 #[.slice A0 l0.length c0, .int .i64 a1, .int .i64 a2] w fun e w' => ∃ v0_ : Value, e = .returned (v0_) ∧ Kd.R k93 93 w' w.heap.size (fun _ => True) v0_ r ∧ Below w.heap.size w w' := by
 have hu93 := Tryd.underlying93
 have HR0 := Aside0.mk hr0
 have HC0 := Aside0.mk hc0
 clear hr0 hc0
 have HB := Aside0.mk (Below.refl w.heap.size w)
 have H : (if a1 < 0 then (redpenref15_Split.j0 k l0 0 a2) else (redpenref15_Split.j0 k l0 a1 a2)) = some r := h
 clear h
 have HC4 := Aside0.mk H
 clear H
 go_enter Tryd.func50, Tryd.ntmps50
 go_upto_if 13 with (fail)
 repeat (go_quiet (fail); go_upto_if 13 with (fail))
 go_cut [1] (fun v1 wc => ∃ (kq : Nat) (x1_3 : Int), v1 = .int .i64 x1_3 ∧ Aside0 (redpenref15_Split.j0 kq l0 x1_3 a2 = some r) ∧ Aside0 (kq ≤ k) ∧ Aside0 (Below w.heap.size w wc))
 case first =>
  have H := HC4.out
  clear HC4
  by_cases c5 : a1 < 0
  ·rw [if_pos c5] at H
   have c5b0 : decide (a1 < 0) = true := decide_eq_true c5
   clear c5
   (first | rw [c5b0] | (simp only [i64_w, i32_w]; rw [c5b0]) | skip)
   have H' := Aside0.mk H
   clear H
   go_wp2
   repeat (go_quiet (fail); try go_wp2)
   go_meet
   case rel => exact ⟨_, (0), (by first | rfl | (simp; done) | (simp [*]; done) | (simp [wrap64, wrap32]; done)), H', ⟨by first | omega | exact Nat.le_refl _⟩, ⟨by repeat (first | (with_reducible first | exact HB.out | apply below_alloc | apply pw_below_drewN | apply below_drew1) | exact HB.out)⟩⟩
  ·rw [if_neg c5] at H
   have c5b0 : decide (a1 < 0) = false := decide_eq_false c5
   clear c5
   (first | rw [c5b0] | (simp only [i64_w, i32_w]; rw [c5b0]) | skip)
   have H' := Aside0.mk H
   clear H
   go_wp2
   repeat (go_quiet (fail); try go_wp2)
   go_meet
   case rel => exact ⟨_, (a1), (by first | rfl | (simp; done) | (simp [*]; done) | (simp [wrap64, wrap32]; done)), H', ⟨by first | omega | exact Nat.le_refl _⟩, ⟨by repeat (first | (with_reducible first | exact HB.out | apply below_alloc | apply pw_below_drewN | apply below_drew1) | exact HB.out)⟩⟩
 case rest =>
  clear HC4
  (try clear p2); (try clear c5); (try clear c5b0)
  obtain ⟨kq, x1_3, rfl, HA, HJ3, HB⟩ := hcut
  cases kq with
  | zero => exact absurd HA.out (by simp [redpenref15_Split.j0])
  | succ kj3 =>
   have H := HA.out
   clear HA
   simp only [redpenref15_Split.j0] at H
   have HC6 := Aside0.mk H
   clear H
   go_upto_if 17 with (fail)
   repeat (go_quiet (fail); go_upto_if 17 with (fail))
   go_cut [2] (fun v2 wc => ∃ (kq : Nat) (x2_5 : Int), v2 = .int .i64 x2_5 ∧ Aside0 (redpenref15_Split.j1 kq l0 x1_3 x2_5 = some r) ∧ Aside0 (kq ≤ kj3) ∧ Aside0 (Below w.heap.size w wc))
   case first =>
    have H := HC6.out
    clear HC6
    by_cases c7 : a2 > (l0.length : Int)
    ·rw [if_pos c7] at H
     have c7b0 : decide ((l0.length : Int) < a2) = true := decide_eq_true c7
     clear c7
     (first | rw [c7b0] | (simp only [i64_w, i32_w]; rw [c7b0]) | skip)
     have H' := Aside0.mk H
     clear H
     go_wp2
     repeat (go_quiet (fail); try go_wp2)
     go_meet
     case rel => exact ⟨_, ((l0.length : Int)), (by first | rfl | (simp; done) | (simp [*]; done) | (simp [wrap64, wrap32]; done)), H', ⟨by have := HJ3.out; first | omega | exact Nat.le_refl _⟩, ⟨by repeat (first | (with_reducible first | exact HB.out | apply below_alloc | apply pw_below_drewN | apply below_drew1) | exact HB.out)⟩⟩
    ·rw [if_neg c7] at H
     have c7b0 : decide ((l0.length : Int) < a2) = false := decide_eq_false c7
     clear c7
     (first | rw [c7b0] | (simp only [i64_w, i32_w]; rw [c7b0]) | skip)
     have H' := Aside0.mk H
     clear H
     go_wp2
     repeat (go_quiet (fail); try go_wp2)
     go_meet
     case rel => exact ⟨_, (a2), (by first | rfl | (simp; done) | (simp [*]; done) | (simp [wrap64, wrap32]; done)), H', ⟨by have := HJ3.out; first | omega | exact Nat.le_refl _⟩, ⟨by repeat (first | (with_reducible first | exact HB.out | apply below_alloc | apply pw_below_drewN | apply below_drew1) | exact HB.out)⟩⟩
   case rest =>
    clear HC6
    (try clear p2); (try clear c5); (try clear c5b0); (try clear c7); (try clear c7b0); (try clear p2)
    obtain ⟨kq, x2_5, rfl, HA, HJ5, HB⟩ := hcut
    cases kq with
    | zero => exact absurd HA.out (by simp [redpenref15_Split.j1])
    | succ kj5 =>
     have H := HA.out
     clear HA
     simp only [redpenref15_Split.j1] at H
     have H' := Aside0.mk H
     clear H
     go_wp2
     repeat (go_quiet (fail); try go_wp2)
     go_loopg [7, 8] kj5 (fun kq v7 v8 w' => ∃ (x7_3 : List (S93)) (x8_3 : Int), v8 = .int .i64 x8_3 ∧ Aside0 (redpenref15_Split.l0 kq l0 x2_5 x7_3 x8_3 = some r) ∧ Aside0 (kq ≤ kj5) ∧ Aside0 (Kd.R k93 93 w' w.heap.size (fun _ => True) v7 x7_3) ∧ Aside0 (Below w.heap.size w w'))
     case atStart => exact ⟨(([] : List (S93))), (x1_3), (by first | rfl | (simp; done) | (simp [*]; done) | (simp [wrap64, wrap32]; done)), H', ⟨Nat.le_refl _⟩, ⟨by first | exact Kd.R_nil _ _ _ _ _ | exact Kd.N_nil _ _ _ _ _ | exact Kd.V_nil _ _ _ _ _ | exact Kd.Q_nil _ _ _ _ _ | exact Kd.S_nil _ _ _ _ _⟩, ⟨by repeat (first | (with_reducible first | exact HB.out | apply below_alloc | apply pw_below_drewN | apply below_drew1) | exact HB.out)⟩⟩
     case round =>
      clear H'
      (try clear p2); (try clear c5); (try clear c5b0); (try clear c7); (try clear c7b0); (try clear p2)
      obtain ⟨x7_3, x8_3, rfl, HA, HK3, HO_7, HB⟩ := hrel
      cases gk with
      | zero => exact absurd HA.out (by simp [redpenref15_Split.l0])
      | succ k3 =>
       have H := HA.out
       clear HA
       simp only [redpenref15_Split.l0] at H
       by_cases c8 : x8_3 < x2_5
       ·rw [if_pos c8] at H
        have c8b0 : decide (x8_3 < x2_5) = true := decide_eq_true c8
        clear c8
        have H' := Aside0.mk H
        clear H
        go_wp2
        repeat (go_quiet (fail); try go_wp2)
        go_loopg [9] k3 (fun kq v9 w' => ∃ (x9_4 : Int), v9 = .int .i64 x9_4 ∧ Aside0 (redpenref15_Split.l1 kq l0 x2_5 x7_3 x8_3 x9_4 = some r) ∧ Aside0 (kq ≤ k3) ∧ Aside0 (Kd.R k93 93 w' w.heap.size (fun _ => True) u7 x7_3) ∧ Aside0 (Below w.heap.size w w'))
        case atStart => exact ⟨(wrap64 (x8_3 + 1)), (by first | rfl | (simp; done) | (simp [*]; done) | (simp [wrap64, wrap32]; done)), H', ⟨Nat.le_refl _⟩, ⟨by (with_reducible repeat (first | apply Kd.R_alloc | apply Kd.R_drewN | apply Kd.R_drew)); exact HO_7.out⟩, ⟨by repeat (first | (with_reducible first | exact HB.out | apply below_alloc | apply pw_below_drewN | apply below_drew1) | exact HB.out)⟩⟩
        case round =>
         clear H'
         (try clear p2); (try clear c5); (try clear c5b0); (try clear p6); (try clear c7); (try clear c7b0); (try clear c8); (try clear c8b0); (try clear p2)
         obtain ⟨x9_4, rfl, HA, HK4, HO_7, HB⟩ := hrel
         cases gk with
         | zero => exact absurd HA.out (by simp [redpenref15_Split.l1])
         | succ k4 =>
          have H := HA.out
          clear HA
          simp only [redpenref15_Split.l1] at H
          by_cases c9 : x9_4 < x2_5
          ·rw [if_pos c9] at H
           have c9b0 : decide (x9_4 < x2_5) = true := decide_eq_true c9
           clear c9
           obtain ⟨ji10, hji10⟩ : ∃ j_ : Int, (wrap64 (x9_4 - 1)) = j_ := ⟨_, rfl⟩
           replace H : (if 0 ≤ (ji10) then (if (ji10) < (l0.length : Int) then (if 0 ≤ x9_4 then (if x9_4 < (l0.length : Int) then ((redpenref01_Great.f ((rd_T45 l0 x9_4).f0)).bind fun t336 => (if t336 = true then ((redpenref01_Small.f ((rd_T45 l0 (ji10)).f0)).bind fun t337 => (redpenref15_Split.j4 k4 l0 x2_5 x7_3 x8_3 x9_4 ((rd_T45 l0 (ji10)).f0) ((rd_T45 l0 x9_4).f0) t337)) else (redpenref15_Split.j4 k4 l0 x2_5 x7_3 x8_3 x9_4 ((rd_T45 l0 (ji10)).f0) ((rd_T45 l0 x9_4).f0) false))) else (none)) else (none)) else (none)) else (none)) = some r := by first | (rw [hji10] at H; exact H) | (simp only [hji10] at H ⊢; exact H)
           have hji10w : (IntKind.i64.wrap (x9_4 - 1)) = ji10 := (i64_w _).trans hji10
           by_cases c11 : 0 ≤ (ji10)
           ·rw [if_pos c11] at H
            have c11b0 : decide (0 ≤ (ji10)) = true := decide_eq_true c11
            clear c11
            by_cases c12 : (ji10) < (l0.length : Int)
            ·rw [if_pos c12] at H
             have c12b0 : decide ((ji10) < (l0.length : Int)) = true := decide_eq_true c12
             clear c12
             by_cases c13 : 0 ≤ x9_4
             ·rw [if_pos c13] at H
              have c13b0 : decide (0 ≤ x9_4) = true := decide_eq_true c13
              clear c13
              by_cases c14 : x9_4 < (l0.length : Int)
              ·rw [if_pos c14] at H
               have c14b0 : decide (x9_4 < (l0.length : Int)) = true := decide_eq_true c14
               clear c14
               have HC15 := Aside0.mk H
               clear H
               have p334 : 0 ≤ ((ji10) : Int) := of_decide_eq_true (by first | (with_reducible assumption) | assumption)
               have q334 : (ji10) < (l0.length : Int) := of_decide_eq_true (by first | (with_reducible assumption) | assumption)
               obtain ⟨ad334, e334, hx334_0, hx334_1, hx334_2⟩ := at_T45 HR0.out (ji10) p334 q334
               cases e334
               replace hx334_0 := (HB.out.cell (World.block_lt_of_cell? w _ hx334_0)).trans hx334_0
               replace hx334_1 := (HB.out.cell (World.block_lt_of_cell? w _ hx334_1)).trans hx334_1
               replace hx334_2 := (HB.out.cell (World.block_lt_of_cell? w _ hx334_2)).trans hx334_2
               replace p334 := eq_true p334
               replace q334 := eq_true q334
               have p335 : 0 ≤ (x9_4 : Int) := of_decide_eq_true (by first | (with_reducible assumption) | assumption)
               have q335 : x9_4 < (l0.length : Int) := of_decide_eq_true (by first | (with_reducible assumption) | assumption)
               obtain ⟨ad335, e335, hx335_0, hx335_1, hx335_2⟩ := at_T45 HR0.out x9_4 p335 q335
               obtain rfl : ad334 = ad335 := (by injection e335)
               replace hx335_0 := (HB.out.cell (World.block_lt_of_cell? w _ hx335_0)).trans hx335_0
               replace hx335_1 := (HB.out.cell (World.block_lt_of_cell? w _ hx335_1)).trans hx335_1
               replace hx335_2 := (HB.out.cell (World.block_lt_of_cell? w _ hx335_2)).trans hx335_2
               replace p335 := eq_true p335
               replace q335 := eq_true q335
               go_upto_region 11 with (fail)
               repeat (go_quiet (fail); go_upto_region 11 with (fail))
               go_cut [45] (fun v45 wc => ∃ (kq : Nat) (x45_14 : Bool), v45 = .bool x45_14 ∧ Aside0 (redpenref15_Split.j4 kq l0 x2_5 x7_3 x8_3 x9_4 ((rd_T45 l0 (ji10)).f0) ((rd_T45 l0 x9_4).f0) x45_14 = some r) ∧ Aside0 (kq ≤ k4) ∧ Aside0 (Kd.R k93 93 wc w.heap.size (fun _ => True) u7 x7_3) ∧ Aside0 (Below w.heap.size w wc))
               case first =>
                have H := HC15.out
                clear HC15
                replace H := Option.bind_eq_some_iff.mp H
                obtain ⟨t336, A160, H⟩ := H
                replace H : (if t336 = true then ((redpenref01_Small.f ((rd_T45 l0 (ji10)).f0)).bind fun t337 => (redpenref15_Split.j4 k4 l0 x2_5 x7_3 x8_3 x9_4 ((rd_T45 l0 (ji10)).f0) ((rd_T45 l0 x9_4).f0) t337)) else (redpenref15_Split.j4 k4 l0 x2_5 x7_3 x8_3 x9_4 ((rd_T45 l0 (ji10)).f0) ((rd_T45 l0 x9_4).f0) false)) = some r := H
                have A16 := Aside0.mk A160
                clear A160
                by_cases c17 : t336 = true
                ·subst c17
                 have H1 : ((redpenref01_Small.f ((rd_T45 l0 (ji10)).f0)).bind fun t337 => (redpenref15_Split.j4 k4 l0 x2_5 x7_3 x8_3 x9_4 ((rd_T45 l0 (ji10)).f0) ((rd_T45 l0 x9_4).f0) t337)) = some r := by rw [if_pos rfl] at H; exact H
                 clear H
                 have H := H1
                 clear H1
                 replace H := Option.bind_eq_some_iff.mp H
                 obtain ⟨t337, A180, H⟩ := H
                 replace H : (redpenref15_Split.j4 k4 l0 x2_5 x7_3 x8_3 x9_4 ((rd_T45 l0 (ji10)).f0) ((rd_T45 l0 x9_4).f0) t337) = some r := H
                 have A18 := Aside0.mk A180
                 clear A180
                 have H' := Aside0.mk H
                 clear H
                 go_wp2_with (first | (go_at_call 61; (with_reducible refine (redpenref01_Great.calls ((rd_T45 l0 x9_4).f0) true _ A16.out).mono ?_); rintro e w' ⟨rfl, ⟨nd, rfl⟩⟩; (try first | exact ⟨rfl, _, World.drewN_drewN _ _ _⟩ | exact ⟨rfl, _, Eq.trans (World.drewN_drewN _ _ _) (congrArg (World.drewN _) (Nat.add_assoc _ _ _))⟩)) | (go_at_call 62; (with_reducible refine (redpenref01_Small.calls ((rd_T45 l0 (ji10)).f0) t337 _ A18.out).mono ?_); rintro e w' ⟨rfl, ⟨nd, rfl⟩⟩; (try first | exact ⟨rfl, _, World.drewN_drewN _ _ _⟩ | exact ⟨rfl, _, Eq.trans (World.drewN_drewN _ _ _) (congrArg (World.drewN _) (Nat.add_assoc _ _ _))⟩)))
                 repeat (go_quiet (first | (go_at_call 61; (with_reducible refine (redpenref01_Great.calls ((rd_T45 l0 x9_4).f0) true _ A16.out).mono ?_); rintro e w' ⟨rfl, ⟨nd, rfl⟩⟩; (try first | exact ⟨rfl, _, World.drewN_drewN _ _ _⟩ | exact ⟨rfl, _, Eq.trans (World.drewN_drewN _ _ _) (congrArg (World.drewN _) (Nat.add_assoc _ _ _))⟩)) | (go_at_call 62; (with_reducible refine (redpenref01_Small.calls ((rd_T45 l0 (ji10)).f0) t337 _ A18.out).mono ?_); rintro e w' ⟨rfl, ⟨nd, rfl⟩⟩; (try first | exact ⟨rfl, _, World.drewN_drewN _ _ _⟩ | exact ⟨rfl, _, Eq.trans (World.drewN_drewN _ _ _) (congrArg (World.drewN _) (Nat.add_assoc _ _ _))⟩))); try go_wp2_with (first | (go_at_call 61; (with_reducible refine (redpenref01_Great.calls ((rd_T45 l0 x9_4).f0) true _ A16.out).mono ?_); rintro e w' ⟨rfl, ⟨nd, rfl⟩⟩; (try first | exact ⟨rfl, _, World.drewN_drewN _ _ _⟩ | exact ⟨rfl, _, Eq.trans (World.drewN_drewN _ _ _) (congrArg (World.drewN _) (Nat.add_assoc _ _ _))⟩)) | (go_at_call 62; (with_reducible refine (redpenref01_Small.calls ((rd_T45 l0 (ji10)).f0) t337 _ A18.out).mono ?_); rintro e w' ⟨rfl, ⟨nd, rfl⟩⟩; (try first | exact ⟨rfl, _, World.drewN_drewN _ _ _⟩ | exact ⟨rfl, _, Eq.trans (World.drewN_drewN _ _ _) (congrArg (World.drewN _) (Nat.add_assoc _ _ _))⟩))))
                 go_meet
                 case rel => exact ⟨_, (t337), (by first | rfl | (simp; done) | (simp [*]; done) | (simp [wrap64, wrap32]; done)), H', ⟨by have := HJ3.out; have := HJ5.out; have := HK3.out; have := HK4.out; first | omega | exact Nat.le_refl _⟩, ⟨by (with_reducible repeat (first | apply Kd.R_alloc | apply Kd.R_drewN | apply Kd.R_drew)); exact HO_7.out⟩, ⟨by repeat (first | (with_reducible first | exact HB.out | apply below_alloc | apply pw_below_drewN | apply below_drew1) | exact HB.out)⟩⟩
                ·replace c17 := Bool.eq_false_iff.mpr c17
                 subst c17
                 have H1 : (redpenref15_Split.j4 k4 l0 x2_5 x7_3 x8_3 x9_4 ((rd_T45 l0 (ji10)).f0) ((rd_T45 l0 x9_4).f0) false) = some r := by rw [if_neg (show ¬ (false = true) by decide)] at H; exact H
                 clear H
                 have H := H1
                 clear H1
                 have H' := Aside0.mk H
                 clear H
                 go_wp2_with (first | (go_at_call 61; (with_reducible refine (redpenref01_Great.calls ((rd_T45 l0 x9_4).f0) false _ A16.out).mono ?_); rintro e w' ⟨rfl, ⟨nd, rfl⟩⟩; (try first | exact ⟨rfl, _, World.drewN_drewN _ _ _⟩ | exact ⟨rfl, _, Eq.trans (World.drewN_drewN _ _ _) (congrArg (World.drewN _) (Nat.add_assoc _ _ _))⟩)))
                 repeat (go_quiet (first | (go_at_call 61; (with_reducible refine (redpenref01_Great.calls ((rd_T45 l0 x9_4).f0) false _ A16.out).mono ?_); rintro e w' ⟨rfl, ⟨nd, rfl⟩⟩; (try first | exact ⟨rfl, _, World.drewN_drewN _ _ _⟩ | exact ⟨rfl, _, Eq.trans (World.drewN_drewN _ _ _) (congrArg (World.drewN _) (Nat.add_assoc _ _ _))⟩))); try go_wp2_with (first | (go_at_call 61; (with_reducible refine (redpenref01_Great.calls ((rd_T45 l0 x9_4).f0) false _ A16.out).mono ?_); rintro e w' ⟨rfl, ⟨nd, rfl⟩⟩; (try first | exact ⟨rfl, _, World.drewN_drewN _ _ _⟩ | exact ⟨rfl, _, Eq.trans (World.drewN_drewN _ _ _) (congrArg (World.drewN _) (Nat.add_assoc _ _ _))⟩))))
                 go_meet
                 case rel => exact ⟨_, (false), (by first | rfl | (simp; done) | (simp [*]; done) | (simp [wrap64, wrap32]; done)), H', ⟨by have := HJ3.out; have := HJ5.out; have := HK3.out; have := HK4.out; first | omega | exact Nat.le_refl _⟩, ⟨by (with_reducible repeat (first | apply Kd.R_alloc | apply Kd.R_drewN | apply Kd.R_drew)); exact HO_7.out⟩, ⟨by repeat (first | (with_reducible first | exact HB.out | apply below_alloc | apply pw_below_drewN | apply below_drew1) | exact HB.out)⟩⟩
               case rest =>
                clear HC15
                (try clear c1); (try clear p2); (try clear p3); (try clear q3); (try clear hx3); (try clear c5); (try clear c5b0); (try clear p6); (try clear c7); (try clear c7b0); (try clear c8); (try clear c8b0); (try clear c9); (try clear c9b0); (try clear c11); (try clear c11b0); (try clear c12); (try clear c12b0); (try clear c13); (try clear c13b0); (try clear c14); (try clear c14b0); (try clear c17); (try clear hx334_0); (try clear hx334_1); (try clear hx334_2); (try clear hx335_0); (try clear hx335_1); (try clear hx335_2); (try clear p2); (try clear p334); (try clear p335); (try clear p6); (try clear q334); (try clear q335)
                obtain ⟨kq, x45_14, rfl, HA, HJ14, HO_7, HB⟩ := hcut
                cases kq with
                | zero => exact absurd HA.out (by simp [redpenref15_Split.j4])
                | succ kj14 =>
                 have H := HA.out
                 clear HA
                 simp only [redpenref15_Split.j4] at H
                 by_cases c19 : x45_14 = true
                 ·subst c19
                  have H1 : (if x7_3.length < 8796093022208 then (redpenref15_Split.l0 kj14 l0 x2_5 (x7_3 ++ [(⟨x8_3, x9_4⟩ : S93)]) x9_4) else (none)) = some r := by rw [if_pos rfl] at H; exact H
                  clear H
                  have H := H1
                  clear H1
                  by_cases c20 : x7_3.length < 8796093022208
                  ·rw [if_pos c20] at H
                   have LMc20 := Aside0.mk c20
                   clear c20
                   obtain ⟨y338, hy338⟩ : ∃ y_ : List (S93), y_ = (x7_3 ++ [(⟨x8_3, x9_4⟩ : S93)]) := ⟨_, rfl⟩
                   replace H : (redpenref15_Split.l0 kj14 l0 x2_5 y338 x9_4) = some r := by first | (rw [hy338]; with_reducible exact H) | (have H2_ := (Option.bind_some _ _).symm.trans H; rw [hy338]; with_reducible exact H2_) | (have H2_ := (Option.bind_some _ _).symm.trans H; with_reducible exact H2_) | with_reducible exact H | (rw [hy338]; exact H) | exact H
                   have Ny338 := Aside0.mk hy338
                   clear hy338
                   have H' := Aside0.mk H
                   clear H
                   go_wp2_with (first | ((with_reducible refine gate_builtin (b := .append) (xs := #[.tmp 69, .tmp 73]) rfl ?_); at_builtin; refine Kd.R_append k93 (w0 := w) w.heap.size rfl (.tmp 69) (.tmp 73) 91 93 (.agg #[(.int .i64 0), (.int .i64 0)]) 16 rfl Tryd.underlying91 info93 rfl (by decide) (by omega) u7 x7_3 (⟨x8_3, x9_4⟩ : S93) [.int .i64 x8_3, .int .i64 x9_4] (fun _ => True) (fun _ => False) rfl rfl ?aP (fun _ hk => hk.elim) ?aF ?aO ?aB ?aS ?aL ?_; (case aP => exact k93_mkM _ _ _ (⟨x8_3, x9_4⟩ : S93)); (case aB => exact (by repeat (first | (with_reducible first | exact HB.out | apply below_alloc | apply pw_below_drewN | apply below_drew1) | exact HB.out))); (case aF => exact (fun _ _ => trivial)); (case aO => exact (by (with_reducible repeat (first | apply Kd.R_alloc | apply Kd.R_drewN | apply Kd.R_drew)); exact HO_7.out)); (case aS => exact (below_size (by repeat (first | (with_reducible first | exact HB.out | apply below_alloc | apply pw_below_drewN | apply below_drew1) | exact HB.out)))); (case aL => have := LMc20.out; omega); intro v339 w21 ho hb hg hat; rw [← Ny338.out] at ho; have n0_ := Aside0.mk (hb); have n1_ := Aside0.mk (ho); clear HB; clear HO_7; have HB := n0_; have HO340 := n1_; clear n0_ n1_; clear ho hb hg hat))
                   repeat (go_quiet (first | ((with_reducible refine gate_builtin (b := .append) (xs := #[.tmp 69, .tmp 73]) rfl ?_); at_builtin; refine Kd.R_append k93 (w0 := w) w.heap.size rfl (.tmp 69) (.tmp 73) 91 93 (.agg #[(.int .i64 0), (.int .i64 0)]) 16 rfl Tryd.underlying91 info93 rfl (by decide) (by omega) u7 x7_3 (⟨x8_3, x9_4⟩ : S93) [.int .i64 x8_3, .int .i64 x9_4] (fun _ => True) (fun _ => False) rfl rfl ?aP (fun _ hk => hk.elim) ?aF ?aO ?aB ?aS ?aL ?_; (case aP => exact k93_mkM _ _ _ (⟨x8_3, x9_4⟩ : S93)); (case aB => exact (by repeat (first | (with_reducible first | exact HB.out | apply below_alloc | apply pw_below_drewN | apply below_drew1) | exact HB.out))); (case aF => exact (fun _ _ => trivial)); (case aO => exact (by (with_reducible repeat (first | apply Kd.R_alloc | apply Kd.R_drewN | apply Kd.R_drew)); exact HO_7.out)); (case aS => exact (below_size (by repeat (first | (with_reducible first | exact HB.out | apply below_alloc | apply pw_below_drewN | apply below_drew1) | exact HB.out)))); (case aL => have := LMc20.out; omega); intro v339 w21 ho hb hg hat; rw [← Ny338.out] at ho; have n0_ := Aside0.mk (hb); have n1_ := Aside0.mk (ho); clear HB; clear HO_7; have HB := n0_; have HO340 := n1_; clear n0_ n1_; clear ho hb hg hat)); try go_wp2_with (first | ((with_reducible refine gate_builtin (b := .append) (xs := #[.tmp 69, .tmp 73]) rfl ?_); at_builtin; refine Kd.R_append k93 (w0 := w) w.heap.size rfl (.tmp 69) (.tmp 73) 91 93 (.agg #[(.int .i64 0), (.int .i64 0)]) 16 rfl Tryd.underlying91 info93 rfl (by decide) (by omega) u7 x7_3 (⟨x8_3, x9_4⟩ : S93) [.int .i64 x8_3, .int .i64 x9_4] (fun _ => True) (fun _ => False) rfl rfl ?aP (fun _ hk => hk.elim) ?aF ?aO ?aB ?aS ?aL ?_; (case aP => exact k93_mkM _ _ _ (⟨x8_3, x9_4⟩ : S93)); (case aB => exact (by repeat (first | (with_reducible first | exact HB.out | apply below_alloc | apply pw_below_drewN | apply below_drew1) | exact HB.out))); (case aF => exact (fun _ _ => trivial)); (case aO => exact (by (with_reducible repeat (first | apply Kd.R_alloc | apply Kd.R_drewN | apply Kd.R_drew)); exact HO_7.out)); (case aS => exact (below_size (by repeat (first | (with_reducible first | exact HB.out | apply below_alloc | apply pw_below_drewN | apply below_drew1) | exact HB.out)))); (case aL => have := LMc20.out; omega); intro v339 w21 ho hb hg hat; rw [← Ny338.out] at ho; have n0_ := Aside0.mk (hb); have n1_ := Aside0.mk (ho); clear HB; clear HO_7; have HB := n0_; have HO340 := n1_; clear n0_ n1_; clear ho hb hg hat)))
                   go_roundg kj14
                   case measure => have := HJ3.out; have := HJ5.out; have := HK3.out; have := HK4.out; have := HJ14.out; omega
                   case rel => exact ⟨(y338), (x9_4), (by first | rfl | (simp; done) | (simp [*]; done) | (simp [wrap64, wrap32]; done)), H', ⟨by have := HJ3.out; have := HJ5.out; have := HK3.out; have := HK4.out; have := HJ14.out; omega⟩, ⟨by (with_reducible repeat (first | apply Kd.R_alloc | apply Kd.R_drewN | apply Kd.R_drew)); exact HO340.out⟩, ⟨by repeat (first | (with_reducible first | exact HB.out | apply below_alloc | apply pw_below_drewN | apply below_drew1) | exact HB.out)⟩⟩
                  ·rw [if_neg c20] at H
                   exact absurd H (by simp)
                 ·replace c19 := Bool.eq_false_iff.mpr c19
                  subst c19
                  have H1 : ((redpenref01_Great.f ((rd_T45 l0 x9_4).f0)).bind fun t341 => (if t341 = true then ((redpenref01_Great.f ((rd_T45 l0 (ji10)).f0)).bind fun t342 => (if t342 = true then (if (wrap64 (x9_4 + 1)) < x2_5 then (if 0 ≤ (wrap64 (x9_4 + 1)) then (if (wrap64 (x9_4 + 1)) < (l0.length : Int) then ((redpenref01_Small.f ((rd_T45 l0 (wrap64 (x9_4 + 1))).f0)).bind fun t344 => (if t344 = true then (if x7_3.length < 8796093022208 then (redpenref15_Split.l0 kj14 l0 x2_5 (x7_3 ++ [(⟨x8_3, x9_4⟩ : S93)]) x9_4) else (none)) else (redpenref15_Split.l1 kj14 l0 x2_5 x7_3 x8_3 (wrap64 (x9_4 + 1))))) else (none)) else (none)) else (redpenref15_Split.l1 kj14 l0 x2_5 x7_3 x8_3 (wrap64 (x9_4 + 1)))) else (redpenref15_Split.l1 kj14 l0 x2_5 x7_3 x8_3 (wrap64 (x9_4 + 1))))) else (redpenref15_Split.l1 kj14 l0 x2_5 x7_3 x8_3 (wrap64 (x9_4 + 1))))) = some r := by rw [if_neg (show ¬ (false = true) by decide)] at H; exact H
                  clear H
                  have H := H1
                  clear H1
                  replace H := Option.bind_eq_some_iff.mp H
                  obtain ⟨t341, A220, H⟩ := H
                  replace H : (if t341 = true then ((redpenref01_Great.f ((rd_T45 l0 (ji10)).f0)).bind fun t342 => (if t342 = true then (if (wrap64 (x9_4 + 1)) < x2_5 then (if 0 ≤ (wrap64 (x9_4 + 1)) then (if (wrap64 (x9_4 + 1)) < (l0.length : Int) then ((redpenref01_Small.f ((rd_T45 l0 (wrap64 (x9_4 + 1))).f0)).bind fun t344 => (if t344 = true then (if x7_3.length < 8796093022208 then (redpenref15_Split.l0 kj14 l0 x2_5 (x7_3 ++ [(⟨x8_3, x9_4⟩ : S93)]) x9_4) else (none)) else (redpenref15_Split.l1 kj14 l0 x2_5 x7_3 x8_3 (wrap64 (x9_4 + 1))))) else (none)) else (none)) else (redpenref15_Split.l1 kj14 l0 x2_5 x7_3 x8_3 (wrap64 (x9_4 + 1)))) else (redpenref15_Split.l1 kj14 l0 x2_5 x7_3 x8_3 (wrap64 (x9_4 + 1))))) else (redpenref15_Split.l1 kj14 l0 x2_5 x7_3 x8_3 (wrap64 (x9_4 + 1)))) = some r := H
                  have A22 := Aside0.mk A220
                  clear A220
                  by_cases c23 : t341 = true
                  ·subst c23
                   have H1 : ((redpenref01_Great.f ((rd_T45 l0 (ji10)).f0)).bind fun t342 => (if t342 = true then (if (wrap64 (x9_4 + 1)) < x2_5 then (if 0 ≤ (wrap64 (x9_4 + 1)) then (if (wrap64 (x9_4 + 1)) < (l0.length : Int) then ((redpenref01_Small.f ((rd_T45 l0 (wrap64 (x9_4 + 1))).f0)).bind fun t344 => (if t344 = true then (if x7_3.length < 8796093022208 then (redpenref15_Split.l0 kj14 l0 x2_5 (x7_3 ++ [(⟨x8_3, x9_4⟩ : S93)]) x9_4) else (none)) else (redpenref15_Split.l1 kj14 l0 x2_5 x7_3 x8_3 (wrap64 (x9_4 + 1))))) else (none)) else (none)) else (redpenref15_Split.l1 kj14 l0 x2_5 x7_3 x8_3 (wrap64 (x9_4 + 1)))) else (redpenref15_Split.l1 kj14 l0 x2_5 x7_3 x8_3 (wrap64 (x9_4 + 1))))) = some r := by rw [if_pos rfl] at H; exact H
                   clear H
                   have H := H1
                   clear H1
                   replace H := Option.bind_eq_some_iff.mp H
                   obtain ⟨t342, A240, H⟩ := H
                   replace H : (if t342 = true then (if (wrap64 (x9_4 + 1)) < x2_5 then (if 0 ≤ (wrap64 (x9_4 + 1)) then (if (wrap64 (x9_4 + 1)) < (l0.length : Int) then ((redpenref01_Small.f ((rd_T45 l0 (wrap64 (x9_4 + 1))).f0)).bind fun t344 => (if t344 = true then (if x7_3.length < 8796093022208 then (redpenref15_Split.l0 kj14 l0 x2_5 (x7_3 ++ [(⟨x8_3, x9_4⟩ : S93)]) x9_4) else (none)) else (redpenref15_Split.l1 kj14 l0 x2_5 x7_3 x8_3 (wrap64 (x9_4 + 1))))) else (none)) else (none)) else (redpenref15_Split.l1 kj14 l0 x2_5 x7_3 x8_3 (wrap64 (x9_4 + 1)))) else (redpenref15_Split.l1 kj14 l0 x2_5 x7_3 x8_3 (wrap64 (x9_4 + 1)))) = some r := H
                   have A24 := Aside0.mk A240
                   clear A240
                   by_cases c25 : t342 = true
                   ·subst c25
                    have H1 : (if (wrap64 (x9_4 + 1)) < x2_5 then (if 0 ≤ (wrap64 (x9_4 + 1)) then (if (wrap64 (x9_4 + 1)) < (l0.length : Int) then ((redpenref01_Small.f ((rd_T45 l0 (wrap64 (x9_4 + 1))).f0)).bind fun t344 => (if t344 = true then (if x7_3.length < 8796093022208 then (redpenref15_Split.l0 kj14 l0 x2_5 (x7_3 ++ [(⟨x8_3, x9_4⟩ : S93)]) x9_4) else (none)) else (redpenref15_Split.l1 kj14 l0 x2_5 x7_3 x8_3 (wrap64 (x9_4 + 1))))) else (none)) else (none)) else (redpenref15_Split.l1 kj14 l0 x2_5 x7_3 x8_3 (wrap64 (x9_4 + 1)))) = some r := by rw [if_pos rfl] at H; exact H
                    clear H
                    have H := H1
                    clear H1
                    by_cases c26 : (wrap64 (x9_4 + 1)) < x2_5
                    ·rw [if_pos c26] at H
                     have c26b0 : decide ((wrap64 (x9_4 + 1)) < x2_5) = true := decide_eq_true c26
                     clear c26
                     obtain ⟨ji27, hji27⟩ : ∃ j_ : Int, (wrap64 (x9_4 + 1)) = j_ := ⟨_, rfl⟩
                     replace H : (if 0 ≤ (ji27) then (if (ji27) < (l0.length : Int) then ((redpenref01_Small.f ((rd_T45 l0 (ji27)).f0)).bind fun t344 => (if t344 = true then (if x7_3.length < 8796093022208 then (redpenref15_Split.l0 kj14 l0 x2_5 (x7_3 ++ [(⟨x8_3, x9_4⟩ : S93)]) x9_4) else (none)) else (redpenref15_Split.l1 kj14 l0 x2_5 x7_3 x8_3 ji27))) else (none)) else (none)) = some r := by first | (rw [hji27] at H; exact H) | (simp only [hji27] at H ⊢; exact H)
                     (try rw [hji27] at c26b0)
                     (try rw [hji27] at A22)
                     (try rw [hji27] at A24)
                     have hji27w : (IntKind.i64.wrap (x9_4 + 1)) = ji27 := (i64_w _).trans hji27
                     by_cases c28 : 0 ≤ (ji27)
                     ·rw [if_pos c28] at H
                      have c28b0 : decide (0 ≤ (ji27)) = true := decide_eq_true c28
                      clear c28
                      by_cases c29 : (ji27) < (l0.length : Int)
                      ·rw [if_pos c29] at H
                       have c29b0 : decide ((ji27) < (l0.length : Int)) = true := decide_eq_true c29
                       clear c29
                       replace H := Option.bind_eq_some_iff.mp H
                       obtain ⟨t344, A300, H⟩ := H
                       replace H : (if t344 = true then (if x7_3.length < 8796093022208 then (redpenref15_Split.l0 kj14 l0 x2_5 (x7_3 ++ [(⟨x8_3, x9_4⟩ : S93)]) x9_4) else (none)) else (redpenref15_Split.l1 kj14 l0 x2_5 x7_3 x8_3 ji27)) = some r := H
                       have A30 := Aside0.mk A300
                       clear A300
                       by_cases c31 : t344 = true
                       ·subst c31
                        have H1 : (if x7_3.length < 8796093022208 then (redpenref15_Split.l0 kj14 l0 x2_5 (x7_3 ++ [(⟨x8_3, x9_4⟩ : S93)]) x9_4) else (none)) = some r := by rw [if_pos rfl] at H; exact H
                        clear H
                        have H := H1
                        clear H1
                        by_cases c32 : x7_3.length < 8796093022208
                        ·rw [if_pos c32] at H
                         have LMc32 := Aside0.mk c32
                         clear c32
                         obtain ⟨y345, hy345⟩ : ∃ y_ : List (S93), y_ = (x7_3 ++ [(⟨x8_3, x9_4⟩ : S93)]) := ⟨_, rfl⟩
                         replace H : (redpenref15_Split.l0 kj14 l0 x2_5 y345 x9_4) = some r := by first | (rw [hy345]; with_reducible exact H) | (have H2_ := (Option.bind_some _ _).symm.trans H; rw [hy345]; with_reducible exact H2_) | (have H2_ := (Option.bind_some _ _).symm.trans H; with_reducible exact H2_) | with_reducible exact H | (rw [hy345]; exact H) | exact H
                         have Ny345 := Aside0.mk hy345
                         clear hy345
                         have H' := Aside0.mk H
                         clear H
                         go_wp2_with (first | (go_at_call 61; (with_reducible refine (redpenref01_Great.calls ((rd_T45 l0 x9_4).f0) true _ A22.out).mono ?_); rintro e w' ⟨rfl, ⟨nd, rfl⟩⟩; (try first | exact ⟨rfl, _, World.drewN_drewN _ _ _⟩ | exact ⟨rfl, _, Eq.trans (World.drewN_drewN _ _ _) (congrArg (World.drewN _) (Nat.add_assoc _ _ _))⟩)) | (go_at_call 61; (with_reducible refine (redpenref01_Great.calls ((rd_T45 l0 (ji10)).f0) true _ A24.out).mono ?_); rintro e w' ⟨rfl, ⟨nd, rfl⟩⟩; (try first | exact ⟨rfl, _, World.drewN_drewN _ _ _⟩ | exact ⟨rfl, _, Eq.trans (World.drewN_drewN _ _ _) (congrArg (World.drewN _) (Nat.add_assoc _ _ _))⟩); have p343 : 0 ≤ ((ji27) : Int) := of_decide_eq_true (by first | (with_reducible assumption) | assumption); have q343 : (ji27) < (l0.length : Int) := of_decide_eq_true (by first | (with_reducible assumption) | assumption); obtain ⟨ad343, e343, hx343_0, hx343_1, hx343_2⟩ := at_T45 HR0.out (ji27) p343 q343; obtain rfl : ad334 = ad343 := (by injection e343); replace hx343_0 := (HB.out.cell (World.block_lt_of_cell? w _ hx343_0)).trans hx343_0; replace hx343_1 := (HB.out.cell (World.block_lt_of_cell? w _ hx343_1)).trans hx343_1; replace hx343_2 := (HB.out.cell (World.block_lt_of_cell? w _ hx343_2)).trans hx343_2; replace p343 := eq_true p343; replace q343 := eq_true q343) | (go_at_call 62; (with_reducible refine (redpenref01_Small.calls ((rd_T45 l0 (ji27)).f0) true _ A30.out).mono ?_); rintro e w' ⟨rfl, ⟨nd, rfl⟩⟩; (try first | exact ⟨rfl, _, World.drewN_drewN _ _ _⟩ | exact ⟨rfl, _, Eq.trans (World.drewN_drewN _ _ _) (congrArg (World.drewN _) (Nat.add_assoc _ _ _))⟩)) | ((with_reducible refine gate_builtin (b := .append) (xs := #[.tmp 69, .tmp 73]) rfl ?_); at_builtin; refine Kd.R_append k93 (w0 := w) w.heap.size rfl (.tmp 69) (.tmp 73) 91 93 (.agg #[(.int .i64 0), (.int .i64 0)]) 16 rfl Tryd.underlying91 info93 rfl (by decide) (by omega) u7 x7_3 (⟨x8_3, x9_4⟩ : S93) [.int .i64 x8_3, .int .i64 x9_4] (fun _ => True) (fun _ => False) rfl rfl ?aP (fun _ hk => hk.elim) ?aF ?aO ?aB ?aS ?aL ?_; (case aP => exact k93_mkM _ _ _ (⟨x8_3, x9_4⟩ : S93)); (case aB => exact (by repeat (first | (with_reducible first | exact HB.out | apply below_alloc | apply pw_below_drewN | apply below_drew1) | exact HB.out))); (case aF => exact (fun _ _ => trivial)); (case aO => exact (by (with_reducible repeat (first | apply Kd.R_alloc | apply Kd.R_drewN | apply Kd.R_drew)); exact HO_7.out)); (case aS => exact (below_size (by repeat (first | (with_reducible first | exact HB.out | apply below_alloc | apply pw_below_drewN | apply below_drew1) | exact HB.out)))); (case aL => have := LMc32.out; omega); intro v346 w33 ho hb hg hat; rw [← Ny345.out] at ho; have n0_ := Aside0.mk (hb); have n1_ := Aside0.mk (ho); clear HB; clear HO_7; have HB := n0_; have HO347 := n1_; clear n0_ n1_; clear ho hb hg hat))
                         repeat (go_quiet (first | (go_at_call 61; (with_reducible refine (redpenref01_Great.calls ((rd_T45 l0 x9_4).f0) true _ A22.out).mono ?_); rintro e w' ⟨rfl, ⟨nd, rfl⟩⟩; (try first | exact ⟨rfl, _, World.drewN_drewN _ _ _⟩ | exact ⟨rfl, _, Eq.trans (World.drewN_drewN _ _ _) (congrArg (World.drewN _) (Nat.add_assoc _ _ _))⟩)) | (go_at_call 61; (with_reducible refine (redpenref01_Great.calls ((rd_T45 l0 (ji10)).f0) true _ A24.out).mono ?_); rintro e w' ⟨rfl, ⟨nd, rfl⟩⟩; (try first | exact ⟨rfl, _, World.drewN_drewN _ _ _⟩ | exact ⟨rfl, _, Eq.trans (World.drewN_drewN _ _ _) (congrArg (World.drewN _) (Nat.add_assoc _ _ _))⟩); have p343 : 0 ≤ ((ji27) : Int) := of_decide_eq_true (by first | (with_reducible assumption) | assumption); have q343 : (ji27) < (l0.length : Int) := of_decide_eq_true (by first | (with_reducible assumption) | assumption); obtain ⟨ad343, e343, hx343_0, hx343_1, hx343_2⟩ := at_T45 HR0.out (ji27) p343 q343; obtain rfl : ad334 = ad343 := (by injection e343); replace hx343_0 := (HB.out.cell (World.block_lt_of_cell? w _ hx343_0)).trans hx343_0; replace hx343_1 := (HB.out.cell (World.block_lt_of_cell? w _ hx343_1)).trans hx343_1; replace hx343_2 := (HB.out.cell (World.block_lt_of_cell? w _ hx343_2)).trans hx343_2; replace p343 := eq_true p343; replace q343 := eq_true q343) | (go_at_call 62; (with_reducible refine (redpenref01_Small.calls ((rd_T45 l0 (ji27)).f0) true _ A30.out).mono ?_); rintro e w' ⟨rfl, ⟨nd, rfl⟩⟩; (try first | exact ⟨rfl, _, World.drewN_drewN _ _ _⟩ | exact ⟨rfl, _, Eq.trans (World.drewN_drewN _ _ _) (congrArg (World.drewN _) (Nat.add_assoc _ _ _))⟩)) | ((with_reducible refine gate_builtin (b := .append) (xs := #[.tmp 69, .tmp 73]) rfl ?_); at_builtin; refine Kd.R_append k93 (w0 := w) w.heap.size rfl (.tmp 69) (.tmp 73) 91 93 (.agg #[(.int .i64 0), (.int .i64 0)]) 16 rfl Tryd.underlying91 info93 rfl (by decide) (by omega) u7 x7_3 (⟨x8_3, x9_4⟩ : S93) [.int .i64 x8_3, .int .i64 x9_4] (fun _ => True) (fun _ => False) rfl rfl ?aP (fun _ hk => hk.elim) ?aF ?aO ?aB ?aS ?aL ?_; (case aP => exact k93_mkM _ _ _ (⟨x8_3, x9_4⟩ : S93)); (case aB => exact (by repeat (first | (with_reducible first | exact HB.out | apply below_alloc | apply pw_below_drewN | apply below_drew1) | exact HB.out))); (case aF => exact (fun _ _ => trivial)); (case aO => exact (by (with_reducible repeat (first | apply Kd.R_alloc | apply Kd.R_drewN | apply Kd.R_drew)); exact HO_7.out)); (case aS => exact (below_size (by repeat (first | (with_reducible first | exact HB.out | apply below_alloc | apply pw_below_drewN | apply below_drew1) | exact HB.out)))); (case aL => have := LMc32.out; omega); intro v346 w33 ho hb hg hat; rw [← Ny345.out] at ho; have n0_ := Aside0.mk (hb); have n1_ := Aside0.mk (ho); clear HB; clear HO_7; have HB := n0_; have HO347 := n1_; clear n0_ n1_; clear ho hb hg hat)); try go_wp2_with (first | (go_at_call 61; (with_reducible refine (redpenref01_Great.calls ((rd_T45 l0 x9_4).f0) true _ A22.out).mono ?_); rintro e w' ⟨rfl, ⟨nd, rfl⟩⟩; (try first | exact ⟨rfl, _, World.drewN_drewN _ _ _⟩ | exact ⟨rfl, _, Eq.trans (World.drewN_drewN _ _ _) (congrArg (World.drewN _) (Nat.add_assoc _ _ _))⟩)) | (go_at_call 61; (with_reducible refine (redpenref01_Great.calls ((rd_T45 l0 (ji10)).f0) true _ A24.out).mono ?_); rintro e w' ⟨rfl, ⟨nd, rfl⟩⟩; (try first | exact ⟨rfl, _, World.drewN_drewN _ _ _⟩ | exact ⟨rfl, _, Eq.trans (World.drewN_drewN _ _ _) (congrArg (World.drewN _) (Nat.add_assoc _ _ _))⟩); have p343 : 0 ≤ ((ji27) : Int) := of_decide_eq_true (by first | (with_reducible assumption) | assumption); have q343 : (ji27) < (l0.length : Int) := of_decide_eq_true (by first | (with_reducible assumption) | assumption); obtain ⟨ad343, e343, hx343_0, hx343_1, hx343_2⟩ := at_T45 HR0.out (ji27) p343 q343; obtain rfl : ad334 = ad343 := (by injection e343); replace hx343_0 := (HB.out.cell (World.block_lt_of_cell? w _ hx343_0)).trans hx343_0; replace hx343_1 := (HB.out.cell (World.block_lt_of_cell? w _ hx343_1)).trans hx343_1; replace hx343_2 := (HB.out.cell (World.block_lt_of_cell? w _ hx343_2)).trans hx343_2; replace p343 := eq_true p343; replace q343 := eq_true q343) | (go_at_call 62; (with_reducible refine (redpenref01_Small.calls ((rd_T45 l0 (ji27)).f0) true _ A30.out).mono ?_); rintro e w' ⟨rfl, ⟨nd, rfl⟩⟩; (try first | exact ⟨rfl, _, World.drewN_drewN _ _ _⟩ | exact ⟨rfl, _, Eq.trans (World.drewN_drewN _ _ _) (congrArg (World.drewN _) (Nat.add_assoc _ _ _))⟩)) | ((with_reducible refine gate_builtin (b := .append) (xs := #[.tmp 69, .tmp 73]) rfl ?_); at_builtin; refine Kd.R_append k93 (w0 := w) w.heap.size rfl (.tmp 69) (.tmp 73) 91 93 (.agg #[(.int .i64 0), (.int .i64 0)]) 16 rfl Tryd.underlying91 info93 rfl (by decide) (by omega) u7 x7_3 (⟨x8_3, x9_4⟩ : S93) [.int .i64 x8_3, .int .i64 x9_4] (fun _ => True) (fun _ => False) rfl rfl ?aP (fun _ hk => hk.elim) ?aF ?aO ?aB ?aS ?aL ?_; (case aP => exact k93_mkM _ _ _ (⟨x8_3, x9_4⟩ : S93)); (case aB => exact (by repeat (first | (with_reducible first | exact HB.out | apply below_alloc | apply pw_below_drewN | apply below_drew1) | exact HB.out))); (case aF => exact (fun _ _ => trivial)); (case aO => exact (by (with_reducible repeat (first | apply Kd.R_alloc | apply Kd.R_drewN | apply Kd.R_drew)); exact HO_7.out)); (case aS => exact (below_size (by repeat (first | (with_reducible first | exact HB.out | apply below_alloc | apply pw_below_drewN | apply below_drew1) | exact HB.out)))); (case aL => have := LMc32.out; omega); intro v346 w33 ho hb hg hat; rw [← Ny345.out] at ho; have n0_ := Aside0.mk (hb); have n1_ := Aside0.mk (ho); clear HB; clear HO_7; have HB := n0_; have HO347 := n1_; clear n0_ n1_; clear ho hb hg hat)))
                         go_roundg kj14
                         case measure => have := HJ3.out; have := HJ5.out; have := HK3.out; have := HK4.out; have := HJ14.out; omega
                         case rel => exact ⟨(y345), (x9_4), (by first | rfl | (simp; done) | (simp [*]; done) | (simp [wrap64, wrap32]; done)), H', ⟨by have := HJ3.out; have := HJ5.out; have := HK3.out; have := HK4.out; have := HJ14.out; omega⟩, ⟨by (with_reducible repeat (first | apply Kd.R_alloc | apply Kd.R_drewN | apply Kd.R_drew)); exact HO347.out⟩, ⟨by repeat (first | (with_reducible first | exact HB.out | apply below_alloc | apply pw_below_drewN | apply below_drew1) | exact HB.out)⟩⟩
                        ·rw [if_neg c32] at H
                         exact absurd H (by simp)
                       ·replace c31 := Bool.eq_false_iff.mpr c31
                        subst c31
                        have H1 : (redpenref15_Split.l1 kj14 l0 x2_5 x7_3 x8_3 ji27) = some r := by rw [if_neg (show ¬ (false = true) by decide)] at H; exact H
                        clear H
                        have H := H1
                        clear H1
                        have H' := Aside0.mk H
                        clear H
                        go_wp2_with (first | (go_at_call 61; (with_reducible refine (redpenref01_Great.calls ((rd_T45 l0 x9_4).f0) true _ A22.out).mono ?_); rintro e w' ⟨rfl, ⟨nd, rfl⟩⟩; (try first | exact ⟨rfl, _, World.drewN_drewN _ _ _⟩ | exact ⟨rfl, _, Eq.trans (World.drewN_drewN _ _ _) (congrArg (World.drewN _) (Nat.add_assoc _ _ _))⟩)) | (go_at_call 61; (with_reducible refine (redpenref01_Great.calls ((rd_T45 l0 (ji10)).f0) true _ A24.out).mono ?_); rintro e w' ⟨rfl, ⟨nd, rfl⟩⟩; (try first | exact ⟨rfl, _, World.drewN_drewN _ _ _⟩ | exact ⟨rfl, _, Eq.trans (World.drewN_drewN _ _ _) (congrArg (World.drewN _) (Nat.add_assoc _ _ _))⟩); have p343 : 0 ≤ ((ji27) : Int) := of_decide_eq_true (by first | (with_reducible assumption) | assumption); have q343 : (ji27) < (l0.length : Int) := of_decide_eq_true (by first | (with_reducible assumption) | assumption); obtain ⟨ad343, e343, hx343_0, hx343_1, hx343_2⟩ := at_T45 HR0.out (ji27) p343 q343; obtain rfl : ad334 = ad343 := (by injection e343); replace hx343_0 := (HB.out.cell (World.block_lt_of_cell? w _ hx343_0)).trans hx343_0; replace hx343_1 := (HB.out.cell (World.block_lt_of_cell? w _ hx343_1)).trans hx343_1; replace hx343_2 := (HB.out.cell (World.block_lt_of_cell? w _ hx343_2)).trans hx343_2; replace p343 := eq_true p343; replace q343 := eq_true q343) | (go_at_call 62; (with_reducible refine (redpenref01_Small.calls ((rd_T45 l0 (ji27)).f0) false _ A30.out).mono ?_); rintro e w' ⟨rfl, ⟨nd, rfl⟩⟩; (try first | exact ⟨rfl, _, World.drewN_drewN _ _ _⟩ | exact ⟨rfl, _, Eq.trans (World.drewN_drewN _ _ _) (congrArg (World.drewN _) (Nat.add_assoc _ _ _))⟩)))
                        repeat (go_quiet (first | (go_at_call 61; (with_reducible refine (redpenref01_Great.calls ((rd_T45 l0 x9_4).f0) true _ A22.out).mono ?_); rintro e w' ⟨rfl, ⟨nd, rfl⟩⟩; (try first | exact ⟨rfl, _, World.drewN_drewN _ _ _⟩ | exact ⟨rfl, _, Eq.trans (World.drewN_drewN _ _ _) (congrArg (World.drewN _) (Nat.add_assoc _ _ _))⟩)) | (go_at_call 61; (with_reducible refine (redpenref01_Great.calls ((rd_T45 l0 (ji10)).f0) true _ A24.out).mono ?_); rintro e w' ⟨rfl, ⟨nd, rfl⟩⟩; (try first | exact ⟨rfl, _, World.drewN_drewN _ _ _⟩ | exact ⟨rfl, _, Eq.trans (World.drewN_drewN _ _ _) (congrArg (World.drewN _) (Nat.add_assoc _ _ _))⟩); have p343 : 0 ≤ ((ji27) : Int) := of_decide_eq_true (by first | (with_reducible assumption) | assumption); have q343 : (ji27) < (l0.length : Int) := of_decide_eq_true (by first | (with_reducible assumption) | assumption); obtain ⟨ad343, e343, hx343_0, hx343_1, hx343_2⟩ := at_T45 HR0.out (ji27) p343 q343; obtain rfl : ad334 = ad343 := (by injection e343); replace hx343_0 := (HB.out.cell (World.block_lt_of_cell? w _ hx343_0)).trans hx343_0; replace hx343_1 := (HB.out.cell (World.block_lt_of_cell? w _ hx343_1)).trans hx343_1; replace hx343_2 := (HB.out.cell (World.block_lt_of_cell? w _ hx343_2)).trans hx343_2; replace p343 := eq_true p343; replace q343 := eq_true q343) | (go_at_call 62; (with_reducible refine (redpenref01_Small.calls ((rd_T45 l0 (ji27)).f0) false _ A30.out).mono ?_); rintro e w' ⟨rfl, ⟨nd, rfl⟩⟩; (try first | exact ⟨rfl, _, World.drewN_drewN _ _ _⟩ | exact ⟨rfl, _, Eq.trans (World.drewN_drewN _ _ _) (congrArg (World.drewN _) (Nat.add_assoc _ _ _))⟩))); try go_wp2_with (first | (go_at_call 61; (with_reducible refine (redpenref01_Great.calls ((rd_T45 l0 x9_4).f0) true _ A22.out).mono ?_); rintro e w' ⟨rfl, ⟨nd, rfl⟩⟩; (try first | exact ⟨rfl, _, World.drewN_drewN _ _ _⟩ | exact ⟨rfl, _, Eq.trans (World.drewN_drewN _ _ _) (congrArg (World.drewN _) (Nat.add_assoc _ _ _))⟩)) | (go_at_call 61; (with_reducible refine (redpenref01_Great.calls ((rd_T45 l0 (ji10)).f0) true _ A24.out).mono ?_); rintro e w' ⟨rfl, ⟨nd, rfl⟩⟩; (try first | exact ⟨rfl, _, World.drewN_drewN _ _ _⟩ | exact ⟨rfl, _, Eq.trans (World.drewN_drewN _ _ _) (congrArg (World.drewN _) (Nat.add_assoc _ _ _))⟩); have p343 : 0 ≤ ((ji27) : Int) := of_decide_eq_true (by first | (with_reducible assumption) | assumption); have q343 : (ji27) < (l0.length : Int) := of_decide_eq_true (by first | (with_reducible assumption) | assumption); obtain ⟨ad343, e343, hx343_0, hx343_1, hx343_2⟩ := at_T45 HR0.out (ji27) p343 q343; obtain rfl : ad334 = ad343 := (by injection e343); replace hx343_0 := (HB.out.cell (World.block_lt_of_cell? w _ hx343_0)).trans hx343_0; replace hx343_1 := (HB.out.cell (World.block_lt_of_cell? w _ hx343_1)).trans hx343_1; replace hx343_2 := (HB.out.cell (World.block_lt_of_cell? w _ hx343_2)).trans hx343_2; replace p343 := eq_true p343; replace q343 := eq_true q343) | (go_at_call 62; (with_reducible refine (redpenref01_Small.calls ((rd_T45 l0 (ji27)).f0) false _ A30.out).mono ?_); rintro e w' ⟨rfl, ⟨nd, rfl⟩⟩; (try first | exact ⟨rfl, _, World.drewN_drewN _ _ _⟩ | exact ⟨rfl, _, Eq.trans (World.drewN_drewN _ _ _) (congrArg (World.drewN _) (Nat.add_assoc _ _ _))⟩))))
                        go_roundg kj14
                        case measure => have := HJ3.out; have := HJ5.out; have := HK3.out; have := HK4.out; have := HJ14.out; omega
                        case rel => exact ⟨(ji27), (by first | rfl | (simp; done) | (simp only [← hji27] <;> (first | rfl | simp)) | (simp [*]; done)), (by first | exact H' | (rw [hji27]; exact H') | (simp only [hji27]; exact H')), ⟨by have := HJ3.out; have := HJ5.out; have := HK3.out; have := HK4.out; have := HJ14.out; omega⟩, ⟨by (with_reducible repeat (first | apply Kd.R_alloc | apply Kd.R_drewN | apply Kd.R_drew)); exact HO_7.out⟩, ⟨by repeat (first | (with_reducible first | exact HB.out | apply below_alloc | apply pw_below_drewN | apply below_drew1) | exact HB.out)⟩⟩
                      ·rw [if_neg c29] at H
                       exact absurd H (by simp)
                     ·rw [if_neg c28] at H
                      exact absurd H (by simp)
                    ·rw [if_neg c26] at H
                     have c26b0 : decide ((wrap64 (x9_4 + 1)) < x2_5) = false := decide_eq_false c26
                     clear c26
                     have H' := Aside0.mk H
                     clear H
                     go_wp2_with (first | (go_at_call 61; (with_reducible refine (redpenref01_Great.calls ((rd_T45 l0 x9_4).f0) true _ A22.out).mono ?_); rintro e w' ⟨rfl, ⟨nd, rfl⟩⟩; (try first | exact ⟨rfl, _, World.drewN_drewN _ _ _⟩ | exact ⟨rfl, _, Eq.trans (World.drewN_drewN _ _ _) (congrArg (World.drewN _) (Nat.add_assoc _ _ _))⟩)) | (go_at_call 61; (with_reducible refine (redpenref01_Great.calls ((rd_T45 l0 (ji10)).f0) true _ A24.out).mono ?_); rintro e w' ⟨rfl, ⟨nd, rfl⟩⟩; (try first | exact ⟨rfl, _, World.drewN_drewN _ _ _⟩ | exact ⟨rfl, _, Eq.trans (World.drewN_drewN _ _ _) (congrArg (World.drewN _) (Nat.add_assoc _ _ _))⟩)))
                     repeat (go_quiet (first | (go_at_call 61; (with_reducible refine (redpenref01_Great.calls ((rd_T45 l0 x9_4).f0) true _ A22.out).mono ?_); rintro e w' ⟨rfl, ⟨nd, rfl⟩⟩; (try first | exact ⟨rfl, _, World.drewN_drewN _ _ _⟩ | exact ⟨rfl, _, Eq.trans (World.drewN_drewN _ _ _) (congrArg (World.drewN _) (Nat.add_assoc _ _ _))⟩)) | (go_at_call 61; (with_reducible refine (redpenref01_Great.calls ((rd_T45 l0 (ji10)).f0) true _ A24.out).mono ?_); rintro e w' ⟨rfl, ⟨nd, rfl⟩⟩; (try first | exact ⟨rfl, _, World.drewN_drewN _ _ _⟩ | exact ⟨rfl, _, Eq.trans (World.drewN_drewN _ _ _) (congrArg (World.drewN _) (Nat.add_assoc _ _ _))⟩))); try go_wp2_with (first | (go_at_call 61; (with_reducible refine (redpenref01_Great.calls ((rd_T45 l0 x9_4).f0) true _ A22.out).mono ?_); rintro e w' ⟨rfl, ⟨nd, rfl⟩⟩; (try first | exact ⟨rfl, _, World.drewN_drewN _ _ _⟩ | exact ⟨rfl, _, Eq.trans (World.drewN_drewN _ _ _) (congrArg (World.drewN _) (Nat.add_assoc _ _ _))⟩)) | (go_at_call 61; (with_reducible refine (redpenref01_Great.calls ((rd_T45 l0 (ji10)).f0) true _ A24.out).mono ?_); rintro e w' ⟨rfl, ⟨nd, rfl⟩⟩; (try first | exact ⟨rfl, _, World.drewN_drewN _ _ _⟩ | exact ⟨rfl, _, Eq.trans (World.drewN_drewN _ _ _) (congrArg (World.drewN _) (Nat.add_assoc _ _ _))⟩))))
                     go_roundg kj14
                     case measure => have := HJ3.out; have := HJ5.out; have := HK3.out; have := HK4.out; have := HJ14.out; omega
                     case rel => exact ⟨(wrap64 (x9_4 + 1)), (by first | rfl | (simp; done) | (simp [*]; done) | (simp [wrap64, wrap32]; done)), H', ⟨by have := HJ3.out; have := HJ5.out; have := HK3.out; have := HK4.out; have := HJ14.out; omega⟩, ⟨by (with_reducible repeat (first | apply Kd.R_alloc | apply Kd.R_drewN | apply Kd.R_drew)); exact HO_7.out⟩, ⟨by repeat (first | (with_reducible first | exact HB.out | apply below_alloc | apply pw_below_drewN | apply below_drew1) | exact HB.out)⟩⟩
                   ·replace c25 := Bool.eq_false_iff.mpr c25
                    subst c25
                    have H1 : (redpenref15_Split.l1 kj14 l0 x2_5 x7_3 x8_3 (wrap64 (x9_4 + 1))) = some r := by rw [if_neg (show ¬ (false = true) by decide)] at H; exact H
                    clear H
                    have H := H1
                    clear H1
                    have H' := Aside0.mk H
                    clear H
                    go_wp2_with (first | (go_at_call 61; (with_reducible refine (redpenref01_Great.calls ((rd_T45 l0 x9_4).f0) true _ A22.out).mono ?_); rintro e w' ⟨rfl, ⟨nd, rfl⟩⟩; (try first | exact ⟨rfl, _, World.drewN_drewN _ _ _⟩ | exact ⟨rfl, _, Eq.trans (World.drewN_drewN _ _ _) (congrArg (World.drewN _) (Nat.add_assoc _ _ _))⟩)) | (go_at_call 61; (with_reducible refine (redpenref01_Great.calls ((rd_T45 l0 (ji10)).f0) false _ A24.out).mono ?_); rintro e w' ⟨rfl, ⟨nd, rfl⟩⟩; (try first | exact ⟨rfl, _, World.drewN_drewN _ _ _⟩ | exact ⟨rfl, _, Eq.trans (World.drewN_drewN _ _ _) (congrArg (World.drewN _) (Nat.add_assoc _ _ _))⟩)))
                    repeat (go_quiet (first | (go_at_call 61; (with_reducible refine (redpenref01_Great.calls ((rd_T45 l0 x9_4).f0) true _ A22.out).mono ?_); rintro e w' ⟨rfl, ⟨nd, rfl⟩⟩; (try first | exact ⟨rfl, _, World.drewN_drewN _ _ _⟩ | exact ⟨rfl, _, Eq.trans (World.drewN_drewN _ _ _) (congrArg (World.drewN _) (Nat.add_assoc _ _ _))⟩)) | (go_at_call 61; (with_reducible refine (redpenref01_Great.calls ((rd_T45 l0 (ji10)).f0) false _ A24.out).mono ?_); rintro e w' ⟨rfl, ⟨nd, rfl⟩⟩; (try first | exact ⟨rfl, _, World.drewN_drewN _ _ _⟩ | exact ⟨rfl, _, Eq.trans (World.drewN_drewN _ _ _) (congrArg (World.drewN _) (Nat.add_assoc _ _ _))⟩))); try go_wp2_with (first | (go_at_call 61; (with_reducible refine (redpenref01_Great.calls ((rd_T45 l0 x9_4).f0) true _ A22.out).mono ?_); rintro e w' ⟨rfl, ⟨nd, rfl⟩⟩; (try first | exact ⟨rfl, _, World.drewN_drewN _ _ _⟩ | exact ⟨rfl, _, Eq.trans (World.drewN_drewN _ _ _) (congrArg (World.drewN _) (Nat.add_assoc _ _ _))⟩)) | (go_at_call 61; (with_reducible refine (redpenref01_Great.calls ((rd_T45 l0 (ji10)).f0) false _ A24.out).mono ?_); rintro e w' ⟨rfl, ⟨nd, rfl⟩⟩; (try first | exact ⟨rfl, _, World.drewN_drewN _ _ _⟩ | exact ⟨rfl, _, Eq.trans (World.drewN_drewN _ _ _) (congrArg (World.drewN _) (Nat.add_assoc _ _ _))⟩))))
                    go_roundg kj14
                    case measure => have := HJ3.out; have := HJ5.out; have := HK3.out; have := HK4.out; have := HJ14.out; omega
                    case rel => exact ⟨(wrap64 (x9_4 + 1)), (by first | rfl | (simp; done) | (simp [*]; done) | (simp [wrap64, wrap32]; done)), H', ⟨by have := HJ3.out; have := HJ5.out; have := HK3.out; have := HK4.out; have := HJ14.out; omega⟩, ⟨by (with_reducible repeat (first | apply Kd.R_alloc | apply Kd.R_drewN | apply Kd.R_drew)); exact HO_7.out⟩, ⟨by repeat (first | (with_reducible first | exact HB.out | apply below_alloc | apply pw_below_drewN | apply below_drew1) | exact HB.out)⟩⟩
                  ·replace c23 := Bool.eq_false_iff.mpr c23
                   subst c23
                   have H1 : (redpenref15_Split.l1 kj14 l0 x2_5 x7_3 x8_3 (wrap64 (x9_4 + 1))) = some r := by rw [if_neg (show ¬ (false = true) by decide)] at H; exact H
                   clear H
                   have H := H1
                   clear H1
                   have H' := Aside0.mk H
                   clear H
                   go_wp2_with (first | (go_at_call 61; (with_reducible refine (redpenref01_Great.calls ((rd_T45 l0 x9_4).f0) false _ A22.out).mono ?_); rintro e w' ⟨rfl, ⟨nd, rfl⟩⟩; (try first | exact ⟨rfl, _, World.drewN_drewN _ _ _⟩ | exact ⟨rfl, _, Eq.trans (World.drewN_drewN _ _ _) (congrArg (World.drewN _) (Nat.add_assoc _ _ _))⟩)))
                   repeat (go_quiet (first | (go_at_call 61; (with_reducible refine (redpenref01_Great.calls ((rd_T45 l0 x9_4).f0) false _ A22.out).mono ?_); rintro e w' ⟨rfl, ⟨nd, rfl⟩⟩; (try first | exact ⟨rfl, _, World.drewN_drewN _ _ _⟩ | exact ⟨rfl, _, Eq.trans (World.drewN_drewN _ _ _) (congrArg (World.drewN _) (Nat.add_assoc _ _ _))⟩))); try go_wp2_with (first | (go_at_call 61; (with_reducible refine (redpenref01_Great.calls ((rd_T45 l0 x9_4).f0) false _ A22.out).mono ?_); rintro e w' ⟨rfl, ⟨nd, rfl⟩⟩; (try first | exact ⟨rfl, _, World.drewN_drewN _ _ _⟩ | exact ⟨rfl, _, Eq.trans (World.drewN_drewN _ _ _) (congrArg (World.drewN _) (Nat.add_assoc _ _ _))⟩))))
                   go_roundg kj14
                   case measure => have := HJ3.out; have := HJ5.out; have := HK3.out; have := HK4.out; have := HJ14.out; omega
                   case rel => exact ⟨(wrap64 (x9_4 + 1)), (by first | rfl | (simp; done) | (simp [*]; done) | (simp [wrap64, wrap32]; done)), H', ⟨by have := HJ3.out; have := HJ5.out; have := HK3.out; have := HK4.out; have := HJ14.out; omega⟩, ⟨by (with_reducible repeat (first | apply Kd.R_alloc | apply Kd.R_drewN | apply Kd.R_drew)); exact HO_7.out⟩, ⟨by repeat (first | (with_reducible first | exact HB.out | apply below_alloc | apply pw_below_drewN | apply below_drew1) | exact HB.out)⟩⟩
              ·rw [if_neg c14] at H
               exact absurd H (by simp)
             ·rw [if_neg c13] at H
              exact absurd H (by simp)
            ·rw [if_neg c12] at H
             exact absurd H (by simp)
           ·rw [if_neg c11] at H
            exact absurd H (by simp)
          ·rw [if_neg c9] at H
           have c9b0 : decide (x9_4 < x2_5) = false := decide_eq_false c9
           clear c9
           by_cases c34 : x7_3.length < 8796093022208
           ·rw [if_pos c34] at H
            have LMc34 := Aside0.mk c34
            clear c34
            obtain ⟨y331, hy331⟩ : ∃ y_ : List (S93), y_ = (x7_3 ++ [(⟨x8_3, x9_4⟩ : S93)]) := ⟨_, rfl⟩
            replace H : (redpenref15_Split.l0 k4 l0 x2_5 y331 x9_4) = some r := by first | (rw [hy331]; with_reducible exact H) | (have H2_ := (Option.bind_some _ _).symm.trans H; rw [hy331]; with_reducible exact H2_) | (have H2_ := (Option.bind_some _ _).symm.trans H; with_reducible exact H2_) | with_reducible exact H | (rw [hy331]; exact H) | exact H
            have Ny331 := Aside0.mk hy331
            clear hy331
            have H' := Aside0.mk H
            clear H
            go_wp2_with (first | ((with_reducible refine gate_builtin (b := .append) (xs := #[.tmp 69, .tmp 73]) rfl ?_); at_builtin; refine Kd.R_append k93 (w0 := w) w.heap.size rfl (.tmp 69) (.tmp 73) 91 93 (.agg #[(.int .i64 0), (.int .i64 0)]) 16 rfl Tryd.underlying91 info93 rfl (by decide) (by omega) u7 x7_3 (⟨x8_3, x9_4⟩ : S93) [.int .i64 x8_3, .int .i64 x9_4] (fun _ => True) (fun _ => False) rfl rfl ?aP (fun _ hk => hk.elim) ?aF ?aO ?aB ?aS ?aL ?_; (case aP => exact k93_mkM _ _ _ (⟨x8_3, x9_4⟩ : S93)); (case aB => exact (by repeat (first | (with_reducible first | exact HB.out | apply below_alloc | apply pw_below_drewN | apply below_drew1) | exact HB.out))); (case aF => exact (fun _ _ => trivial)); (case aO => exact (by (with_reducible repeat (first | apply Kd.R_alloc | apply Kd.R_drewN | apply Kd.R_drew)); exact HO_7.out)); (case aS => exact (below_size (by repeat (first | (with_reducible first | exact HB.out | apply below_alloc | apply pw_below_drewN | apply below_drew1) | exact HB.out)))); (case aL => have := LMc34.out; omega); intro v332 w35 ho hb hg hat; rw [← Ny331.out] at ho; have n0_ := Aside0.mk (hb); have n1_ := Aside0.mk (ho); clear HB; clear HO_7; have HB := n0_; have HO333 := n1_; clear n0_ n1_; clear ho hb hg hat))
            repeat (go_quiet (first | ((with_reducible refine gate_builtin (b := .append) (xs := #[.tmp 69, .tmp 73]) rfl ?_); at_builtin; refine Kd.R_append k93 (w0 := w) w.heap.size rfl (.tmp 69) (.tmp 73) 91 93 (.agg #[(.int .i64 0), (.int .i64 0)]) 16 rfl Tryd.underlying91 info93 rfl (by decide) (by omega) u7 x7_3 (⟨x8_3, x9_4⟩ : S93) [.int .i64 x8_3, .int .i64 x9_4] (fun _ => True) (fun _ => False) rfl rfl ?aP (fun _ hk => hk.elim) ?aF ?aO ?aB ?aS ?aL ?_; (case aP => exact k93_mkM _ _ _ (⟨x8_3, x9_4⟩ : S93)); (case aB => exact (by repeat (first | (with_reducible first | exact HB.out | apply below_alloc | apply pw_below_drewN | apply below_drew1) | exact HB.out))); (case aF => exact (fun _ _ => trivial)); (case aO => exact (by (with_reducible repeat (first | apply Kd.R_alloc | apply Kd.R_drewN | apply Kd.R_drew)); exact HO_7.out)); (case aS => exact (below_size (by repeat (first | (with_reducible first | exact HB.out | apply below_alloc | apply pw_below_drewN | apply below_drew1) | exact HB.out)))); (case aL => have := LMc34.out; omega); intro v332 w35 ho hb hg hat; rw [← Ny331.out] at ho; have n0_ := Aside0.mk (hb); have n1_ := Aside0.mk (ho); clear HB; clear HO_7; have HB := n0_; have HO333 := n1_; clear n0_ n1_; clear ho hb hg hat)); try go_wp2_with (first | ((with_reducible refine gate_builtin (b := .append) (xs := #[.tmp 69, .tmp 73]) rfl ?_); at_builtin; refine Kd.R_append k93 (w0 := w) w.heap.size rfl (.tmp 69) (.tmp 73) 91 93 (.agg #[(.int .i64 0), (.int .i64 0)]) 16 rfl Tryd.underlying91 info93 rfl (by decide) (by omega) u7 x7_3 (⟨x8_3, x9_4⟩ : S93) [.int .i64 x8_3, .int .i64 x9_4] (fun _ => True) (fun _ => False) rfl rfl ?aP (fun _ hk => hk.elim) ?aF ?aO ?aB ?aS ?aL ?_; (case aP => exact k93_mkM _ _ _ (⟨x8_3, x9_4⟩ : S93)); (case aB => exact (by repeat (first | (with_reducible first | exact HB.out | apply below_alloc | apply pw_below_drewN | apply below_drew1) | exact HB.out))); (case aF => exact (fun _ _ => trivial)); (case aO => exact (by (with_reducible repeat (first | apply Kd.R_alloc | apply Kd.R_drewN | apply Kd.R_drew)); exact HO_7.out)); (case aS => exact (below_size (by repeat (first | (with_reducible first | exact HB.out | apply below_alloc | apply pw_below_drewN | apply below_drew1) | exact HB.out)))); (case aL => have := LMc34.out; omega); intro v332 w35 ho hb hg hat; rw [← Ny331.out] at ho; have n0_ := Aside0.mk (hb); have n1_ := Aside0.mk (ho); clear HB; clear HO_7; have HB := n0_; have HO333 := n1_; clear n0_ n1_; clear ho hb hg hat)))
            go_roundg k4
            case measure => have := HJ3.out; have := HJ5.out; have := HK3.out; have := HK4.out; omega
            case rel => exact ⟨(y331), (x9_4), (by first | rfl | (simp; done) | (simp [*]; done) | (simp [wrap64, wrap32]; done)), H', ⟨by have := HJ3.out; have := HJ5.out; have := HK3.out; have := HK4.out; omega⟩, ⟨by (with_reducible repeat (first | apply Kd.R_alloc | apply Kd.R_drewN | apply Kd.R_drew)); exact HO333.out⟩, ⟨by repeat (first | (with_reducible first | exact HB.out | apply below_alloc | apply pw_below_drewN | apply below_drew1) | exact HB.out)⟩⟩
           ·rw [if_neg c34] at H
            exact absurd H (by simp)
       ·rw [if_neg c8] at H
        have c8b0 : decide (x8_3 < x2_5) = false := decide_eq_false c8
        clear c8
        obtain rfl := Option.some.inj H
        go_wp2
        repeat (go_quiet (fail); try go_wp2)
        go_ret
        exact ⟨_, by first | rfl | (simp [errW_none, errW_some] <;> rfl) | (simp [*, errW_none, errW_some] <;> rfl), by (with_reducible repeat (first | apply Kd.R_alloc | apply Kd.R_drewN | apply Kd.R_drew)); exact HO_7.out, by repeat (first | (with_reducible first | exact HB.out | apply below_alloc | apply pw_below_drewN | apply below_drew1) | exact HB.out)⟩

end Go.Proofs.YtekalnhackjldaaDoor.PTokenWords
