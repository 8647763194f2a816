-- x
import Derived.Test.YtjabpbnlpljlkaaDoorPShowMadex0
import Derived.Test.YtjabpbnlpljlkaaDoorPShowMadex3
import Derived.Test.YtjabpbnlpljlkaaDoorPShowMadex6
import Derived.Test.YtjabpbnlpljlkaaDoorPShowMadex8
namespace Go.Proofs.YtjabpbnlpljlkaaDoor.PShowMade
open Go.RowKit Go.Proofs.YtjabpbnlpljlkaaDoor.X Go.Proofs.YtjabpbnlpljlkaaDoorW.PrintWords Go.Proofs.YtjabpbnlpljlkaaDoorW.PrintLast Go.Proofs.YtjabpbnlpljlkaaDoorW.PrintMore
attribute [local go_sem] max2_int min2_int max_two min_two max_three min_three max_four min_four   -- for this text's walks alone
set_option linter.unusedVariables false
set_option linter.unusedSimpArgs false

/-! ### hunks_Make: function 20 -/
mutual
def hunks_Make.j0 : Nat → List Int → List Int → Int → Bool → Option ((List (S26)) × Int)
 | 0, _, _, _, _ => none
 | k + 1, x0, x1, x2, x18 => if x18 = true then (some (([] : List (S26)), 2)) else ((lines_Split.f k x0).bind fun t268 => ((lines_Split.f k x1).bind fun t271 => ((hunks_Changes.f k t268 t271).bind fun t274 => (hunks_Make.l0 k x2 t268 t271 ([] : List (S26)) t274))))
def hunks_Make.l0 : Nat → Int → List ByteArray → List ByteArray → List (S26) → List (S82) → Option ((List (S26)) × Int)
 | 0, _, _, _, _, _ => none
 | k + 1, x2, x8, x9, x10, x11 => if (x11.length : Int) > 0 then (hunks_Make.l1 k x2 x8 x9 x10 x11 1) else (some (x10, 0))
def hunks_Make.l1 : Nat → Int → List ByteArray → List ByteArray → List (S26) → List (S82) → Int → Option ((List (S26)) × Int)
 | 0, _, _, _, _, _, _ => none
 | k + 1, x2, x8, x9, x10, x11, x12 => if x12 < (x11.length : Int) then (if 0 ≤ x12 then (if 0 ≤ (wrap64 (x12 - 1)) then (if (wrap64 (x12 - 1)) < (x11.length : Int) then (if (wrap64 (((rd_T82 x11 x12).f0) - (wrap64 (((rd_T82 x11 (wrap64 (x12 - 1))).f0) + ((rd_T82 x11 (wrap64 (x12 - 1))).f1))))) ≤ (wrap64 (2 * x2)) then (hunks_Make.l1 k x2 x8 x9 x10 x11 (wrap64 (x12 + 1))) else (if x12 ≤ (x11.length : Int) then ((hunks_hunk.f k x8 x9 (x11.take (x12 : Int).toNat) x2).bind fun bt284 => (if x10.length < 2513169434916 then (hunks_Make.l0 k x2 x8 x9 (x10 ++ [(⟨bt284.1, bt284.2.1, bt284.2.2.1, bt284.2.2.2.1, bt284.2.2.2.2⟩ : S26)]) (x11.drop (x12 : Int).toNat)) else (none))) else (none))) else (none)) else (none)) else (none)) else (if 0 ≤ x12 then (if x12 ≤ (x11.length : Int) then ((hunks_hunk.f k x8 x9 (x11.take (x12 : Int).toNat) x2).bind fun bt301 => (if x10.length < 2513169434916 then (hunks_Make.l0 k x2 x8 x9 (x10 ++ [(⟨bt301.1, bt301.2.1, bt301.2.2.1, bt301.2.2.2.1, bt301.2.2.2.2⟩ : S26)]) (x11.drop (x12 : Int).toNat)) else (none))) else (none)) else (none))
end
def hunks_Make.f (k : Nat) (l0 : List Int) (l1 : List Int) (a2 : Int) : Option ((List (S26)) × Int) := if a2 < 0 then (hunks_Make.j0 k l0 l1 a2 true) else (hunks_Make.j0 k l0 l1 a2 (decide (a2 > 16)))
theorem hunks_Make.mono_l : ∀ k, (∀ y0 y1 y2 y3, LeO (hunks_Make.j0 k y0 y1 y2 y3) (hunks_Make.j0 (k + 1) y0 y1 y2 y3)) ∧ (∀ y0 y1 y2 y3 y4, LeO (hunks_Make.l0 k y0 y1 y2 y3 y4) (hunks_Make.l0 (k + 1) y0 y1 y2 y3 y4)) ∧ (∀ y0 y1 y2 y3 y4 y5, LeO (hunks_Make.l1 k y0 y1 y2 y3 y4 y5) (hunks_Make.l1 (k + 1) y0 y1 y2 y3 y4 y5))
 | 0 => ⟨fun _ _ _ _ r h => by simp [hunks_Make.j0] at h, fun _ _ _ _ _ r h => by simp [hunks_Make.l0] at h, fun _ _ _ _ _ _ r h => by simp [hunks_Make.l1] at h⟩
 | k + 1 => by
  obtain ⟨ih0, ih1, ih2⟩ := hunks_Make.mono_l k
  refine ⟨?_, ?_, ?_⟩
  ·intro y0 y1 y2 y3
   unfold hunks_Make.j0
   repeat' first
   | (with_reducible exact ih0 _ _ _ _)
   | (with_reducible exact ih1 _ _ _ _ _)
   | (with_reducible exact ih2 _ _ _ _ _ _)
   | (with_reducible exact hunks_Changes.mono _ _ _)
   | (with_reducible exact hunks_hunk.mono _ _ _ _ _)
   | (with_reducible exact lines_Split.mono _ _)
   | (with_reducible exact LeO.refl _)
   | (with_reducible exact LeO.none _)
   | (with_reducible refine LeO.ite ?_ ?_)
   | (with_reducible refine LeO.bind ?_ (fun _ => ?_))
  ·intro y0 y1 y2 y3 y4
   unfold hunks_Make.l0
   repeat' first
   | (with_reducible exact ih0 _ _ _ _)
   | (with_reducible exact ih1 _ _ _ _ _)
   | (with_reducible exact ih2 _ _ _ _ _ _)
   | (with_reducible exact hunks_Changes.mono _ _ _)
   | (with_reducible exact hunks_hunk.mono _ _ _ _ _)
   | (with_reducible exact lines_Split.mono _ _)
   | (with_reducible exact LeO.refl _)
   | (with_reducible exact LeO.none _)
   | (with_reducible refine LeO.ite ?_ ?_)
   | (with_reducible refine LeO.bind ?_ (fun _ => ?_))
  ·intro y0 y1 y2 y3 y4 y5
   unfold hunks_Make.l1
   repeat' first
   | (with_reducible exact ih0 _ _ _ _)
   | (with_reducible exact ih1 _ _ _ _ _)
   | (with_reducible exact ih2 _ _ _ _ _ _)
   | (with_reducible exact hunks_Changes.mono _ _ _)
   | (with_reducible exact hunks_hunk.mono _ _ _ _ _)
   | (with_reducible exact lines_Split.mono _ _)
   | (with_reducible exact LeO.refl _)
   | (with_reducible exact LeO.none _)
   | (with_reducible refine LeO.ite ?_ ?_)
   | (with_reducible refine LeO.bind ?_ (fun _ => ?_))
theorem hunks_Make.mono : ∀ a0 a1 a2 k, LeO (hunks_Make.f k a0 a1 a2) (hunks_Make.f (k + 1) a0 a1 a2) := by
 intro a0 a1 a2 k
 obtain ⟨ih0, ih1, ih2⟩ := hunks_Make.mono_l k
 unfold hunks_Make.f
 repeat' first
   | (with_reducible exact ih0 _ _ _ _)
   | (with_reducible exact ih1 _ _ _ _ _)
   | (with_reducible exact ih2 _ _ _ _ _ _)
   | (with_reducible exact hunks_Changes.mono _ _ _)
   | (with_reducible exact hunks_hunk.mono _ _ _ _ _)
   | (with_reducible exact lines_Split.mono _ _)
   | (with_reducible exact LeO.refl _)
   | (with_reducible exact LeO.none _)
   | (with_reducible refine LeO.ite ?_ ?_)
   | (with_reducible refine LeO.bind ?_ (fun _ => ?_))
set_option maxHeartbeats 8000000 in
set_option maxRecDepth 100000 in
theorem hunks_Make.calls (k : Nat) (A0 : Option Addr) (c0 : Nat) (l0 : List Int) (A1 : Option Addr) (c1 : Nat) (l1 : List Int) (a2 : Int) (r1 : List (S26)) (r2 : Int) (w : World) (hr0 : Kd.C (Kd.int .u8) w A0 l0.length l0) (hc0 : l0.length ≤ c0) (hr1 : Kd.C (Kd.int .u8) w A1 l1.length l1) (hc1 : l1.length ≤ c1) (h : hunks_Make.f k l0 l1 a2 = some (r1, r2)) :
  Calls Tryd.prog 20 #[.slice A0 l0.length c0, .slice A1 l1.length c1, .int .i64 a2] w fun e w' => ∃ v0_ : Value, e = .returned (.tuple #[v0_, .int .i64 r2]) ∧ Kd.S k26 26 w' w.heap.size (fun _ => True) v0_ r1 ∧ Below w.heap.size w w' := by
 have HR0 := Aside0.mk hr0
 have HC0 := Aside0.mk hc0
 clear hr0 hc0
 have HR1 := Aside0.mk hr1
 have HC1 := Aside0.mk hc1
 clear hr1 hc1
 have HB := Aside0.mk (Below.refl w.heap.size w)
 have H : (if a2 < 0 then (hunks_Make.j0 k l0 l1 a2 true) else (hunks_Make.j0 k l0 l1 a2 (decide (a2 > 16)))) = some (r1, r2) := h
 clear h
 have HC4 := Aside0.mk H
 clear H
 go_enter Tryd.func20, Tryd.ntmps20
 go_upto_region 1 with (fail)
 repeat (go_quiet (fail); go_upto_region 1 with (fail))
 go_cut [18] (fun v18 wc => ∃ (kq : Nat) (x18_3 : Bool), v18 = .bool x18_3 ∧ Aside0 (hunks_Make.j0 kq l0 l1 a2 x18_3 = some (r1, r2)) ∧ Aside0 (kq ≤ k) ∧ Aside0 (Below w.heap.size w wc))
 case first =>
  have H := HC4.out
  clear HC4
  by_cases c5 : a2 < 0
  ·rw [if_pos c5] at H
   have c5b0 : decide (a2 < 0) = true := decide_eq_true c5
   clear c5
   (first | rw [c5b0] | (simp only [i64_w, i32_w]; rw [c5b0]) | skip)
   have H' := Aside0.mk H
   clear H
   go_wp2
   repeat (go_quiet (fail); try go_wp2)
   go_meet
   case rel => exact ⟨_, (true), (by first | rfl | (simp; done) | (simp [*]; done) | (simp [wrap64, wrap32]; done)), H', ⟨by first | omega | exact Nat.le_refl _⟩, ⟨by repeat (first | (with_reducible first | exact HB.out | apply below_alloc | apply pw_below_drewN | apply below_drew1) | exact HB.out)⟩⟩
  ·rw [if_neg c5] at H
   have c5b0 : decide (a2 < 0) = false := decide_eq_false c5
   clear c5
   (first | rw [c5b0] | (simp only [i64_w, i32_w]; rw [c5b0]) | skip)
   have H' := Aside0.mk H
   clear H
   go_wp2
   repeat (go_quiet (fail); try go_wp2)
   go_meet
   case rel => exact ⟨_, (decide (a2 > 16)), (by first | rfl | (simp; done) | (simp [*]; done) | (simp [wrap64, wrap32]; done)), H', ⟨by first | omega | exact Nat.le_refl _⟩, ⟨by repeat (first | (with_reducible first | exact HB.out | apply below_alloc | apply pw_below_drewN | apply below_drew1) | exact HB.out)⟩⟩
 case rest =>
  clear HC4
  (try clear c1); (try clear c2); (try clear p2); (try clear c5); (try clear c5b0)
  obtain ⟨kq, x18_3, rfl, HA, HJ3, HB⟩ := hcut
  cases kq with
  | zero => exact absurd HA.out (by simp [hunks_Make.j0])
  | succ kj3 =>
   have H := HA.out
   clear HA
   simp only [hunks_Make.j0] at H
   by_cases c6 : x18_3 = true
   ·subst c6
    have H1 : (some (([] : List (S26)), 2)) = some (r1, r2) := by rw [if_pos rfl] at H; exact H
    clear H
    have H := H1
    clear H1
    simp only [Option.some.injEq, Prod.mk.injEq] at H
    obtain ⟨rfl, rfl⟩ := H
    go_wp2
    repeat (go_quiet (fail); try go_wp2)
    go_ret2
    exact ⟨_, by first | rfl | (simp [errW_none, errW_some] <;> rfl) | (simp [*, errW_none, errW_some] <;> rfl), by first | exact Kd.S_nil _ _ _ _ _ | exact Kd.N_nil _ _ _ _ _ | exact Kd.V_nil _ _ _ _ _ | exact Kd.Q_nil _ _ _ _ _ | exact Kd.R_nil _ _ _ _ _, by repeat (first | (with_reducible first | exact HB.out | apply below_alloc | apply pw_below_drewN | apply below_drew1) | exact HB.out)⟩
   ·replace c6 := Bool.eq_false_iff.mpr c6
    subst c6
    have H1 : ((lines_Split.f kj3 l0).bind fun t268 => ((lines_Split.f kj3 l1).bind fun t271 => ((hunks_Changes.f kj3 t268 t271).bind fun t274 => (hunks_Make.l0 kj3 a2 t268 t271 ([] : List (S26)) t274)))) = some (r1, r2) := by rw [if_neg (show ¬ (false = true) by decide)] at H; exact H
    clear H
    have H := H1
    clear H1
    replace H := Option.bind_eq_some_iff.mp H
    obtain ⟨t268, A70, H⟩ := H
    replace H : ((lines_Split.f kj3 l1).bind fun t271 => ((hunks_Changes.f kj3 t268 t271).bind fun t274 => (hunks_Make.l0 kj3 a2 t268 t271 ([] : List (S26)) t274))) = some (r1, r2) := H
    have A7 := Aside0.mk A70
    clear A70
    replace H := Option.bind_eq_some_iff.mp H
    obtain ⟨t271, A80, H⟩ := H
    replace H : ((hunks_Changes.f kj3 t268 t271).bind fun t274 => (hunks_Make.l0 kj3 a2 t268 t271 ([] : List (S26)) t274)) = some (r1, r2) := H
    have A8 := Aside0.mk A80
    clear A80
    replace H := Option.bind_eq_some_iff.mp H
    obtain ⟨t274, A90, H⟩ := H
    replace H : (hunks_Make.l0 kj3 a2 t268 t271 ([] : List (S26)) t274) = some (r1, r2) := H
    have A9 := Aside0.mk A90
    clear A90
    have H' := Aside0.mk H
    clear H
    go_wp2_with (first | (go_at_call 36; (with_reducible refine (lines_Split.calls kj3 _ _ l0 t268 _ ?side1 ?side2 A7.out).mono ?_); (case side1 => repeat (first | exact (Kd.C_below HR0.out HB.out) | (with_reducible refine Kd.C_alloc ?_ _) | (with_reducible refine Kd.C_drewN ?_ _) | (with_reducible refine Kd.C_drew ?_))); (case side2 => exact HC0.out); rintro e w10 ⟨v269, rfl, ho0, hb⟩; have n0_ := Aside0.mk (Kd.R_lower ho0 (below_size (by repeat (first | (with_reducible first | exact HB.out | apply below_alloc | apply pw_below_drewN | apply below_drew1) | exact HB.out)))); have n1_ := Aside0.mk (below_step (by repeat (first | (with_reducible first | exact HB.out | apply below_alloc | apply pw_below_drewN | apply below_drew1) | exact HB.out)) hb); clear HB; have HO270 := n0_; have HB := n1_; clear n0_ n1_; (try clear hb); (try clear hb2); (try clear hk); (try clear hi); (try clear ho0)) | (go_at_call 36; (with_reducible refine (lines_Split.calls kj3 _ _ l1 t271 _ ?side1 ?side2 A8.out).mono ?_); (case side1 => repeat (first | exact (Kd.C_below HR1.out HB.out) | (with_reducible refine Kd.C_alloc ?_ _) | (with_reducible refine Kd.C_drewN ?_ _) | (with_reducible refine Kd.C_drew ?_))); (case side2 => exact HC1.out); rintro e w11 ⟨v272, rfl, ho0, hb⟩; have n0_ := Aside0.mk (Kd.R_elder' (by (with_reducible repeat (first | apply Kd.R_alloc | apply Kd.R_drewN | apply Kd.R_drew)); exact HO270.out) (Kd.R_base ho0) hb); have n1_ := Aside0.mk (Kd.R_lower (Kd.R_new' ho0 (Kd.R_lt (by (with_reducible repeat (first | apply Kd.R_alloc | apply Kd.R_drewN | apply Kd.R_drew)); exact HO270.out))) (below_size (by repeat (first | (with_reducible first | exact HB.out | apply below_alloc | apply pw_below_drewN | apply below_drew1) | exact HB.out)))); have n2_ := Aside0.mk (below_step (by repeat (first | (with_reducible first | exact HB.out | apply below_alloc | apply pw_below_drewN | apply below_drew1) | exact HB.out)) hb); clear HO270; clear HB; have HO270 := n0_; have HO273 := n1_; have HB := n2_; clear n0_ n1_ n2_; (try clear hb); (try clear hb2); (try clear hk); (try clear hi); (try clear ho0); obtain ⟨Ao12, co12, eo12⟩ := Kd.R_slice HO270.out; subst eo12; obtain ⟨Ao13, co13, eo13⟩ := Kd.R_slice HO273.out; subst eo13) | (go_at_call 37; (with_reducible refine (hunks_Changes.calls kj3 (fun k_ => some k_ = (.slice Ao12 t268.length co12 : Value).ownBlock) _ _ t268 (fun k_ => some k_ = (.slice Ao13 t271.length co13 : Value).ownBlock) _ _ t271 t274 _ ?side1 ?side2 A9.out).mono ?_); (case side1 => exact Kd.R_V (Kd.R_tight rfl (HO270.out))); (case side2 => exact Kd.R_V (Kd.R_tight rfl (HO273.out))); rintro e w14 ⟨v275, rfl, ho0, hb⟩; have n0_ := Aside0.mk (Kd.R_below (by (with_reducible repeat (first | apply Kd.R_alloc | apply Kd.R_drewN | apply Kd.R_drew)); exact HO270.out) hb); have n1_ := Aside0.mk (Kd.R_below (by (with_reducible repeat (first | apply Kd.R_alloc | apply Kd.R_drewN | apply Kd.R_drew)); exact HO273.out) hb); have n2_ := Aside0.mk (Kd.R_lower (Kd.R_mono (ok' := fun k_ => True) ho0 (fun _ hk_ => trivial)) (below_size (by repeat (first | (with_reducible first | exact HB.out | apply below_alloc | apply pw_below_drewN | apply below_drew1) | exact HB.out)))); have n3_ := Aside0.mk (below_step (by repeat (first | (with_reducible first | exact HB.out | apply below_alloc | apply pw_below_drewN | apply below_drew1) | exact HB.out)) hb); clear HO270; clear HO273; clear HB; have HO270 := n0_; have HO273 := n1_; have HO276 := n2_; have HB := n3_; clear n0_ n1_ n2_ n3_; (try clear hb); (try clear hb2); (try clear hk); (try clear hi); (try clear ho0)))
    repeat (go_quiet (fail); try go_wp2_with (fail))
    go_loopg [10, 11] kj3 (fun kq v10 v11 w' => ∃ (x10_2 : List (S26)) (x11_2 : List (S82)), Aside0 (hunks_Make.l0 kq a2 t268 t271 x10_2 x11_2 = some (r1, r2)) ∧ Aside0 (kq ≤ kj3) ∧ Aside0 (Kd.R Kd.string 9 w' w.heap.size (fun k_ => some k_ ≠ ((.slice Ao13 t271.length co13) : Value).ownBlock) (.slice Ao12 t268.length co12) t268) ∧ Aside0 (Kd.R Kd.string 9 w' w.heap.size (fun k_ => some k_ ≠ ((.slice Ao12 t268.length co12) : Value).ownBlock) (.slice Ao13 t271.length co13) t271) ∧ Aside0 (Kd.S k26 26 w' w.heap.size (fun _ => True) v10 x10_2) ∧ Aside0 (Kd.Q k82 82 w' w.heap.size (fun _ => True) v11 x11_2) ∧ Aside0 (Below w.heap.size w w'))
    case atStart => exact ⟨(([] : List (S26))), (t274), H', ⟨Nat.le_refl _⟩, ⟨by (with_reducible repeat (first | apply Kd.R_alloc | apply Kd.R_drewN | apply Kd.R_drew)); exact Kd.R_mono HO270.out (fun _ hk => hk.2)⟩, ⟨by (with_reducible repeat (first | apply Kd.R_alloc | apply Kd.R_drewN | apply Kd.R_drew)); exact Kd.R_mono HO273.out (fun _ hk => hk.2)⟩, ⟨by first | exact Kd.S_nil _ _ _ _ _ | exact Kd.N_nil _ _ _ _ _ | exact Kd.V_nil _ _ _ _ _ | exact Kd.Q_nil _ _ _ _ _ | exact Kd.R_nil _ _ _ _ _⟩, ⟨Kd.Q_of_R (by (with_reducible repeat (first | apply Kd.R_alloc | apply Kd.R_drewN | apply Kd.R_drew)); exact HO276.out)⟩, ⟨by repeat (first | (with_reducible first | exact HB.out | apply below_alloc | apply pw_below_drewN | apply below_drew1) | exact HB.out)⟩⟩
    case round =>
     clear H'
     (try clear c1); (try clear c2); (try clear p2); (try clear c5); (try clear c5b0); (try clear c6); (try clear p2)
     obtain ⟨x10_2, x11_2, HA, HK2, HO_8, HO_9, HO_10, HO_11, HB⟩ := hrel
     cases gk with
     | zero => exact absurd HA.out (by simp [hunks_Make.l0])
     | succ k2 =>
      have H := HA.out
      clear HA
      simp only [hunks_Make.l0] at H
      by_cases c15 : (x11_2.length : Int) > 0
      ·rw [if_pos c15] at H
       have c15b0 : decide (0 < (x11_2.length : Int)) = true := decide_eq_true c15
       have c15b1 : decide (0 < x11_2.length) = true := decide_eq_true (by omega)
       clear c15
       have H' := Aside0.mk H
       clear H
       obtain ⟨Ao16, co16, eo16, _⟩ := Kd.Q_slice HO_11.out
       subst eo16
       go_wp2
       repeat (go_quiet (fail); try go_wp2)
       go_loopg [12] k2 (fun kq v12 w' => ∃ (x12_3 : Int), v12 = .int .i64 x12_3 ∧ Aside0 (hunks_Make.l1 kq a2 t268 t271 x10_2 x11_2 x12_3 = some (r1, r2)) ∧ Aside0 (kq ≤ k2) ∧ Aside0 (Kd.R Kd.string 9 w' w.heap.size (fun k_ => some k_ ≠ ((.slice Ao13 t271.length co13) : Value).ownBlock) (.slice Ao12 t268.length co12) t268) ∧ Aside0 (Kd.R Kd.string 9 w' w.heap.size (fun k_ => some k_ ≠ ((.slice Ao12 t268.length co12) : Value).ownBlock) (.slice Ao13 t271.length co13) t271) ∧ Aside0 (Kd.S k26 26 w' w.heap.size (fun _ => True) u10 x10_2) ∧ Aside0 (Kd.Q k82 82 w' w.heap.size (fun _ => True) (.slice Ao16 x11_2.length co16) x11_2) ∧ Aside0 (Below w.heap.size w w'))
       case atStart => exact ⟨(1), (by first | rfl | (simp; done) | (simp [*]; done) | (simp [wrap64, wrap32]; done)), H', ⟨Nat.le_refl _⟩, ⟨by (with_reducible repeat (first | apply Kd.R_alloc | apply Kd.R_drewN | apply Kd.R_drew)); exact HO_8.out⟩, ⟨by (with_reducible repeat (first | apply Kd.R_alloc | apply Kd.R_drewN | apply Kd.R_drew)); exact HO_9.out⟩, ⟨by (with_reducible repeat (first | apply Kd.S_alloc | apply Kd.S_drewN | apply Kd.S_drew)); exact HO_10.out⟩, ⟨by (with_reducible repeat (first | apply Kd.Q_alloc | apply Kd.Q_drewN | apply Kd.Q_drew)); exact HO_11.out⟩, ⟨by repeat (first | (with_reducible first | exact HB.out | apply below_alloc | apply pw_below_drewN | apply below_drew1) | exact HB.out)⟩⟩
       case round =>
        clear H'
        (try clear c1); (try clear c2); (try clear p2); (try clear c5); (try clear c5b0); (try clear c6); (try clear c15); (try clear c15b0); (try clear c15b1); (try clear p2)
        obtain ⟨x12_3, rfl, HA, HK3, HO_8, HO_9, HO_10, HO_11, HB⟩ := hrel
        cases gk with
        | zero => exact absurd HA.out (by simp [hunks_Make.l1])
        | succ k3 =>
         have H := HA.out
         clear HA
         simp only [hunks_Make.l1] at H
         by_cases c17 : x12_3 < (x11_2.length : Int)
         ·rw [if_pos c17] at H
          have c17b0 : decide (x12_3 < (x11_2.length : Int)) = true := decide_eq_true c17
          clear c17
          by_cases c18 : 0 ≤ x12_3
          ·rw [if_pos c18] at H
           have c18b0 : decide (0 ≤ x12_3) = true := decide_eq_true c18
           clear c18
           obtain ⟨ji19, hji19⟩ : ∃ j_ : Int, (wrap64 (x12_3 - 1)) = j_ := ⟨_, rfl⟩
           replace H : (if 0 ≤ (ji19) then (if (ji19) < (x11_2.length : Int) then (if (wrap64 (((rd_T82 x11_2 x12_3).f0) - (wrap64 (((rd_T82 x11_2 (ji19)).f0) + ((rd_T82 x11_2 (ji19)).f1))))) ≤ (wrap64 (2 * a2)) then (hunks_Make.l1 k3 a2 t268 t271 x10_2 x11_2 (wrap64 (x12_3 + 1))) else (if x12_3 ≤ (x11_2.length : Int) then ((hunks_hunk.f k3 t268 t271 (x11_2.take (x12_3 : Int).toNat) a2).bind fun bt284 => (if x10_2.length < 2513169434916 then (hunks_Make.l0 k3 a2 t268 t271 (x10_2 ++ [(⟨bt284.1, bt284.2.1, bt284.2.2.1, bt284.2.2.2.1, bt284.2.2.2.2⟩ : S26)]) (x11_2.drop (x12_3 : Int).toNat)) else (none))) else (none))) else (none)) else (none)) = some (r1, r2) := by first | (rw [hji19] at H; exact H) | (simp only [hji19] at H ⊢; exact H)
           have hji19w : (IntKind.i64.wrap (x12_3 - 1)) = ji19 := (i64_w _).trans hji19
           by_cases c20 : 0 ≤ (ji19)
           ·rw [if_pos c20] at H
            have c20b0 : decide (0 ≤ (ji19)) = true := decide_eq_true c20
            clear c20
            by_cases c21 : (ji19) < (x11_2.length : Int)
            ·rw [if_pos c21] at H
             have c21b0 : decide ((ji19) < (x11_2.length : Int)) = true := decide_eq_true c21
             clear c21
             by_cases c22 : (wrap64 (((rd_T82 x11_2 x12_3).f0) - (wrap64 (((rd_T82 x11_2 (ji19)).f0) + ((rd_T82 x11_2 (ji19)).f1))))) ≤ (wrap64 (2 * a2))
             ·rw [if_pos c22] at H
              have c22b0 : decide ((wrap64 (((rd_T82 x11_2 x12_3).f0) - (wrap64 (((rd_T82 x11_2 (ji19)).f0) + ((rd_T82 x11_2 (ji19)).f1))))) ≤ (wrap64 (2 * a2))) = true := decide_eq_true c22
              clear c22
              have H' := Aside0.mk H
              clear H
              have p277 : 0 ≤ (x12_3 : Int) := of_decide_eq_true (by first | (with_reducible assumption) | assumption)
              have q277 : x12_3 < (x11_2.length : Int) := of_decide_eq_true (by first | (with_reducible assumption) | assumption)
              obtain ⟨ad277, e277, hx277_0, hx277_1, hx277_2, hx277_3⟩ := at_T82 (Kd.Q_reads' HO_11.out).2.2 x12_3 p277 q277
              cases e277
              replace p277 := eq_true p277
              replace q277 := eq_true q277
              have p278 : 0 ≤ ((ji19) : Int) := of_decide_eq_true (by first | (with_reducible assumption) | assumption)
              have q278 : (ji19) < (x11_2.length : Int) := of_decide_eq_true (by first | (with_reducible assumption) | assumption)
              obtain ⟨ad278, e278, hx278_0, hx278_1, hx278_2, hx278_3⟩ := at_T82 (Kd.Q_reads' HO_11.out).2.2 (ji19) p278 q278
              obtain rfl : ad277 = ad278 := (by injection e278)
              replace p278 := eq_true p278
              replace q278 := eq_true q278
              have p279 : 0 ≤ ((ji19) : Int) := of_decide_eq_true (by first | (with_reducible assumption) | assumption)
              have q279 : (ji19) < (x11_2.length : Int) := of_decide_eq_true (by first | (with_reducible assumption) | assumption)
              obtain ⟨ad279, e279, hx279_0, hx279_1, hx279_2, hx279_3⟩ := at_T82 (Kd.Q_reads' HO_11.out).2.2 (ji19) p279 q279
              obtain rfl : ad277 = ad279 := (by injection e279)
              replace p279 := eq_true p279
              replace q279 := eq_true q279
              go_wp2
              repeat (go_quiet (fail); try go_wp2)
              go_roundg k3
              case measure => have := HJ3.out; have := HK2.out; have := HK3.out; omega
              case rel => exact ⟨(wrap64 (x12_3 + 1)), (by first | rfl | (simp; done) | (simp [*]; done) | (simp [wrap64, wrap32]; done)), H', ⟨by have := HJ3.out; have := HK2.out; have := HK3.out; omega⟩, ⟨by (with_reducible repeat (first | apply Kd.R_alloc | apply Kd.R_drewN | apply Kd.R_drew)); exact HO_8.out⟩, ⟨by (with_reducible repeat (first | apply Kd.R_alloc | apply Kd.R_drewN | apply Kd.R_drew)); exact HO_9.out⟩, ⟨by (with_reducible repeat (first | apply Kd.S_alloc | apply Kd.S_drewN | apply Kd.S_drew)); exact HO_10.out⟩, ⟨by (with_reducible repeat (first | apply Kd.Q_alloc | apply Kd.Q_drewN | apply Kd.Q_drew)); exact HO_11.out⟩, ⟨by repeat (first | (with_reducible first | exact HB.out | apply below_alloc | apply pw_below_drewN | apply below_drew1) | exact HB.out)⟩⟩
             ·rw [if_neg c22] at H
              have c22b0 : decide ((wrap64 (((rd_T82 x11_2 x12_3).f0) - (wrap64 (((rd_T82 x11_2 (ji19)).f0) + ((rd_T82 x11_2 (ji19)).f1))))) ≤ (wrap64 (2 * a2))) = false := decide_eq_false c22
              clear c22
              have c23b0 := eq_true (of_decide_eq_true (by first | (with_reducible assumption) | assumption) : 0 ≤ x12_3)
              by_cases c24 : x12_3 ≤ (x11_2.length : Int)
              ·rw [if_pos c24] at H
               have c24b0 := eq_true c24
               have c24b1 : decide (x12_3 ≤ (x11_2.length : Int)) = true := decide_eq_true c24
               clear c24
               obtain ⟨y280, hy280⟩ : ∃ y_ : List (S82), y_ = (x11_2.take (x12_3 : Int).toNat) := ⟨_, rfl⟩
               replace H : ((hunks_hunk.f k3 t268 t271 y280 a2).bind fun bt284 => (if x10_2.length < 2513169434916 then (hunks_Make.l0 k3 a2 t268 t271 (x10_2 ++ [(⟨bt284.1, bt284.2.1, bt284.2.2.1, bt284.2.2.2.1, bt284.2.2.2.2⟩ : S26)]) (x11_2.drop (x12_3 : Int).toNat)) else (none))) = some (r1, r2) := by first | (rw [hy280]; with_reducible exact H) | (have H2_ := (Option.bind_some _ _).symm.trans H; rw [hy280]; with_reducible exact H2_) | (have H2_ := (Option.bind_some _ _).symm.trans H; with_reducible exact H2_) | with_reducible exact H | (rw [hy280]; exact H) | exact H
               have Ny280 := Aside0.mk hy280
               clear hy280
               replace H := Option.bind_eq_some_iff.mp H
               obtain ⟨⟨t284, t285, t286, t287, t288⟩, A250, H⟩ := H
               replace H : (if x10_2.length < 2513169434916 then (hunks_Make.l0 k3 a2 t268 t271 (x10_2 ++ [(⟨t284, t285, t286, t287, t288⟩ : S26)]) (x11_2.drop (x12_3 : Int).toNat)) else (none)) = some (r1, r2) := H
               have A25 := Aside0.mk A250
               clear A250
               by_cases c26 : x10_2.length < 2513169434916
               ·rw [if_pos c26] at H
                have LMc26 := Aside0.mk c26
                clear c26
                obtain ⟨y291, hy291⟩ : ∃ y_ : List (S26), y_ = (x10_2 ++ [(⟨t284, t285, t286, t287, t288⟩ : S26)]) := ⟨_, rfl⟩
                replace H : (hunks_Make.l0 k3 a2 t268 t271 y291 (x11_2.drop (x12_3 : Int).toNat)) = some (r1, r2) := by first | (rw [hy291]; with_reducible exact H) | (have H2_ := (Option.bind_some _ _).symm.trans H; rw [hy291]; with_reducible exact H2_) | (have H2_ := (Option.bind_some _ _).symm.trans H; with_reducible exact H2_) | with_reducible exact H | (rw [hy291]; exact H) | exact H
                have Ny291 := Aside0.mk hy291
                clear hy291
                have c27b0 := eq_true (of_decide_eq_true (by first | (with_reducible assumption) | assumption) : x12_3 ≤ (x11_2.length : Int))
                obtain ⟨y294, hy294⟩ : ∃ y_ : List (S82), y_ = (x11_2.drop (x12_3 : Int).toNat) := ⟨_, rfl⟩
                replace H : (hunks_Make.l0 k3 a2 t268 t271 y291 y294) = some (r1, r2) := by first | (rw [hy294]; with_reducible exact H) | (have H2_ := (Option.bind_some _ _).symm.trans H; rw [hy294]; with_reducible exact H2_) | (have H2_ := (Option.bind_some _ _).symm.trans H; with_reducible exact H2_) | with_reducible exact H | (rw [hy294]; exact H) | exact H
                have Ny294 := Aside0.mk hy294
                clear hy294
                have H' := Aside0.mk H
                clear H
                have p277 : 0 ≤ (x12_3 : Int) := of_decide_eq_true (by first | (with_reducible assumption) | assumption)
                have q277 : x12_3 < (x11_2.length : Int) := of_decide_eq_true (by first | (with_reducible assumption) | assumption)
                obtain ⟨ad277, e277, hx277_0, hx277_1, hx277_2, hx277_3⟩ := at_T82 (Kd.Q_reads' HO_11.out).2.2 x12_3 p277 q277
                cases e277
                replace p277 := eq_true p277
                replace q277 := eq_true q277
                have p278 : 0 ≤ ((ji19) : Int) := of_decide_eq_true (by first | (with_reducible assumption) | assumption)
                have q278 : (ji19) < (x11_2.length : Int) := of_decide_eq_true (by first | (with_reducible assumption) | assumption)
                obtain ⟨ad278, e278, hx278_0, hx278_1, hx278_2, hx278_3⟩ := at_T82 (Kd.Q_reads' HO_11.out).2.2 (ji19) p278 q278
                obtain rfl : ad277 = ad278 := (by injection e278)
                replace p278 := eq_true p278
                replace q278 := eq_true q278
                have p279 : 0 ≤ ((ji19) : Int) := of_decide_eq_true (by first | (with_reducible assumption) | assumption)
                have q279 : (ji19) < (x11_2.length : Int) := of_decide_eq_true (by first | (with_reducible assumption) | assumption)
                obtain ⟨ad279, e279, hx279_0, hx279_1, hx279_2, hx279_3⟩ := at_T82 (Kd.Q_reads' HO_11.out).2.2 (ji19) p279 q279
                obtain rfl : ad277 = ad279 := (by injection e279)
                replace p279 := eq_true p279
                replace q279 := eq_true q279
                have q28 : (x12_3 : Int) ≤ ((x11_2.length : Int) : Int) := of_decide_eq_true (by first | (with_reducible assumption) | assumption)
                obtain ⟨i028, hi028, _, hsz28, _⟩ := info_parts info82
                have hroom28 : x11_2.length ≤ co16 := (Kd.Q_reads' HO_11.out).2.1
                have hC28 : Kd.C k82 _ (some ad277) x11_2.length x11_2 := (Kd.Q_reads' HO_11.out).2.2
                have hcut28 := cut_to (P := Tryd.prog) 79 82 .i64 Tryd.underlying79 hi028 (some ad277) x11_2.length co16 x12_3 (of_decide_eq_true (by first | (with_reducible assumption) | assumption)) q28 hroom28
                have hr28 := Kd.C_take (m := (x12_3 : Int).toNat) hC28 (by omega)
                have hy28 : y280.length = (x12_3 : Int).toNat := (by rw [Ny280.out, List.length_take]; omega)
                rw [← Ny280.out] at hr28
                rw [← hy28] at hcut28
                have HR283 := Aside0.mk hr28
                have HC283 := Aside0.mk (show y280.length ≤ co16 from by omega)
                clear hr28 hC28 hroom28 hi028 hsz28
                have KY28 := Aside0.mk hy28
                clear hy28
                have KL28 := Aside0.mk (show (x12_3 : Int).toNat ≤ x11_2.length from by omega)
                replace q28 := eq_true q28
                go_wp2_with (fail)
                repeat (go_quiet (fail); try go_wp2_with (first | (go_at_call 38; (with_reducible refine (hunks_hunk.calls k3 _ _ t268 _ _ t271 _ _ y280 a2 t284 t285 t286 t287 t288 _ ?side1 ?side2 ?side3 ?side4 ?side5 ?side6 A25.out).mono ?_); (case side1 => repeat (first | exact (Kd.R_reads' HO_8.out).2.2 | (with_reducible refine Kd.C_alloc ?_ _) | (with_reducible refine Kd.C_drewN ?_ _) | (with_reducible refine Kd.C_drew ?_))); (case side2 => exact (Kd.R_reads' HO_8.out).2.1); (case side3 => repeat (first | exact (Kd.R_reads' HO_9.out).2.2 | (with_reducible refine Kd.C_alloc ?_ _) | (with_reducible refine Kd.C_drewN ?_ _) | (with_reducible refine Kd.C_drew ?_))); (case side4 => exact (Kd.R_reads' HO_9.out).2.1); (case side5 => repeat (first | exact (by repeat (first | (with_reducible exact HR283.out) | (with_reducible refine Kd.C_alloc ?_ _) | (with_reducible refine Kd.C_drewN ?_ _) | (with_reducible refine Kd.C_drew ?_) | exact HR283.out)) | (with_reducible refine Kd.C_alloc ?_ _) | (with_reducible refine Kd.C_drewN ?_ _) | (with_reducible refine Kd.C_drew ?_))); (case side6 => exact HC283.out); rintro e w29 ⟨v289, rfl, ho0, hb⟩; have n0_ := Aside0.mk (Kd.R_below (by (with_reducible repeat (first | apply Kd.R_alloc | apply Kd.R_drewN | apply Kd.R_drew)); exact HO_8.out) hb); have n1_ := Aside0.mk (Kd.R_below (by (with_reducible repeat (first | apply Kd.R_alloc | apply Kd.R_drewN | apply Kd.R_drew)); exact HO_9.out) hb); have n2_ := Aside0.mk (Kd.S_elder' (by (with_reducible repeat (first | apply Kd.S_alloc | apply Kd.S_drewN | apply Kd.S_drew)); exact HO_10.out) (Kd.R_base ho0) hb); have n3_ := Aside0.mk (Kd.Q_below (by (with_reducible repeat (first | apply Kd.Q_alloc | apply Kd.Q_drewN | apply Kd.Q_drew)); exact HO_11.out) hb); have n4_ := Aside0.mk (Kd.R_lower ho0 (below_size (by repeat (first | (with_reducible first | exact HB.out | apply below_alloc | apply pw_below_drewN | apply below_drew1) | exact HB.out)))); have n5_ := Aside0.mk (Kd.C_below (by repeat (first | (with_reducible exact HR283.out) | (with_reducible refine Kd.C_alloc ?_ _) | (with_reducible refine Kd.C_drewN ?_ _) | (with_reducible refine Kd.C_drew ?_) | exact HR283.out)) hb); have n6_ := Aside0.mk (below_step (by repeat (first | (with_reducible first | exact HB.out | apply below_alloc | apply pw_below_drewN | apply below_drew1) | exact HB.out)) hb); clear HO_8; clear HO_9; clear HO_10; clear HO_11; clear HR283; clear HB; have HO_8 := n0_; have HO_9 := n1_; have HO_10 := n2_; have HO_11 := n3_; have HO290 := n4_; have HR283 := n5_; have HB := n6_; clear n0_ n1_ n2_ n3_ n4_ n5_ n6_; (try clear hb); (try clear hb2); (try clear hk); (try clear hi); (try clear ho0); obtain ⟨Ao31, co31, eo31⟩ := Kd.R_slice HO290.out; subst eo31) | ((with_reducible refine gate_builtin (b := .append) (xs := #[.tmp 59, .tmp 67]) rfl ?_); at_builtin; refine Kd.S_append k26 (w0 := w) w.heap.size rfl (.tmp 59) (.tmp 67) 34 26 (.agg #[(.int .i64 0), (.int .i64 0), (.int .i64 0), (.int .i64 0), (.slice none 0 0)]) 56 rfl Tryd.underlying34 info26 rfl (by decide) (by omega) u10 x10_2 (⟨t284, t285, t286, t287, t288⟩ : S26) [.int .i64 t284, .int .i64 t285, .int .i64 t286, .int .i64 t287, .slice Ao31 t288.length co31] (fun _ => True) (fun k_ => some k_ = (.slice Ao31 t288.length co31 : Value).ownBlock) rfl rfl ?aP (fun k_ hk_ => ((Kd.R_mono (ok' := fun k_ => ((fun _ => True)) k_ ∧ some k_ ≠ (u10 : Value).ownBlock) (Kd.R_apart' (HO290.out) (Kd.S_typed HO_10.out) (by decide)) (fun k_ hk => ⟨trivial, hk.2⟩))).1 k_ hk_.symm) ?aF ?aO ?aB ?aS ?aL ?_; (case aP => exact k26_mkM _ _ _ (⟨t284, t285, t286, t287, t288⟩ : S26) (Kd.R_mono (Kd.R_tight rfl (Kd.R_mono (ok' := fun k_ => ((fun _ => True)) k_ ∧ some k_ ≠ (u10 : Value).ownBlock) (Kd.R_apart' (HO290.out) (Kd.S_typed HO_10.out) (by decide)) (fun k_ hk => ⟨trivial, hk.2⟩))) (fun _ h_ => h_))); (case aB => exact (by repeat (first | (with_reducible first | exact HB.out | apply below_alloc | apply pw_below_drewN | apply below_drew1) | exact HB.out))); (case aF => exact (fun _ _ => trivial)); (case aO => exact (by (with_reducible repeat (first | apply Kd.S_alloc | apply Kd.S_drewN | apply Kd.S_drew)); exact Kd.S_mono HO_10.out (fun k_ hk => ⟨trivial, fun e_ => hk.2 e_⟩))); (case aS => exact (below_size (by repeat (first | (with_reducible first | exact HB.out | apply below_alloc | apply pw_below_drewN | apply below_drew1) | exact HB.out)))); (case aL => have := LMc26.out; omega); intro v292 w30 ho hb hg hat; rw [← Ny291.out] at ho; have n0_ := Aside0.mk (Kd.R_over' (by (with_reducible repeat (first | apply Kd.R_alloc | apply Kd.R_drewN | apply Kd.R_drew)); exact HO_8.out) (Kd.S_typed (by (with_reducible repeat (first | apply Kd.S_alloc | apply Kd.S_drewN | apply Kd.S_drew)); exact HO_10.out)) (by decide) hg); have n1_ := Aside0.mk (Kd.R_over' (by (with_reducible repeat (first | apply Kd.R_alloc | apply Kd.R_drewN | apply Kd.R_drew)); exact HO_9.out) (Kd.S_typed (by (with_reducible repeat (first | apply Kd.S_alloc | apply Kd.S_drewN | apply Kd.S_drew)); exact HO_10.out)) (by decide) hg); have n2_ := Aside0.mk (Kd.Q_over' (by (with_reducible repeat (first | apply Kd.Q_alloc | apply Kd.Q_drewN | apply Kd.Q_drew)); exact HO_11.out) (Kd.S_typed (by (with_reducible repeat (first | apply Kd.S_alloc | apply Kd.S_drewN | apply Kd.S_drew)); exact HO_10.out)) (by decide) hg); have n3_ := Aside0.mk (hb); have n4_ := Aside0.mk ((show Kd.C k82 w30 (some ad277) y280.length y280 from by rw [Ny280.out]; exact Kd.C_take (m := (x12_3 : Int).toNat) ((Kd.Q_reads' (Kd.Q_over' (by (with_reducible repeat (first | apply Kd.Q_alloc | apply Kd.Q_drewN | apply Kd.Q_drew)); exact HO_11.out) (Kd.S_typed (by (with_reducible repeat (first | apply Kd.S_alloc | apply Kd.S_drewN | apply Kd.S_drew)); exact HO_10.out)) (by decide) hg)).2.2) KL28.out)); have n5_ := Aside0.mk (ho); clear HO_8; clear HO_9; clear HO_11; clear HB; clear HR283; clear HO_10; clear HO290; have HO_8 := n0_; have HO_9 := n1_; have HO_11 := n2_; have HB := n3_; have HR283 := n4_; have HO293 := n5_; clear n0_ n1_ n2_ n3_ n4_ n5_; clear ho hb hg hat; have q32 : (x12_3 : Int) ≤ ((x11_2.length : Int) : Int) := of_decide_eq_true (by first | (with_reducible assumption) | assumption); obtain ⟨i032, hi032, _, hsz32, _⟩ := info_parts info82; have hcut32 := cut_from (P := Tryd.prog) 79 82 .i64 Tryd.underlying79 hi032 4 hsz32 (some ad277) x11_2.length co16 x12_3 (of_decide_eq_true (by first | (with_reducible assumption) | assumption)) q32; have hr32 := Kd.Q_drop (k := (x12_3 : Int).toNat) HO_11.out (by omega); obtain ⟨A32, hA32⟩ : ∃ A1z_, A1z_ = (if co16 = (x12_3 : Int).toNat then (some ad277) else ((some ad277) : Option Addr).map (·.add ((x12_3 : Int).toNat * 4))) := ⟨_, rfl⟩; obtain ⟨c32, hc32⟩ : ∃ c1z_, c1z_ = co16 - (x12_3 : Int).toNat := ⟨_, rfl⟩; have hy32 : y294.length = x11_2.length - (x12_3 : Int).toNat := (by rw [Ny294.out, List.length_drop]); rw [← Ny294.out] at hr32; rw [← hy32, ← hA32, ← hc32] at hcut32; replace hr32 : Kd.Q k82 82 w30 w.heap.size (fun _ => True) (.slice A32 y294.length c32) y294 := (by rw [hA32, hc32, hy32]; exact hr32); have HE32 : Aside0 ((Value.slice A32 y294.length c32).ownBlock = (.slice (some ad277) x11_2.length co16 : Value).ownBlock) := ⟨by rw [hA32]; split <;> (cases ((some ad277) : Option Addr) <;> (first | rfl | (simp only [Option.map, Value.ownBlock, Addr.add]; split <;> rfl)))⟩; clear hy32 hi032 hsz32 HO_11 hA32 hc32; have HO296 := Aside0.mk hr32; clear hr32; replace q32 := eq_true q32)))
                go_roundg k3
                case measure => have := HJ3.out; have := HK2.out; have := HK3.out; omega
                case rel => exact ⟨(y291), (y294), H', ⟨by have := HJ3.out; have := HK2.out; have := HK3.out; omega⟩, ⟨by (with_reducible repeat (first | apply Kd.R_alloc | apply Kd.R_drewN | apply Kd.R_drew)); exact HO_8.out⟩, ⟨by (with_reducible repeat (first | apply Kd.R_alloc | apply Kd.R_drewN | apply Kd.R_drew)); exact HO_9.out⟩, ⟨by (with_reducible repeat (first | apply Kd.S_alloc | apply Kd.S_drewN | apply Kd.S_drew)); exact HO293.out⟩, ⟨by (with_reducible repeat (first | apply Kd.Q_alloc | apply Kd.Q_drewN | apply Kd.Q_drew)); exact HO296.out⟩, ⟨by repeat (first | (with_reducible first | exact HB.out | apply below_alloc | apply pw_below_drewN | apply below_drew1) | exact HB.out)⟩⟩
               ·rw [if_neg c26] at H
                exact absurd H (by simp)
              ·rw [if_neg c24] at H
               exact absurd H (by simp)
            ·rw [if_neg c21] at H
             exact absurd H (by simp)
           ·rw [if_neg c20] at H
            exact absurd H (by simp)
          ·rw [if_neg c18] at H
           exact absurd H (by simp)
         ·rw [if_neg c17] at H
          have c17b0 : decide (x12_3 < (x11_2.length : Int)) = false := decide_eq_false c17
          clear c17
          by_cases c33 : 0 ≤ x12_3
          ·rw [if_pos c33] at H
           have c33b0 := eq_true c33
           have c33b1 : decide (0 ≤ x12_3) = true := decide_eq_true c33
           clear c33
           by_cases c34 : x12_3 ≤ (x11_2.length : Int)
           ·rw [if_pos c34] at H
            have c34b0 := eq_true c34
            have c34b1 : decide (x12_3 ≤ (x11_2.length : Int)) = true := decide_eq_true c34
            clear c34
            obtain ⟨y297, hy297⟩ : ∃ y_ : List (S82), y_ = (x11_2.take (x12_3 : Int).toNat) := ⟨_, rfl⟩
            replace H : ((hunks_hunk.f k3 t268 t271 y297 a2).bind fun bt301 => (if x10_2.length < 2513169434916 then (hunks_Make.l0 k3 a2 t268 t271 (x10_2 ++ [(⟨bt301.1, bt301.2.1, bt301.2.2.1, bt301.2.2.2.1, bt301.2.2.2.2⟩ : S26)]) (x11_2.drop (x12_3 : Int).toNat)) else (none))) = some (r1, r2) := by first | (rw [hy297]; with_reducible exact H) | (have H2_ := (Option.bind_some _ _).symm.trans H; rw [hy297]; with_reducible exact H2_) | (have H2_ := (Option.bind_some _ _).symm.trans H; with_reducible exact H2_) | with_reducible exact H | (rw [hy297]; exact H) | exact H
            have Ny297 := Aside0.mk hy297
            clear hy297
            replace H := Option.bind_eq_some_iff.mp H
            obtain ⟨⟨t301, t302, t303, t304, t305⟩, A350, H⟩ := H
            replace H : (if x10_2.length < 2513169434916 then (hunks_Make.l0 k3 a2 t268 t271 (x10_2 ++ [(⟨t301, t302, t303, t304, t305⟩ : S26)]) (x11_2.drop (x12_3 : Int).toNat)) else (none)) = some (r1, r2) := H
            have A35 := Aside0.mk A350
            clear A350
            by_cases c36 : x10_2.length < 2513169434916
            ·rw [if_pos c36] at H
             have LMc36 := Aside0.mk c36
             clear c36
             obtain ⟨y308, hy308⟩ : ∃ y_ : List (S26), y_ = (x10_2 ++ [(⟨t301, t302, t303, t304, t305⟩ : S26)]) := ⟨_, rfl⟩
             replace H : (hunks_Make.l0 k3 a2 t268 t271 y308 (x11_2.drop (x12_3 : Int).toNat)) = some (r1, r2) := by first | (rw [hy308]; with_reducible exact H) | (have H2_ := (Option.bind_some _ _).symm.trans H; rw [hy308]; with_reducible exact H2_) | (have H2_ := (Option.bind_some _ _).symm.trans H; with_reducible exact H2_) | with_reducible exact H | (rw [hy308]; exact H) | exact H
             have Ny308 := Aside0.mk hy308
             clear hy308
             have c37b0 := eq_true (of_decide_eq_true (by first | (with_reducible assumption) | assumption) : x12_3 ≤ (x11_2.length : Int))
             obtain ⟨y311, hy311⟩ : ∃ y_ : List (S82), y_ = (x11_2.drop (x12_3 : Int).toNat) := ⟨_, rfl⟩
             replace H : (hunks_Make.l0 k3 a2 t268 t271 y308 y311) = some (r1, r2) := by first | (rw [hy311]; with_reducible exact H) | (have H2_ := (Option.bind_some _ _).symm.trans H; rw [hy311]; with_reducible exact H2_) | (have H2_ := (Option.bind_some _ _).symm.trans H; with_reducible exact H2_) | with_reducible exact H | (rw [hy311]; exact H) | exact H
             have Ny311 := Aside0.mk hy311
             clear hy311
             have H' := Aside0.mk H
             clear H
             have q38 : (x12_3 : Int) ≤ ((x11_2.length : Int) : Int) := of_decide_eq_true (by first | (with_reducible assumption) | assumption)
             obtain ⟨i038, hi038, _, hsz38, _⟩ := info_parts info82
             have hroom38 : x11_2.length ≤ co16 := (Kd.Q_reads' HO_11.out).2.1
             have hC38 : Kd.C k82 _ Ao16 x11_2.length x11_2 := (Kd.Q_reads' HO_11.out).2.2
             have hcut38 := cut_to (P := Tryd.prog) 79 82 .i64 Tryd.underlying79 hi038 Ao16 x11_2.length co16 x12_3 (of_decide_eq_true (by first | (with_reducible assumption) | assumption)) q38 hroom38
             have hr38 := Kd.C_take (m := (x12_3 : Int).toNat) hC38 (by omega)
             have hy38 : y297.length = (x12_3 : Int).toNat := (by rw [Ny297.out, List.length_take]; omega)
             rw [← Ny297.out] at hr38
             rw [← hy38] at hcut38
             have HR300 := Aside0.mk hr38
             have HC300 := Aside0.mk (show y297.length ≤ co16 from by omega)
             clear hr38 hC38 hroom38 hi038 hsz38
             have KY38 := Aside0.mk hy38
             clear hy38
             have KL38 := Aside0.mk (show (x12_3 : Int).toNat ≤ x11_2.length from by omega)
             replace q38 := eq_true q38
             go_wp2_with (fail)
             repeat (go_quiet (fail); try go_wp2_with (first | (go_at_call 38; (with_reducible refine (hunks_hunk.calls k3 _ _ t268 _ _ t271 _ _ y297 a2 t301 t302 t303 t304 t305 _ ?side1 ?side2 ?side3 ?side4 ?side5 ?side6 A35.out).mono ?_); (case side1 => repeat (first | exact (Kd.R_reads' HO_8.out).2.2 | (with_reducible refine Kd.C_alloc ?_ _) | (with_reducible refine Kd.C_drewN ?_ _) | (with_reducible refine Kd.C_drew ?_))); (case side2 => exact (Kd.R_reads' HO_8.out).2.1); (case side3 => repeat (first | exact (Kd.R_reads' HO_9.out).2.2 | (with_reducible refine Kd.C_alloc ?_ _) | (with_reducible refine Kd.C_drewN ?_ _) | (with_reducible refine Kd.C_drew ?_))); (case side4 => exact (Kd.R_reads' HO_9.out).2.1); (case side5 => repeat (first | exact (by repeat (first | (with_reducible exact HR300.out) | (with_reducible refine Kd.C_alloc ?_ _) | (with_reducible refine Kd.C_drewN ?_ _) | (with_reducible refine Kd.C_drew ?_) | exact HR300.out)) | (with_reducible refine Kd.C_alloc ?_ _) | (with_reducible refine Kd.C_drewN ?_ _) | (with_reducible refine Kd.C_drew ?_))); (case side6 => exact HC300.out); rintro e w39 ⟨v306, rfl, ho0, hb⟩; have n0_ := Aside0.mk (Kd.R_below (by (with_reducible repeat (first | apply Kd.R_alloc | apply Kd.R_drewN | apply Kd.R_drew)); exact HO_8.out) hb); have n1_ := Aside0.mk (Kd.R_below (by (with_reducible repeat (first | apply Kd.R_alloc | apply Kd.R_drewN | apply Kd.R_drew)); exact HO_9.out) hb); have n2_ := Aside0.mk (Kd.S_elder' (by (with_reducible repeat (first | apply Kd.S_alloc | apply Kd.S_drewN | apply Kd.S_drew)); exact HO_10.out) (Kd.R_base ho0) hb); have n3_ := Aside0.mk (Kd.Q_below (by (with_reducible repeat (first | apply Kd.Q_alloc | apply Kd.Q_drewN | apply Kd.Q_drew)); exact HO_11.out) hb); have n4_ := Aside0.mk (Kd.R_lower ho0 (below_size (by repeat (first | (with_reducible first | exact HB.out | apply below_alloc | apply pw_below_drewN | apply below_drew1) | exact HB.out)))); have n5_ := Aside0.mk (Kd.C_below (by repeat (first | (with_reducible exact HR300.out) | (with_reducible refine Kd.C_alloc ?_ _) | (with_reducible refine Kd.C_drewN ?_ _) | (with_reducible refine Kd.C_drew ?_) | exact HR300.out)) hb); have n6_ := Aside0.mk (below_step (by repeat (first | (with_reducible first | exact HB.out | apply below_alloc | apply pw_below_drewN | apply below_drew1) | exact HB.out)) hb); clear HO_8; clear HO_9; clear HO_10; clear HO_11; clear HR300; clear HB; have HO_8 := n0_; have HO_9 := n1_; have HO_10 := n2_; have HO_11 := n3_; have HO307 := n4_; have HR300 := n5_; have HB := n6_; clear n0_ n1_ n2_ n3_ n4_ n5_ n6_; (try clear hb); (try clear hb2); (try clear hk); (try clear hi); (try clear ho0); obtain ⟨Ao41, co41, eo41⟩ := Kd.R_slice HO307.out; subst eo41) | ((with_reducible refine gate_builtin (b := .append) (xs := #[.tmp 59, .tmp 67]) rfl ?_); at_builtin; refine Kd.S_append k26 (w0 := w) w.heap.size rfl (.tmp 59) (.tmp 67) 34 26 (.agg #[(.int .i64 0), (.int .i64 0), (.int .i64 0), (.int .i64 0), (.slice none 0 0)]) 56 rfl Tryd.underlying34 info26 rfl (by decide) (by omega) u10 x10_2 (⟨t301, t302, t303, t304, t305⟩ : S26) [.int .i64 t301, .int .i64 t302, .int .i64 t303, .int .i64 t304, .slice Ao41 t305.length co41] (fun _ => True) (fun k_ => some k_ = (.slice Ao41 t305.length co41 : Value).ownBlock) rfl rfl ?aP (fun k_ hk_ => ((Kd.R_mono (ok' := fun k_ => ((fun _ => True)) k_ ∧ some k_ ≠ (u10 : Value).ownBlock) (Kd.R_apart' (HO307.out) (Kd.S_typed HO_10.out) (by decide)) (fun k_ hk => ⟨trivial, hk.2⟩))).1 k_ hk_.symm) ?aF ?aO ?aB ?aS ?aL ?_; (case aP => exact k26_mkM _ _ _ (⟨t301, t302, t303, t304, t305⟩ : S26) (Kd.R_mono (Kd.R_tight rfl (Kd.R_mono (ok' := fun k_ => ((fun _ => True)) k_ ∧ some k_ ≠ (u10 : Value).ownBlock) (Kd.R_apart' (HO307.out) (Kd.S_typed HO_10.out) (by decide)) (fun k_ hk => ⟨trivial, hk.2⟩))) (fun _ h_ => h_))); (case aB => exact (by repeat (first | (with_reducible first | exact HB.out | apply below_alloc | apply pw_below_drewN | apply below_drew1) | exact HB.out))); (case aF => exact (fun _ _ => trivial)); (case aO => exact (by (with_reducible repeat (first | apply Kd.S_alloc | apply Kd.S_drewN | apply Kd.S_drew)); exact Kd.S_mono HO_10.out (fun k_ hk => ⟨trivial, fun e_ => hk.2 e_⟩))); (case aS => exact (below_size (by repeat (first | (with_reducible first | exact HB.out | apply below_alloc | apply pw_below_drewN | apply below_drew1) | exact HB.out)))); (case aL => have := LMc36.out; omega); intro v309 w40 ho hb hg hat; rw [← Ny308.out] at ho; have n0_ := Aside0.mk (Kd.R_over' (by (with_reducible repeat (first | apply Kd.R_alloc | apply Kd.R_drewN | apply Kd.R_drew)); exact HO_8.out) (Kd.S_typed (by (with_reducible repeat (first | apply Kd.S_alloc | apply Kd.S_drewN | apply Kd.S_drew)); exact HO_10.out)) (by decide) hg); have n1_ := Aside0.mk (Kd.R_over' (by (with_reducible repeat (first | apply Kd.R_alloc | apply Kd.R_drewN | apply Kd.R_drew)); exact HO_9.out) (Kd.S_typed (by (with_reducible repeat (first | apply Kd.S_alloc | apply Kd.S_drewN | apply Kd.S_drew)); exact HO_10.out)) (by decide) hg); have n2_ := Aside0.mk (Kd.Q_over' (by (with_reducible repeat (first | apply Kd.Q_alloc | apply Kd.Q_drewN | apply Kd.Q_drew)); exact HO_11.out) (Kd.S_typed (by (with_reducible repeat (first | apply Kd.S_alloc | apply Kd.S_drewN | apply Kd.S_drew)); exact HO_10.out)) (by decide) hg); have n3_ := Aside0.mk (hb); have n4_ := Aside0.mk ((show Kd.C k82 w40 Ao16 y297.length y297 from by rw [Ny297.out]; exact Kd.C_take (m := (x12_3 : Int).toNat) ((Kd.Q_reads' (Kd.Q_over' (by (with_reducible repeat (first | apply Kd.Q_alloc | apply Kd.Q_drewN | apply Kd.Q_drew)); exact HO_11.out) (Kd.S_typed (by (with_reducible repeat (first | apply Kd.S_alloc | apply Kd.S_drewN | apply Kd.S_drew)); exact HO_10.out)) (by decide) hg)).2.2) KL38.out)); have n5_ := Aside0.mk (ho); clear HO_8; clear HO_9; clear HO_11; clear HB; clear HR300; clear HO_10; clear HO307; have HO_8 := n0_; have HO_9 := n1_; have HO_11 := n2_; have HB := n3_; have HR300 := n4_; have HO310 := n5_; clear n0_ n1_ n2_ n3_ n4_ n5_; clear ho hb hg hat; have q42 : (x12_3 : Int) ≤ ((x11_2.length : Int) : Int) := of_decide_eq_true (by first | (with_reducible assumption) | assumption); obtain ⟨i042, hi042, _, hsz42, _⟩ := info_parts info82; have hcut42 := cut_from (P := Tryd.prog) 79 82 .i64 Tryd.underlying79 hi042 4 hsz42 Ao16 x11_2.length co16 x12_3 (of_decide_eq_true (by first | (with_reducible assumption) | assumption)) q42; have hr42 := Kd.Q_drop (k := (x12_3 : Int).toNat) HO_11.out (by omega); obtain ⟨A42, hA42⟩ : ∃ A1z_, A1z_ = (if co16 = (x12_3 : Int).toNat then Ao16 else (Ao16 : Option Addr).map (·.add ((x12_3 : Int).toNat * 4))) := ⟨_, rfl⟩; obtain ⟨c42, hc42⟩ : ∃ c1z_, c1z_ = co16 - (x12_3 : Int).toNat := ⟨_, rfl⟩; have hy42 : y311.length = x11_2.length - (x12_3 : Int).toNat := (by rw [Ny311.out, List.length_drop]); rw [← Ny311.out] at hr42; rw [← hy42, ← hA42, ← hc42] at hcut42; replace hr42 : Kd.Q k82 82 w40 w.heap.size (fun _ => True) (.slice A42 y311.length c42) y311 := (by rw [hA42, hc42, hy42]; exact hr42); have HE42 : Aside0 ((Value.slice A42 y311.length c42).ownBlock = (.slice Ao16 x11_2.length co16 : Value).ownBlock) := ⟨by rw [hA42]; split <;> (cases (Ao16 : Option Addr) <;> (first | rfl | (simp only [Option.map, Value.ownBlock, Addr.add]; split <;> rfl)))⟩; clear hy42 hi042 hsz42 HO_11 hA42 hc42; have HO313 := Aside0.mk hr42; clear hr42; replace q42 := eq_true q42)))
             go_roundg k3
             case measure => have := HJ3.out; have := HK2.out; have := HK3.out; omega
             case rel => exact ⟨(y308), (y311), H', ⟨by have := HJ3.out; have := HK2.out; have := HK3.out; omega⟩, ⟨by (with_reducible repeat (first | apply Kd.R_alloc | apply Kd.R_drewN | apply Kd.R_drew)); exact HO_8.out⟩, ⟨by (with_reducible repeat (first | apply Kd.R_alloc | apply Kd.R_drewN | apply Kd.R_drew)); exact HO_9.out⟩, ⟨by (with_reducible repeat (first | apply Kd.S_alloc | apply Kd.S_drewN | apply Kd.S_drew)); exact HO310.out⟩, ⟨by (with_reducible repeat (first | apply Kd.Q_alloc | apply Kd.Q_drewN | apply Kd.Q_drew)); exact HO313.out⟩, ⟨by repeat (first | (with_reducible first | exact HB.out | apply below_alloc | apply pw_below_drewN | apply below_drew1) | exact HB.out)⟩⟩
            ·rw [if_neg c36] at H
             exact absurd H (by simp)
           ·rw [if_neg c34] at H
            exact absurd H (by simp)
          ·rw [if_neg c33] at H
           exact absurd H (by simp)
      ·rw [if_neg c15] at H
       have c15b0 : decide (0 < (x11_2.length : Int)) = false := decide_eq_false c15
       have c15b1 : decide (0 < x11_2.length) = false := decide_eq_false (by omega)
       clear c15
       simp only [Option.some.injEq, Prod.mk.injEq] at H
       obtain ⟨rfl, rfl⟩ := H
       obtain ⟨Ao43, co43, eo43, _⟩ := Kd.Q_slice HO_11.out
       subst eo43
       go_wp2
       repeat (go_quiet (fail); try go_wp2)
       go_ret2
       exact ⟨_, by first | rfl | (simp [errW_none, errW_some] <;> rfl) | (simp [*, errW_none, errW_some] <;> rfl), by (with_reducible repeat (first | apply Kd.S_alloc | apply Kd.S_drewN | apply Kd.S_drew)); exact HO_10.out, by repeat (first | (with_reducible first | exact HB.out | apply below_alloc | apply pw_below_drewN | apply below_drew1) | exact HB.out)⟩

/-! ### redpenlaw19_Text: function 21 -/
def redpenlaw19_Text.l0 : Nat → Bool → List Int → List Int → Int → Int → Option (List Int)
 | 0, _, _, _, _, _ => none
 | k + 1, x1, x5, x8, x9, x10 => if x10 < x9 then (if 0 ≤ x10 then (if x10 < (x8.length : Int) then (if x10 ≥ 40 then (if x1 = true then (if (x5.length : Int) > 0 then (if 0 ≤ (wrap64 ((x5.length : Int) - 1)) then (if (wrap64 ((x5.length : Int) - 1)) ≤ (x5.length : Int) then (some (x5.take ((wrap64 ((x5.length : Int) - 1)) : Int).toNat)) else (none)) else (none)) else (some x5)) else (some x5)) else ((some (([(⟨#[97]⟩ : ByteArray), (⟨#[98]⟩ : ByteArray), (⟨#[99]⟩ : ByteArray), (⟨#[]⟩ : ByteArray), (⟨#[97, 13]⟩ : ByteArray), (⟨#[119, 111, 114, 100]⟩ : ByteArray)] : List ByteArray) : List ByteArray)).bind fun y318 => (if 0 ≤ (Int.tmod (rd x8 x10) 6) then (if (Int.tmod (rd x8 x10) 6) < (y318.length : Int) then (if x5.length + (rdOf ByteArray.empty y318 (Int.tmod (rd x8 x10) 6)).size < 140737488355328 then ((some (x5 ++ bytesOf (rdOf ByteArray.empty y318 (Int.tmod (rd x8 x10) 6)) : List Int)).bind fun y322 => (if y322.length < 140737488355328 then (redpenlaw19_Text.l0 k x1 (y322 ++ [10]) x8 x9 (wrap64 (x10 + 1))) else (none))) else (none)) else (none)) else (none)))) else (none)) else (none)) else (if x1 = true then (if (x5.length : Int) > 0 then (if 0 ≤ (wrap64 ((x5.length : Int) - 1)) then (if (wrap64 ((x5.length : Int) - 1)) ≤ (x5.length : Int) then (some (x5.take ((wrap64 ((x5.length : Int) - 1)) : Int).toNat)) else (none)) else (none)) else (some x5)) else (some x5))
def redpenlaw19_Text.f (k : Nat) (l0 : List Int) (a1 : Bool) : Option (List Int) := redpenlaw19_Text.l0 k a1 ([] : List Int) l0 (l0.length : Int) 0
theorem redpenlaw19_Text.mono_l : ∀ k, (∀ y0 y1 y2 y3 y4, LeO (redpenlaw19_Text.l0 k y0 y1 y2 y3 y4) (redpenlaw19_Text.l0 (k + 1) y0 y1 y2 y3 y4))
 | 0 => fun _ _ _ _ _ r h => by simp [redpenlaw19_Text.l0] at h
 | k + 1 => by
  have ih0 := redpenlaw19_Text.mono_l k
  ·intro y0 y1 y2 y3 y4
   unfold redpenlaw19_Text.l0
   repeat' first
   | (with_reducible exact ih0 _ _ _ _ _)
   | (with_reducible exact LeO.refl _)
   | (with_reducible exact LeO.none _)
   | (with_reducible refine LeO.ite ?_ ?_)
   | (with_reducible refine LeO.bind ?_ (fun _ => ?_))
theorem redpenlaw19_Text.mono : ∀ a0 a1 k, LeO (redpenlaw19_Text.f k a0 a1) (redpenlaw19_Text.f (k + 1) a0 a1) := by
 intro a0 a1 k
 have ih0 := redpenlaw19_Text.mono_l k
 unfold redpenlaw19_Text.f
 repeat' first
   | (with_reducible exact ih0 _ _ _ _ _)
   | (with_reducible exact LeO.refl _)
   | (with_reducible exact LeO.none _)
   | (with_reducible refine LeO.ite ?_ ?_)
   | (with_reducible refine LeO.bind ?_ (fun _ => ?_))
set_option maxHeartbeats 8000000 in
set_option maxRecDepth 100000 in
theorem redpenlaw19_Text.calls (k : Nat) (A0 : Option Addr) (c0 : Nat) (l0 : List Int) (a1 : Bool) (r : List Int) (w : World) (hr0 : Kd.C (Kd.int .u8) w A0 l0.length l0) (hc0 : l0.length ≤ c0) (h : redpenlaw19_Text.f k l0 a1 = some r) :
  Calls Tryd.prog 21 #[.slice A0 l0.length c0, .bool a1] w fun e w' => ∃ v0_ : Value, e = .returned (v0_) ∧ Kd.R (Kd.int .u8) 5 w' w.heap.size (fun _ => True) v0_ r ∧ Below w.heap.size w w' := by
 have HR0 := Aside0.mk hr0
 have HC0 := Aside0.mk hc0
 clear hr0 hc0
 have HB := Aside0.mk (Below.refl w.heap.size w)
 have H : (redpenlaw19_Text.l0 k a1 ([] : List Int) l0 (l0.length : Int) 0) = some r := h
 clear h
 have H' := Aside0.mk H
 clear H
 go_enter Tryd.func21, Tryd.ntmps21
 go_wp2
 go_loopg [5, 10] k (fun kq v5 v10 w' => ∃ (x5_1 : List Int) (x10_1 : Int), v10 = .int .i64 x10_1 ∧ Aside0 (redpenlaw19_Text.l0 kq a1 x5_1 l0 (l0.length : Int) x10_1 = some r) ∧ Aside0 (kq ≤ k) ∧ Aside0 (Kd.R (Kd.int .u8) 5 w' w.heap.size (fun _ => True) v5 x5_1) ∧ Aside0 (Below w.heap.size w w'))
 case atStart => exact ⟨(([] : List Int)), (0), (by first | rfl | (simp; done) | (simp [*]; done) | (simp [wrap64, wrap32]; done)), H', ⟨Nat.le_refl _⟩, ⟨by first | exact Kd.R_nil _ _ _ _ _ | exact Kd.N_nil _ _ _ _ _ | exact Kd.V_nil _ _ _ _ _ | exact Kd.Q_nil _ _ _ _ _ | exact Kd.S_nil _ _ _ _ _⟩, ⟨by repeat (first | (with_reducible first | exact HB.out | apply below_alloc | apply pw_below_drewN | apply below_drew1) | exact HB.out)⟩⟩
 case round =>
  clear H'
  (try clear c2); (try clear p2)
  obtain ⟨x5_1, x10_1, rfl, HA, HK1, HO_5, HB⟩ := hrel
  cases gk with
  | zero => exact absurd HA.out (by simp [redpenlaw19_Text.l0])
  | succ k1 =>
   have H := HA.out
   clear HA
   simp only [redpenlaw19_Text.l0] at H
   by_cases c3 : x10_1 < (l0.length : Int)
   ·rw [if_pos c3] at H
    have c3b0 : decide (x10_1 < (l0.length : Int)) = true := decide_eq_true c3
    clear c3
    by_cases c4 : 0 ≤ x10_1
    ·rw [if_pos c4] at H
     have c4b0 : decide (0 ≤ x10_1) = true := decide_eq_true c4
     clear c4
     by_cases c5 : x10_1 < (l0.length : Int)
     ·rw [if_pos c5] at H
      have c5b0 : decide (x10_1 < (l0.length : Int)) = true := decide_eq_true c5
      clear c5
      by_cases c6 : x10_1 ≥ 40
      ·rw [if_pos c6] at H
       have c6b0 : decide (40 ≤ x10_1) = true := decide_eq_true c6
       clear c6
       by_cases c7 : a1 = true
       ·subst c7
        have H1 : (if (x5_1.length : Int) > 0 then (if 0 ≤ (wrap64 ((x5_1.length : Int) - 1)) then (if (wrap64 ((x5_1.length : Int) - 1)) ≤ (x5_1.length : Int) then (some (x5_1.take ((wrap64 ((x5_1.length : Int) - 1)) : Int).toNat)) else (none)) else (none)) else (some x5_1)) = some r := by rw [if_pos rfl] at H; exact H
        clear H
        have H := H1
        clear H1
        by_cases c8 : (x5_1.length : Int) > 0
        ·rw [if_pos c8] at H
         have c8b0 : decide (0 < (x5_1.length : Int)) = true := decide_eq_true c8
         have c8b1 : decide (0 < x5_1.length) = true := decide_eq_true (by omega)
         clear c8
         obtain ⟨ji9, hji9⟩ : ∃ j_ : Int, (wrap64 ((x5_1.length : Int) - 1)) = j_ := ⟨_, rfl⟩
         replace H : (if 0 ≤ (ji9) then (if (ji9) ≤ (x5_1.length : Int) then (some (x5_1.take ((ji9) : Int).toNat)) else (none)) else (none)) = some r := by first | (rw [hji9] at H; exact H) | (simp only [hji9] at H ⊢; exact H)
         have hji9w : (IntKind.i64.wrap ((x5_1.length : Int) - 1)) = ji9 := (i64_w _).trans hji9
         by_cases c10 : 0 ≤ (ji9)
         ·rw [if_pos c10] at H
          have c10b0 := eq_true c10
          have c10b1 : decide (0 ≤ (ji9)) = true := decide_eq_true c10
          clear c10
          by_cases c11 : (ji9) ≤ (x5_1.length : Int)
          ·rw [if_pos c11] at H
           have c11b0 := eq_true c11
           have c11b1 : decide ((ji9) ≤ (x5_1.length : Int)) = true := decide_eq_true c11
           clear c11
           obtain ⟨y315, hy315⟩ : ∃ y_ : List Int, y_ = (x5_1.take ((ji9) : Int).toNat) := ⟨_, rfl⟩
           replace H : (some y315) = some r := by first | (rw [hy315]; with_reducible exact H) | (have H2_ := (Option.bind_some _ _).symm.trans H; rw [hy315]; with_reducible exact H2_) | (have H2_ := (Option.bind_some _ _).symm.trans H; with_reducible exact H2_) | with_reducible exact H | (rw [hy315]; exact H) | exact H
           have Ny315 := Aside0.mk hy315
           clear hy315
           obtain rfl := Option.some.inj H
           have p314 : 0 ≤ (x10_1 : Int) := of_decide_eq_true (by first | (with_reducible assumption) | assumption)
           have q314 : x10_1 < (l0.length : Int) := of_decide_eq_true (by first | (with_reducible assumption) | assumption)
           obtain ⟨ad314, e314, hx314_0⟩ := Kd.at_int HR0.out x10_1 p314 q314
           cases e314
           replace hx314_0 := (HB.out.cell (World.block_lt_of_cell? w _ hx314_0)).trans hx314_0
           replace p314 := eq_true p314
           replace q314 := eq_true q314
           obtain ⟨Ao12, co12, eo12⟩ := Kd.R_slice HO_5.out
           subst eo12
           have q13 : ((ji9) : Int) ≤ ((x5_1.length : Int) : Int) := of_decide_eq_true (by first | (with_reducible assumption) | assumption)
           obtain ⟨i013, hi013, _, hsz13, _⟩ := info_parts info5
           have hcut13 := cut_to (P := Tryd.prog) 40 5 .i64 Tryd.underlying40 hi013 Ao12 x5_1.length co12 (ji9) (of_decide_eq_true (by first | (with_reducible assumption) | assumption)) q13 (Kd.R_reads' HO_5.out).2.1
           have hr13 := Kd.R_take (m := ((ji9) : Int).toNat) HO_5.out (by omega)
           have hy13 : y315.length = ((ji9) : Int).toNat := (by rw [Ny315.out, List.length_take]; omega)
           rw [← Ny315.out] at hr13
           rw [← hy13] at hr13 hcut13
           clear hy13 hi013 hsz13 HO_5
           have HO317 := Aside0.mk hr13
           clear hr13
           replace q13 := eq_true q13
           go_wp2
           go_ret
           exact ⟨_, by first | rfl | (simp [errW_none, errW_some] <;> rfl) | (simp only [← hji9]; first | rfl | (simp [errW_none, errW_some] <;> rfl)) | (simp [*, errW_none, errW_some] <;> rfl), by (with_reducible repeat (first | apply Kd.R_alloc | apply Kd.R_drewN | apply Kd.R_drew)); exact HO317.out, by repeat (first | (with_reducible first | exact HB.out | apply below_alloc | apply pw_below_drewN | apply below_drew1) | exact HB.out)⟩
          ·rw [if_neg c11] at H
           exact absurd H (by simp)
         ·rw [if_neg c10] at H
          exact absurd H (by simp)
        ·rw [if_neg c8] at H
         have c8b0 : decide (0 < (x5_1.length : Int)) = false := decide_eq_false c8
         have c8b1 : decide (0 < x5_1.length) = false := decide_eq_false (by omega)
         clear c8
         obtain rfl := Option.some.inj H
         have p314 : 0 ≤ (x10_1 : Int) := of_decide_eq_true (by first | (with_reducible assumption) | assumption)
         have q314 : x10_1 < (l0.length : Int) := of_decide_eq_true (by first | (with_reducible assumption) | assumption)
         obtain ⟨ad314, e314, hx314_0⟩ := Kd.at_int HR0.out x10_1 p314 q314
         cases e314
         replace hx314_0 := (HB.out.cell (World.block_lt_of_cell? w _ hx314_0)).trans hx314_0
         replace p314 := eq_true p314
         replace q314 := eq_true q314
         obtain ⟨Ao14, co14, eo14⟩ := Kd.R_slice HO_5.out
         subst eo14
         go_wp2
         go_ret
         exact ⟨_, by first | rfl | (simp [errW_none, errW_some] <;> rfl) | (simp [*, errW_none, errW_some] <;> rfl), by (with_reducible repeat (first | apply Kd.R_alloc | apply Kd.R_drewN | apply Kd.R_drew)); exact HO_5.out, by repeat (first | (with_reducible first | exact HB.out | apply below_alloc | apply pw_below_drewN | apply below_drew1) | exact HB.out)⟩
       ·replace c7 := Bool.eq_false_iff.mpr c7
        subst c7
        have H1 : (some x5_1) = some r := by rw [if_neg (show ¬ (false = true) by decide)] at H; exact H
        clear H
        have H := H1
        clear H1
        obtain rfl := Option.some.inj H
        have p314 : 0 ≤ (x10_1 : Int) := of_decide_eq_true (by first | (with_reducible assumption) | assumption)
        have q314 : x10_1 < (l0.length : Int) := of_decide_eq_true (by first | (with_reducible assumption) | assumption)
        obtain ⟨ad314, e314, hx314_0⟩ := Kd.at_int HR0.out x10_1 p314 q314
        cases e314
        replace hx314_0 := (HB.out.cell (World.block_lt_of_cell? w _ hx314_0)).trans hx314_0
        replace p314 := eq_true p314
        replace q314 := eq_true q314
        go_wp2
        go_ret
        exact ⟨_, by first | rfl | (simp [errW_none, errW_some] <;> rfl) | (simp [*, errW_none, errW_some] <;> rfl), by (with_reducible repeat (first | apply Kd.R_alloc | apply Kd.R_drewN | apply Kd.R_drew)); exact HO_5.out, by repeat (first | (with_reducible first | exact HB.out | apply below_alloc | apply pw_below_drewN | apply below_drew1) | exact HB.out)⟩
      ·rw [if_neg c6] at H
       have c6b0 : decide (40 ≤ x10_1) = false := decide_eq_false c6
       clear c6
       obtain ⟨y318, hy318⟩ : ∃ y_ : List ByteArray, y_ = (([(⟨#[97]⟩ : ByteArray), (⟨#[98]⟩ : ByteArray), (⟨#[99]⟩ : ByteArray), (⟨#[]⟩ : ByteArray), (⟨#[97, 13]⟩ : ByteArray), (⟨#[119, 111, 114, 100]⟩ : ByteArray)] : List ByteArray)) := ⟨_, rfl⟩
       replace H : (if 0 ≤ (Int.tmod (rd l0 x10_1) 6) then (if (Int.tmod (rd l0 x10_1) 6) < (y318.length : Int) then (if x5_1.length + (rdOf ByteArray.empty y318 (Int.tmod (rd l0 x10_1) 6)).size < 140737488355328 then ((some (x5_1 ++ bytesOf (rdOf ByteArray.empty y318 (Int.tmod (rd l0 x10_1) 6)) : List Int)).bind fun y322 => (if y322.length < 140737488355328 then (redpenlaw19_Text.l0 k1 a1 (y322 ++ [10]) l0 (l0.length : Int) (wrap64 (x10_1 + 1))) else (none))) else (none)) else (none)) else (none)) = some r := by first | (rw [hy318]; with_reducible exact H) | (have H2_ := (Option.bind_some _ _).symm.trans H; rw [hy318]; with_reducible exact H2_) | (have H2_ := (Option.bind_some _ _).symm.trans H; with_reducible exact H2_) | with_reducible exact H | (rw [hy318]; exact H) | exact H
       have Ny318 := Aside0.mk hy318
       clear hy318
       obtain ⟨ji15, hji15⟩ : ∃ j_ : Int, (Int.tmod (rd l0 x10_1) 6) = j_ := ⟨_, rfl⟩
       replace H : (if 0 ≤ (ji15) then (if (ji15) < (y318.length : Int) then (if x5_1.length + (rdOf ByteArray.empty y318 (ji15)).size < 140737488355328 then ((some (x5_1 ++ bytesOf (rdOf ByteArray.empty y318 (ji15)) : List Int)).bind fun y322 => (if y322.length < 140737488355328 then (redpenlaw19_Text.l0 k1 a1 (y322 ++ [10]) l0 (l0.length : Int) (wrap64 (x10_1 + 1))) else (none))) else (none)) else (none)) else (none)) = some r := by first | (rw [hji15] at H; exact H) | (simp only [hji15] at H ⊢; exact H)
       by_cases c16 : 0 ≤ (ji15)
       ·rw [if_pos c16] at H
        have c16b0 : decide (0 ≤ (ji15)) = true := decide_eq_true c16
        clear c16
        by_cases c17 : (ji15) < (y318.length : Int)
        ·rw [if_pos c17] at H
         have c17b0 : decide ((ji15) < (y318.length : Int)) = true := decide_eq_true c17
         clear c17
         by_cases c18 : x5_1.length + (rdOf ByteArray.empty y318 (ji15)).size < 140737488355328
         ·rw [if_pos c18] at H
          have LMc18 := Aside0.mk c18
          clear c18
          obtain ⟨y322, hy322⟩ : ∃ y_ : List Int, y_ = (x5_1 ++ bytesOf (rdOf ByteArray.empty y318 (ji15))) := ⟨_, rfl⟩
          replace H : (if y322.length < 140737488355328 then (redpenlaw19_Text.l0 k1 a1 (y322 ++ [10]) l0 (l0.length : Int) (wrap64 (x10_1 + 1))) else (none)) = some r := by first | (rw [hy322]; with_reducible exact H) | (have H2_ := (Option.bind_some _ _).symm.trans H; rw [hy322]; with_reducible exact H2_) | (have H2_ := (Option.bind_some _ _).symm.trans H; with_reducible exact H2_) | with_reducible exact H | (rw [hy322]; exact H) | exact H
          have Ny322 := Aside0.mk hy322
          clear hy322
          by_cases c19 : y322.length < 140737488355328
          ·rw [if_pos c19] at H
           have LMc19 := Aside0.mk c19
           clear c19
           obtain ⟨y325, hy325⟩ : ∃ y_ : List Int, y_ = (y322 ++ [10]) := ⟨_, rfl⟩
           replace H : (redpenlaw19_Text.l0 k1 a1 y325 l0 (l0.length : Int) (wrap64 (x10_1 + 1))) = some r := by first | (rw [hy325]; with_reducible exact H) | (have H2_ := (Option.bind_some _ _).symm.trans H; rw [hy325]; with_reducible exact H2_) | (have H2_ := (Option.bind_some _ _).symm.trans H; with_reducible exact H2_) | with_reducible exact H | (rw [hy325]; exact H) | exact H
           have Ny325 := Aside0.mk hy325
           clear hy325
           have H' := Aside0.mk H
           clear H
           have p314 : 0 ≤ (x10_1 : Int) := of_decide_eq_true (by first | (with_reducible assumption) | assumption)
           have q314 : x10_1 < (l0.length : Int) := of_decide_eq_true (by first | (with_reducible assumption) | assumption)
           obtain ⟨ad314, e314, hx314_0⟩ := Kd.at_int HR0.out x10_1 p314 q314
           cases e314
           replace hx314_0 := (HB.out.cell (World.block_lt_of_cell? w _ hx314_0)).trans hx314_0
           replace p314 := eq_true p314
           replace q314 := eq_true q314
           go_wp2_with (first | ((with_reducible refine gate_dst (N := 18) rfl ?_); (try (refine gate_guard (by rfl) ?_; dsimp only)); refine Kd.R_lit Kd.string _ 9 ?hg (N := 18) ?hd (xs := ([(⟨#[97]⟩ : ByteArray), (⟨#[98]⟩ : ByteArray), (⟨#[99]⟩ : ByteArray), (⟨#[]⟩ : ByteArray), (⟨#[97, 13]⟩ : ByteArray), (⟨#[119, 111, 114, 100]⟩ : ByteArray)] : List ByteArray)) (inner := [.string (⟨#[97]⟩ : ByteArray), .string (⟨#[98]⟩ : ByteArray), .string (⟨#[99]⟩ : ByteArray), .string (⟨#[]⟩ : ByteArray), .string (⟨#[97, 13]⟩ : ByteArray), .string (⟨#[119, 111, 114, 100]⟩ : ByteArray)]) (ok := fun _ => True) (okp := fun _ => True) ?hr ?hp (fun _ hk => hk) trivial (Below.refl _ _) (Nat.le_refl _) (by simp) ?_; (case hd => rfl); (case hg => rfl); (case hr => first | (go_simp; done) | (go_simp; rfl)); (case hp => exact (Reps.one (show Kd.M Kd.string _ _ _ (⟨#[97]⟩ : ByteArray) [.string (⟨#[97]⟩ : ByteArray)] from rfl) (Reps.one (show Kd.M Kd.string _ _ _ (⟨#[98]⟩ : ByteArray) [.string (⟨#[98]⟩ : ByteArray)] from rfl) (Reps.one (show Kd.M Kd.string _ _ _ (⟨#[99]⟩ : ByteArray) [.string (⟨#[99]⟩ : ByteArray)] from rfl) (Reps.one (show Kd.M Kd.string _ _ _ (⟨#[]⟩ : ByteArray) [.string (⟨#[]⟩ : ByteArray)] from rfl) (Reps.one (show Kd.M Kd.string _ _ _ (⟨#[97, 13]⟩ : ByteArray) [.string (⟨#[97, 13]⟩ : ByteArray)] from rfl) (Reps.one (show Kd.M Kd.string _ _ _ (⟨#[119, 111, 114, 100]⟩ : ByteArray) [.string (⟨#[119, 111, 114, 100]⟩ : ByteArray)] from rfl) (Reps.none _ _)))))))); intro v319 w20 ho21 hb hg_ hnew_; clear hg_ hnew_; (first | rw [← Ny318.out] at ho21 | (simp only [Int.reduceToNat] at ho21; rw [← Ny318.out] at ho21)); have n0_ := Aside0.mk (Kd.R_below (by (with_reducible repeat (first | apply Kd.R_alloc | apply Kd.R_drewN | apply Kd.R_drew)); exact HO_5.out) hb); have n1_ := Aside0.mk (Kd.R_lower ho21 (below_size (by repeat (first | (with_reducible first | exact HB.out | apply below_alloc | apply pw_below_drewN | apply below_drew1) | exact HB.out)))); have n2_ := Aside0.mk (below_step (by repeat (first | (with_reducible first | exact HB.out | apply below_alloc | apply pw_below_drewN | apply below_drew1) | exact HB.out)) hb); clear HO_5; clear HB; have HO_5 := n0_; have HO320 := n1_; have HB := n2_; clear n0_ n1_ n2_; clear hb ho21; obtain ⟨Ao22, co22, eo22⟩ := Kd.R_slice HO320.out; subst eo22; have p321 : 0 ≤ ((ji15) : Int) := of_decide_eq_true (by first | (with_reducible assumption) | assumption); have q321 : (ji15) < (y318.length : Int) := of_decide_eq_true (by first | (with_reducible assumption) | assumption); obtain ⟨ad321, e321, hx321_0⟩ := Kd.at_string (Kd.R_reads' HO320.out).2.2 (ji15) p321 q321; cases e321; replace p321 := eq_true p321; replace q321 := eq_true q321) | (at_builtin; refine print_append_str (w0 := w) w.heap.size rfl (.tmp 17) _ 40 9 5 rfl Tryd.underlying40 Tryd.underlying9 info5 u5 x5_1 (rdOf ByteArray.empty y318 (ji15)) rfl rfl ?aO ?aB ?aS ?aL ?_; (case aB => exact (by repeat (first | (with_reducible first | exact HB.out | apply below_alloc | apply pw_below_drewN | apply below_drew1) | exact HB.out))); (case aO => exact (Kd.own_of_R (by (with_reducible repeat (first | apply Kd.R_alloc | apply Kd.R_drewN | apply Kd.R_drew)); exact HO_5.out))); (case aS => exact (below_size (by repeat (first | (with_reducible first | exact HB.out | apply below_alloc | apply pw_below_drewN | apply below_drew1) | exact HB.out)))); (case aL => have := LMc18.out; omega); intro v323 w23 ho0 hb hg; have ho := Kd.R_of_own (h1 := fun _ => rfl) (ok := fun _ => True) ho0 (fun _ _ => trivial); clear ho0; have hat := True.intro; rw [← Ny322.out] at ho; change Kd.R (Kd.int .u8) 5 w23 w.heap.size (fun _ => True) v323 y322 at ho; have n0_ := Aside0.mk (Kd.R_over' (by (with_reducible repeat (first | apply Kd.R_alloc | apply Kd.R_drewN | apply Kd.R_drew)); exact HO320.out) (Kd.R_typed (by (with_reducible repeat (first | apply Kd.R_alloc | apply Kd.R_drewN | apply Kd.R_drew)); exact HO_5.out)) (by decide) hg); have n1_ := Aside0.mk (hb); have n2_ := Aside0.mk (ho); clear HO320; clear HB; clear HO_5; have HO320 := n0_; have HB := n1_; have HO324 := n2_; clear n0_ n1_ n2_; clear ho hb hg hat) | ((with_reducible refine gate_builtin (b := .append) (xs := #[.tmp 24, .tmp 25]) rfl ?_); (try (refine gate_guard (by rfl) ?_; dsimp only)); at_builtin; refine Kd.R_append (Kd.int .u8) (w0 := w) w.heap.size rfl (.tmp 24) (.tmp 25) 40 5 (.int .u8 0) 1 rfl Tryd.underlying40 info5 rfl (by decide) (by omega) v323 y322 10 [.int .u8 10] (fun _ => True) (fun _ => False) rfl rfl ?aP (fun _ hk => hk.elim) ?aF ?aO ?aB ?aS ?aL ?_; (case aP => exact rfl); (case aB => exact (by repeat (first | (with_reducible first | exact HB.out | apply below_alloc | apply pw_below_drewN | apply below_drew1) | exact HB.out))); (case aF => exact (fun _ _ => trivial)); (case aO => exact (by (with_reducible repeat (first | apply Kd.R_alloc | apply Kd.R_drewN | apply Kd.R_drew)); exact HO324.out)); (case aS => exact (below_size (by repeat (first | (with_reducible first | exact HB.out | apply below_alloc | apply pw_below_drewN | apply below_drew1) | exact HB.out)))); (case aL => have := LMc19.out; omega); intro v326 w24 ho hb hg hat; rw [← Ny325.out] at ho; have n0_ := Aside0.mk (Kd.R_over' (by (with_reducible repeat (first | apply Kd.R_alloc | apply Kd.R_drewN | apply Kd.R_drew)); exact HO320.out) (Kd.R_typed (by (with_reducible repeat (first | apply Kd.R_alloc | apply Kd.R_drewN | apply Kd.R_drew)); exact HO324.out)) (by decide) hg); have n1_ := Aside0.mk (hb); have n2_ := Aside0.mk (ho); clear HO320; clear HB; clear HO324; have HO320 := n0_; have HB := n1_; have HO327 := n2_; clear n0_ n1_ n2_; clear ho hb hg hat))
           go_roundg k1
           case measure => have := HK1.out; omega
           case rel => exact ⟨(y325), (wrap64 (x10_1 + 1)), (by first | rfl | (simp; done) | (simp [*]; done) | (simp [wrap64, wrap32]; done)), H', ⟨by have := HK1.out; omega⟩, ⟨by (with_reducible repeat (first | apply Kd.R_alloc | apply Kd.R_drewN | apply Kd.R_drew)); exact HO327.out⟩, ⟨by repeat (first | (with_reducible first | exact HB.out | apply below_alloc | apply pw_below_drewN | apply below_drew1) | exact HB.out)⟩⟩
          ·rw [if_neg c19] at H
           exact absurd H (by simp)
         ·rw [if_neg c18] at H
          exact absurd H (by simp)
        ·rw [if_neg c17] at H
         exact absurd H (by simp)
       ·rw [if_neg c16] at H
        exact absurd H (by simp)
     ·rw [if_neg c5] at H
      exact absurd H (by simp)
    ·rw [if_neg c4] at H
     exact absurd H (by simp)
   ·rw [if_neg c3] at H
    have c3b0 : decide (x10_1 < (l0.length : Int)) = false := decide_eq_false c3
    clear c3
    by_cases c25 : a1 = true
    ·subst c25
     have H1 : (if (x5_1.length : Int) > 0 then (if 0 ≤ (wrap64 ((x5_1.length : Int) - 1)) then (if (wrap64 ((x5_1.length : Int) - 1)) ≤ (x5_1.length : Int) then (some (x5_1.take ((wrap64 ((x5_1.length : Int) - 1)) : Int).toNat)) else (none)) else (none)) else (some x5_1)) = some r := by rw [if_pos rfl] at H; exact H
     clear H
     have H := H1
     clear H1
     by_cases c26 : (x5_1.length : Int) > 0
     ·rw [if_pos c26] at H
      have c26b0 : decide (0 < (x5_1.length : Int)) = true := decide_eq_true c26
      have c26b1 : decide (0 < x5_1.length) = true := decide_eq_true (by omega)
      clear c26
      obtain ⟨ji27, hji27⟩ : ∃ j_ : Int, (wrap64 ((x5_1.length : Int) - 1)) = j_ := ⟨_, rfl⟩
      replace H : (if 0 ≤ (ji27) then (if (ji27) ≤ (x5_1.length : Int) then (some (x5_1.take ((ji27) : Int).toNat)) else (none)) else (none)) = some r := by first | (rw [hji27] at H; exact H) | (simp only [hji27] at H ⊢; exact H)
      have hji27w : (IntKind.i64.wrap ((x5_1.length : Int) - 1)) = ji27 := (i64_w _).trans hji27
      by_cases c28 : 0 ≤ (ji27)
      ·rw [if_pos c28] at H
       have c28b0 := eq_true c28
       have c28b1 : decide (0 ≤ (ji27)) = true := decide_eq_true c28
       clear c28
       by_cases c29 : (ji27) ≤ (x5_1.length : Int)
       ·rw [if_pos c29] at H
        have c29b0 := eq_true c29
        have c29b1 : decide ((ji27) ≤ (x5_1.length : Int)) = true := decide_eq_true c29
        clear c29
        obtain ⟨y328, hy328⟩ : ∃ y_ : List Int, y_ = (x5_1.take ((ji27) : Int).toNat) := ⟨_, rfl⟩
        replace H : (some y328) = some r := by first | (rw [hy328]; with_reducible exact H) | (have H2_ := (Option.bind_some _ _).symm.trans H; rw [hy328]; with_reducible exact H2_) | (have H2_ := (Option.bind_some _ _).symm.trans H; with_reducible exact H2_) | with_reducible exact H | (rw [hy328]; exact H) | exact H
        have Ny328 := Aside0.mk hy328
        clear hy328
        obtain rfl := Option.some.inj H
        obtain ⟨Ao30, co30, eo30⟩ := Kd.R_slice HO_5.out
        subst eo30
        have q31 : ((ji27) : Int) ≤ ((x5_1.length : Int) : Int) := of_decide_eq_true (by first | (with_reducible assumption) | assumption)
        obtain ⟨i031, hi031, _, hsz31, _⟩ := info_parts info5
        have hcut31 := cut_to (P := Tryd.prog) 40 5 .i64 Tryd.underlying40 hi031 Ao30 x5_1.length co30 (ji27) (of_decide_eq_true (by first | (with_reducible assumption) | assumption)) q31 (Kd.R_reads' HO_5.out).2.1
        have hr31 := Kd.R_take (m := ((ji27) : Int).toNat) HO_5.out (by omega)
        have hy31 : y328.length = ((ji27) : Int).toNat := (by rw [Ny328.out, List.length_take]; omega)
        rw [← Ny328.out] at hr31
        rw [← hy31] at hr31 hcut31
        clear hy31 hi031 hsz31 HO_5
        have HO330 := Aside0.mk hr31
        clear hr31
        replace q31 := eq_true q31
        go_wp2
        go_ret
        exact ⟨_, by first | rfl | (simp [errW_none, errW_some] <;> rfl) | (simp only [← hji27]; first | rfl | (simp [errW_none, errW_some] <;> rfl)) | (simp [*, errW_none, errW_some] <;> rfl), by (with_reducible repeat (first | apply Kd.R_alloc | apply Kd.R_drewN | apply Kd.R_drew)); exact HO330.out, by repeat (first | (with_reducible first | exact HB.out | apply below_alloc | apply pw_below_drewN | apply below_drew1) | exact HB.out)⟩
       ·rw [if_neg c29] at H
        exact absurd H (by simp)
      ·rw [if_neg c28] at H
       exact absurd H (by simp)
     ·rw [if_neg c26] at H
      have c26b0 : decide (0 < (x5_1.length : Int)) = false := decide_eq_false c26
      have c26b1 : decide (0 < x5_1.length) = false := decide_eq_false (by omega)
      clear c26
      obtain rfl := Option.some.inj H
      obtain ⟨Ao32, co32, eo32⟩ := Kd.R_slice HO_5.out
      subst eo32
      go_wp2
      go_ret
      exact ⟨_, by first | rfl | (simp [errW_none, errW_some] <;> rfl) | (simp [*, errW_none, errW_some] <;> rfl), by (with_reducible repeat (first | apply Kd.R_alloc | apply Kd.R_drewN | apply Kd.R_drew)); exact HO_5.out, by repeat (first | (with_reducible first | exact HB.out | apply below_alloc | apply pw_below_drewN | apply below_drew1) | exact HB.out)⟩
    ·replace c25 := Bool.eq_false_iff.mpr c25
     subst c25
     have H1 : (some x5_1) = some r := by rw [if_neg (show ¬ (false = true) by decide)] at H; exact H
     clear H
     have H := H1
     clear H1
     obtain rfl := Option.some.inj H
     go_wp2
     go_ret
     exact ⟨_, by first | rfl | (simp [errW_none, errW_some] <;> rfl) | (simp [*, errW_none, errW_some] <;> rfl), by (with_reducible repeat (first | apply Kd.R_alloc | apply Kd.R_drewN | apply Kd.R_drew)); exact HO_5.out, by repeat (first | (with_reducible first | exact HB.out | apply below_alloc | apply pw_below_drewN | apply below_drew1) | exact HB.out)⟩

end Go.Proofs.YtjabpbnlpljlkaaDoor.PShowMade
