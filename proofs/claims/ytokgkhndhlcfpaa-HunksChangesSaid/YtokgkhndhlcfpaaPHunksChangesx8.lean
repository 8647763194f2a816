-- x
import Derived.Test.YtokgkhndhlcfpaaPHunksChangesx0
import Derived.Test.YtokgkhndhlcfpaaPHunksChangesx2
import Derived.Test.YtokgkhndhlcfpaaPHunksChangesx5
import Derived.Test.YtokgkhndhlcfpaaPHunksChangesx6
import Derived.Test.YtokgkhndhlcfpaaPHunksChangesx7
namespace Go.Proofs.Ytokgkhndhlcfpaa.PHunksChanges
open Go.RowKit Go.Proofs.Ytokgkhndhlcfpaa.X Go.Proofs.YtokgkhndhlcfpaaW.PrintWords Go.Proofs.YtokgkhndhlcfpaaW.PrintLast Go.Proofs.YtokgkhndhlcfpaaW.PrintMore
attribute [local go_sem] max2_int min2_int max_two min_two max_three min_three max_four min_four   -- for this text's walks alone
set_option linter.unusedVariables false
set_option linter.unusedSimpArgs false

attribute [local go_sem high] eqA55
/-! ### hunks_Make: function 22 -/
mutual
def hunks_Make.j0 : Nat → List Int → List Int → Int → Bool → Option ((List (S53)) × Int)
 | 0, _, _, _, _ => none
 | k + 1, x0, x1, x2, x18 => if x18 = true then (some (([] : List (S53)), 2)) else ((lines_Split.f k x0).bind fun t246 => ((lines_Split.f k x1).bind fun t249 => ((hunks_Changes.f k t246 t249).bind fun t252 => (hunks_Make.l0 k x2 t246 t249 ([] : List (S53)) t252))))
def hunks_Make.l0 : Nat → Int → List ByteArray → List ByteArray → List (S53) → List (S39) → Option ((List (S53)) × Int)
 | 0, _, _, _, _, _ => none
 | k + 1, x2, x8, x9, x10, x11 => if (x11.length : Int) > 0 then (hunks_Make.l1 k x2 x8 x9 x10 x11 1) else (some (x10, 0))
def hunks_Make.l1 : Nat → Int → List ByteArray → List ByteArray → List (S53) → List (S39) → Int → Option ((List (S53)) × Int)
 | 0, _, _, _, _, _, _ => none
 | k + 1, x2, x8, x9, x10, x11, x12 => if x12 < (x11.length : Int) then (if 0 ≤ x12 then (if 0 ≤ (wrap64 (x12 - 1)) then (if (wrap64 (x12 - 1)) < (x11.length : Int) then (if (wrap64 (((rd_T39 x11 x12).f0) - (wrap64 (((rd_T39 x11 (wrap64 (x12 - 1))).f0) + ((rd_T39 x11 (wrap64 (x12 - 1))).f1))))) ≤ (wrap64 (2 * x2)) then (hunks_Make.l1 k x2 x8 x9 x10 x11 (wrap64 (x12 + 1))) else (if x12 ≤ (x11.length : Int) then ((hunks_hunk.f k x8 x9 (x11.take (x12 : Int).toNat) x2).bind fun bt262 => (if x10.length < 2513169434916 then (hunks_Make.l0 k x2 x8 x9 (x10 ++ [(⟨bt262.1, bt262.2.1, bt262.2.2.1, bt262.2.2.2.1, bt262.2.2.2.2⟩ : S53)]) (x11.drop (x12 : Int).toNat)) else (none))) else (none))) else (none)) else (none)) else (none)) else (if 0 ≤ x12 then (if x12 ≤ (x11.length : Int) then ((hunks_hunk.f k x8 x9 (x11.take (x12 : Int).toNat) x2).bind fun bt279 => (if x10.length < 2513169434916 then (hunks_Make.l0 k x2 x8 x9 (x10 ++ [(⟨bt279.1, bt279.2.1, bt279.2.2.1, bt279.2.2.2.1, bt279.2.2.2.2⟩ : S53)]) (x11.drop (x12 : Int).toNat)) else (none))) else (none)) else (none))
end
def hunks_Make.f (k : Nat) (l0 : List Int) (l1 : List Int) (a2 : Int) : Option ((List (S53)) × Int) := if a2 < 0 then (hunks_Make.j0 k l0 l1 a2 true) else (hunks_Make.j0 k l0 l1 a2 (decide (a2 > 16)))
theorem hunks_Make.mono_l : ∀ k, (∀ y0 y1 y2 y3, LeO (hunks_Make.j0 k y0 y1 y2 y3) (hunks_Make.j0 (k + 1) y0 y1 y2 y3)) ∧ (∀ y0 y1 y2 y3 y4, LeO (hunks_Make.l0 k y0 y1 y2 y3 y4) (hunks_Make.l0 (k + 1) y0 y1 y2 y3 y4)) ∧ (∀ y0 y1 y2 y3 y4 y5, LeO (hunks_Make.l1 k y0 y1 y2 y3 y4 y5) (hunks_Make.l1 (k + 1) y0 y1 y2 y3 y4 y5))
 | 0 => ⟨fun _ _ _ _ r h => by simp [hunks_Make.j0] at h, fun _ _ _ _ _ r h => by simp [hunks_Make.l0] at h, fun _ _ _ _ _ _ r h => by simp [hunks_Make.l1] at h⟩
 | k + 1 => by
  obtain ⟨ih0, ih1, ih2⟩ := hunks_Make.mono_l k
  refine ⟨?_, ?_, ?_⟩
  ·intro y0 y1 y2 y3
   unfold hunks_Make.j0
   repeat' first
   | (with_reducible exact ih0 _ _ _ _)
   | (with_reducible exact ih1 _ _ _ _ _)
   | (with_reducible exact ih2 _ _ _ _ _ _)
   | (with_reducible exact hunks_Changes.mono _ _ _)
   | (with_reducible exact hunks_hunk.mono _ _ _ _ _)
   | (with_reducible exact lines_Split.mono _ _)
   | (with_reducible exact LeO.refl _)
   | (with_reducible exact LeO.none _)
   | (with_reducible refine LeO.ite ?_ ?_)
   | (with_reducible refine LeO.bind ?_ (fun _ => ?_))
   | exact ih0 _ _ _ _
   | exact ih1 _ _ _ _ _
   | exact ih2 _ _ _ _ _ _
   | exact hunks_Changes.mono _ _ _
   | exact hunks_hunk.mono _ _ _ _ _
   | exact lines_Split.mono _ _
   | exact LeO.none _
   | refine LeO.ite ?_ ?_
   | refine LeO.bind ?_ (fun _ => ?_)
  ·intro y0 y1 y2 y3 y4
   unfold hunks_Make.l0
   repeat' first
   | (with_reducible exact ih0 _ _ _ _)
   | (with_reducible exact ih1 _ _ _ _ _)
   | (with_reducible exact ih2 _ _ _ _ _ _)
   | (with_reducible exact hunks_Changes.mono _ _ _)
   | (with_reducible exact hunks_hunk.mono _ _ _ _ _)
   | (with_reducible exact lines_Split.mono _ _)
   | (with_reducible exact LeO.refl _)
   | (with_reducible exact LeO.none _)
   | (with_reducible refine LeO.ite ?_ ?_)
   | (with_reducible refine LeO.bind ?_ (fun _ => ?_))
   | exact ih0 _ _ _ _
   | exact ih1 _ _ _ _ _
   | exact ih2 _ _ _ _ _ _
   | exact hunks_Changes.mono _ _ _
   | exact hunks_hunk.mono _ _ _ _ _
   | exact lines_Split.mono _ _
   | exact LeO.none _
   | refine LeO.ite ?_ ?_
   | refine LeO.bind ?_ (fun _ => ?_)
  ·intro y0 y1 y2 y3 y4 y5
   unfold hunks_Make.l1
   repeat' first
   | (with_reducible exact ih0 _ _ _ _)
   | (with_reducible exact ih1 _ _ _ _ _)
   | (with_reducible exact ih2 _ _ _ _ _ _)
   | (with_reducible exact hunks_Changes.mono _ _ _)
   | (with_reducible exact hunks_hunk.mono _ _ _ _ _)
   | (with_reducible exact lines_Split.mono _ _)
   | (with_reducible exact LeO.refl _)
   | (with_reducible exact LeO.none _)
   | (with_reducible refine LeO.ite ?_ ?_)
   | (with_reducible refine LeO.bind ?_ (fun _ => ?_))
   | exact ih0 _ _ _ _
   | exact ih1 _ _ _ _ _
   | exact ih2 _ _ _ _ _ _
   | exact hunks_Changes.mono _ _ _
   | exact hunks_hunk.mono _ _ _ _ _
   | exact lines_Split.mono _ _
   | exact LeO.none _
   | refine LeO.ite ?_ ?_
   | refine LeO.bind ?_ (fun _ => ?_)
theorem hunks_Make.mono : ∀ a0 a1 a2 k, LeO (hunks_Make.f k a0 a1 a2) (hunks_Make.f (k + 1) a0 a1 a2) := by
 intro a0 a1 a2 k
 obtain ⟨ih0, ih1, ih2⟩ := hunks_Make.mono_l k
 unfold hunks_Make.f
 repeat' first
   | (with_reducible exact ih0 _ _ _ _)
   | (with_reducible exact ih1 _ _ _ _ _)
   | (with_reducible exact ih2 _ _ _ _ _ _)
   | (with_reducible exact hunks_Changes.mono _ _ _)
   | (with_reducible exact hunks_hunk.mono _ _ _ _ _)
   | (with_reducible exact lines_Split.mono _ _)
   | (with_reducible exact LeO.refl _)
   | (with_reducible exact LeO.none _)
   | (with_reducible refine LeO.ite ?_ ?_)
   | (with_reducible refine LeO.bind ?_ (fun _ => ?_))
   | exact ih0 _ _ _ _
   | exact ih1 _ _ _ _ _
   | exact ih2 _ _ _ _ _ _
   | exact hunks_Changes.mono _ _ _
   | exact hunks_hunk.mono _ _ _ _ _
   | exact lines_Split.mono _ _
   | exact LeO.none _
   | refine LeO.ite ?_ ?_
   | refine LeO.bind ?_ (fun _ => ?_)
set_option maxHeartbeats 8000000 in
set_option maxRecDepth 100000 in
theorem hunks_Make.calls (k : Nat) (A0 : Option Addr) (c0 : Nat) (l0 : List Int) (A1 : Option Addr) (c1 : Nat) (l1 : List Int) (a2 : Int) (r1 : List (S53)) (r2 : Int) (w : World) (hr0 : Kd.C (Kd.int .u8) w A0 l0.length l0) (hc0 : l0.length ≤ c0) (hr1 : Kd.C (Kd.int .u8) w A1 l1.length l1) (hc1 : l1.length ≤ c1) (h : hunks_Make.f k l0 l1 a2 = some (r1, r2)) :
  Calls Try.prog 22 #[.slice A0 l0.length c0, .slice A1 l1.length c1, .int .i64 a2] w fun e w' => ∃ v0_ : Value, e = .returned (.tuple #[v0_, .int .i64 r2]) ∧ Kd.S k53 53 w' w.heap.size (fun _ => True) v0_ r1 ∧ Below w.heap.size w w' := by
 have HR0 := Aside0.mk hr0
 have HC0 := Aside0.mk hc0
 clear hr0 hc0
 have HR1 := Aside0.mk hr1
 have HC1 := Aside0.mk hc1
 clear hr1 hc1
 have HB := Aside0.mk (Below.refl w.heap.size w)
 have H : (if a2 < 0 then (hunks_Make.j0 k l0 l1 a2 true) else (hunks_Make.j0 k l0 l1 a2 (decide (a2 > 16)))) = some (r1, r2) := h
 clear h
 have HC4 := Aside0.mk H
 clear H
 go_enter Try.func22, Try.ntmps22
 go_upto_region 1 with (fail)
 repeat (go_quiet (fail); go_upto_region 1 with (fail))
 go_cut [18] (fun v18 wc => ∃ (kq : Nat) (x18_3 : Bool), v18 = .bool x18_3 ∧ Aside0 (hunks_Make.j0 kq l0 l1 a2 x18_3 = some (r1, r2)) ∧ Aside0 (kq ≤ k) ∧ Aside0 (Below w.heap.size w wc))
 case first =>
  have H := HC4.out
  clear HC4
  by_cases c5 : a2 < 0
  ·rw [if_pos c5] at H
   have c5b0 : decide (a2 < 0) = true := decide_eq_true c5
   clear c5
   (first | rw [c5b0] | (simp only [i64_w, i32_w]; rw [c5b0]) | skip)
   have H' := Aside0.mk H
   clear H
   go_wp2
   repeat (go_quiet (fail); try go_wp2)
   go_meet
   case rel => exact ⟨_, (true), (by first | rfl | (simp; done) | (simp [*]; done)), H', ⟨by first | omega | exact Nat.le_refl _⟩, ⟨by repeat (first | (with_reducible first | exact HB.out | apply below_alloc | apply pw_below_drewN | apply below_drew1) | exact HB.out)⟩⟩
  ·rw [if_neg c5] at H
   have c5b0 : decide (a2 < 0) = false := decide_eq_false c5
   clear c5
   (first | rw [c5b0] | (simp only [i64_w, i32_w]; rw [c5b0]) | skip)
   have H' := Aside0.mk H
   clear H
   go_wp2
   repeat (go_quiet (fail); try go_wp2)
   go_meet
   case rel => exact ⟨_, (decide (a2 > 16)), (by first | rfl | (simp; done) | (simp [*]; done)), H', ⟨by first | omega | exact Nat.le_refl _⟩, ⟨by repeat (first | (with_reducible first | exact HB.out | apply below_alloc | apply pw_below_drewN | apply below_drew1) | exact HB.out)⟩⟩
 case rest =>
  clear HC4
  (try clear c1); (try clear c2); (try clear p2); (try clear c5); (try clear c5b0)
  obtain ⟨kq, x18_3, rfl, HA, HJ3, HB⟩ := hcut
  cases kq with
  | zero => exact absurd HA.out (by simp [hunks_Make.j0])
  | succ kj3 =>
   have H := HA.out
   clear HA
   simp only [hunks_Make.j0] at H
   by_cases c6 : x18_3 = true
   ·subst c6
    have H1 : (some (([] : List (S53)), 2)) = some (r1, r2) := by rw [if_pos rfl] at H; exact H
    clear H
    have H := H1
    clear H1
    simp only [Option.some.injEq, Prod.mk.injEq] at H
    obtain ⟨rfl, rfl⟩ := H
    go_wp2
    repeat (go_quiet (fail); try go_wp2)
    go_ret2
    exact ⟨_, by first | rfl | (simp [errW_none, errW_some] <;> rfl) | (simp [*, errW_none, errW_some] <;> rfl), by first | exact Kd.S_nil _ _ _ _ _ | exact Kd.N_nil _ _ _ _ _ | exact Kd.V_nil _ _ _ _ _ | exact Kd.Q_nil _ _ _ _ _ | exact Kd.R_nil _ _ _ _ _, by repeat (first | (with_reducible first | exact HB.out | apply below_alloc | apply pw_below_drewN | apply below_drew1) | exact HB.out)⟩
   ·replace c6 := Bool.eq_false_iff.mpr c6
    subst c6
    have H1 : ((lines_Split.f kj3 l0).bind fun t246 => ((lines_Split.f kj3 l1).bind fun t249 => ((hunks_Changes.f kj3 t246 t249).bind fun t252 => (hunks_Make.l0 kj3 a2 t246 t249 ([] : List (S53)) t252)))) = some (r1, r2) := by rw [if_neg (show ¬ (false = true) by decide)] at H; exact H
    clear H
    have H := H1
    clear H1
    replace H := Option.bind_eq_some_iff.mp H
    obtain ⟨t246, A70, H⟩ := H
    replace H : ((lines_Split.f kj3 l1).bind fun t249 => ((hunks_Changes.f kj3 t246 t249).bind fun t252 => (hunks_Make.l0 kj3 a2 t246 t249 ([] : List (S53)) t252))) = some (r1, r2) := H
    have A7 := Aside0.mk A70
    clear A70
    replace H := Option.bind_eq_some_iff.mp H
    obtain ⟨t249, A80, H⟩ := H
    replace H : ((hunks_Changes.f kj3 t246 t249).bind fun t252 => (hunks_Make.l0 kj3 a2 t246 t249 ([] : List (S53)) t252)) = some (r1, r2) := H
    have A8 := Aside0.mk A80
    clear A80
    replace H := Option.bind_eq_some_iff.mp H
    obtain ⟨t252, A90, H⟩ := H
    replace H : (hunks_Make.l0 kj3 a2 t246 t249 ([] : List (S53)) t252) = some (r1, r2) := H
    have A9 := Aside0.mk A90
    clear A90
    have H' := Aside0.mk H
    clear H
    go_wp2_with (first | (go_at_call 43; (with_reducible refine (lines_Split.calls kj3 _ _ l0 t246 _ ?side1 ?side2 A7.out).mono ?_); (case side1 => repeat (first | exact (Kd.C_below HR0.out HB.out) | (with_reducible refine Kd.C_alloc ?_ _) | (with_reducible refine Kd.C_drewN ?_ _) | (with_reducible refine Kd.C_drew ?_))); (case side2 => exact HC0.out); rintro e w10 ⟨v247, rfl, ho0, hb⟩; have n0_ := Aside0.mk (Kd.R_lower ho0 (below_size (by repeat (first | (with_reducible first | exact HB.out | apply below_alloc | apply pw_below_drewN | apply below_drew1) | exact HB.out)))); have n1_ := Aside0.mk (below_step (by repeat (first | (with_reducible first | exact HB.out | apply below_alloc | apply pw_below_drewN | apply below_drew1) | exact HB.out)) hb); clear HB; have HO248 := n0_; have HB := n1_; clear n0_ n1_; (try clear hb); (try clear hb2); (try clear hk); (try clear hi); (try clear ho0)) | (go_at_call 43; (with_reducible refine (lines_Split.calls kj3 _ _ l1 t249 _ ?side1 ?side2 A8.out).mono ?_); (case side1 => repeat (first | exact (Kd.C_below HR1.out HB.out) | (with_reducible refine Kd.C_alloc ?_ _) | (with_reducible refine Kd.C_drewN ?_ _) | (with_reducible refine Kd.C_drew ?_))); (case side2 => exact HC1.out); rintro e w11 ⟨v250, rfl, ho0, hb⟩; have n0_ := Aside0.mk (Kd.R_elder' (by (with_reducible repeat (first | apply Kd.R_alloc | apply Kd.R_drewN | apply Kd.R_drew)); exact HO248.out) (Kd.R_base ho0) hb); have n1_ := Aside0.mk (Kd.R_lower (Kd.R_new' ho0 (Kd.R_lt (by (with_reducible repeat (first | apply Kd.R_alloc | apply Kd.R_drewN | apply Kd.R_drew)); exact HO248.out))) (below_size (by repeat (first | (with_reducible first | exact HB.out | apply below_alloc | apply pw_below_drewN | apply below_drew1) | exact HB.out)))); have n2_ := Aside0.mk (below_step (by repeat (first | (with_reducible first | exact HB.out | apply below_alloc | apply pw_below_drewN | apply below_drew1) | exact HB.out)) hb); clear HO248; clear HB; have HO248 := n0_; have HO251 := n1_; have HB := n2_; clear n0_ n1_ n2_; (try clear hb); (try clear hb2); (try clear hk); (try clear hi); (try clear ho0); obtain ⟨Ao12, co12, eo12⟩ := Kd.R_slice HO248.out; subst eo12; obtain ⟨Ao13, co13, eo13⟩ := Kd.R_slice HO251.out; subst eo13) | (go_at_call 20; (with_reducible refine (hunks_Changes.calls kj3 (fun k_ => some k_ = (.slice Ao12 t246.length co12 : Value).ownBlock) _ _ t246 (fun k_ => some k_ = (.slice Ao13 t249.length co13 : Value).ownBlock) _ _ t249 t252 _ ?side1 ?side2 A9.out).mono ?_); (case side1 => exact Kd.R_V (Kd.R_tight rfl (HO248.out))); (case side2 => exact Kd.R_V (Kd.R_tight rfl (HO251.out))); rintro e w14 ⟨v253, rfl, ho0, hb⟩; have n0_ := Aside0.mk (Kd.R_below (by (with_reducible repeat (first | apply Kd.R_alloc | apply Kd.R_drewN | apply Kd.R_drew)); exact HO248.out) hb); have n1_ := Aside0.mk (Kd.R_below (by (with_reducible repeat (first | apply Kd.R_alloc | apply Kd.R_drewN | apply Kd.R_drew)); exact HO251.out) hb); have n2_ := Aside0.mk (Kd.R_lower (Kd.R_mono (ok' := fun k_ => True) ho0 (fun _ hk_ => trivial)) (below_size (by repeat (first | (with_reducible first | exact HB.out | apply below_alloc | apply pw_below_drewN | apply below_drew1) | exact HB.out)))); have n3_ := Aside0.mk (below_step (by repeat (first | (with_reducible first | exact HB.out | apply below_alloc | apply pw_below_drewN | apply below_drew1) | exact HB.out)) hb); clear HO248; clear HO251; clear HB; have HO248 := n0_; have HO251 := n1_; have HO254 := n2_; have HB := n3_; clear n0_ n1_ n2_ n3_; (try clear hb); (try clear hb2); (try clear hk); (try clear hi); (try clear ho0)))
    repeat (go_quiet (fail); try go_wp2_with (fail))
    go_loopg [10, 11] kj3 (fun kq v10 v11 w' => ∃ (x10_2 : List (S53)) (x11_2 : List (S39)), Aside0 (hunks_Make.l0 kq a2 t246 t249 x10_2 x11_2 = some (r1, r2)) ∧ Aside0 (kq ≤ kj3) ∧ Aside0 (Kd.R Kd.string 9 w' w.heap.size (fun k_ => some k_ ≠ ((.slice Ao13 t249.length co13) : Value).ownBlock) (.slice Ao12 t246.length co12) t246) ∧ Aside0 (Kd.R Kd.string 9 w' w.heap.size (fun k_ => some k_ ≠ ((.slice Ao12 t246.length co12) : Value).ownBlock) (.slice Ao13 t249.length co13) t249) ∧ Aside0 (Kd.S k53 53 w' w.heap.size (fun _ => True) v10 x10_2) ∧ Aside0 (Kd.Q k39 39 w' w.heap.size (fun _ => True) v11 x11_2) ∧ Aside0 (Below w.heap.size w w'))
    case atStart => exact ⟨(([] : List (S53))), (t252), H', ⟨Nat.le_refl _⟩, ⟨by (with_reducible repeat (first | apply Kd.R_alloc | apply Kd.R_drewN | apply Kd.R_drew)); exact Kd.R_mono HO248.out (fun _ hk => hk.2)⟩, ⟨by (with_reducible repeat (first | apply Kd.R_alloc | apply Kd.R_drewN | apply Kd.R_drew)); exact Kd.R_mono HO251.out (fun _ hk => hk.2)⟩, ⟨by first | exact Kd.S_nil _ _ _ _ _ | exact Kd.N_nil _ _ _ _ _ | exact Kd.V_nil _ _ _ _ _ | exact Kd.Q_nil _ _ _ _ _ | exact Kd.R_nil _ _ _ _ _⟩, ⟨Kd.Q_of_R (by (with_reducible repeat (first | apply Kd.R_alloc | apply Kd.R_drewN | apply Kd.R_drew)); exact HO254.out)⟩, ⟨by repeat (first | (with_reducible first | exact HB.out | apply below_alloc | apply pw_below_drewN | apply below_drew1) | exact HB.out)⟩⟩
    case round =>
     clear H'
     (try clear c1); (try clear c2); (try clear p2); (try clear c5); (try clear c5b0); (try clear c6); (try clear p2)
     obtain ⟨x10_2, x11_2, HA, HK2, HO_8, HO_9, HO_10, HO_11, HB⟩ := hrel
     cases gk with
     | zero => exact absurd HA.out (by simp [hunks_Make.l0])
     | succ k2 =>
      have H := HA.out
      clear HA
      simp only [hunks_Make.l0] at H
      by_cases c15 : (x11_2.length : Int) > 0
      ·rw [if_pos c15] at H
       have c15b0 : decide (0 < (x11_2.length : Int)) = true := decide_eq_true c15
       have c15b1 : decide (0 < x11_2.length) = true := decide_eq_true (by omega)
       clear c15
       have H' := Aside0.mk H
       clear H
       obtain ⟨Ao16, co16, eo16, _⟩ := Kd.Q_slice HO_11.out
       subst eo16
       go_wp2
       repeat (go_quiet (fail); try go_wp2)
       go_loopg [12] k2 (fun kq v12 w' => ∃ (x12_3 : Int), v12 = .int .i64 x12_3 ∧ Aside0 (hunks_Make.l1 kq a2 t246 t249 x10_2 x11_2 x12_3 = some (r1, r2)) ∧ Aside0 (kq ≤ k2) ∧ Aside0 (Kd.R Kd.string 9 w' w.heap.size (fun k_ => some k_ ≠ ((.slice Ao13 t249.length co13) : Value).ownBlock) (.slice Ao12 t246.length co12) t246) ∧ Aside0 (Kd.R Kd.string 9 w' w.heap.size (fun k_ => some k_ ≠ ((.slice Ao12 t246.length co12) : Value).ownBlock) (.slice Ao13 t249.length co13) t249) ∧ Aside0 (Kd.S k53 53 w' w.heap.size (fun _ => True) u10 x10_2) ∧ Aside0 (Kd.Q k39 39 w' w.heap.size (fun _ => True) (.slice Ao16 x11_2.length co16) x11_2) ∧ Aside0 (Below w.heap.size w w'))
       case atStart => exact ⟨(1), (by first | rfl | (simp; done) | (simp [*]; done)), H', ⟨Nat.le_refl _⟩, ⟨by (with_reducible repeat (first | apply Kd.R_alloc | apply Kd.R_drewN | apply Kd.R_drew)); exact HO_8.out⟩, ⟨by (with_reducible repeat (first | apply Kd.R_alloc | apply Kd.R_drewN | apply Kd.R_drew)); exact HO_9.out⟩, ⟨by (with_reducible repeat (first | apply Kd.S_alloc | apply Kd.S_drewN | apply Kd.S_drew)); exact HO_10.out⟩, ⟨by (with_reducible repeat (first | apply Kd.Q_alloc | apply Kd.Q_drewN | apply Kd.Q_drew)); exact HO_11.out⟩, ⟨by repeat (first | (with_reducible first | exact HB.out | apply below_alloc | apply pw_below_drewN | apply below_drew1) | exact HB.out)⟩⟩
       case round =>
        clear H'
        (try clear c1); (try clear c2); (try clear p2); (try clear c5); (try clear c5b0); (try clear c6); (try clear c15); (try clear c15b0); (try clear c15b1); (try clear p2)
        obtain ⟨x12_3, rfl, HA, HK3, HO_8, HO_9, HO_10, HO_11, HB⟩ := hrel
        cases gk with
        | zero => exact absurd HA.out (by simp [hunks_Make.l1])
        | succ k3 =>
         have H := HA.out
         clear HA
         simp only [hunks_Make.l1] at H
         by_cases c17 : x12_3 < (x11_2.length : Int)
         ·rw [if_pos c17] at H
          have c17b0 : decide (x12_3 < (x11_2.length : Int)) = true := decide_eq_true c17
          clear c17
          by_cases c18 : 0 ≤ x12_3
          ·rw [if_pos c18] at H
           have c18b0 : decide (0 ≤ x12_3) = true := decide_eq_true c18
           clear c18
           obtain ⟨ji19, hji19⟩ : ∃ j_ : Int, (wrap64 (x12_3 - 1)) = j_ := ⟨_, rfl⟩
           replace H : (if 0 ≤ (ji19) then (if (ji19) < (x11_2.length : Int) then (if (wrap64 (((rd_T39 x11_2 x12_3).f0) - (wrap64 (((rd_T39 x11_2 (ji19)).f0) + ((rd_T39 x11_2 (ji19)).f1))))) ≤ (wrap64 (2 * a2)) then (hunks_Make.l1 k3 a2 t246 t249 x10_2 x11_2 (wrap64 (x12_3 + 1))) else (if x12_3 ≤ (x11_2.length : Int) then ((hunks_hunk.f k3 t246 t249 (x11_2.take (x12_3 : Int).toNat) a2).bind fun bt262 => (if x10_2.length < 2513169434916 then (hunks_Make.l0 k3 a2 t246 t249 (x10_2 ++ [(⟨bt262.1, bt262.2.1, bt262.2.2.1, bt262.2.2.2.1, bt262.2.2.2.2⟩ : S53)]) (x11_2.drop (x12_3 : Int).toNat)) else (none))) else (none))) else (none)) else (none)) = some (r1, r2) := by first | (rw [hji19] at H; exact H) | (simp only [hji19] at H ⊢; exact H)
           have hji19w : (IntKind.i64.wrap (x12_3 - 1)) = ji19 := (i64_w _).trans hji19
           by_cases c20 : 0 ≤ (ji19)
           ·rw [if_pos c20] at H
            have c20b0 : decide (0 ≤ (ji19)) = true := decide_eq_true c20
            clear c20
            by_cases c21 : (ji19) < (x11_2.length : Int)
            ·rw [if_pos c21] at H
             have c21b0 : decide ((ji19) < (x11_2.length : Int)) = true := decide_eq_true c21
             clear c21
             by_cases c22 : (wrap64 (((rd_T39 x11_2 x12_3).f0) - (wrap64 (((rd_T39 x11_2 (ji19)).f0) + ((rd_T39 x11_2 (ji19)).f1))))) ≤ (wrap64 (2 * a2))
             ·rw [if_pos c22] at H
              have c22b0 : decide ((wrap64 (((rd_T39 x11_2 x12_3).f0) - (wrap64 (((rd_T39 x11_2 (ji19)).f0) + ((rd_T39 x11_2 (ji19)).f1))))) ≤ (wrap64 (2 * a2))) = true := decide_eq_true c22
              clear c22
              have H' := Aside0.mk H
              clear H
              have p255 : 0 ≤ (x12_3 : Int) := of_decide_eq_true (by first | (with_reducible assumption) | assumption)
              have q255 : x12_3 < (x11_2.length : Int) := of_decide_eq_true (by first | (with_reducible assumption) | assumption)
              obtain ⟨ad255, e255, hx255_0, hx255_1, hx255_2, hx255_3⟩ := at_T39 (Kd.Q_reads' HO_11.out).2.2 x12_3 p255 q255
              cases e255
              replace p255 := eq_true p255
              replace q255 := eq_true q255
              have p256 : 0 ≤ ((ji19) : Int) := of_decide_eq_true (by first | (with_reducible assumption) | assumption)
              have q256 : (ji19) < (x11_2.length : Int) := of_decide_eq_true (by first | (with_reducible assumption) | assumption)
              obtain ⟨ad256, e256, hx256_0, hx256_1, hx256_2, hx256_3⟩ := at_T39 (Kd.Q_reads' HO_11.out).2.2 (ji19) p256 q256
              obtain rfl : ad255 = ad256 := (by injection e256)
              replace p256 := eq_true p256
              replace q256 := eq_true q256
              have p257 : 0 ≤ ((ji19) : Int) := of_decide_eq_true (by first | (with_reducible assumption) | assumption)
              have q257 : (ji19) < (x11_2.length : Int) := of_decide_eq_true (by first | (with_reducible assumption) | assumption)
              obtain ⟨ad257, e257, hx257_0, hx257_1, hx257_2, hx257_3⟩ := at_T39 (Kd.Q_reads' HO_11.out).2.2 (ji19) p257 q257
              obtain rfl : ad255 = ad257 := (by injection e257)
              replace p257 := eq_true p257
              replace q257 := eq_true q257
              go_wp2
              repeat (go_quiet (fail); try go_wp2)
              go_roundg k3
              case measure => have := HJ3.out; have := HK2.out; have := HK3.out; omega
              case rel => exact ⟨(wrap64 (x12_3 + 1)), (by first | rfl | (simp; done) | (simp [*]; done)), H', ⟨by have := HJ3.out; have := HK2.out; have := HK3.out; omega⟩, ⟨by (with_reducible repeat (first | apply Kd.R_alloc | apply Kd.R_drewN | apply Kd.R_drew)); exact HO_8.out⟩, ⟨by (with_reducible repeat (first | apply Kd.R_alloc | apply Kd.R_drewN | apply Kd.R_drew)); exact HO_9.out⟩, ⟨by (with_reducible repeat (first | apply Kd.S_alloc | apply Kd.S_drewN | apply Kd.S_drew)); exact HO_10.out⟩, ⟨by (with_reducible repeat (first | apply Kd.Q_alloc | apply Kd.Q_drewN | apply Kd.Q_drew)); exact HO_11.out⟩, ⟨by repeat (first | (with_reducible first | exact HB.out | apply below_alloc | apply pw_below_drewN | apply below_drew1) | exact HB.out)⟩⟩
             ·rw [if_neg c22] at H
              have c22b0 : decide ((wrap64 (((rd_T39 x11_2 x12_3).f0) - (wrap64 (((rd_T39 x11_2 (ji19)).f0) + ((rd_T39 x11_2 (ji19)).f1))))) ≤ (wrap64 (2 * a2))) = false := decide_eq_false c22
              clear c22
              have c23b0 := eq_true (of_decide_eq_true (by first | (with_reducible assumption) | assumption) : 0 ≤ x12_3)
              by_cases c24 : x12_3 ≤ (x11_2.length : Int)
              ·rw [if_pos c24] at H
               have c24b0 := eq_true c24
               have c24b1 : decide (x12_3 ≤ (x11_2.length : Int)) = true := decide_eq_true c24
               clear c24
               obtain ⟨y258, hy258⟩ : ∃ y_ : List (S39), y_ = (x11_2.take (x12_3 : Int).toNat) := ⟨_, rfl⟩
               replace H : ((hunks_hunk.f k3 t246 t249 y258 a2).bind fun bt262 => (if x10_2.length < 2513169434916 then (hunks_Make.l0 k3 a2 t246 t249 (x10_2 ++ [(⟨bt262.1, bt262.2.1, bt262.2.2.1, bt262.2.2.2.1, bt262.2.2.2.2⟩ : S53)]) (x11_2.drop (x12_3 : Int).toNat)) else (none))) = some (r1, r2) := by first | (rw [hy258]; with_reducible exact H) | (have H2_ := (Option.bind_some _ _).symm.trans H; rw [hy258]; with_reducible exact H2_) | (have H2_ := (Option.bind_some _ _).symm.trans H; with_reducible exact H2_) | with_reducible exact H | (rw [hy258]; exact H) | exact H
               have Ny258 := Aside0.mk hy258
               clear hy258
               replace H := Option.bind_eq_some_iff.mp H
               obtain ⟨⟨t262, t263, t264, t265, t266⟩, A250, H⟩ := H
               replace H : (if x10_2.length < 2513169434916 then (hunks_Make.l0 k3 a2 t246 t249 (x10_2 ++ [(⟨t262, t263, t264, t265, t266⟩ : S53)]) (x11_2.drop (x12_3 : Int).toNat)) else (none)) = some (r1, r2) := H
               have A25 := Aside0.mk A250
               clear A250
               by_cases c26 : x10_2.length < 2513169434916
               ·rw [if_pos c26] at H
                have LMc26 := Aside0.mk c26
                clear c26
                obtain ⟨y269, hy269⟩ : ∃ y_ : List (S53), y_ = (x10_2 ++ [(⟨t262, t263, t264, t265, t266⟩ : S53)]) := ⟨_, rfl⟩
                replace H : (hunks_Make.l0 k3 a2 t246 t249 y269 (x11_2.drop (x12_3 : Int).toNat)) = some (r1, r2) := by first | (rw [hy269]; with_reducible exact H) | (have H2_ := (Option.bind_some _ _).symm.trans H; rw [hy269]; with_reducible exact H2_) | (have H2_ := (Option.bind_some _ _).symm.trans H; with_reducible exact H2_) | with_reducible exact H | (rw [hy269]; exact H) | exact H
                have Ny269 := Aside0.mk hy269
                clear hy269
                have c27b0 := eq_true (of_decide_eq_true (by first | (with_reducible assumption) | assumption) : x12_3 ≤ (x11_2.length : Int))
                obtain ⟨y272, hy272⟩ : ∃ y_ : List (S39), y_ = (x11_2.drop (x12_3 : Int).toNat) := ⟨_, rfl⟩
                replace H : (hunks_Make.l0 k3 a2 t246 t249 y269 y272) = some (r1, r2) := by first | (rw [hy272]; with_reducible exact H) | (have H2_ := (Option.bind_some _ _).symm.trans H; rw [hy272]; with_reducible exact H2_) | (have H2_ := (Option.bind_some _ _).symm.trans H; with_reducible exact H2_) | with_reducible exact H | (rw [hy272]; exact H) | exact H
                have Ny272 := Aside0.mk hy272
                clear hy272
                have H' := Aside0.mk H
                clear H
                have p255 : 0 ≤ (x12_3 : Int) := of_decide_eq_true (by first | (with_reducible assumption) | assumption)
                have q255 : x12_3 < (x11_2.length : Int) := of_decide_eq_true (by first | (with_reducible assumption) | assumption)
                obtain ⟨ad255, e255, hx255_0, hx255_1, hx255_2, hx255_3⟩ := at_T39 (Kd.Q_reads' HO_11.out).2.2 x12_3 p255 q255
                cases e255
                replace p255 := eq_true p255
                replace q255 := eq_true q255
                have p256 : 0 ≤ ((ji19) : Int) := of_decide_eq_true (by first | (with_reducible assumption) | assumption)
                have q256 : (ji19) < (x11_2.length : Int) := of_decide_eq_true (by first | (with_reducible assumption) | assumption)
                obtain ⟨ad256, e256, hx256_0, hx256_1, hx256_2, hx256_3⟩ := at_T39 (Kd.Q_reads' HO_11.out).2.2 (ji19) p256 q256
                obtain rfl : ad255 = ad256 := (by injection e256)
                replace p256 := eq_true p256
                replace q256 := eq_true q256
                have p257 : 0 ≤ ((ji19) : Int) := of_decide_eq_true (by first | (with_reducible assumption) | assumption)
                have q257 : (ji19) < (x11_2.length : Int) := of_decide_eq_true (by first | (with_reducible assumption) | assumption)
                obtain ⟨ad257, e257, hx257_0, hx257_1, hx257_2, hx257_3⟩ := at_T39 (Kd.Q_reads' HO_11.out).2.2 (ji19) p257 q257
                obtain rfl : ad255 = ad257 := (by injection e257)
                replace p257 := eq_true p257
                replace q257 := eq_true q257
                have q28 : (x12_3 : Int) ≤ ((x11_2.length : Int) : Int) := of_decide_eq_true (by first | (with_reducible assumption) | assumption)
                obtain ⟨i028, hi028, _, hsz28, _⟩ := info_parts info39
                have hroom28 : x11_2.length ≤ co16 := (Kd.Q_reads' HO_11.out).2.1
                have hC28 : Kd.C k39 _ (some ad255) x11_2.length x11_2 := (Kd.Q_reads' HO_11.out).2.2
                have hcut28 := cut_to (P := Try.prog) 34 39 .i64 Try.underlying34 hi028 (some ad255) x11_2.length co16 x12_3 (of_decide_eq_true (by first | (with_reducible assumption) | assumption)) q28 hroom28
                have hr28 := Kd.C_take (m := (x12_3 : Int).toNat) hC28 (by omega)
                have hy28 : y258.length = (x12_3 : Int).toNat := (by rw [Ny258.out, List.length_take]; omega)
                rw [← Ny258.out] at hr28
                rw [← hy28] at hcut28
                have HR261 := Aside0.mk hr28
                have HC261 := Aside0.mk (show y258.length ≤ co16 from by omega)
                clear hr28 hC28 hroom28 hi028 hsz28
                have KY28 := Aside0.mk hy28
                clear hy28
                have KL28 := Aside0.mk (show (x12_3 : Int).toNat ≤ x11_2.length from by omega)
                replace q28 := eq_true q28
                go_wp2_with (fail)
                repeat (go_quiet (fail); try go_wp2_with (first | (go_at_call 44; (with_reducible refine (hunks_hunk.calls k3 _ _ t246 _ _ t249 _ _ y258 a2 t262 t263 t264 t265 t266 _ ?side1 ?side2 ?side3 ?side4 ?side5 ?side6 A25.out).mono ?_); (case side1 => repeat (first | exact (Kd.R_reads' HO_8.out).2.2 | (with_reducible refine Kd.C_alloc ?_ _) | (with_reducible refine Kd.C_drewN ?_ _) | (with_reducible refine Kd.C_drew ?_))); (case side2 => exact (Kd.R_reads' HO_8.out).2.1); (case side3 => repeat (first | exact (Kd.R_reads' HO_9.out).2.2 | (with_reducible refine Kd.C_alloc ?_ _) | (with_reducible refine Kd.C_drewN ?_ _) | (with_reducible refine Kd.C_drew ?_))); (case side4 => exact (Kd.R_reads' HO_9.out).2.1); (case side5 => repeat (first | exact (by repeat (first | (with_reducible exact HR261.out) | (with_reducible refine Kd.C_alloc ?_ _) | (with_reducible refine Kd.C_drewN ?_ _) | (with_reducible refine Kd.C_drew ?_) | exact HR261.out)) | (with_reducible refine Kd.C_alloc ?_ _) | (with_reducible refine Kd.C_drewN ?_ _) | (with_reducible refine Kd.C_drew ?_))); (case side6 => exact HC261.out); rintro e w29 ⟨v267, rfl, ho0, hb⟩; have n0_ := Aside0.mk (Kd.R_below (by (with_reducible repeat (first | apply Kd.R_alloc | apply Kd.R_drewN | apply Kd.R_drew)); exact HO_8.out) hb); have n1_ := Aside0.mk (Kd.R_below (by (with_reducible repeat (first | apply Kd.R_alloc | apply Kd.R_drewN | apply Kd.R_drew)); exact HO_9.out) hb); have n2_ := Aside0.mk (Kd.S_elder' (by (with_reducible repeat (first | apply Kd.S_alloc | apply Kd.S_drewN | apply Kd.S_drew)); exact HO_10.out) (Kd.R_base ho0) hb); have n3_ := Aside0.mk (Kd.Q_below (by (with_reducible repeat (first | apply Kd.Q_alloc | apply Kd.Q_drewN | apply Kd.Q_drew)); exact HO_11.out) hb); have n4_ := Aside0.mk (Kd.R_lower ho0 (below_size (by repeat (first | (with_reducible first | exact HB.out | apply below_alloc | apply pw_below_drewN | apply below_drew1) | exact HB.out)))); have n5_ := Aside0.mk (Kd.C_below (by repeat (first | (with_reducible exact HR261.out) | (with_reducible refine Kd.C_alloc ?_ _) | (with_reducible refine Kd.C_drewN ?_ _) | (with_reducible refine Kd.C_drew ?_) | exact HR261.out)) hb); have n6_ := Aside0.mk (below_step (by repeat (first | (with_reducible first | exact HB.out | apply below_alloc | apply pw_below_drewN | apply below_drew1) | exact HB.out)) hb); clear HO_8; clear HO_9; clear HO_10; clear HO_11; clear HR261; clear HB; have HO_8 := n0_; have HO_9 := n1_; have HO_10 := n2_; have HO_11 := n3_; have HO268 := n4_; have HR261 := n5_; have HB := n6_; clear n0_ n1_ n2_ n3_ n4_ n5_ n6_; (try clear hb); (try clear hb2); (try clear hk); (try clear hi); (try clear ho0); obtain ⟨Ao31, co31, eo31⟩ := Kd.R_slice HO268.out; subst eo31) | ((with_reducible refine gate_builtin (b := .append) (xs := #[.tmp 59, .tmp 67]) rfl ?_); at_builtin; refine Kd.S_append k53 (w0 := w) w.heap.size rfl (.tmp 59) (.tmp 67) 44 53 (.agg #[(.int .i64 0), (.int .i64 0), (.int .i64 0), (.int .i64 0), (.slice none 0 0)]) 56 rfl Try.underlying44 info53 rfl (by decide) (by omega) u10 x10_2 (⟨t262, t263, t264, t265, t266⟩ : S53) [.int .i64 t262, .int .i64 t263, .int .i64 t264, .int .i64 t265, .slice Ao31 t266.length co31] (fun _ => True) (fun k_ => some k_ = (.slice Ao31 t266.length co31 : Value).ownBlock) rfl rfl ?aP (fun k_ hk_ => ((Kd.R_mono (ok' := fun k_ => ((fun _ => True)) k_ ∧ some k_ ≠ (u10 : Value).ownBlock) (Kd.R_apart' (HO268.out) (Kd.S_typed HO_10.out) (by decide)) (fun k_ hk => ⟨trivial, hk.2⟩))).1 k_ hk_.symm) ?aF ?aO ?aB ?aS ?aL ?_; (case aP => exact k53_mkM _ _ _ (⟨t262, t263, t264, t265, t266⟩ : S53) (Kd.R_mono (Kd.R_tight rfl (Kd.R_mono (ok' := fun k_ => ((fun _ => True)) k_ ∧ some k_ ≠ (u10 : Value).ownBlock) (Kd.R_apart' (HO268.out) (Kd.S_typed HO_10.out) (by decide)) (fun k_ hk => ⟨trivial, hk.2⟩))) (fun _ h_ => h_))); (case aB => exact (by repeat (first | (with_reducible first | exact HB.out | apply below_alloc | apply pw_below_drewN | apply below_drew1) | exact HB.out))); (case aF => exact (fun _ _ => trivial)); (case aO => exact (by (with_reducible repeat (first | apply Kd.S_alloc | apply Kd.S_drewN | apply Kd.S_drew)); exact Kd.S_mono HO_10.out (fun k_ hk => ⟨trivial, fun e_ => hk.2 e_⟩))); (case aS => exact (below_size (by repeat (first | (with_reducible first | exact HB.out | apply below_alloc | apply pw_below_drewN | apply below_drew1) | exact HB.out)))); (case aL => have := LMc26.out; omega); intro v270 w30 ho hb hg hat; rw [← Ny269.out] at ho; have n0_ := Aside0.mk (Kd.R_over' (by (with_reducible repeat (first | apply Kd.R_alloc | apply Kd.R_drewN | apply Kd.R_drew)); exact HO_8.out) (Kd.S_typed (by (with_reducible repeat (first | apply Kd.S_alloc | apply Kd.S_drewN | apply Kd.S_drew)); exact HO_10.out)) (by decide) hg); have n1_ := Aside0.mk (Kd.R_over' (by (with_reducible repeat (first | apply Kd.R_alloc | apply Kd.R_drewN | apply Kd.R_drew)); exact HO_9.out) (Kd.S_typed (by (with_reducible repeat (first | apply Kd.S_alloc | apply Kd.S_drewN | apply Kd.S_drew)); exact HO_10.out)) (by decide) hg); have n2_ := Aside0.mk (Kd.Q_over' (by (with_reducible repeat (first | apply Kd.Q_alloc | apply Kd.Q_drewN | apply Kd.Q_drew)); exact HO_11.out) (Kd.S_typed (by (with_reducible repeat (first | apply Kd.S_alloc | apply Kd.S_drewN | apply Kd.S_drew)); exact HO_10.out)) (by decide) hg); have n3_ := Aside0.mk (hb); have n4_ := Aside0.mk ((show Kd.C k39 w30 (some ad255) y258.length y258 from by rw [Ny258.out]; exact Kd.C_take (m := (x12_3 : Int).toNat) ((Kd.Q_reads' (Kd.Q_over' (by (with_reducible repeat (first | apply Kd.Q_alloc | apply Kd.Q_drewN | apply Kd.Q_drew)); exact HO_11.out) (Kd.S_typed (by (with_reducible repeat (first | apply Kd.S_alloc | apply Kd.S_drewN | apply Kd.S_drew)); exact HO_10.out)) (by decide) hg)).2.2) KL28.out)); have n5_ := Aside0.mk (ho); clear HO_8; clear HO_9; clear HO_11; clear HB; clear HR261; clear HO_10; clear HO268; have HO_8 := n0_; have HO_9 := n1_; have HO_11 := n2_; have HB := n3_; have HR261 := n4_; have HO271 := n5_; clear n0_ n1_ n2_ n3_ n4_ n5_; clear ho hb hg hat; have q32 : (x12_3 : Int) ≤ ((x11_2.length : Int) : Int) := of_decide_eq_true (by first | (with_reducible assumption) | assumption); obtain ⟨i032, hi032, _, hsz32, _⟩ := info_parts info39; have hcut32 := cut_from (P := Try.prog) 34 39 .i64 Try.underlying34 hi032 4 hsz32 (some ad255) x11_2.length co16 x12_3 (of_decide_eq_true (by first | (with_reducible assumption) | assumption)) q32; have hr32 := Kd.Q_drop (k := (x12_3 : Int).toNat) HO_11.out (by omega); obtain ⟨A32, hA32⟩ : ∃ A1z_, A1z_ = (if co16 = (x12_3 : Int).toNat then (some ad255) else ((some ad255) : Option Addr).map (·.add ((x12_3 : Int).toNat * 4))) := ⟨_, rfl⟩; obtain ⟨c32, hc32⟩ : ∃ c1z_, c1z_ = co16 - (x12_3 : Int).toNat := ⟨_, rfl⟩; have hy32 : y272.length = x11_2.length - (x12_3 : Int).toNat := (by rw [Ny272.out, List.length_drop]); rw [← Ny272.out] at hr32; rw [← hy32, ← hA32, ← hc32] at hcut32; replace hr32 : Kd.Q k39 39 w30 w.heap.size (fun _ => True) (.slice A32 y272.length c32) y272 := (by rw [hA32, hc32, hy32]; exact hr32); have HE32 : Aside0 ((Value.slice A32 y272.length c32).ownBlock = (.slice (some ad255) x11_2.length co16 : Value).ownBlock) := ⟨by rw [hA32]; split <;> (cases ((some ad255) : Option Addr) <;> (first | rfl | (simp only [Option.map, Value.ownBlock, Addr.add]; split <;> rfl)))⟩; clear hy32 hi032 hsz32 HO_11 hA32 hc32; have HO274 := Aside0.mk hr32; clear hr32; replace q32 := eq_true q32)))
                go_roundg k3
                case measure => have := HJ3.out; have := HK2.out; have := HK3.out; omega
                case rel => exact ⟨(y269), (y272), H', ⟨by have := HJ3.out; have := HK2.out; have := HK3.out; omega⟩, ⟨by (with_reducible repeat (first | apply Kd.R_alloc | apply Kd.R_drewN | apply Kd.R_drew)); exact HO_8.out⟩, ⟨by (with_reducible repeat (first | apply Kd.R_alloc | apply Kd.R_drewN | apply Kd.R_drew)); exact HO_9.out⟩, ⟨by (with_reducible repeat (first | apply Kd.S_alloc | apply Kd.S_drewN | apply Kd.S_drew)); exact HO271.out⟩, ⟨by (with_reducible repeat (first | apply Kd.Q_alloc | apply Kd.Q_drewN | apply Kd.Q_drew)); exact HO274.out⟩, ⟨by repeat (first | (with_reducible first | exact HB.out | apply below_alloc | apply pw_below_drewN | apply below_drew1) | exact HB.out)⟩⟩
               ·rw [if_neg c26] at H
                exact absurd H (by simp)
              ·rw [if_neg c24] at H
               exact absurd H (by simp)
            ·rw [if_neg c21] at H
             exact absurd H (by simp)
           ·rw [if_neg c20] at H
            exact absurd H (by simp)
          ·rw [if_neg c18] at H
           exact absurd H (by simp)
         ·rw [if_neg c17] at H
          have c17b0 : decide (x12_3 < (x11_2.length : Int)) = false := decide_eq_false c17
          clear c17
          by_cases c33 : 0 ≤ x12_3
          ·rw [if_pos c33] at H
           have c33b0 := eq_true c33
           have c33b1 : decide (0 ≤ x12_3) = true := decide_eq_true c33
           clear c33
           by_cases c34 : x12_3 ≤ (x11_2.length : Int)
           ·rw [if_pos c34] at H
            have c34b0 := eq_true c34
            have c34b1 : decide (x12_3 ≤ (x11_2.length : Int)) = true := decide_eq_true c34
            clear c34
            obtain ⟨y275, hy275⟩ : ∃ y_ : List (S39), y_ = (x11_2.take (x12_3 : Int).toNat) := ⟨_, rfl⟩
            replace H : ((hunks_hunk.f k3 t246 t249 y275 a2).bind fun bt279 => (if x10_2.length < 2513169434916 then (hunks_Make.l0 k3 a2 t246 t249 (x10_2 ++ [(⟨bt279.1, bt279.2.1, bt279.2.2.1, bt279.2.2.2.1, bt279.2.2.2.2⟩ : S53)]) (x11_2.drop (x12_3 : Int).toNat)) else (none))) = some (r1, r2) := by first | (rw [hy275]; with_reducible exact H) | (have H2_ := (Option.bind_some _ _).symm.trans H; rw [hy275]; with_reducible exact H2_) | (have H2_ := (Option.bind_some _ _).symm.trans H; with_reducible exact H2_) | with_reducible exact H | (rw [hy275]; exact H) | exact H
            have Ny275 := Aside0.mk hy275
            clear hy275
            replace H := Option.bind_eq_some_iff.mp H
            obtain ⟨⟨t279, t280, t281, t282, t283⟩, A350, H⟩ := H
            replace H : (if x10_2.length < 2513169434916 then (hunks_Make.l0 k3 a2 t246 t249 (x10_2 ++ [(⟨t279, t280, t281, t282, t283⟩ : S53)]) (x11_2.drop (x12_3 : Int).toNat)) else (none)) = some (r1, r2) := H
            have A35 := Aside0.mk A350
            clear A350
            by_cases c36 : x10_2.length < 2513169434916
            ·rw [if_pos c36] at H
             have LMc36 := Aside0.mk c36
             clear c36
             obtain ⟨y286, hy286⟩ : ∃ y_ : List (S53), y_ = (x10_2 ++ [(⟨t279, t280, t281, t282, t283⟩ : S53)]) := ⟨_, rfl⟩
             replace H : (hunks_Make.l0 k3 a2 t246 t249 y286 (x11_2.drop (x12_3 : Int).toNat)) = some (r1, r2) := by first | (rw [hy286]; with_reducible exact H) | (have H2_ := (Option.bind_some _ _).symm.trans H; rw [hy286]; with_reducible exact H2_) | (have H2_ := (Option.bind_some _ _).symm.trans H; with_reducible exact H2_) | with_reducible exact H | (rw [hy286]; exact H) | exact H
             have Ny286 := Aside0.mk hy286
             clear hy286
             have c37b0 := eq_true (of_decide_eq_true (by first | (with_reducible assumption) | assumption) : x12_3 ≤ (x11_2.length : Int))
             obtain ⟨y289, hy289⟩ : ∃ y_ : List (S39), y_ = (x11_2.drop (x12_3 : Int).toNat) := ⟨_, rfl⟩
             replace H : (hunks_Make.l0 k3 a2 t246 t249 y286 y289) = some (r1, r2) := by first | (rw [hy289]; with_reducible exact H) | (have H2_ := (Option.bind_some _ _).symm.trans H; rw [hy289]; with_reducible exact H2_) | (have H2_ := (Option.bind_some _ _).symm.trans H; with_reducible exact H2_) | with_reducible exact H | (rw [hy289]; exact H) | exact H
             have Ny289 := Aside0.mk hy289
             clear hy289
             have H' := Aside0.mk H
             clear H
             have q38 : (x12_3 : Int) ≤ ((x11_2.length : Int) : Int) := of_decide_eq_true (by first | (with_reducible assumption) | assumption)
             obtain ⟨i038, hi038, _, hsz38, _⟩ := info_parts info39
             have hroom38 : x11_2.length ≤ co16 := (Kd.Q_reads' HO_11.out).2.1
             have hC38 : Kd.C k39 _ Ao16 x11_2.length x11_2 := (Kd.Q_reads' HO_11.out).2.2
             have hcut38 := cut_to (P := Try.prog) 34 39 .i64 Try.underlying34 hi038 Ao16 x11_2.length co16 x12_3 (of_decide_eq_true (by first | (with_reducible assumption) | assumption)) q38 hroom38
             have hr38 := Kd.C_take (m := (x12_3 : Int).toNat) hC38 (by omega)
             have hy38 : y275.length = (x12_3 : Int).toNat := (by rw [Ny275.out, List.length_take]; omega)
             rw [← Ny275.out] at hr38
             rw [← hy38] at hcut38
             have HR278 := Aside0.mk hr38
             have HC278 := Aside0.mk (show y275.length ≤ co16 from by omega)
             clear hr38 hC38 hroom38 hi038 hsz38
             have KY38 := Aside0.mk hy38
             clear hy38
             have KL38 := Aside0.mk (show (x12_3 : Int).toNat ≤ x11_2.length from by omega)
             replace q38 := eq_true q38
             go_wp2_with (fail)
             repeat (go_quiet (fail); try go_wp2_with (first | (go_at_call 44; (with_reducible refine (hunks_hunk.calls k3 _ _ t246 _ _ t249 _ _ y275 a2 t279 t280 t281 t282 t283 _ ?side1 ?side2 ?side3 ?side4 ?side5 ?side6 A35.out).mono ?_); (case side1 => repeat (first | exact (Kd.R_reads' HO_8.out).2.2 | (with_reducible refine Kd.C_alloc ?_ _) | (with_reducible refine Kd.C_drewN ?_ _) | (with_reducible refine Kd.C_drew ?_))); (case side2 => exact (Kd.R_reads' HO_8.out).2.1); (case side3 => repeat (first | exact (Kd.R_reads' HO_9.out).2.2 | (with_reducible refine Kd.C_alloc ?_ _) | (with_reducible refine Kd.C_drewN ?_ _) | (with_reducible refine Kd.C_drew ?_))); (case side4 => exact (Kd.R_reads' HO_9.out).2.1); (case side5 => repeat (first | exact (by repeat (first | (with_reducible exact HR278.out) | (with_reducible refine Kd.C_alloc ?_ _) | (with_reducible refine Kd.C_drewN ?_ _) | (with_reducible refine Kd.C_drew ?_) | exact HR278.out)) | (with_reducible refine Kd.C_alloc ?_ _) | (with_reducible refine Kd.C_drewN ?_ _) | (with_reducible refine Kd.C_drew ?_))); (case side6 => exact HC278.out); rintro e w39 ⟨v284, rfl, ho0, hb⟩; have n0_ := Aside0.mk (Kd.R_below (by (with_reducible repeat (first | apply Kd.R_alloc | apply Kd.R_drewN | apply Kd.R_drew)); exact HO_8.out) hb); have n1_ := Aside0.mk (Kd.R_below (by (with_reducible repeat (first | apply Kd.R_alloc | apply Kd.R_drewN | apply Kd.R_drew)); exact HO_9.out) hb); have n2_ := Aside0.mk (Kd.S_elder' (by (with_reducible repeat (first | apply Kd.S_alloc | apply Kd.S_drewN | apply Kd.S_drew)); exact HO_10.out) (Kd.R_base ho0) hb); have n3_ := Aside0.mk (Kd.Q_below (by (with_reducible repeat (first | apply Kd.Q_alloc | apply Kd.Q_drewN | apply Kd.Q_drew)); exact HO_11.out) hb); have n4_ := Aside0.mk (Kd.R_lower ho0 (below_size (by repeat (first | (with_reducible first | exact HB.out | apply below_alloc | apply pw_below_drewN | apply below_drew1) | exact HB.out)))); have n5_ := Aside0.mk (Kd.C_below (by repeat (first | (with_reducible exact HR278.out) | (with_reducible refine Kd.C_alloc ?_ _) | (with_reducible refine Kd.C_drewN ?_ _) | (with_reducible refine Kd.C_drew ?_) | exact HR278.out)) hb); have n6_ := Aside0.mk (below_step (by repeat (first | (with_reducible first | exact HB.out | apply below_alloc | apply pw_below_drewN | apply below_drew1) | exact HB.out)) hb); clear HO_8; clear HO_9; clear HO_10; clear HO_11; clear HR278; clear HB; have HO_8 := n0_; have HO_9 := n1_; have HO_10 := n2_; have HO_11 := n3_; have HO285 := n4_; have HR278 := n5_; have HB := n6_; clear n0_ n1_ n2_ n3_ n4_ n5_ n6_; (try clear hb); (try clear hb2); (try clear hk); (try clear hi); (try clear ho0); obtain ⟨Ao41, co41, eo41⟩ := Kd.R_slice HO285.out; subst eo41) | ((with_reducible refine gate_builtin (b := .append) (xs := #[.tmp 59, .tmp 67]) rfl ?_); at_builtin; refine Kd.S_append k53 (w0 := w) w.heap.size rfl (.tmp 59) (.tmp 67) 44 53 (.agg #[(.int .i64 0), (.int .i64 0), (.int .i64 0), (.int .i64 0), (.slice none 0 0)]) 56 rfl Try.underlying44 info53 rfl (by decide) (by omega) u10 x10_2 (⟨t279, t280, t281, t282, t283⟩ : S53) [.int .i64 t279, .int .i64 t280, .int .i64 t281, .int .i64 t282, .slice Ao41 t283.length co41] (fun _ => True) (fun k_ => some k_ = (.slice Ao41 t283.length co41 : Value).ownBlock) rfl rfl ?aP (fun k_ hk_ => ((Kd.R_mono (ok' := fun k_ => ((fun _ => True)) k_ ∧ some k_ ≠ (u10 : Value).ownBlock) (Kd.R_apart' (HO285.out) (Kd.S_typed HO_10.out) (by decide)) (fun k_ hk => ⟨trivial, hk.2⟩))).1 k_ hk_.symm) ?aF ?aO ?aB ?aS ?aL ?_; (case aP => exact k53_mkM _ _ _ (⟨t279, t280, t281, t282, t283⟩ : S53) (Kd.R_mono (Kd.R_tight rfl (Kd.R_mono (ok' := fun k_ => ((fun _ => True)) k_ ∧ some k_ ≠ (u10 : Value).ownBlock) (Kd.R_apart' (HO285.out) (Kd.S_typed HO_10.out) (by decide)) (fun k_ hk => ⟨trivial, hk.2⟩))) (fun _ h_ => h_))); (case aB => exact (by repeat (first | (with_reducible first | exact HB.out | apply below_alloc | apply pw_below_drewN | apply below_drew1) | exact HB.out))); (case aF => exact (fun _ _ => trivial)); (case aO => exact (by (with_reducible repeat (first | apply Kd.S_alloc | apply Kd.S_drewN | apply Kd.S_drew)); exact Kd.S_mono HO_10.out (fun k_ hk => ⟨trivial, fun e_ => hk.2 e_⟩))); (case aS => exact (below_size (by repeat (first | (with_reducible first | exact HB.out | apply below_alloc | apply pw_below_drewN | apply below_drew1) | exact HB.out)))); (case aL => have := LMc36.out; omega); intro v287 w40 ho hb hg hat; rw [← Ny286.out] at ho; have n0_ := Aside0.mk (Kd.R_over' (by (with_reducible repeat (first | apply Kd.R_alloc | apply Kd.R_drewN | apply Kd.R_drew)); exact HO_8.out) (Kd.S_typed (by (with_reducible repeat (first | apply Kd.S_alloc | apply Kd.S_drewN | apply Kd.S_drew)); exact HO_10.out)) (by decide) hg); have n1_ := Aside0.mk (Kd.R_over' (by (with_reducible repeat (first | apply Kd.R_alloc | apply Kd.R_drewN | apply Kd.R_drew)); exact HO_9.out) (Kd.S_typed (by (with_reducible repeat (first | apply Kd.S_alloc | apply Kd.S_drewN | apply Kd.S_drew)); exact HO_10.out)) (by decide) hg); have n2_ := Aside0.mk (Kd.Q_over' (by (with_reducible repeat (first | apply Kd.Q_alloc | apply Kd.Q_drewN | apply Kd.Q_drew)); exact HO_11.out) (Kd.S_typed (by (with_reducible repeat (first | apply Kd.S_alloc | apply Kd.S_drewN | apply Kd.S_drew)); exact HO_10.out)) (by decide) hg); have n3_ := Aside0.mk (hb); have n4_ := Aside0.mk ((show Kd.C k39 w40 Ao16 y275.length y275 from by rw [Ny275.out]; exact Kd.C_take (m := (x12_3 : Int).toNat) ((Kd.Q_reads' (Kd.Q_over' (by (with_reducible repeat (first | apply Kd.Q_alloc | apply Kd.Q_drewN | apply Kd.Q_drew)); exact HO_11.out) (Kd.S_typed (by (with_reducible repeat (first | apply Kd.S_alloc | apply Kd.S_drewN | apply Kd.S_drew)); exact HO_10.out)) (by decide) hg)).2.2) KL38.out)); have n5_ := Aside0.mk (ho); clear HO_8; clear HO_9; clear HO_11; clear HB; clear HR278; clear HO_10; clear HO285; have HO_8 := n0_; have HO_9 := n1_; have HO_11 := n2_; have HB := n3_; have HR278 := n4_; have HO288 := n5_; clear n0_ n1_ n2_ n3_ n4_ n5_; clear ho hb hg hat; have q42 : (x12_3 : Int) ≤ ((x11_2.length : Int) : Int) := of_decide_eq_true (by first | (with_reducible assumption) | assumption); obtain ⟨i042, hi042, _, hsz42, _⟩ := info_parts info39; have hcut42 := cut_from (P := Try.prog) 34 39 .i64 Try.underlying34 hi042 4 hsz42 Ao16 x11_2.length co16 x12_3 (of_decide_eq_true (by first | (with_reducible assumption) | assumption)) q42; have hr42 := Kd.Q_drop (k := (x12_3 : Int).toNat) HO_11.out (by omega); obtain ⟨A42, hA42⟩ : ∃ A1z_, A1z_ = (if co16 = (x12_3 : Int).toNat then Ao16 else (Ao16 : Option Addr).map (·.add ((x12_3 : Int).toNat * 4))) := ⟨_, rfl⟩; obtain ⟨c42, hc42⟩ : ∃ c1z_, c1z_ = co16 - (x12_3 : Int).toNat := ⟨_, rfl⟩; have hy42 : y289.length = x11_2.length - (x12_3 : Int).toNat := (by rw [Ny289.out, List.length_drop]); rw [← Ny289.out] at hr42; rw [← hy42, ← hA42, ← hc42] at hcut42; replace hr42 : Kd.Q k39 39 w40 w.heap.size (fun _ => True) (.slice A42 y289.length c42) y289 := (by rw [hA42, hc42, hy42]; exact hr42); have HE42 : Aside0 ((Value.slice A42 y289.length c42).ownBlock = (.slice Ao16 x11_2.length co16 : Value).ownBlock) := ⟨by rw [hA42]; split <;> (cases (Ao16 : Option Addr) <;> (first | rfl | (simp only [Option.map, Value.ownBlock, Addr.add]; split <;> rfl)))⟩; clear hy42 hi042 hsz42 HO_11 hA42 hc42; have HO291 := Aside0.mk hr42; clear hr42; replace q42 := eq_true q42)))
             go_roundg k3
             case measure => have := HJ3.out; have := HK2.out; have := HK3.out; omega
             case rel => exact ⟨(y286), (y289), H', ⟨by have := HJ3.out; have := HK2.out; have := HK3.out; omega⟩, ⟨by (with_reducible repeat (first | apply Kd.R_alloc | apply Kd.R_drewN | apply Kd.R_drew)); exact HO_8.out⟩, ⟨by (with_reducible repeat (first | apply Kd.R_alloc | apply Kd.R_drewN | apply Kd.R_drew)); exact HO_9.out⟩, ⟨by (with_reducible repeat (first | apply Kd.S_alloc | apply Kd.S_drewN | apply Kd.S_drew)); exact HO288.out⟩, ⟨by (with_reducible repeat (first | apply Kd.Q_alloc | apply Kd.Q_drewN | apply Kd.Q_drew)); exact HO291.out⟩, ⟨by repeat (first | (with_reducible first | exact HB.out | apply below_alloc | apply pw_below_drewN | apply below_drew1) | exact HB.out)⟩⟩
            ·rw [if_neg c36] at H
             exact absurd H (by simp)
           ·rw [if_neg c34] at H
            exact absurd H (by simp)
          ·rw [if_neg c33] at H
           exact absurd H (by simp)
      ·rw [if_neg c15] at H
       have c15b0 : decide (0 < (x11_2.length : Int)) = false := decide_eq_false c15
       have c15b1 : decide (0 < x11_2.length) = false := decide_eq_false (by omega)
       clear c15
       simp only [Option.some.injEq, Prod.mk.injEq] at H
       obtain ⟨rfl, rfl⟩ := H
       obtain ⟨Ao43, co43, eo43, _⟩ := Kd.Q_slice HO_11.out
       subst eo43
       go_wp2
       repeat (go_quiet (fail); try go_wp2)
       go_ret2
       exact ⟨_, by first | rfl | (simp [errW_none, errW_some] <;> rfl) | (simp [*, errW_none, errW_some] <;> rfl), by (with_reducible repeat (first | apply Kd.S_alloc | apply Kd.S_drewN | apply Kd.S_drew)); exact HO_10.out, by repeat (first | (with_reducible first | exact HB.out | apply below_alloc | apply pw_below_drewN | apply below_drew1) | exact HB.out)⟩

/-! ### redpenlaw19_Awake: function 17 -/
def redpenlaw19_Awake.f (k : Nat)  : Option (Bool) := (const_bytes.f ([97, 10, 98, 10] : List Int)).bind fun t292 => ((const_bytes.f ([97, 10, 99, 10] : List Int)).bind fun t295 => ((hunks_Make.f k t292 t295 1).bind fun bt298 => (if bt298.2 = 0 then (if (bt298.1.length : Int) = 1 then (if 0 < (bt298.1.length : Int) then (if (((rd_T53 bt298.1 0).f4).length : Int) = 3 then (if ((rd_T53 bt298.1 0).f1) = 2 then (if ((rd_T53 bt298.1 0).f3) = 2 then (if 1 < (((rd_T53 bt298.1 0).f4).length : Int) then (some (((rd_T55 ((rd_T53 bt298.1 0).f4) 1).f0) == 45 && ((((rd_T55 ((rd_T53 bt298.1 0).f4) 1).f1).toList) == ([98] : List UInt8) && (!((rd_T55 ((rd_T53 bt298.1 0).f4) 1).f2))))) else (none)) else (some false)) else (some false)) else (some false)) else (none)) else (some false)) else (some false))))
theorem redpenlaw19_Awake.mono : ∀ k, LeO (redpenlaw19_Awake.f k ) (redpenlaw19_Awake.f (k + 1) ) := by
 intro  k
 unfold redpenlaw19_Awake.f
 repeat' first
   | (with_reducible exact hunks_Make.mono _ _ _ _)
   | (with_reducible exact LeO.refl _)
   | (with_reducible exact LeO.none _)
   | (with_reducible refine LeO.ite ?_ ?_)
   | (with_reducible refine LeO.bind ?_ (fun _ => ?_))
   | exact hunks_Make.mono _ _ _ _
   | exact LeO.none _
   | refine LeO.ite ?_ ?_
   | refine LeO.bind ?_ (fun _ => ?_)
set_option maxHeartbeats 8000000 in
set_option maxRecDepth 100000 in
theorem redpenlaw19_Awake.calls (k : Nat)  (r : Bool) (w : World) (h : redpenlaw19_Awake.f k  = some r) :
  Calls Try.prog 17 #[] w fun e w' => e = .returned (.bool r) ∧ Below w.heap.size w w' := by
 have hu55 := Try.underlying55
 have HB := Aside0.mk (Below.refl w.heap.size w)
 have H : ((const_bytes.f ([97, 10, 98, 10] : List Int)).bind fun t292 => ((const_bytes.f ([97, 10, 99, 10] : List Int)).bind fun t295 => ((hunks_Make.f k t292 t295 1).bind fun bt298 => (if bt298.2 = 0 then (if (bt298.1.length : Int) = 1 then (if 0 < (bt298.1.length : Int) then (if (((rd_T53 bt298.1 0).f4).length : Int) = 3 then (if ((rd_T53 bt298.1 0).f1) = 2 then (if ((rd_T53 bt298.1 0).f3) = 2 then (if 1 < (((rd_T53 bt298.1 0).f4).length : Int) then (some (((rd_T55 ((rd_T53 bt298.1 0).f4) 1).f0) == 45 && ((((rd_T55 ((rd_T53 bt298.1 0).f4) 1).f1).toList) == ([98] : List UInt8) && (!((rd_T55 ((rd_T53 bt298.1 0).f4) 1).f2))))) else (none)) else (some false)) else (some false)) else (some false)) else (none)) else (some false)) else (some false))))) = some r := h
 clear h
 replace H := Option.bind_eq_some_iff.mp H
 obtain ⟨t292, A10, H⟩ := H
 replace H : ((const_bytes.f ([97, 10, 99, 10] : List Int)).bind fun t295 => ((hunks_Make.f k t292 t295 1).bind fun bt298 => (if bt298.2 = 0 then (if (bt298.1.length : Int) = 1 then (if 0 < (bt298.1.length : Int) then (if (((rd_T53 bt298.1 0).f4).length : Int) = 3 then (if ((rd_T53 bt298.1 0).f1) = 2 then (if ((rd_T53 bt298.1 0).f3) = 2 then (if 1 < (((rd_T53 bt298.1 0).f4).length : Int) then (some (((rd_T55 ((rd_T53 bt298.1 0).f4) 1).f0) == 45 && ((((rd_T55 ((rd_T53 bt298.1 0).f4) 1).f1).toList) == ([98] : List UInt8) && (!((rd_T55 ((rd_T53 bt298.1 0).f4) 1).f2))))) else (none)) else (some false)) else (some false)) else (some false)) else (none)) else (some false)) else (some false)))) = some r := H
 have A1 := Aside0.mk A10
 clear A10
 replace H := Option.bind_eq_some_iff.mp H
 obtain ⟨t295, A20, H⟩ := H
 replace H : ((hunks_Make.f k t292 t295 1).bind fun bt298 => (if bt298.2 = 0 then (if (bt298.1.length : Int) = 1 then (if 0 < (bt298.1.length : Int) then (if (((rd_T53 bt298.1 0).f4).length : Int) = 3 then (if ((rd_T53 bt298.1 0).f1) = 2 then (if ((rd_T53 bt298.1 0).f3) = 2 then (if 1 < (((rd_T53 bt298.1 0).f4).length : Int) then (some (((rd_T55 ((rd_T53 bt298.1 0).f4) 1).f0) == 45 && ((((rd_T55 ((rd_T53 bt298.1 0).f4) 1).f1).toList) == ([98] : List UInt8) && (!((rd_T55 ((rd_T53 bt298.1 0).f4) 1).f2))))) else (none)) else (some false)) else (some false)) else (some false)) else (none)) else (some false)) else (some false))) = some r := H
 have A2 := Aside0.mk A20
 clear A20
 replace H := Option.bind_eq_some_iff.mp H
 obtain ⟨⟨t298, t299⟩, A30, H⟩ := H
 replace H : (if t299 = 0 then (if (t298.length : Int) = 1 then (if 0 < (t298.length : Int) then (if (((rd_T53 t298 0).f4).length : Int) = 3 then (if ((rd_T53 t298 0).f1) = 2 then (if ((rd_T53 t298 0).f3) = 2 then (if 1 < (((rd_T53 t298 0).f4).length : Int) then (some (((rd_T55 ((rd_T53 t298 0).f4) 1).f0) == 45 && ((((rd_T55 ((rd_T53 t298 0).f4) 1).f1).toList) == ([98] : List UInt8) && (!((rd_T55 ((rd_T53 t298 0).f4) 1).f2))))) else (none)) else (some false)) else (some false)) else (some false)) else (none)) else (some false)) else (some false)) = some r := H
 have A3 := Aside0.mk A30
 clear A30
 by_cases c4 : t299 = 0
 ·rw [if_pos c4] at H
  have c4b0 : (t299 == 0) = true := beq_iff_eq.mpr c4
  have c4b1 : (t299 != 0) = false := bne_eq_false_iff_eq.mpr c4
  clear c4
  by_cases c5 : (t298.length : Int) = 1
  ·rw [if_pos c5] at H
   have c5b0 : ((t298.length : Int) == 1) = true := beq_iff_eq.mpr c5
   have c5b1 : ((t298.length : Int) != 1) = false := bne_eq_false_iff_eq.mpr c5
   clear c5
   by_cases c6 : 0 < (t298.length : Int)
   ·rw [if_pos c6] at H
    have c6b0 : decide (0 < (t298.length : Int)) = true := decide_eq_true c6
    have c6b1 : decide (0 < t298.length) = true := decide_eq_true (by omega)
    clear c6
    by_cases c7 : (((rd_T53 t298 0).f4).length : Int) = 3
    ·rw [if_pos c7] at H
     have c7b0 : ((((rd_T53 t298 0).f4).length : Int) == 3) = true := beq_iff_eq.mpr c7
     have c7b1 : ((((rd_T53 t298 0).f4).length : Int) != 3) = false := bne_eq_false_iff_eq.mpr c7
     clear c7
     by_cases c8 : ((rd_T53 t298 0).f1) = 2
     ·rw [if_pos c8] at H
      have c8b0 : (((rd_T53 t298 0).f1) == 2) = true := beq_iff_eq.mpr c8
      have c8b1 : (((rd_T53 t298 0).f1) != 2) = false := bne_eq_false_iff_eq.mpr c8
      clear c8
      by_cases c9 : ((rd_T53 t298 0).f3) = 2
      ·rw [if_pos c9] at H
       have c9b0 : (((rd_T53 t298 0).f3) == 2) = true := beq_iff_eq.mpr c9
       have c9b1 : (((rd_T53 t298 0).f3) != 2) = false := bne_eq_false_iff_eq.mpr c9
       clear c9
       by_cases c10 : 1 < (((rd_T53 t298 0).f4).length : Int)
       ·rw [if_pos c10] at H
        have c10b0 : decide (1 < (((rd_T53 t298 0).f4).length : Int)) = true := decide_eq_true c10
        have c10b1 : decide (1 < ((rd_T53 t298 0).f4).length) = true := decide_eq_true (by omega)
        clear c10
        obtain rfl := Option.some.inj H
        go_enter Try.func17, Try.ntmps17
        go_wp2_with (first | ((with_reducible refine gate_dst (N := 5) rfl ?_); (try (refine gate_guard (by rfl) ?_; dsimp only)); refine const_goes (N := some 5) rfl rfl (a0 := ([97, 10, 98, 10] : List Int)) rfl (by first | rfl | (simp; done)) (by first | rfl | (simp; done)) (by first | rfl | (simp; done)) Try.underlying24 Try.underlying5 ?_; (with_reducible refine (const_bytes.calls ([97, 10, 98, 10] : List Int) t292 _ A1.out).mono ?_); rintro e w11 ⟨v293, rfl, ho0, hb⟩; refine ⟨_, rfl, ?_⟩; have n0_ := Aside0.mk (Kd.V_lower (Kd.V_mono (ok' := fun k_ => True) ho0 (fun k_ hk_ => trivial)) (below_size (by repeat (first | (with_reducible first | exact HB.out | apply below_alloc | apply pw_below_drewN | apply below_drew1) | exact HB.out)))); have n1_ := Aside0.mk (below_step (by repeat (first | (with_reducible first | exact HB.out | apply below_alloc | apply pw_below_drewN | apply below_drew1) | exact HB.out)) hb); clear HB; have HO294 := n0_; have HB := n1_; clear n0_ n1_; (try clear hb); (try clear hb2); (try clear hk); (try clear hi); (try clear ho0)) | ((with_reducible refine gate_dst (N := 7) rfl ?_); (try (refine gate_guard (by rfl) ?_; dsimp only)); refine const_goes (N := some 7) rfl rfl (a0 := ([97, 10, 99, 10] : List Int)) rfl (by first | rfl | (simp; done)) (by first | rfl | (simp; done)) (by first | rfl | (simp; done)) Try.underlying24 Try.underlying5 ?_; (with_reducible refine (const_bytes.calls ([97, 10, 99, 10] : List Int) t295 _ A2.out).mono ?_); rintro e w12 ⟨v296, rfl, ho0, hb⟩; refine ⟨_, rfl, ?_⟩; have n0_ := Aside0.mk (Kd.V_below (by (with_reducible repeat (first | apply Kd.V_alloc | apply Kd.V_drewN | apply Kd.V_drew)); exact HO294.out) hb); have n1_ := Aside0.mk (Kd.V_lower (Kd.V_mono (ok' := fun k_ => True) ho0 (fun k_ hk_ => trivial)) (below_size (by repeat (first | (with_reducible first | exact HB.out | apply below_alloc | apply pw_below_drewN | apply below_drew1) | exact HB.out)))); have n2_ := Aside0.mk (below_step (by repeat (first | (with_reducible first | exact HB.out | apply below_alloc | apply pw_below_drewN | apply below_drew1) | exact HB.out)) hb); clear HO294; clear HB; have HO294 := n0_; have HO297 := n1_; have HB := n2_; clear n0_ n1_ n2_; (try clear hb); (try clear hb2); (try clear hk); (try clear hi); (try clear ho0); obtain ⟨Ao13, co13, eo13⟩ := Kd.V_slice HO294.out; subst eo13; obtain ⟨Ao14, co14, eo14⟩ := Kd.V_slice HO297.out; subst eo14) | ((with_reducible refine gate_callee (f := 22) rfl ?_); refine goesL_ (some 8) rfl rfl Try.func22 (by kernel_rfl) rfl #[.slice Ao13 t292.length co13, .slice Ao14 t295.length co14, .int .i64 1] rfl (by (try simp only [List.map_toArray, List.map_cons, List.map_nil]); first | done | rfl | (simp only [List.length_drop, List.length_take]; rfl)) ?_; (with_reducible refine (hunks_Make.calls k _ _ t292 _ _ t295 1 t298 t299 _ ?side1 ?side2 ?side3 ?side4 A3.out).mono ?_); (case side1 => repeat (first | exact (Kd.V_reads' HO294.out).2.2 | (with_reducible refine Kd.C_alloc ?_ _) | (with_reducible refine Kd.C_drewN ?_ _) | (with_reducible refine Kd.C_drew ?_))); (case side2 => exact (Kd.V_reads' HO294.out).2.1); (case side3 => repeat (first | exact (Kd.V_reads' HO297.out).2.2 | (with_reducible refine Kd.C_alloc ?_ _) | (with_reducible refine Kd.C_drewN ?_ _) | (with_reducible refine Kd.C_drew ?_))); (case side4 => exact (Kd.V_reads' HO297.out).2.1); rintro e w15 ⟨v300, rfl, ho0, hb⟩; refine ⟨_, rfl, ?_⟩; have n0_ := Aside0.mk (Kd.V_elder' (by (with_reducible repeat (first | apply Kd.V_alloc | apply Kd.V_drewN | apply Kd.V_drew)); exact HO294.out) (Kd.S_base ho0) hb); have n1_ := Aside0.mk (Kd.V_elder' (by (with_reducible repeat (first | apply Kd.V_alloc | apply Kd.V_drewN | apply Kd.V_drew)); exact HO297.out) (Kd.S_base ho0) hb); have n2_ := Aside0.mk (Kd.S_lower ho0 (below_size (by repeat (first | (with_reducible first | exact HB.out | apply below_alloc | apply pw_below_drewN | apply below_drew1) | exact HB.out)))); have n3_ := Aside0.mk (below_step (by repeat (first | (with_reducible first | exact HB.out | apply below_alloc | apply pw_below_drewN | apply below_drew1) | exact HB.out)) hb); clear HO294; clear HO297; clear HB; have HO294 := n0_; have HO297 := n1_; have HO301 := n2_; have HB := n3_; clear n0_ n1_ n2_ n3_; (try clear hb); (try clear hb2); (try clear hk); (try clear hi); (try clear ho0); obtain ⟨Ao16, co16, eo16⟩ := Kd.S_slice HO301.out; subst eo16; have p302 : 0 ≤ (0 : Int) := (by omega); have q302 : 0 < (t298.length : Int) := of_decide_eq_true (by first | (with_reducible assumption) | assumption); obtain ⟨ad302, A302_4, c302_4, e302, hx302_0, hx302_1, hx302_2, hx302_3, hx302_4, hl302_4, hi302_4⟩ := at_T53 (Kd.S_reads' HO301.out).2.2 0 p302 q302; cases e302; obtain ⟨ce302, hce302, hMe302, hcc302⟩ := Kd.S_get HO301.out z53 0 p302 (by first | exact q302 | exact of_decide_eq_true (by first | (with_reducible assumption) | assumption) | (have e_ := (Kd.S_reads' HO301.out).1; omega)); obtain ⟨ve302_4, rfl, ge302_4⟩ := k53_openM hMe302; have hv302_4 := hcc302 4 _ rfl; rw [add_field _ _ 4 (by omega)] at hv302_4; replace hv302_4 := Option.some.inj (hv302_4.symm.trans hx302_4); rw [hv302_4] at ge302_4; have HL302_4 := Aside0.mk (show Kd.R k55 55 _ _ _ _ ((rd_T53 t298 0).f4) from ge302_4); clear hv302_4 ge302_4; clear hcc302 hce302; have qi302 : (0 < t298.length) = True := eq_true (by omega); (try rw [show ((0 : Int)).toNat = 0 from rfl] at hx302_0); (try rw [show 0 * 5 = 0 from rfl] at hx302_0); (try rw [Addr.add_zero'] at hx302_0); (try rw [show ((0 : Int)).toNat = 0 from rfl] at hx302_1); (try rw [show 0 * 5 = 0 from rfl] at hx302_1); (try rw [Addr.add_zero'] at hx302_1); (try rw [show ((0 : Int)).toNat = 0 from rfl] at hx302_2); (try rw [show 0 * 5 = 0 from rfl] at hx302_2); (try rw [Addr.add_zero'] at hx302_2); (try rw [show ((0 : Int)).toNat = 0 from rfl] at hx302_3); (try rw [show 0 * 5 = 0 from rfl] at hx302_3); (try rw [Addr.add_zero'] at hx302_3); (try rw [show ((0 : Int)).toNat = 0 from rfl] at hx302_4); (try rw [show 0 * 5 = 0 from rfl] at hx302_4); (try rw [Addr.add_zero'] at hx302_4); have HR302_4 := Aside0.mk hi302_4; have HC302_4 := Aside0.mk hl302_4; clear hi302_4 hl302_4; replace p302 := eq_true p302; replace q302 := eq_true q302; have p303 : 0 ≤ (0 : Int) := (by omega); have q303 : 0 < (t298.length : Int) := of_decide_eq_true (by first | (with_reducible assumption) | assumption); obtain ⟨ad303, A303_4, c303_4, e303, hx303_0, hx303_1, hx303_2, hx303_3, hx303_4, hl303_4, hi303_4⟩ := at_T53 (Kd.S_reads' HO301.out).2.2 0 p303 q303; obtain rfl : ad302 = ad303 := (by injection e303); obtain ⟨ce303, hce303, hMe303, hcc303⟩ := Kd.S_get HO301.out z53 0 p303 (by first | exact q303 | exact of_decide_eq_true (by first | (with_reducible assumption) | assumption) | (have e_ := (Kd.S_reads' HO301.out).1; omega)); obtain ⟨ve303_4, rfl, ge303_4⟩ := k53_openM hMe303; have hv303_4 := hcc303 4 _ rfl; rw [add_field _ _ 4 (by omega)] at hv303_4; replace hv303_4 := Option.some.inj (hv303_4.symm.trans hx303_4); rw [hv303_4] at ge303_4; have HL303_4 := Aside0.mk (show Kd.R k55 55 _ _ _ _ ((rd_T53 t298 0).f4) from ge303_4); clear hv303_4 ge303_4; clear hcc303 hce303; have qi303 : (0 < t298.length) = True := eq_true (by omega); (try rw [show ((0 : Int)).toNat = 0 from rfl] at hx303_0); (try rw [show 0 * 5 = 0 from rfl] at hx303_0); (try rw [Addr.add_zero'] at hx303_0); (try rw [show ((0 : Int)).toNat = 0 from rfl] at hx303_1); (try rw [show 0 * 5 = 0 from rfl] at hx303_1); (try rw [Addr.add_zero'] at hx303_1); (try rw [show ((0 : Int)).toNat = 0 from rfl] at hx303_2); (try rw [show 0 * 5 = 0 from rfl] at hx303_2); (try rw [Addr.add_zero'] at hx303_2); (try rw [show ((0 : Int)).toNat = 0 from rfl] at hx303_3); (try rw [show 0 * 5 = 0 from rfl] at hx303_3); (try rw [Addr.add_zero'] at hx303_3); (try rw [show ((0 : Int)).toNat = 0 from rfl] at hx303_4); (try rw [show 0 * 5 = 0 from rfl] at hx303_4); (try rw [Addr.add_zero'] at hx303_4); have HR303_4 := Aside0.mk hi303_4; have HC303_4 := Aside0.mk hl303_4; clear hi303_4 hl303_4; replace p303 := eq_true p303; replace q303 := eq_true q303; have ea_ := Option.some.inj (hx302_4.symm.trans hx303_4); injection ea_ with ea_ en_ ec_; subst ea_; subst ec_; clear en_; have p304 : 0 ≤ (0 : Int) := (by omega); have q304 : 0 < (t298.length : Int) := of_decide_eq_true (by first | (with_reducible assumption) | assumption); obtain ⟨ad304, A304_4, c304_4, e304, hx304_0, hx304_1, hx304_2, hx304_3, hx304_4, hl304_4, hi304_4⟩ := at_T53 (Kd.S_reads' HO301.out).2.2 0 p304 q304; obtain rfl : ad302 = ad304 := (by injection e304); obtain ⟨ce304, hce304, hMe304, hcc304⟩ := Kd.S_get HO301.out z53 0 p304 (by first | exact q304 | exact of_decide_eq_true (by first | (with_reducible assumption) | assumption) | (have e_ := (Kd.S_reads' HO301.out).1; omega)); obtain ⟨ve304_4, rfl, ge304_4⟩ := k53_openM hMe304; have hv304_4 := hcc304 4 _ rfl; rw [add_field _ _ 4 (by omega)] at hv304_4; replace hv304_4 := Option.some.inj (hv304_4.symm.trans hx304_4); rw [hv304_4] at ge304_4; have HL304_4 := Aside0.mk (show Kd.R k55 55 _ _ _ _ ((rd_T53 t298 0).f4) from ge304_4); clear hv304_4 ge304_4; clear hcc304 hce304; have qi304 : (0 < t298.length) = True := eq_true (by omega); (try rw [show ((0 : Int)).toNat = 0 from rfl] at hx304_0); (try rw [show 0 * 5 = 0 from rfl] at hx304_0); (try rw [Addr.add_zero'] at hx304_0); (try rw [show ((0 : Int)).toNat = 0 from rfl] at hx304_1); (try rw [show 0 * 5 = 0 from rfl] at hx304_1); (try rw [Addr.add_zero'] at hx304_1); (try rw [show ((0 : Int)).toNat = 0 from rfl] at hx304_2); (try rw [show 0 * 5 = 0 from rfl] at hx304_2); (try rw [Addr.add_zero'] at hx304_2); (try rw [show ((0 : Int)).toNat = 0 from rfl] at hx304_3); (try rw [show 0 * 5 = 0 from rfl] at hx304_3); (try rw [Addr.add_zero'] at hx304_3); (try rw [show ((0 : Int)).toNat = 0 from rfl] at hx304_4); (try rw [show 0 * 5 = 0 from rfl] at hx304_4); (try rw [Addr.add_zero'] at hx304_4); have HR304_4 := Aside0.mk hi304_4; have HC304_4 := Aside0.mk hl304_4; clear hi304_4 hl304_4; replace p304 := eq_true p304; replace q304 := eq_true q304; have ea_ := Option.some.inj (hx302_4.symm.trans hx304_4); injection ea_ with ea_ en_ ec_; subst ea_; subst ec_; clear en_; have p305 : 0 ≤ (0 : Int) := (by omega); have q305 : 0 < (t298.length : Int) := of_decide_eq_true (by first | (with_reducible assumption) | assumption); obtain ⟨ad305, A305_4, c305_4, e305, hx305_0, hx305_1, hx305_2, hx305_3, hx305_4, hl305_4, hi305_4⟩ := at_T53 (Kd.S_reads' HO301.out).2.2 0 p305 q305; obtain rfl : ad302 = ad305 := (by injection e305); obtain ⟨ce305, hce305, hMe305, hcc305⟩ := Kd.S_get HO301.out z53 0 p305 (by first | exact q305 | exact of_decide_eq_true (by first | (with_reducible assumption) | assumption) | (have e_ := (Kd.S_reads' HO301.out).1; omega)); obtain ⟨ve305_4, rfl, ge305_4⟩ := k53_openM hMe305; have hv305_4 := hcc305 4 _ rfl; rw [add_field _ _ 4 (by omega)] at hv305_4; replace hv305_4 := Option.some.inj (hv305_4.symm.trans hx305_4); rw [hv305_4] at ge305_4; have HL305_4 := Aside0.mk (show Kd.R k55 55 _ _ _ _ ((rd_T53 t298 0).f4) from ge305_4); clear hv305_4 ge305_4; clear hcc305 hce305; have qi305 : (0 < t298.length) = True := eq_true (by omega); (try rw [show ((0 : Int)).toNat = 0 from rfl] at hx305_0); (try rw [show 0 * 5 = 0 from rfl] at hx305_0); (try rw [Addr.add_zero'] at hx305_0); (try rw [show ((0 : Int)).toNat = 0 from rfl] at hx305_1); (try rw [show 0 * 5 = 0 from rfl] at hx305_1); (try rw [Addr.add_zero'] at hx305_1); (try rw [show ((0 : Int)).toNat = 0 from rfl] at hx305_2); (try rw [show 0 * 5 = 0 from rfl] at hx305_2); (try rw [Addr.add_zero'] at hx305_2); (try rw [show ((0 : Int)).toNat = 0 from rfl] at hx305_3); (try rw [show 0 * 5 = 0 from rfl] at hx305_3); (try rw [Addr.add_zero'] at hx305_3); (try rw [show ((0 : Int)).toNat = 0 from rfl] at hx305_4); (try rw [show 0 * 5 = 0 from rfl] at hx305_4); (try rw [Addr.add_zero'] at hx305_4); have HR305_4 := Aside0.mk hi305_4; have HC305_4 := Aside0.mk hl305_4; clear hi305_4 hl305_4; replace p305 := eq_true p305; replace q305 := eq_true q305; have ea_ := Option.some.inj (hx302_4.symm.trans hx305_4); injection ea_ with ea_ en_ ec_; subst ea_; subst ec_; clear en_; have p306 : 0 ≤ (1 : Int) := (by omega); have q306 : 1 < (((rd_T53 t298 0).f4).length : Int) := of_decide_eq_true (by first | (with_reducible assumption) | assumption); obtain ⟨ad306, e306, hx306_0, hx306_1, hx306_2⟩ := at_T55 (by repeat (first | (with_reducible exact HR305_4.out) | (with_reducible refine Kd.C_alloc ?_ _) | (with_reducible refine Kd.C_drewN ?_ _) | (with_reducible refine Kd.C_drew ?_) | exact HR305_4.out)) 1 p306 q306; cases e306; (try simp only [show (1 : Int).toNat = 1 from rfl, Nat.reduceMul, Nat.reduceEqDiff, Go.Addr.add, ↓reduceIte] at hx306_0); (try simp only [show (1 : Int).toNat = 1 from rfl, Nat.reduceMul, Nat.reduceEqDiff, Go.Addr.add, ↓reduceIte] at hx306_1); (try simp only [show (1 : Int).toNat = 1 from rfl, Nat.reduceMul, Nat.reduceEqDiff, Go.Addr.add, ↓reduceIte] at hx306_2); have qi306 : (1 < ((rd_T53 t298 0).f4).length) = True := eq_true (by omega); (try rw [show ((1 : Int)).toNat = 1 from rfl] at hx306_0); (try rw [show 1 * 3 = 3 from rfl] at hx306_0); (try rw [show ((1 : Int)).toNat = 1 from rfl] at hx306_1); (try rw [show 1 * 3 = 3 from rfl] at hx306_1); (try rw [show ((1 : Int)).toNat = 1 from rfl] at hx306_2); (try rw [show 1 * 3 = 3 from rfl] at hx306_2); replace p306 := eq_true p306; replace q306 := eq_true q306))
        go_ret
        exact ⟨by first | rfl | (simp [errW_none, errW_some] <;> rfl) | (simp [*, errW_none, errW_some] <;> rfl), by repeat (first | (with_reducible first | exact HB.out | apply below_alloc | apply pw_below_drewN | apply below_drew1) | exact HB.out)⟩
       ·rw [if_neg c10] at H
        exact absurd H (by simp)
      ·rw [if_neg c9] at H
       have c9b0 : (((rd_T53 t298 0).f3) == 2) = false := beq_eq_false_iff_ne.mpr c9
       have c9b1 : (((rd_T53 t298 0).f3) != 2) = true := bne_iff_ne.mpr c9
       obtain rfl := Option.some.inj H
       go_enter Try.func17, Try.ntmps17
       go_wp2_with (first | ((with_reducible refine gate_dst (N := 5) rfl ?_); (try (refine gate_guard (by rfl) ?_; dsimp only)); refine const_goes (N := some 5) rfl rfl (a0 := ([97, 10, 98, 10] : List Int)) rfl (by first | rfl | (simp; done)) (by first | rfl | (simp; done)) (by first | rfl | (simp; done)) Try.underlying24 Try.underlying5 ?_; (with_reducible refine (const_bytes.calls ([97, 10, 98, 10] : List Int) t292 _ A1.out).mono ?_); rintro e w17 ⟨v293, rfl, ho0, hb⟩; refine ⟨_, rfl, ?_⟩; have n0_ := Aside0.mk (Kd.V_lower (Kd.V_mono (ok' := fun k_ => True) ho0 (fun k_ hk_ => trivial)) (below_size (by repeat (first | (with_reducible first | exact HB.out | apply below_alloc | apply pw_below_drewN | apply below_drew1) | exact HB.out)))); have n1_ := Aside0.mk (below_step (by repeat (first | (with_reducible first | exact HB.out | apply below_alloc | apply pw_below_drewN | apply below_drew1) | exact HB.out)) hb); clear HB; have HO294 := n0_; have HB := n1_; clear n0_ n1_; (try clear hb); (try clear hb2); (try clear hk); (try clear hi); (try clear ho0)) | ((with_reducible refine gate_dst (N := 7) rfl ?_); (try (refine gate_guard (by rfl) ?_; dsimp only)); refine const_goes (N := some 7) rfl rfl (a0 := ([97, 10, 99, 10] : List Int)) rfl (by first | rfl | (simp; done)) (by first | rfl | (simp; done)) (by first | rfl | (simp; done)) Try.underlying24 Try.underlying5 ?_; (with_reducible refine (const_bytes.calls ([97, 10, 99, 10] : List Int) t295 _ A2.out).mono ?_); rintro e w18 ⟨v296, rfl, ho0, hb⟩; refine ⟨_, rfl, ?_⟩; have n0_ := Aside0.mk (Kd.V_below (by (with_reducible repeat (first | apply Kd.V_alloc | apply Kd.V_drewN | apply Kd.V_drew)); exact HO294.out) hb); have n1_ := Aside0.mk (Kd.V_lower (Kd.V_mono (ok' := fun k_ => True) ho0 (fun k_ hk_ => trivial)) (below_size (by repeat (first | (with_reducible first | exact HB.out | apply below_alloc | apply pw_below_drewN | apply below_drew1) | exact HB.out)))); have n2_ := Aside0.mk (below_step (by repeat (first | (with_reducible first | exact HB.out | apply below_alloc | apply pw_below_drewN | apply below_drew1) | exact HB.out)) hb); clear HO294; clear HB; have HO294 := n0_; have HO297 := n1_; have HB := n2_; clear n0_ n1_ n2_; (try clear hb); (try clear hb2); (try clear hk); (try clear hi); (try clear ho0); obtain ⟨Ao19, co19, eo19⟩ := Kd.V_slice HO294.out; subst eo19; obtain ⟨Ao20, co20, eo20⟩ := Kd.V_slice HO297.out; subst eo20) | ((with_reducible refine gate_callee (f := 22) rfl ?_); refine goesL_ (some 8) rfl rfl Try.func22 (by kernel_rfl) rfl #[.slice Ao19 t292.length co19, .slice Ao20 t295.length co20, .int .i64 1] rfl (by (try simp only [List.map_toArray, List.map_cons, List.map_nil]); first | done | rfl | (simp only [List.length_drop, List.length_take]; rfl)) ?_; (with_reducible refine (hunks_Make.calls k _ _ t292 _ _ t295 1 t298 t299 _ ?side1 ?side2 ?side3 ?side4 A3.out).mono ?_); (case side1 => repeat (first | exact (Kd.V_reads' HO294.out).2.2 | (with_reducible refine Kd.C_alloc ?_ _) | (with_reducible refine Kd.C_drewN ?_ _) | (with_reducible refine Kd.C_drew ?_))); (case side2 => exact (Kd.V_reads' HO294.out).2.1); (case side3 => repeat (first | exact (Kd.V_reads' HO297.out).2.2 | (with_reducible refine Kd.C_alloc ?_ _) | (with_reducible refine Kd.C_drewN ?_ _) | (with_reducible refine Kd.C_drew ?_))); (case side4 => exact (Kd.V_reads' HO297.out).2.1); rintro e w21 ⟨v300, rfl, ho0, hb⟩; refine ⟨_, rfl, ?_⟩; have n0_ := Aside0.mk (Kd.V_elder' (by (with_reducible repeat (first | apply Kd.V_alloc | apply Kd.V_drewN | apply Kd.V_drew)); exact HO294.out) (Kd.S_base ho0) hb); have n1_ := Aside0.mk (Kd.V_elder' (by (with_reducible repeat (first | apply Kd.V_alloc | apply Kd.V_drewN | apply Kd.V_drew)); exact HO297.out) (Kd.S_base ho0) hb); have n2_ := Aside0.mk (Kd.S_lower ho0 (below_size (by repeat (first | (with_reducible first | exact HB.out | apply below_alloc | apply pw_below_drewN | apply below_drew1) | exact HB.out)))); have n3_ := Aside0.mk (below_step (by repeat (first | (with_reducible first | exact HB.out | apply below_alloc | apply pw_below_drewN | apply below_drew1) | exact HB.out)) hb); clear HO294; clear HO297; clear HB; have HO294 := n0_; have HO297 := n1_; have HO301 := n2_; have HB := n3_; clear n0_ n1_ n2_ n3_; (try clear hb); (try clear hb2); (try clear hk); (try clear hi); (try clear ho0); obtain ⟨Ao22, co22, eo22⟩ := Kd.S_slice HO301.out; subst eo22; have p302 : 0 ≤ (0 : Int) := (by omega); have q302 : 0 < (t298.length : Int) := of_decide_eq_true (by first | (with_reducible assumption) | assumption); obtain ⟨ad302, A302_4, c302_4, e302, hx302_0, hx302_1, hx302_2, hx302_3, hx302_4, hl302_4, hi302_4⟩ := at_T53 (Kd.S_reads' HO301.out).2.2 0 p302 q302; cases e302; obtain ⟨ce302, hce302, hMe302, hcc302⟩ := Kd.S_get HO301.out z53 0 p302 (by first | exact q302 | exact of_decide_eq_true (by first | (with_reducible assumption) | assumption) | (have e_ := (Kd.S_reads' HO301.out).1; omega)); obtain ⟨ve302_4, rfl, ge302_4⟩ := k53_openM hMe302; have hv302_4 := hcc302 4 _ rfl; rw [add_field _ _ 4 (by omega)] at hv302_4; replace hv302_4 := Option.some.inj (hv302_4.symm.trans hx302_4); rw [hv302_4] at ge302_4; have HL302_4 := Aside0.mk (show Kd.R k55 55 _ _ _ _ ((rd_T53 t298 0).f4) from ge302_4); clear hv302_4 ge302_4; clear hcc302 hce302; have qi302 : (0 < t298.length) = True := eq_true (by omega); (try rw [show ((0 : Int)).toNat = 0 from rfl] at hx302_0); (try rw [show 0 * 5 = 0 from rfl] at hx302_0); (try rw [Addr.add_zero'] at hx302_0); (try rw [show ((0 : Int)).toNat = 0 from rfl] at hx302_1); (try rw [show 0 * 5 = 0 from rfl] at hx302_1); (try rw [Addr.add_zero'] at hx302_1); (try rw [show ((0 : Int)).toNat = 0 from rfl] at hx302_2); (try rw [show 0 * 5 = 0 from rfl] at hx302_2); (try rw [Addr.add_zero'] at hx302_2); (try rw [show ((0 : Int)).toNat = 0 from rfl] at hx302_3); (try rw [show 0 * 5 = 0 from rfl] at hx302_3); (try rw [Addr.add_zero'] at hx302_3); (try rw [show ((0 : Int)).toNat = 0 from rfl] at hx302_4); (try rw [show 0 * 5 = 0 from rfl] at hx302_4); (try rw [Addr.add_zero'] at hx302_4); have HR302_4 := Aside0.mk hi302_4; have HC302_4 := Aside0.mk hl302_4; clear hi302_4 hl302_4; replace p302 := eq_true p302; replace q302 := eq_true q302; have p303 : 0 ≤ (0 : Int) := (by omega); have q303 : 0 < (t298.length : Int) := of_decide_eq_true (by first | (with_reducible assumption) | assumption); obtain ⟨ad303, A303_4, c303_4, e303, hx303_0, hx303_1, hx303_2, hx303_3, hx303_4, hl303_4, hi303_4⟩ := at_T53 (Kd.S_reads' HO301.out).2.2 0 p303 q303; obtain rfl : ad302 = ad303 := (by injection e303); obtain ⟨ce303, hce303, hMe303, hcc303⟩ := Kd.S_get HO301.out z53 0 p303 (by first | exact q303 | exact of_decide_eq_true (by first | (with_reducible assumption) | assumption) | (have e_ := (Kd.S_reads' HO301.out).1; omega)); obtain ⟨ve303_4, rfl, ge303_4⟩ := k53_openM hMe303; have hv303_4 := hcc303 4 _ rfl; rw [add_field _ _ 4 (by omega)] at hv303_4; replace hv303_4 := Option.some.inj (hv303_4.symm.trans hx303_4); rw [hv303_4] at ge303_4; have HL303_4 := Aside0.mk (show Kd.R k55 55 _ _ _ _ ((rd_T53 t298 0).f4) from ge303_4); clear hv303_4 ge303_4; clear hcc303 hce303; have qi303 : (0 < t298.length) = True := eq_true (by omega); (try rw [show ((0 : Int)).toNat = 0 from rfl] at hx303_0); (try rw [show 0 * 5 = 0 from rfl] at hx303_0); (try rw [Addr.add_zero'] at hx303_0); (try rw [show ((0 : Int)).toNat = 0 from rfl] at hx303_1); (try rw [show 0 * 5 = 0 from rfl] at hx303_1); (try rw [Addr.add_zero'] at hx303_1); (try rw [show ((0 : Int)).toNat = 0 from rfl] at hx303_2); (try rw [show 0 * 5 = 0 from rfl] at hx303_2); (try rw [Addr.add_zero'] at hx303_2); (try rw [show ((0 : Int)).toNat = 0 from rfl] at hx303_3); (try rw [show 0 * 5 = 0 from rfl] at hx303_3); (try rw [Addr.add_zero'] at hx303_3); (try rw [show ((0 : Int)).toNat = 0 from rfl] at hx303_4); (try rw [show 0 * 5 = 0 from rfl] at hx303_4); (try rw [Addr.add_zero'] at hx303_4); have HR303_4 := Aside0.mk hi303_4; have HC303_4 := Aside0.mk hl303_4; clear hi303_4 hl303_4; replace p303 := eq_true p303; replace q303 := eq_true q303; have ea_ := Option.some.inj (hx302_4.symm.trans hx303_4); injection ea_ with ea_ en_ ec_; subst ea_; subst ec_; clear en_; have p304 : 0 ≤ (0 : Int) := (by omega); have q304 : 0 < (t298.length : Int) := of_decide_eq_true (by first | (with_reducible assumption) | assumption); obtain ⟨ad304, A304_4, c304_4, e304, hx304_0, hx304_1, hx304_2, hx304_3, hx304_4, hl304_4, hi304_4⟩ := at_T53 (Kd.S_reads' HO301.out).2.2 0 p304 q304; obtain rfl : ad302 = ad304 := (by injection e304); obtain ⟨ce304, hce304, hMe304, hcc304⟩ := Kd.S_get HO301.out z53 0 p304 (by first | exact q304 | exact of_decide_eq_true (by first | (with_reducible assumption) | assumption) | (have e_ := (Kd.S_reads' HO301.out).1; omega)); obtain ⟨ve304_4, rfl, ge304_4⟩ := k53_openM hMe304; have hv304_4 := hcc304 4 _ rfl; rw [add_field _ _ 4 (by omega)] at hv304_4; replace hv304_4 := Option.some.inj (hv304_4.symm.trans hx304_4); rw [hv304_4] at ge304_4; have HL304_4 := Aside0.mk (show Kd.R k55 55 _ _ _ _ ((rd_T53 t298 0).f4) from ge304_4); clear hv304_4 ge304_4; clear hcc304 hce304; have qi304 : (0 < t298.length) = True := eq_true (by omega); (try rw [show ((0 : Int)).toNat = 0 from rfl] at hx304_0); (try rw [show 0 * 5 = 0 from rfl] at hx304_0); (try rw [Addr.add_zero'] at hx304_0); (try rw [show ((0 : Int)).toNat = 0 from rfl] at hx304_1); (try rw [show 0 * 5 = 0 from rfl] at hx304_1); (try rw [Addr.add_zero'] at hx304_1); (try rw [show ((0 : Int)).toNat = 0 from rfl] at hx304_2); (try rw [show 0 * 5 = 0 from rfl] at hx304_2); (try rw [Addr.add_zero'] at hx304_2); (try rw [show ((0 : Int)).toNat = 0 from rfl] at hx304_3); (try rw [show 0 * 5 = 0 from rfl] at hx304_3); (try rw [Addr.add_zero'] at hx304_3); (try rw [show ((0 : Int)).toNat = 0 from rfl] at hx304_4); (try rw [show 0 * 5 = 0 from rfl] at hx304_4); (try rw [Addr.add_zero'] at hx304_4); have HR304_4 := Aside0.mk hi304_4; have HC304_4 := Aside0.mk hl304_4; clear hi304_4 hl304_4; replace p304 := eq_true p304; replace q304 := eq_true q304; have ea_ := Option.some.inj (hx302_4.symm.trans hx304_4); injection ea_ with ea_ en_ ec_; subst ea_; subst ec_; clear en_))
       go_ret
       exact ⟨by first | rfl | (simp [errW_none, errW_some] <;> rfl) | (simp [*, errW_none, errW_some] <;> rfl), by repeat (first | (with_reducible first | exact HB.out | apply below_alloc | apply pw_below_drewN | apply below_drew1) | exact HB.out)⟩
     ·rw [if_neg c8] at H
      have c8b0 : (((rd_T53 t298 0).f1) == 2) = false := beq_eq_false_iff_ne.mpr c8
      have c8b1 : (((rd_T53 t298 0).f1) != 2) = true := bne_iff_ne.mpr c8
      obtain rfl := Option.some.inj H
      go_enter Try.func17, Try.ntmps17
      go_wp2_with (first | ((with_reducible refine gate_dst (N := 5) rfl ?_); (try (refine gate_guard (by rfl) ?_; dsimp only)); refine const_goes (N := some 5) rfl rfl (a0 := ([97, 10, 98, 10] : List Int)) rfl (by first | rfl | (simp; done)) (by first | rfl | (simp; done)) (by first | rfl | (simp; done)) Try.underlying24 Try.underlying5 ?_; (with_reducible refine (const_bytes.calls ([97, 10, 98, 10] : List Int) t292 _ A1.out).mono ?_); rintro e w23 ⟨v293, rfl, ho0, hb⟩; refine ⟨_, rfl, ?_⟩; have n0_ := Aside0.mk (Kd.V_lower (Kd.V_mono (ok' := fun k_ => True) ho0 (fun k_ hk_ => trivial)) (below_size (by repeat (first | (with_reducible first | exact HB.out | apply below_alloc | apply pw_below_drewN | apply below_drew1) | exact HB.out)))); have n1_ := Aside0.mk (below_step (by repeat (first | (with_reducible first | exact HB.out | apply below_alloc | apply pw_below_drewN | apply below_drew1) | exact HB.out)) hb); clear HB; have HO294 := n0_; have HB := n1_; clear n0_ n1_; (try clear hb); (try clear hb2); (try clear hk); (try clear hi); (try clear ho0)) | ((with_reducible refine gate_dst (N := 7) rfl ?_); (try (refine gate_guard (by rfl) ?_; dsimp only)); refine const_goes (N := some 7) rfl rfl (a0 := ([97, 10, 99, 10] : List Int)) rfl (by first | rfl | (simp; done)) (by first | rfl | (simp; done)) (by first | rfl | (simp; done)) Try.underlying24 Try.underlying5 ?_; (with_reducible refine (const_bytes.calls ([97, 10, 99, 10] : List Int) t295 _ A2.out).mono ?_); rintro e w24 ⟨v296, rfl, ho0, hb⟩; refine ⟨_, rfl, ?_⟩; have n0_ := Aside0.mk (Kd.V_below (by (with_reducible repeat (first | apply Kd.V_alloc | apply Kd.V_drewN | apply Kd.V_drew)); exact HO294.out) hb); have n1_ := Aside0.mk (Kd.V_lower (Kd.V_mono (ok' := fun k_ => True) ho0 (fun k_ hk_ => trivial)) (below_size (by repeat (first | (with_reducible first | exact HB.out | apply below_alloc | apply pw_below_drewN | apply below_drew1) | exact HB.out)))); have n2_ := Aside0.mk (below_step (by repeat (first | (with_reducible first | exact HB.out | apply below_alloc | apply pw_below_drewN | apply below_drew1) | exact HB.out)) hb); clear HO294; clear HB; have HO294 := n0_; have HO297 := n1_; have HB := n2_; clear n0_ n1_ n2_; (try clear hb); (try clear hb2); (try clear hk); (try clear hi); (try clear ho0); obtain ⟨Ao25, co25, eo25⟩ := Kd.V_slice HO294.out; subst eo25; obtain ⟨Ao26, co26, eo26⟩ := Kd.V_slice HO297.out; subst eo26) | ((with_reducible refine gate_callee (f := 22) rfl ?_); refine goesL_ (some 8) rfl rfl Try.func22 (by kernel_rfl) rfl #[.slice Ao25 t292.length co25, .slice Ao26 t295.length co26, .int .i64 1] rfl (by (try simp only [List.map_toArray, List.map_cons, List.map_nil]); first | done | rfl | (simp only [List.length_drop, List.length_take]; rfl)) ?_; (with_reducible refine (hunks_Make.calls k _ _ t292 _ _ t295 1 t298 t299 _ ?side1 ?side2 ?side3 ?side4 A3.out).mono ?_); (case side1 => repeat (first | exact (Kd.V_reads' HO294.out).2.2 | (with_reducible refine Kd.C_alloc ?_ _) | (with_reducible refine Kd.C_drewN ?_ _) | (with_reducible refine Kd.C_drew ?_))); (case side2 => exact (Kd.V_reads' HO294.out).2.1); (case side3 => repeat (first | exact (Kd.V_reads' HO297.out).2.2 | (with_reducible refine Kd.C_alloc ?_ _) | (with_reducible refine Kd.C_drewN ?_ _) | (with_reducible refine Kd.C_drew ?_))); (case side4 => exact (Kd.V_reads' HO297.out).2.1); rintro e w27 ⟨v300, rfl, ho0, hb⟩; refine ⟨_, rfl, ?_⟩; have n0_ := Aside0.mk (Kd.V_elder' (by (with_reducible repeat (first | apply Kd.V_alloc | apply Kd.V_drewN | apply Kd.V_drew)); exact HO294.out) (Kd.S_base ho0) hb); have n1_ := Aside0.mk (Kd.V_elder' (by (with_reducible repeat (first | apply Kd.V_alloc | apply Kd.V_drewN | apply Kd.V_drew)); exact HO297.out) (Kd.S_base ho0) hb); have n2_ := Aside0.mk (Kd.S_lower ho0 (below_size (by repeat (first | (with_reducible first | exact HB.out | apply below_alloc | apply pw_below_drewN | apply below_drew1) | exact HB.out)))); have n3_ := Aside0.mk (below_step (by repeat (first | (with_reducible first | exact HB.out | apply below_alloc | apply pw_below_drewN | apply below_drew1) | exact HB.out)) hb); clear HO294; clear HO297; clear HB; have HO294 := n0_; have HO297 := n1_; have HO301 := n2_; have HB := n3_; clear n0_ n1_ n2_ n3_; (try clear hb); (try clear hb2); (try clear hk); (try clear hi); (try clear ho0); obtain ⟨Ao28, co28, eo28⟩ := Kd.S_slice HO301.out; subst eo28; have p302 : 0 ≤ (0 : Int) := (by omega); have q302 : 0 < (t298.length : Int) := of_decide_eq_true (by first | (with_reducible assumption) | assumption); obtain ⟨ad302, A302_4, c302_4, e302, hx302_0, hx302_1, hx302_2, hx302_3, hx302_4, hl302_4, hi302_4⟩ := at_T53 (Kd.S_reads' HO301.out).2.2 0 p302 q302; cases e302; obtain ⟨ce302, hce302, hMe302, hcc302⟩ := Kd.S_get HO301.out z53 0 p302 (by first | exact q302 | exact of_decide_eq_true (by first | (with_reducible assumption) | assumption) | (have e_ := (Kd.S_reads' HO301.out).1; omega)); obtain ⟨ve302_4, rfl, ge302_4⟩ := k53_openM hMe302; have hv302_4 := hcc302 4 _ rfl; rw [add_field _ _ 4 (by omega)] at hv302_4; replace hv302_4 := Option.some.inj (hv302_4.symm.trans hx302_4); rw [hv302_4] at ge302_4; have HL302_4 := Aside0.mk (show Kd.R k55 55 _ _ _ _ ((rd_T53 t298 0).f4) from ge302_4); clear hv302_4 ge302_4; clear hcc302 hce302; have qi302 : (0 < t298.length) = True := eq_true (by omega); (try rw [show ((0 : Int)).toNat = 0 from rfl] at hx302_0); (try rw [show 0 * 5 = 0 from rfl] at hx302_0); (try rw [Addr.add_zero'] at hx302_0); (try rw [show ((0 : Int)).toNat = 0 from rfl] at hx302_1); (try rw [show 0 * 5 = 0 from rfl] at hx302_1); (try rw [Addr.add_zero'] at hx302_1); (try rw [show ((0 : Int)).toNat = 0 from rfl] at hx302_2); (try rw [show 0 * 5 = 0 from rfl] at hx302_2); (try rw [Addr.add_zero'] at hx302_2); (try rw [show ((0 : Int)).toNat = 0 from rfl] at hx302_3); (try rw [show 0 * 5 = 0 from rfl] at hx302_3); (try rw [Addr.add_zero'] at hx302_3); (try rw [show ((0 : Int)).toNat = 0 from rfl] at hx302_4); (try rw [show 0 * 5 = 0 from rfl] at hx302_4); (try rw [Addr.add_zero'] at hx302_4); have HR302_4 := Aside0.mk hi302_4; have HC302_4 := Aside0.mk hl302_4; clear hi302_4 hl302_4; replace p302 := eq_true p302; replace q302 := eq_true q302; have p303 : 0 ≤ (0 : Int) := (by omega); have q303 : 0 < (t298.length : Int) := of_decide_eq_true (by first | (with_reducible assumption) | assumption); obtain ⟨ad303, A303_4, c303_4, e303, hx303_0, hx303_1, hx303_2, hx303_3, hx303_4, hl303_4, hi303_4⟩ := at_T53 (Kd.S_reads' HO301.out).2.2 0 p303 q303; obtain rfl : ad302 = ad303 := (by injection e303); obtain ⟨ce303, hce303, hMe303, hcc303⟩ := Kd.S_get HO301.out z53 0 p303 (by first | exact q303 | exact of_decide_eq_true (by first | (with_reducible assumption) | assumption) | (have e_ := (Kd.S_reads' HO301.out).1; omega)); obtain ⟨ve303_4, rfl, ge303_4⟩ := k53_openM hMe303; have hv303_4 := hcc303 4 _ rfl; rw [add_field _ _ 4 (by omega)] at hv303_4; replace hv303_4 := Option.some.inj (hv303_4.symm.trans hx303_4); rw [hv303_4] at ge303_4; have HL303_4 := Aside0.mk (show Kd.R k55 55 _ _ _ _ ((rd_T53 t298 0).f4) from ge303_4); clear hv303_4 ge303_4; clear hcc303 hce303; have qi303 : (0 < t298.length) = True := eq_true (by omega); (try rw [show ((0 : Int)).toNat = 0 from rfl] at hx303_0); (try rw [show 0 * 5 = 0 from rfl] at hx303_0); (try rw [Addr.add_zero'] at hx303_0); (try rw [show ((0 : Int)).toNat = 0 from rfl] at hx303_1); (try rw [show 0 * 5 = 0 from rfl] at hx303_1); (try rw [Addr.add_zero'] at hx303_1); (try rw [show ((0 : Int)).toNat = 0 from rfl] at hx303_2); (try rw [show 0 * 5 = 0 from rfl] at hx303_2); (try rw [Addr.add_zero'] at hx303_2); (try rw [show ((0 : Int)).toNat = 0 from rfl] at hx303_3); (try rw [show 0 * 5 = 0 from rfl] at hx303_3); (try rw [Addr.add_zero'] at hx303_3); (try rw [show ((0 : Int)).toNat = 0 from rfl] at hx303_4); (try rw [show 0 * 5 = 0 from rfl] at hx303_4); (try rw [Addr.add_zero'] at hx303_4); have HR303_4 := Aside0.mk hi303_4; have HC303_4 := Aside0.mk hl303_4; clear hi303_4 hl303_4; replace p303 := eq_true p303; replace q303 := eq_true q303; have ea_ := Option.some.inj (hx302_4.symm.trans hx303_4); injection ea_ with ea_ en_ ec_; subst ea_; subst ec_; clear en_))
      go_ret
      exact ⟨by first | rfl | (simp [errW_none, errW_some] <;> rfl) | (simp [*, errW_none, errW_some] <;> rfl), by repeat (first | (with_reducible first | exact HB.out | apply below_alloc | apply pw_below_drewN | apply below_drew1) | exact HB.out)⟩
    ·rw [if_neg c7] at H
     have c7b0 : ((((rd_T53 t298 0).f4).length : Int) == 3) = false := beq_eq_false_iff_ne.mpr c7
     have c7b1 : ((((rd_T53 t298 0).f4).length : Int) != 3) = true := bne_iff_ne.mpr c7
     obtain rfl := Option.some.inj H
     go_enter Try.func17, Try.ntmps17
     go_wp2_with (first | ((with_reducible refine gate_dst (N := 5) rfl ?_); (try (refine gate_guard (by rfl) ?_; dsimp only)); refine const_goes (N := some 5) rfl rfl (a0 := ([97, 10, 98, 10] : List Int)) rfl (by first | rfl | (simp; done)) (by first | rfl | (simp; done)) (by first | rfl | (simp; done)) Try.underlying24 Try.underlying5 ?_; (with_reducible refine (const_bytes.calls ([97, 10, 98, 10] : List Int) t292 _ A1.out).mono ?_); rintro e w29 ⟨v293, rfl, ho0, hb⟩; refine ⟨_, rfl, ?_⟩; have n0_ := Aside0.mk (Kd.V_lower (Kd.V_mono (ok' := fun k_ => True) ho0 (fun k_ hk_ => trivial)) (below_size (by repeat (first | (with_reducible first | exact HB.out | apply below_alloc | apply pw_below_drewN | apply below_drew1) | exact HB.out)))); have n1_ := Aside0.mk (below_step (by repeat (first | (with_reducible first | exact HB.out | apply below_alloc | apply pw_below_drewN | apply below_drew1) | exact HB.out)) hb); clear HB; have HO294 := n0_; have HB := n1_; clear n0_ n1_; (try clear hb); (try clear hb2); (try clear hk); (try clear hi); (try clear ho0)) | ((with_reducible refine gate_dst (N := 7) rfl ?_); (try (refine gate_guard (by rfl) ?_; dsimp only)); refine const_goes (N := some 7) rfl rfl (a0 := ([97, 10, 99, 10] : List Int)) rfl (by first | rfl | (simp; done)) (by first | rfl | (simp; done)) (by first | rfl | (simp; done)) Try.underlying24 Try.underlying5 ?_; (with_reducible refine (const_bytes.calls ([97, 10, 99, 10] : List Int) t295 _ A2.out).mono ?_); rintro e w30 ⟨v296, rfl, ho0, hb⟩; refine ⟨_, rfl, ?_⟩; have n0_ := Aside0.mk (Kd.V_below (by (with_reducible repeat (first | apply Kd.V_alloc | apply Kd.V_drewN | apply Kd.V_drew)); exact HO294.out) hb); have n1_ := Aside0.mk (Kd.V_lower (Kd.V_mono (ok' := fun k_ => True) ho0 (fun k_ hk_ => trivial)) (below_size (by repeat (first | (with_reducible first | exact HB.out | apply below_alloc | apply pw_below_drewN | apply below_drew1) | exact HB.out)))); have n2_ := Aside0.mk (below_step (by repeat (first | (with_reducible first | exact HB.out | apply below_alloc | apply pw_below_drewN | apply below_drew1) | exact HB.out)) hb); clear HO294; clear HB; have HO294 := n0_; have HO297 := n1_; have HB := n2_; clear n0_ n1_ n2_; (try clear hb); (try clear hb2); (try clear hk); (try clear hi); (try clear ho0); obtain ⟨Ao31, co31, eo31⟩ := Kd.V_slice HO294.out; subst eo31; obtain ⟨Ao32, co32, eo32⟩ := Kd.V_slice HO297.out; subst eo32) | ((with_reducible refine gate_callee (f := 22) rfl ?_); refine goesL_ (some 8) rfl rfl Try.func22 (by kernel_rfl) rfl #[.slice Ao31 t292.length co31, .slice Ao32 t295.length co32, .int .i64 1] rfl (by (try simp only [List.map_toArray, List.map_cons, List.map_nil]); first | done | rfl | (simp only [List.length_drop, List.length_take]; rfl)) ?_; (with_reducible refine (hunks_Make.calls k _ _ t292 _ _ t295 1 t298 t299 _ ?side1 ?side2 ?side3 ?side4 A3.out).mono ?_); (case side1 => repeat (first | exact (Kd.V_reads' HO294.out).2.2 | (with_reducible refine Kd.C_alloc ?_ _) | (with_reducible refine Kd.C_drewN ?_ _) | (with_reducible refine Kd.C_drew ?_))); (case side2 => exact (Kd.V_reads' HO294.out).2.1); (case side3 => repeat (first | exact (Kd.V_reads' HO297.out).2.2 | (with_reducible refine Kd.C_alloc ?_ _) | (with_reducible refine Kd.C_drewN ?_ _) | (with_reducible refine Kd.C_drew ?_))); (case side4 => exact (Kd.V_reads' HO297.out).2.1); rintro e w33 ⟨v300, rfl, ho0, hb⟩; refine ⟨_, rfl, ?_⟩; have n0_ := Aside0.mk (Kd.V_elder' (by (with_reducible repeat (first | apply Kd.V_alloc | apply Kd.V_drewN | apply Kd.V_drew)); exact HO294.out) (Kd.S_base ho0) hb); have n1_ := Aside0.mk (Kd.V_elder' (by (with_reducible repeat (first | apply Kd.V_alloc | apply Kd.V_drewN | apply Kd.V_drew)); exact HO297.out) (Kd.S_base ho0) hb); have n2_ := Aside0.mk (Kd.S_lower ho0 (below_size (by repeat (first | (with_reducible first | exact HB.out | apply below_alloc | apply pw_below_drewN | apply below_drew1) | exact HB.out)))); have n3_ := Aside0.mk (below_step (by repeat (first | (with_reducible first | exact HB.out | apply below_alloc | apply pw_below_drewN | apply below_drew1) | exact HB.out)) hb); clear HO294; clear HO297; clear HB; have HO294 := n0_; have HO297 := n1_; have HO301 := n2_; have HB := n3_; clear n0_ n1_ n2_ n3_; (try clear hb); (try clear hb2); (try clear hk); (try clear hi); (try clear ho0); obtain ⟨Ao34, co34, eo34⟩ := Kd.S_slice HO301.out; subst eo34; have p302 : 0 ≤ (0 : Int) := (by omega); have q302 : 0 < (t298.length : Int) := of_decide_eq_true (by first | (with_reducible assumption) | assumption); obtain ⟨ad302, A302_4, c302_4, e302, hx302_0, hx302_1, hx302_2, hx302_3, hx302_4, hl302_4, hi302_4⟩ := at_T53 (Kd.S_reads' HO301.out).2.2 0 p302 q302; cases e302; obtain ⟨ce302, hce302, hMe302, hcc302⟩ := Kd.S_get HO301.out z53 0 p302 (by first | exact q302 | exact of_decide_eq_true (by first | (with_reducible assumption) | assumption) | (have e_ := (Kd.S_reads' HO301.out).1; omega)); obtain ⟨ve302_4, rfl, ge302_4⟩ := k53_openM hMe302; have hv302_4 := hcc302 4 _ rfl; rw [add_field _ _ 4 (by omega)] at hv302_4; replace hv302_4 := Option.some.inj (hv302_4.symm.trans hx302_4); rw [hv302_4] at ge302_4; have HL302_4 := Aside0.mk (show Kd.R k55 55 _ _ _ _ ((rd_T53 t298 0).f4) from ge302_4); clear hv302_4 ge302_4; clear hcc302 hce302; have qi302 : (0 < t298.length) = True := eq_true (by omega); (try rw [show ((0 : Int)).toNat = 0 from rfl] at hx302_0); (try rw [show 0 * 5 = 0 from rfl] at hx302_0); (try rw [Addr.add_zero'] at hx302_0); (try rw [show ((0 : Int)).toNat = 0 from rfl] at hx302_1); (try rw [show 0 * 5 = 0 from rfl] at hx302_1); (try rw [Addr.add_zero'] at hx302_1); (try rw [show ((0 : Int)).toNat = 0 from rfl] at hx302_2); (try rw [show 0 * 5 = 0 from rfl] at hx302_2); (try rw [Addr.add_zero'] at hx302_2); (try rw [show ((0 : Int)).toNat = 0 from rfl] at hx302_3); (try rw [show 0 * 5 = 0 from rfl] at hx302_3); (try rw [Addr.add_zero'] at hx302_3); (try rw [show ((0 : Int)).toNat = 0 from rfl] at hx302_4); (try rw [show 0 * 5 = 0 from rfl] at hx302_4); (try rw [Addr.add_zero'] at hx302_4); have HR302_4 := Aside0.mk hi302_4; have HC302_4 := Aside0.mk hl302_4; clear hi302_4 hl302_4; replace p302 := eq_true p302; replace q302 := eq_true q302))
     go_ret
     exact ⟨by first | rfl | (simp [errW_none, errW_some] <;> rfl) | (simp [*, errW_none, errW_some] <;> rfl), by repeat (first | (with_reducible first | exact HB.out | apply below_alloc | apply pw_below_drewN | apply below_drew1) | exact HB.out)⟩
   ·rw [if_neg c6] at H
    exact absurd H (by simp)
  ·rw [if_neg c5] at H
   have c5b0 : ((t298.length : Int) == 1) = false := beq_eq_false_iff_ne.mpr c5
   have c5b1 : ((t298.length : Int) != 1) = true := bne_iff_ne.mpr c5
   obtain rfl := Option.some.inj H
   go_enter Try.func17, Try.ntmps17
   go_wp2_with (first | ((with_reducible refine gate_dst (N := 5) rfl ?_); (try (refine gate_guard (by rfl) ?_; dsimp only)); refine const_goes (N := some 5) rfl rfl (a0 := ([97, 10, 98, 10] : List Int)) rfl (by first | rfl | (simp; done)) (by first | rfl | (simp; done)) (by first | rfl | (simp; done)) Try.underlying24 Try.underlying5 ?_; (with_reducible refine (const_bytes.calls ([97, 10, 98, 10] : List Int) t292 _ A1.out).mono ?_); rintro e w35 ⟨v293, rfl, ho0, hb⟩; refine ⟨_, rfl, ?_⟩; have n0_ := Aside0.mk (Kd.V_lower (Kd.V_mono (ok' := fun k_ => True) ho0 (fun k_ hk_ => trivial)) (below_size (by repeat (first | (with_reducible first | exact HB.out | apply below_alloc | apply pw_below_drewN | apply below_drew1) | exact HB.out)))); have n1_ := Aside0.mk (below_step (by repeat (first | (with_reducible first | exact HB.out | apply below_alloc | apply pw_below_drewN | apply below_drew1) | exact HB.out)) hb); clear HB; have HO294 := n0_; have HB := n1_; clear n0_ n1_; (try clear hb); (try clear hb2); (try clear hk); (try clear hi); (try clear ho0)) | ((with_reducible refine gate_dst (N := 7) rfl ?_); (try (refine gate_guard (by rfl) ?_; dsimp only)); refine const_goes (N := some 7) rfl rfl (a0 := ([97, 10, 99, 10] : List Int)) rfl (by first | rfl | (simp; done)) (by first | rfl | (simp; done)) (by first | rfl | (simp; done)) Try.underlying24 Try.underlying5 ?_; (with_reducible refine (const_bytes.calls ([97, 10, 99, 10] : List Int) t295 _ A2.out).mono ?_); rintro e w36 ⟨v296, rfl, ho0, hb⟩; refine ⟨_, rfl, ?_⟩; have n0_ := Aside0.mk (Kd.V_below (by (with_reducible repeat (first | apply Kd.V_alloc | apply Kd.V_drewN | apply Kd.V_drew)); exact HO294.out) hb); have n1_ := Aside0.mk (Kd.V_lower (Kd.V_mono (ok' := fun k_ => True) ho0 (fun k_ hk_ => trivial)) (below_size (by repeat (first | (with_reducible first | exact HB.out | apply below_alloc | apply pw_below_drewN | apply below_drew1) | exact HB.out)))); have n2_ := Aside0.mk (below_step (by repeat (first | (with_reducible first | exact HB.out | apply below_alloc | apply pw_below_drewN | apply below_drew1) | exact HB.out)) hb); clear HO294; clear HB; have HO294 := n0_; have HO297 := n1_; have HB := n2_; clear n0_ n1_ n2_; (try clear hb); (try clear hb2); (try clear hk); (try clear hi); (try clear ho0); obtain ⟨Ao37, co37, eo37⟩ := Kd.V_slice HO294.out; subst eo37; obtain ⟨Ao38, co38, eo38⟩ := Kd.V_slice HO297.out; subst eo38) | ((with_reducible refine gate_callee (f := 22) rfl ?_); refine goesL_ (some 8) rfl rfl Try.func22 (by kernel_rfl) rfl #[.slice Ao37 t292.length co37, .slice Ao38 t295.length co38, .int .i64 1] rfl (by (try simp only [List.map_toArray, List.map_cons, List.map_nil]); first | done | rfl | (simp only [List.length_drop, List.length_take]; rfl)) ?_; (with_reducible refine (hunks_Make.calls k _ _ t292 _ _ t295 1 t298 t299 _ ?side1 ?side2 ?side3 ?side4 A3.out).mono ?_); (case side1 => repeat (first | exact (Kd.V_reads' HO294.out).2.2 | (with_reducible refine Kd.C_alloc ?_ _) | (with_reducible refine Kd.C_drewN ?_ _) | (with_reducible refine Kd.C_drew ?_))); (case side2 => exact (Kd.V_reads' HO294.out).2.1); (case side3 => repeat (first | exact (Kd.V_reads' HO297.out).2.2 | (with_reducible refine Kd.C_alloc ?_ _) | (with_reducible refine Kd.C_drewN ?_ _) | (with_reducible refine Kd.C_drew ?_))); (case side4 => exact (Kd.V_reads' HO297.out).2.1); rintro e w39 ⟨v300, rfl, ho0, hb⟩; refine ⟨_, rfl, ?_⟩; have n0_ := Aside0.mk (Kd.V_elder' (by (with_reducible repeat (first | apply Kd.V_alloc | apply Kd.V_drewN | apply Kd.V_drew)); exact HO294.out) (Kd.S_base ho0) hb); have n1_ := Aside0.mk (Kd.V_elder' (by (with_reducible repeat (first | apply Kd.V_alloc | apply Kd.V_drewN | apply Kd.V_drew)); exact HO297.out) (Kd.S_base ho0) hb); have n2_ := Aside0.mk (Kd.S_lower ho0 (below_size (by repeat (first | (with_reducible first | exact HB.out | apply below_alloc | apply pw_below_drewN | apply below_drew1) | exact HB.out)))); have n3_ := Aside0.mk (below_step (by repeat (first | (with_reducible first | exact HB.out | apply below_alloc | apply pw_below_drewN | apply below_drew1) | exact HB.out)) hb); clear HO294; clear HO297; clear HB; have HO294 := n0_; have HO297 := n1_; have HO301 := n2_; have HB := n3_; clear n0_ n1_ n2_ n3_; (try clear hb); (try clear hb2); (try clear hk); (try clear hi); (try clear ho0); obtain ⟨Ao40, co40, eo40⟩ := Kd.S_slice HO301.out; subst eo40))
   go_ret
   exact ⟨by first | rfl | (simp [errW_none, errW_some] <;> rfl) | (simp [*, errW_none, errW_some] <;> rfl), by repeat (first | (with_reducible first | exact HB.out | apply below_alloc | apply pw_below_drewN | apply below_drew1) | exact HB.out)⟩
 ·rw [if_neg c4] at H
  have c4b0 : (t299 == 0) = false := beq_eq_false_iff_ne.mpr c4
  have c4b1 : (t299 != 0) = true := bne_iff_ne.mpr c4
  obtain rfl := Option.some.inj H
  go_enter Try.func17, Try.ntmps17
  go_wp2_with (first | ((with_reducible refine gate_dst (N := 5) rfl ?_); (try (refine gate_guard (by rfl) ?_; dsimp only)); refine const_goes (N := some 5) rfl rfl (a0 := ([97, 10, 98, 10] : List Int)) rfl (by first | rfl | (simp; done)) (by first | rfl | (simp; done)) (by first | rfl | (simp; done)) Try.underlying24 Try.underlying5 ?_; (with_reducible refine (const_bytes.calls ([97, 10, 98, 10] : List Int) t292 _ A1.out).mono ?_); rintro e w41 ⟨v293, rfl, ho0, hb⟩; refine ⟨_, rfl, ?_⟩; have n0_ := Aside0.mk (Kd.V_lower (Kd.V_mono (ok' := fun k_ => True) ho0 (fun k_ hk_ => trivial)) (below_size (by repeat (first | (with_reducible first | exact HB.out | apply below_alloc | apply pw_below_drewN | apply below_drew1) | exact HB.out)))); have n1_ := Aside0.mk (below_step (by repeat (first | (with_reducible first | exact HB.out | apply below_alloc | apply pw_below_drewN | apply below_drew1) | exact HB.out)) hb); clear HB; have HO294 := n0_; have HB := n1_; clear n0_ n1_; (try clear hb); (try clear hb2); (try clear hk); (try clear hi); (try clear ho0)) | ((with_reducible refine gate_dst (N := 7) rfl ?_); (try (refine gate_guard (by rfl) ?_; dsimp only)); refine const_goes (N := some 7) rfl rfl (a0 := ([97, 10, 99, 10] : List Int)) rfl (by first | rfl | (simp; done)) (by first | rfl | (simp; done)) (by first | rfl | (simp; done)) Try.underlying24 Try.underlying5 ?_; (with_reducible refine (const_bytes.calls ([97, 10, 99, 10] : List Int) t295 _ A2.out).mono ?_); rintro e w42 ⟨v296, rfl, ho0, hb⟩; refine ⟨_, rfl, ?_⟩; have n0_ := Aside0.mk (Kd.V_below (by (with_reducible repeat (first | apply Kd.V_alloc | apply Kd.V_drewN | apply Kd.V_drew)); exact HO294.out) hb); have n1_ := Aside0.mk (Kd.V_lower (Kd.V_mono (ok' := fun k_ => True) ho0 (fun k_ hk_ => trivial)) (below_size (by repeat (first | (with_reducible first | exact HB.out | apply below_alloc | apply pw_below_drewN | apply below_drew1) | exact HB.out)))); have n2_ := Aside0.mk (below_step (by repeat (first | (with_reducible first | exact HB.out | apply below_alloc | apply pw_below_drewN | apply below_drew1) | exact HB.out)) hb); clear HO294; clear HB; have HO294 := n0_; have HO297 := n1_; have HB := n2_; clear n0_ n1_ n2_; (try clear hb); (try clear hb2); (try clear hk); (try clear hi); (try clear ho0); obtain ⟨Ao43, co43, eo43⟩ := Kd.V_slice HO294.out; subst eo43; obtain ⟨Ao44, co44, eo44⟩ := Kd.V_slice HO297.out; subst eo44) | ((with_reducible refine gate_callee (f := 22) rfl ?_); refine goesL_ (some 8) rfl rfl Try.func22 (by kernel_rfl) rfl #[.slice Ao43 t292.length co43, .slice Ao44 t295.length co44, .int .i64 1] rfl (by (try simp only [List.map_toArray, List.map_cons, List.map_nil]); first | done | rfl | (simp only [List.length_drop, List.length_take]; rfl)) ?_; (with_reducible refine (hunks_Make.calls k _ _ t292 _ _ t295 1 t298 t299 _ ?side1 ?side2 ?side3 ?side4 A3.out).mono ?_); (case side1 => repeat (first | exact (Kd.V_reads' HO294.out).2.2 | (with_reducible refine Kd.C_alloc ?_ _) | (with_reducible refine Kd.C_drewN ?_ _) | (with_reducible refine Kd.C_drew ?_))); (case side2 => exact (Kd.V_reads' HO294.out).2.1); (case side3 => repeat (first | exact (Kd.V_reads' HO297.out).2.2 | (with_reducible refine Kd.C_alloc ?_ _) | (with_reducible refine Kd.C_drewN ?_ _) | (with_reducible refine Kd.C_drew ?_))); (case side4 => exact (Kd.V_reads' HO297.out).2.1); rintro e w45 ⟨v300, rfl, ho0, hb⟩; refine ⟨_, rfl, ?_⟩; have n0_ := Aside0.mk (Kd.V_elder' (by (with_reducible repeat (first | apply Kd.V_alloc | apply Kd.V_drewN | apply Kd.V_drew)); exact HO294.out) (Kd.S_base ho0) hb); have n1_ := Aside0.mk (Kd.V_elder' (by (with_reducible repeat (first | apply Kd.V_alloc | apply Kd.V_drewN | apply Kd.V_drew)); exact HO297.out) (Kd.S_base ho0) hb); have n2_ := Aside0.mk (Kd.S_lower ho0 (below_size (by repeat (first | (with_reducible first | exact HB.out | apply below_alloc | apply pw_below_drewN | apply below_drew1) | exact HB.out)))); have n3_ := Aside0.mk (below_step (by repeat (first | (with_reducible first | exact HB.out | apply below_alloc | apply pw_below_drewN | apply below_drew1) | exact HB.out)) hb); clear HO294; clear HO297; clear HB; have HO294 := n0_; have HO297 := n1_; have HO301 := n2_; have HB := n3_; clear n0_ n1_ n2_ n3_; (try clear hb); (try clear hb2); (try clear hk); (try clear hi); (try clear ho0)))
  go_ret
  exact ⟨by first | rfl | (simp [errW_none, errW_some] <;> rfl) | (simp [*, errW_none, errW_some] <;> rfl), by repeat (first | (with_reducible first | exact HB.out | apply below_alloc | apply pw_below_drewN | apply below_drew1) | exact HB.out)⟩

/-! ### redpenref01_Lines: function 18 -/
def redpenref01_Lines.l0 : Nat → List Int → List ByteArray → Int → Int → Option (List ByteArray)
 | 0, _, _, _, _ => none
 | k + 1, x0, x3, x4, x5 => if x5 < (x0.length : Int) then (if 0 ≤ x5 then (if (rd x0 x5) = 10 then (if 0 ≤ x4 then (if x4 ≤ (wrap64 (x5 + 1)) then (if (wrap64 (x5 + 1)) ≤ (x0.length : Int) then (if x3.length < 8796093022208 then (redpenref01_Lines.l0 k x0 (x3 ++ [strOfNums ((x0.take ((wrap64 (x5 + 1)) : Int).toNat).drop (x4 : Int).toNat)]) (wrap64 (x5 + 1)) (wrap64 (x5 + 1))) else (none)) else (none)) else (none)) else (none)) else (redpenref01_Lines.l0 k x0 x3 x4 (wrap64 (x5 + 1)))) else (none)) else (if x4 < (x0.length : Int) then (if 0 ≤ x4 then (if x4 ≤ (x0.length : Int) then (if x3.length < 8796093022208 then (some (x3 ++ [strOfNums (x0.drop (x4 : Int).toNat)])) else (none)) else (none)) else (none)) else (some x3))
def redpenref01_Lines.f (k : Nat) (l0 : List Int) : Option (List ByteArray) := redpenref01_Lines.l0 k l0 ([] : List ByteArray) 0 0
theorem redpenref01_Lines.mono_l : ∀ k, (∀ y0 y1 y2 y3, LeO (redpenref01_Lines.l0 k y0 y1 y2 y3) (redpenref01_Lines.l0 (k + 1) y0 y1 y2 y3))
 | 0 => fun _ _ _ _ r h => by simp [redpenref01_Lines.l0] at h
 | k + 1 => by
  have ih0 := redpenref01_Lines.mono_l k
  ·intro y0 y1 y2 y3
   unfold redpenref01_Lines.l0
   repeat' first
   | (with_reducible exact ih0 _ _ _ _)
   | (with_reducible exact LeO.refl _)
   | (with_reducible exact LeO.none _)
   | (with_reducible refine LeO.ite ?_ ?_)
   | (with_reducible refine LeO.bind ?_ (fun _ => ?_))
   | exact ih0 _ _ _ _
   | exact LeO.none _
   | refine LeO.ite ?_ ?_
   | refine LeO.bind ?_ (fun _ => ?_)
theorem redpenref01_Lines.mono : ∀ a0 k, LeO (redpenref01_Lines.f k a0) (redpenref01_Lines.f (k + 1) a0) := by
 intro a0 k
 have ih0 := redpenref01_Lines.mono_l k
 unfold redpenref01_Lines.f
 repeat' first
   | (with_reducible exact ih0 _ _ _ _)
   | (with_reducible exact LeO.refl _)
   | (with_reducible exact LeO.none _)
   | (with_reducible refine LeO.ite ?_ ?_)
   | (with_reducible refine LeO.bind ?_ (fun _ => ?_))
   | exact ih0 _ _ _ _
   | exact LeO.none _
   | refine LeO.ite ?_ ?_
   | refine LeO.bind ?_ (fun _ => ?_)
set_option maxHeartbeats 8000000 in
set_option maxRecDepth 100000 in
theorem redpenref01_Lines.calls (k : Nat) (A0 : Option Addr) (c0 : Nat) (l0 : List Int) (r : List ByteArray) (w : World) (hr0 : Kd.C (Kd.int .u8) w A0 l0.length l0) (hc0 : l0.length ≤ c0) (h : redpenref01_Lines.f k l0 = some r) :
  Calls Try.prog 18 #[.slice A0 l0.length c0] w fun e w' => ∃ v0_ : Value, e = .returned (v0_) ∧ Kd.R Kd.string 9 w' w.heap.size (fun _ => True) v0_ r ∧ Below w.heap.size w w' := by
 have HR0 := Aside0.mk hr0
 have HC0 := Aside0.mk hc0
 clear hr0 hc0
 have HB := Aside0.mk (Below.refl w.heap.size w)
 have H : (redpenref01_Lines.l0 k l0 ([] : List ByteArray) 0 0) = some r := h
 clear h
 have H' := Aside0.mk H
 clear H
 go_enter Try.func18, Try.ntmps18
 go_wp2
 go_loopg [3, 4, 5] k (fun kq v3 v4 v5 w' => ∃ (x3_1 : List ByteArray) (x4_1 : Int) (x5_1 : Int), v4 = .int .i64 x4_1 ∧ v5 = .int .i64 x5_1 ∧ Aside0 (redpenref01_Lines.l0 kq l0 x3_1 x4_1 x5_1 = some r) ∧ Aside0 (kq ≤ k) ∧ Aside0 (Kd.R Kd.string 9 w' w.heap.size (fun _ => True) v3 x3_1) ∧ Aside0 (Below w.heap.size w w'))
 case atStart => exact ⟨(([] : List ByteArray)), (0), (0), (by first | rfl | (simp; done) | (simp [*]; done)), (by first | rfl | (simp; done) | (simp [*]; done)), H', ⟨Nat.le_refl _⟩, ⟨by first | exact Kd.R_nil _ _ _ _ _ | exact Kd.N_nil _ _ _ _ _ | exact Kd.V_nil _ _ _ _ _ | exact Kd.Q_nil _ _ _ _ _ | exact Kd.S_nil _ _ _ _ _⟩, ⟨by repeat (first | (with_reducible first | exact HB.out | apply below_alloc | apply pw_below_drewN | apply below_drew1) | exact HB.out)⟩⟩
 case round =>
  clear H'
  try clear c1
  obtain ⟨x3_1, x4_1, x5_1, rfl, rfl, HA, HK1, HO_3, HB⟩ := hrel
  cases gk with
  | zero => exact absurd HA.out (by simp [redpenref01_Lines.l0])
  | succ k1 =>
   have H := HA.out
   clear HA
   simp only [redpenref01_Lines.l0] at H
   by_cases c2 : x5_1 < (l0.length : Int)
   ·rw [if_pos c2] at H
    have c2b0 : decide (x5_1 < (l0.length : Int)) = true := decide_eq_true c2
    clear c2
    by_cases c3 : 0 ≤ x5_1
    ·rw [if_pos c3] at H
     have c3b0 : decide (0 ≤ x5_1) = true := decide_eq_true c3
     clear c3
     by_cases c4 : (rd l0 x5_1) = 10
     ·rw [if_pos c4] at H
      have c4b0 : ((rd l0 x5_1) == 10) = true := beq_iff_eq.mpr c4
      have c4b1 : ((rd l0 x5_1) != 10) = false := bne_eq_false_iff_eq.mpr c4
      clear c4
      by_cases c5 : 0 ≤ x4_1
      ·rw [if_pos c5] at H
       have c5b0 := eq_true c5
       have c5b1 : decide (0 ≤ x4_1) = true := decide_eq_true c5
       clear c5
       by_cases c6 : x4_1 ≤ (wrap64 (x5_1 + 1))
       ·rw [if_pos c6] at H
        have c6b0 := eq_true c6
        have c6b1 : decide (x4_1 ≤ (wrap64 (x5_1 + 1))) = true := decide_eq_true c6
        by_cases c7 : (wrap64 (x5_1 + 1)) ≤ (l0.length : Int)
        ·rw [if_pos c7] at H
         have c7b0 := eq_true c7
         have c7b1 : decide ((wrap64 (x5_1 + 1)) ≤ (l0.length : Int)) = true := decide_eq_true c7
         obtain ⟨y308, hy308⟩ : ∃ y_ : List Int, y_ = ((l0.take ((wrap64 (x5_1 + 1)) : Int).toNat).drop (x4_1 : Int).toNat) := ⟨_, rfl⟩
         replace H : (if x3_1.length < 8796093022208 then (redpenref01_Lines.l0 k1 l0 (x3_1 ++ [strOfNums y308]) (wrap64 (x5_1 + 1)) (wrap64 (x5_1 + 1))) else (none)) = some r := by first | (rw [hy308]; with_reducible exact H) | (have H2_ := (Option.bind_some _ _).symm.trans H; rw [hy308]; with_reducible exact H2_) | (have H2_ := (Option.bind_some _ _).symm.trans H; with_reducible exact H2_) | with_reducible exact H | (rw [hy308]; exact H) | exact H
         have Ny308 := Aside0.mk hy308
         clear hy308
         by_cases c8 : x3_1.length < 8796093022208
         ·rw [if_pos c8] at H
          have LMc8 := Aside0.mk c8
          clear c8
          obtain ⟨y312, hy312⟩ : ∃ y_ : List ByteArray, y_ = (x3_1 ++ [strOfNums y308]) := ⟨_, rfl⟩
          replace H : (redpenref01_Lines.l0 k1 l0 y312 (wrap64 (x5_1 + 1)) (wrap64 (x5_1 + 1))) = some r := by first | (rw [hy312]; with_reducible exact H) | (have H2_ := (Option.bind_some _ _).symm.trans H; rw [hy312]; with_reducible exact H2_) | (have H2_ := (Option.bind_some _ _).symm.trans H; with_reducible exact H2_) | with_reducible exact H | (rw [hy312]; exact H) | exact H
          have Ny312 := Aside0.mk hy312
          clear hy312
          have H' := Aside0.mk H
          clear H
          have p307 : 0 ≤ (x5_1 : Int) := of_decide_eq_true (by first | (with_reducible assumption) | assumption)
          have q307 : x5_1 < (l0.length : Int) := of_decide_eq_true (by first | (with_reducible assumption) | assumption)
          obtain ⟨ad307, e307, hx307_0⟩ := Kd.at_int HR0.out x5_1 p307 q307
          cases e307
          replace hx307_0 := (HB.out.cell (World.block_lt_of_cell? w _ hx307_0)).trans hx307_0
          replace p307 := eq_true p307
          replace q307 := eq_true q307
          have q9 : ((wrap64 (x5_1 + 1)) : Int) ≤ ((l0.length : Int) : Int) := of_decide_eq_true (by first | (with_reducible assumption) | assumption)
          obtain ⟨i09, hi09, _, hsz9, _⟩ := info_parts info5
          have hroom9 : l0.length ≤ c0 := HC0.out
          have hC9 : Kd.C (Kd.int .u8) _ (some ad307) l0.length l0 := HR0.out
          have ql9 : (x4_1 : Int) ≤ ((wrap64 (x5_1 + 1)) : Int) := of_decide_eq_true (by first | (with_reducible assumption) | assumption)
          have q09 : (0 : Int) ≤ (x4_1 : Int) := of_decide_eq_true (by first | (with_reducible assumption) | assumption)
          have hcut9 := cut_mid (P := Try.prog) 24 5 .i64 .i64 Try.underlying24 hi09 1 hsz9 (some ad307) l0.length c0 x4_1 (wrap64 (x5_1 + 1)) q09 ql9 q9 hroom9
          have hr9 := Kd.C_mid (lo := (x4_1 : Int).toNat) (hi := ((wrap64 (x5_1 + 1)) : Int).toNat) (c := c0) hC9 (by omega) (by omega) hroom9
          obtain ⟨A9, hA9⟩ : ∃ A1z_, A1z_ = (if c0 = (x4_1 : Int).toNat then (some ad307) else ((some ad307) : Option Addr).map (·.add ((x4_1 : Int).toNat * 1))) := ⟨_, rfl⟩
          obtain ⟨c9, hc9⟩ : ∃ c1z_, c1z_ = c0 - (x4_1 : Int).toNat := ⟨_, rfl⟩
          have hy9 : y308.length = ((wrap64 (x5_1 + 1)) : Int).toNat - (x4_1 : Int).toNat := (by rw [Ny308.out, List.length_drop, List.length_take] <;> omega)
          rw [show ((l0).take ((wrap64 (x5_1 + 1)) : Int).toNat).drop (x4_1 : Int).toNat = y308 from Ny308.out.symm] at hr9
          replace hr9 : Kd.C (Kd.int .u8) _ A9 y308.length y308 := (by rw [hA9]; exact hr9)
          rw [← hy9, ← hA9, ← hc9] at hcut9
          have HR311 := Aside0.mk hr9
          have HC311 := Aside0.mk (show y308.length ≤ c9 from by rw [hy9, hc9]; exact Nat.sub_le_sub_right (Nat.le_trans (by omega) hroom9) _)
          clear hr9 hC9 hroom9 hi09 hsz9 hc9
          have KY9 := Aside0.mk hy9
          have KA9 := Aside0.mk hA9
          clear hy9 hA9
          replace q9 := eq_true q9
          have hcv10 := Kd.C_string (P := Try.prog) (A := A9) (c := c9) Try.underlying24 Try.underlying5 Try.underlying9 (Kd.C_below HR311.out HB.out)
          (try simp only [List.length_drop] at hcv10)
          go_wp2_with (first | ((with_reducible refine gate_builtin (b := .append) (xs := #[.tmp 17, .tmp 24]) rfl ?_); at_builtin; refine Kd.R_append Kd.string (w0 := w) w.heap.size rfl (.tmp 17) (.tmp 24) 29 9 (.string ⟨#[]⟩) 16 rfl Try.underlying29 info9 rfl (by decide) (by omega) u3 x3_1 (strOfNums y308) [.string (strOfNums y308)] (fun _ => True) (fun _ => False) rfl rfl ?aP (fun _ hk => hk.elim) ?aF ?aO ?aB ?aS ?aL ?_; (case aP => exact rfl); (case aB => exact (by repeat (first | (with_reducible first | exact HB.out | apply below_alloc | apply pw_below_drewN | apply below_drew1) | exact HB.out))); (case aF => exact (fun _ _ => trivial)); (case aO => exact (by (with_reducible repeat (first | apply Kd.R_alloc | apply Kd.R_drewN | apply Kd.R_drew)); exact HO_3.out)); (case aS => exact (below_size (by repeat (first | (with_reducible first | exact HB.out | apply below_alloc | apply pw_below_drewN | apply below_drew1) | exact HB.out)))); (case aL => have := LMc8.out; omega); intro v313 w11 ho hb hg hat; rw [← Ny312.out] at ho; have n0_ := Aside0.mk (hb); have n1_ := Aside0.mk (ho); clear HB; clear HO_3; have HB := n0_; have HO314 := n1_; clear n0_ n1_; clear ho hb hg hat))
          go_roundg k1
          case measure => have := HK1.out; omega
          case rel => exact ⟨(y312), (wrap64 (x5_1 + 1)), (wrap64 (x5_1 + 1)), (by first | rfl | (simp; done) | (simp [*]; done)), (by first | rfl | (simp; done) | (simp [*]; done)), H', ⟨by have := HK1.out; omega⟩, ⟨by (with_reducible repeat (first | apply Kd.R_alloc | apply Kd.R_drewN | apply Kd.R_drew)); exact HO314.out⟩, ⟨by repeat (first | (with_reducible first | exact HB.out | apply below_alloc | apply pw_below_drewN | apply below_drew1) | exact HB.out)⟩⟩
         ·rw [if_neg c8] at H
          exact absurd H (by simp)
        ·rw [if_neg c7] at H
         exact absurd H (by simp)
       ·rw [if_neg c6] at H
        exact absurd H (by simp)
      ·rw [if_neg c5] at H
       exact absurd H (by simp)
     ·rw [if_neg c4] at H
      have c4b0 : ((rd l0 x5_1) == 10) = false := beq_eq_false_iff_ne.mpr c4
      have c4b1 : ((rd l0 x5_1) != 10) = true := bne_iff_ne.mpr c4
      have H' := Aside0.mk H
      clear H
      have p307 : 0 ≤ (x5_1 : Int) := of_decide_eq_true (by first | (with_reducible assumption) | assumption)
      have q307 : x5_1 < (l0.length : Int) := of_decide_eq_true (by first | (with_reducible assumption) | assumption)
      obtain ⟨ad307, e307, hx307_0⟩ := Kd.at_int HR0.out x5_1 p307 q307
      cases e307
      replace hx307_0 := (HB.out.cell (World.block_lt_of_cell? w _ hx307_0)).trans hx307_0
      replace p307 := eq_true p307
      replace q307 := eq_true q307
      go_wp2
      go_roundg k1
      case measure => have := HK1.out; omega
      case rel => exact ⟨(x3_1), (x4_1), (wrap64 (x5_1 + 1)), (by first | rfl | (simp; done) | (simp [*]; done)), (by first | rfl | (simp; done) | (simp [*]; done)), H', ⟨by have := HK1.out; omega⟩, ⟨by (with_reducible repeat (first | apply Kd.R_alloc | apply Kd.R_drewN | apply Kd.R_drew)); exact HO_3.out⟩, ⟨by repeat (first | (with_reducible first | exact HB.out | apply below_alloc | apply pw_below_drewN | apply below_drew1) | exact HB.out)⟩⟩
    ·rw [if_neg c3] at H
     exact absurd H (by simp)
   ·rw [if_neg c2] at H
    have c2b0 : decide (x5_1 < (l0.length : Int)) = false := decide_eq_false c2
    clear c2
    by_cases c12 : x4_1 < (l0.length : Int)
    ·rw [if_pos c12] at H
     have c12b0 : decide (x4_1 < (l0.length : Int)) = true := decide_eq_true c12
     clear c12
     by_cases c13 : 0 ≤ x4_1
     ·rw [if_pos c13] at H
      have c13b0 := eq_true c13
      have c13b1 : decide (0 ≤ x4_1) = true := decide_eq_true c13
      clear c13
      by_cases c14 : x4_1 ≤ (l0.length : Int)
      ·rw [if_pos c14] at H
       have c14b0 := eq_true c14
       have c14b1 : decide (x4_1 ≤ (l0.length : Int)) = true := decide_eq_true c14
       clear c14
       by_cases c15 : x3_1.length < 8796093022208
       ·rw [if_pos c15] at H
        have LMc15 := Aside0.mk c15
        clear c15
        obtain ⟨y316, hy316⟩ : ∃ y_ : List ByteArray, y_ = (x3_1 ++ [strOfNums (l0.drop (x4_1 : Int).toNat)]) := ⟨_, rfl⟩
        replace H : (some y316) = some r := by first | (rw [hy316]; with_reducible exact H) | (have H2_ := (Option.bind_some _ _).symm.trans H; rw [hy316]; with_reducible exact H2_) | (have H2_ := (Option.bind_some _ _).symm.trans H; with_reducible exact H2_) | with_reducible exact H | (rw [hy316]; exact H) | exact H
        have Ny316 := Aside0.mk hy316
        clear hy316
        obtain rfl := Option.some.inj H
        obtain ⟨i016, hi016, _, hsz16, _⟩ := info_parts info5
        obtain ⟨A16, hcut16, hA16, hC16⟩ := print_drop_of (P := Try.prog) (Value.int .u8) 0 24 5 .i64 Try.underlying24 hi016 hsz16 A0 c0 l0 x4_1 (of_decide_eq_true (by first | (with_reducible assumption) | assumption)) (of_decide_eq_true (by first | (with_reducible assumption) | assumption)) HC0.out
        have HR315 := Aside0.mk (Kd.C_of_reads (h1 := fun _ => rfl) (hA16 _ (Kd.reads_of_C HR0.out)))
        have HC315 := Aside0.mk hC16
        clear hA16 hC16 hi016 hsz16
        have hcv17 := Kd.C_string (P := Try.prog) (A := A16) (c := (c0 - x4_1.toNat)) Try.underlying24 Try.underlying5 Try.underlying9 (Kd.C_below HR315.out HB.out)
        (try simp only [List.length_drop] at hcv17)
        go_wp2_with (first | ((with_reducible refine gate_builtin (b := .append) (xs := #[.tmp 32, .tmp 37]) rfl ?_); at_builtin; refine Kd.R_append Kd.string (w0 := w) w.heap.size rfl (.tmp 32) (.tmp 37) 29 9 (.string ⟨#[]⟩) 16 rfl Try.underlying29 info9 rfl (by decide) (by omega) u3 x3_1 (strOfNums (l0.drop (x4_1 : Int).toNat)) [.string (strOfNums (l0.drop (x4_1 : Int).toNat))] (fun _ => True) (fun _ => False) rfl rfl ?aP (fun _ hk => hk.elim) ?aF ?aO ?aB ?aS ?aL ?_; (case aP => exact rfl); (case aB => exact (by repeat (first | (with_reducible first | exact HB.out | apply below_alloc | apply pw_below_drewN | apply below_drew1) | exact HB.out))); (case aF => exact (fun _ _ => trivial)); (case aO => exact (by (with_reducible repeat (first | apply Kd.R_alloc | apply Kd.R_drewN | apply Kd.R_drew)); exact HO_3.out)); (case aS => exact (below_size (by repeat (first | (with_reducible first | exact HB.out | apply below_alloc | apply pw_below_drewN | apply below_drew1) | exact HB.out)))); (case aL => have := LMc15.out; omega); intro v317 w18 ho hb hg hat; rw [← Ny316.out] at ho; have n0_ := Aside0.mk (hb); have n1_ := Aside0.mk (ho); clear HB; clear HO_3; have HB := n0_; have HO318 := n1_; clear n0_ n1_; clear ho hb hg hat))
        go_ret
        exact ⟨_, by first | rfl | (simp [errW_none, errW_some] <;> rfl) | (simp [*, errW_none, errW_some] <;> rfl), by (with_reducible repeat (first | apply Kd.R_alloc | apply Kd.R_drewN | apply Kd.R_drew)); exact HO318.out, by repeat (first | (with_reducible first | exact HB.out | apply below_alloc | apply pw_below_drewN | apply below_drew1) | exact HB.out)⟩
       ·rw [if_neg c15] at H
        exact absurd H (by simp)
      ·rw [if_neg c14] at H
       exact absurd H (by simp)
     ·rw [if_neg c13] at H
      exact absurd H (by simp)
    ·rw [if_neg c12] at H
     have c12b0 : decide (x4_1 < (l0.length : Int)) = false := decide_eq_false c12
     clear c12
     obtain rfl := Option.some.inj H
     go_wp2
     go_ret
     exact ⟨_, by first | rfl | (simp [errW_none, errW_some] <;> rfl) | (simp [*, errW_none, errW_some] <;> rfl), by (with_reducible repeat (first | apply Kd.R_alloc | apply Kd.R_drewN | apply Kd.R_drew)); exact HO_3.out, by repeat (first | (with_reducible first | exact HB.out | apply below_alloc | apply pw_below_drewN | apply below_drew1) | exact HB.out)⟩

end Go.Proofs.Ytokgkhndhlcfpaa.PHunksChanges
