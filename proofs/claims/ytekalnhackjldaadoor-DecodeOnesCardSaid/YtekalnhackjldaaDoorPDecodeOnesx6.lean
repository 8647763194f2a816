-- x
import Derived.Test.YtekalnhackjldaaDoorPDecodeOnesx0
import Derived.Test.YtekalnhackjldaaDoorPDecodeOnesx1
import Derived.Test.YtekalnhackjldaaDoorPDecodeOnesx5
namespace Go.Proofs.YtekalnhackjldaaDoor.PDecodeOnes
open Go.RowKit Go.Proofs.YtekalnhackjldaaDoor.X Go.Proofs.YtekalnhackjldaaDoorW.PrintWords Go.Proofs.YtekalnhackjldaaDoorW.PrintLast Go.Proofs.YtekalnhackjldaaDoorW.PrintMore
attribute [local go_sem] max2_int min2_int max_two min_two max_three min_three max_four min_four   -- for this text's walks alone
set_option linter.unusedVariables false
set_option linter.unusedSimpArgs false

attribute [local go_sem high] eqA45
/-! ### decode_Units: function 16 -/
mutual
def decode_Units.j0 : Nat → Int → List Int → Int → Int → Bool → Int → Int → Int → Option ((List (S45)) × Int)
 | 0, _, _, _, _, _, _, _, _ => none
 | k + 1, x0, x1, x8, x9, x39, x146000, x146001, x146002 => if x39 = true then (some (([] : List (S45)), 2)) else (decode_Units.l0 k x0 x1 x8 ([] : List (S45)) (wrap64 (x8 + x9)) x146000 x146001 x146002)
def decode_Units.l0 : Nat → Int → List Int → Int → List (S45) → Int → Int → Int → Int → Option ((List (S45)) × Int)
 | 0, _, _, _, _, _, _, _, _ => none
 | k + 1, x0, x1, x8, x10, x11, x146000, x146001, x146002 => if x8 < x11 then (if 0 ≤ x8 then (if x8 ≤ x11 then (if x11 ≤ (x1.length : Int) then ((decode_one.f k x0 x146000 ((x1.take (x11 : Int).toNat).drop (x8 : Int).toNat)).bind fun bt150 => (if x10.length < 5864062014805 then (decode_Units.l0 k x0 x1 (wrap64 (x8 + bt150.2)) (x10 ++ [(⟨bt150.1, (⟨x8, bt150.2⟩ : S40)⟩ : S45)]) x11 x146000 x146001 x146002) else (none))) else (none)) else (none)) else (none)) else (some (x10, 0))
end
def decode_Units.f (k : Nat) (a0 : Int) (l1 : List Int) (a2_0 : Int) (a2_1 : Int) (a2_2 : Int) : Option ((List (S45)) × Int) := if a2_1 < 0 then (decode_Units.j0 k a0 l1 a2_1 a2_2 true a2_0 a2_1 a2_2) else (if a2_2 < 0 then (decode_Units.j0 k a0 l1 a2_1 a2_2 true a2_0 a2_1 a2_2) else (if a2_1 > (l1.length : Int) then (decode_Units.j0 k a0 l1 a2_1 a2_2 true a2_0 a2_1 a2_2) else (decode_Units.j0 k a0 l1 a2_1 a2_2 (decide (a2_2 > (wrap64 ((l1.length : Int) - a2_1)))) a2_0 a2_1 a2_2)))
theorem decode_Units.mono_l : ∀ k, (∀ y0 y1 y2 y3 y4 y5 y6 y7, LeO (decode_Units.j0 k y0 y1 y2 y3 y4 y5 y6 y7) (decode_Units.j0 (k + 1) y0 y1 y2 y3 y4 y5 y6 y7)) ∧ (∀ y0 y1 y2 y3 y4 y5 y6 y7, LeO (decode_Units.l0 k y0 y1 y2 y3 y4 y5 y6 y7) (decode_Units.l0 (k + 1) y0 y1 y2 y3 y4 y5 y6 y7))
 | 0 => ⟨fun _ _ _ _ _ _ _ _ r h => by simp [decode_Units.j0] at h, fun _ _ _ _ _ _ _ _ r h => by simp [decode_Units.l0] at h⟩
 | k + 1 => by
  obtain ⟨ih0, ih1⟩ := decode_Units.mono_l k
  refine ⟨?_, ?_⟩
  ·intro y0 y1 y2 y3 y4 y5 y6 y7
   unfold decode_Units.j0
   repeat' first
   | (with_reducible exact ih0 _ _ _ _ _ _ _ _)
   | (with_reducible exact ih1 _ _ _ _ _ _ _ _)
   | (with_reducible exact decode_one.mono _ _ _ _)
   | (with_reducible exact LeO.refl _)
   | (with_reducible exact LeO.none _)
   | (with_reducible refine LeO.ite ?_ ?_)
   | (with_reducible refine LeO.bind ?_ (fun _ => ?_))
   | exact ih0 _ _ _ _ _ _ _ _
   | exact ih1 _ _ _ _ _ _ _ _
   | exact decode_one.mono _ _ _ _
   | exact LeO.none _
   | refine LeO.ite ?_ ?_
   | refine LeO.bind ?_ (fun _ => ?_)
  ·intro y0 y1 y2 y3 y4 y5 y6 y7
   unfold decode_Units.l0
   repeat' first
   | (with_reducible exact ih0 _ _ _ _ _ _ _ _)
   | (with_reducible exact ih1 _ _ _ _ _ _ _ _)
   | (with_reducible exact decode_one.mono _ _ _ _)
   | (with_reducible exact LeO.refl _)
   | (with_reducible exact LeO.none _)
   | (with_reducible refine LeO.ite ?_ ?_)
   | (with_reducible refine LeO.bind ?_ (fun _ => ?_))
   | exact ih0 _ _ _ _ _ _ _ _
   | exact ih1 _ _ _ _ _ _ _ _
   | exact decode_one.mono _ _ _ _
   | exact LeO.none _
   | refine LeO.ite ?_ ?_
   | refine LeO.bind ?_ (fun _ => ?_)
theorem decode_Units.mono : ∀ a0 a1 a2 a3 a4 k, LeO (decode_Units.f k a0 a1 a2 a3 a4) (decode_Units.f (k + 1) a0 a1 a2 a3 a4) := by
 intro a0 a1 a2 a3 a4 k
 obtain ⟨ih0, ih1⟩ := decode_Units.mono_l k
 unfold decode_Units.f
 repeat' first
   | (with_reducible exact ih0 _ _ _ _ _ _ _ _)
   | (with_reducible exact ih1 _ _ _ _ _ _ _ _)
   | (with_reducible exact decode_one.mono _ _ _ _)
   | (with_reducible exact LeO.refl _)
   | (with_reducible exact LeO.none _)
   | (with_reducible refine LeO.ite ?_ ?_)
   | (with_reducible refine LeO.bind ?_ (fun _ => ?_))
   | exact ih0 _ _ _ _ _ _ _ _
   | exact ih1 _ _ _ _ _ _ _ _
   | exact decode_one.mono _ _ _ _
   | exact LeO.none _
   | refine LeO.ite ?_ ?_
   | refine LeO.bind ?_ (fun _ => ?_)
def decode_Units.T1 : Bool × List (List Nat × List Nat) := (true, [([], []), ([0], [0]), ([1], [1]), ([], []), ([3], [3]), ([4], [4]), ([2, 0, 1, 2], [2]), ([5, 6, 0, 1, 2, 3, 4, 5, 6], [5])])
def decode_Units.B1 : List Nat := [0, 1, 3, 0, 8, 24, 7, 127]
theorem decode_Units.tab1 : rtab .any (opsOf Tryd.f16 1) = decode_Units.T1 := by kernel_rfl
theorem decode_Units.bits1 : waitsOk decode_Units.T1.2 decode_Units.B1 = true := by kernel_rfl
def decode_Units.T7 : Bool × List (List Nat × List Nat) := (true, [([], []), ([], []), ([1], [1]), ([], []), ([], []), ([], []), ([3, 4, 5], [3, 4, 5]), ([0, 2, 6], [0, 2, 6]), ([7], [7]), ([8], [8]), ([8], [8]), ([9, 7, 0, 1, 2, 3, 4, 5, 6, 7, 8, 9], [9]), ([10, 11, 0, 1, 2, 3, 4, 5, 6, 7, 8, 9, 10, 11], [10])])
def decode_Units.B7 : List Nat := [0, 0, 2, 0, 0, 0, 56, 127, 255, 511, 511, 1023, 4095]
theorem decode_Units.tab7 : rtab .any (opsOf Tryd.f16 7) = decode_Units.T7 := by kernel_rfl
theorem decode_Units.bits7 : waitsOk decode_Units.T7.2 decode_Units.B7 = true := by kernel_rfl
set_option maxHeartbeats 8000000 in
set_option maxRecDepth 100000 in
theorem decode_Units.calls (k : Nat) (a0 : Int) (A1 : Option Addr) (c1 : Nat) (l1 : List Int) (a2_0 : Int) (a2_1 : Int) (a2_2 : Int) (r1 : List (S45)) (r2 : Int) (w : World) (hr1 : Kd.C (Kd.int .u8) w A1 l1.length l1) (hc1 : l1.length ≤ c1) (h : decode_Units.f k a0 l1 a2_0 a2_1 a2_2 = some (r1, r2)) (hL : Go.Proofs.YtekalnhackjldaaDoor.H.Laid w) :
  Calls Tryd.prog 16 #[.int .u8 a0, .slice A1 l1.length c1, .agg #[.int .u8 a2_0, .int .i64 a2_1, .int .i64 a2_2]] w fun e w' => ∃ v0_ : Value, e = .returned (.tuple #[v0_, .int .i64 r2]) ∧ Kd.R k45 45 w' w.heap.size (fun _ => True) v0_ r1 ∧ Below w.heap.size w w' := by
 have HL := Aside0.mk hL
 clear hL
 have hu42 := Tryd.underlying42
 have hu40 := Tryd.underlying40
 have hu45 := Tryd.underlying45
 have HR1 := Aside0.mk hr1
 have HC1 := Aside0.mk hc1
 clear hr1 hc1
 have HB := Aside0.mk (Below.refl w.heap.size w)
 have H : (if a2_1 < 0 then (decode_Units.j0 k a0 l1 a2_1 a2_2 true a2_0 a2_1 a2_2) else (if a2_2 < 0 then (decode_Units.j0 k a0 l1 a2_1 a2_2 true a2_0 a2_1 a2_2) else (if a2_1 > (l1.length : Int) then (decode_Units.j0 k a0 l1 a2_1 a2_2 true a2_0 a2_1 a2_2) else (decode_Units.j0 k a0 l1 a2_1 a2_2 (decide (a2_2 > (wrap64 ((l1.length : Int) - a2_1)))) a2_0 a2_1 a2_2)))) = some (r1, r2) := h
 clear h
 have HC4 := Aside0.mk H
 clear H
 go_enter Tryd.func16, Tryd.ntmps16
 try go_wp2_with (first | ((with_reducible refine gate_dst (N := 5) rfl ?_); (try (refine gate_guard (by rfl) ?_; dsimp only)); refine box_event ?hg (N := 5) ?hd (cs := #[.int .u8 a2_0, .int .i64 a2_1, .int .i64 a2_2]) (t := 42) ?hr ?_; (case hd => rfl); (case hg => rfl); (case hr => first | (go_simp; done) | (go_simp; rfl)); intro gb145 hg w5 hbox hb; have n0_ := Aside0.mk (below_step (by repeat (first | (with_reducible first | exact HB.out | apply below_alloc | apply pw_below_drewN | apply below_drew1) | exact HB.out)) hb); have n1_ := Aside0.mk (hbox); have n2_ := Aside0.mk ((by rw [hg]; exact (below_size (by repeat (first | (with_reducible first | exact HB.out | apply below_alloc | apply pw_below_drewN | apply below_drew1) | exact HB.out))) : w.heap.size ≤ gb145)); have n3_ := Aside0.mk ((by rw [hg]; exact (below_size (by repeat (first | (with_reducible first | exact HB.out | apply below_alloc | apply pw_below_drewN | apply below_drew1) | exact HB.out))) : w.heap.size ≤ gb145)); clear HB; have HB := n0_; have BK145 := n1_; have GW145 := n2_; have GE145 := n3_; clear n0_ n1_ n2_ n3_; clear hb hbox hg))
 have n0_ := Aside0.mk (blk_drew BK145.out)
 have n1_ := Aside0.mk (below_drew1 HB.out)
 clear BK145
 clear HB
 have BK145 := n0_
 have HB := n1_
 clear n0_ n1_
 refine start_ (n := 8) (S := fun w' => w'.cell? ⟨gb145, 0, none⟩ = some (.int .u8 a2_0) ∧ w'.cell? ⟨gb145, 1, none⟩ = some (.int .i64 a2_1) ∧ w'.cell? ⟨gb145, 2, none⟩ = some (.int .i64 a2_2)) (ds := []) #[false, false, false, false, false, false, false, false] (by kernel_rfl) rfl rfl ⟨(blk_cell BK145.out 0).trans rfl, (blk_cell BK145.out 1).trans rfl, (blk_cell BK145.out 2).trans rfl⟩ (fun hHeld => ?_); refine with_tabW decode_Units.tab1 decode_Units.bits1 (fun HT_ HW_ => ?_)
 generalize w5.drew = w6 at BK145 HB hHeld ⊢
 refine pure_ (i := 0) (N := some 14) (v := ?_) (a' := ?_) #[true, false, false, false, false, false, false, false] rfl rfl (any_of HT_.out (by kernel_rfl)) (fun _ _ _ h => h) (Or.inl ⟨by rfl, ?_⟩) ?_ ?_
 rotate_left
 ·intro w'
  go_simp
  with_reducible rfl
 rotate_left
 ·simp only [Act.put, List.setIfInBounds_toArray, List.set_cons_zero, List.set_cons_succ, i64_w, i32_w]
  rfl
 refine pure_ (i := 1) (N := some 15) (v := ?_) (a' := ?_) #[true, true, false, false, false, false, false, false] rfl rfl (any_of HT_.out (by kernel_rfl)) (fun _ _ _ h => h) (Or.inl ⟨by rfl, ?_⟩) ?_ ?_
 rotate_left
 ·intro w'
  go_simp
  with_reducible rfl
 rotate_left
 ·simp only [Act.put, List.setIfInBounds_toArray, List.set_cons_zero, List.set_cons_succ, i64_w, i32_w]
  rfl
 refine pure_ (i := 3) (N := some 17) (v := ?_) (a' := ?_) #[true, true, false, true, false, false, false, false] rfl rfl (any_of HT_.out (by kernel_rfl)) (fun _ _ _ h => h) (Or.inl ⟨by rfl, ?_⟩) ?_ ?_
 rotate_left
 ·intro w'
  go_simp
  with_reducible rfl
 rotate_left
 ·simp only [Act.put, List.setIfInBounds_toArray, List.set_cons_zero, List.set_cons_succ, i64_w, i32_w]
  rfl
 refine pure_ (i := 4) (N := some 18) (v := ?_) (a' := ?_) #[true, true, false, true, true, false, false, false] rfl rfl (any_of HT_.out (by kernel_rfl)) (fun _ _ _ h => h) (Or.inl ⟨by rfl, ?_⟩) ?_ ?_
 rotate_left
 ·intro w'
  go_simp
  with_reducible rfl
 rotate_left
 ·simp only [Act.put, List.setIfInBounds_toArray, List.set_cons_zero, List.set_cons_succ, i64_w, i32_w]
  rfl
 refine take_ (i := 2) (N := some 16) (v := ?_) (a' := ?_) #[true, true, true, true, true, false, false, false] rfl rfl (take_ofW HT_.out HW_.out (by kernel_rfl)) (fun _ _ _ h => h) (Or.inl ⟨by rfl, ?_⟩) hHeld ?_ ?_
 rotate_left
 ·rintro w' ⟨s0, s1, s2⟩
  go_simp
  with_reducible rfl
 rotate_left
 ·simp only [Act.put, List.setIfInBounds_toArray, List.set_cons_zero, List.set_cons_succ, i64_w, i32_w]
  rfl
 refine pure_ (i := 6) (N := some 8) (v := ?_) (a' := ?_) #[true, true, true, true, true, false, true, false] rfl rfl (any_of HT_.out (by kernel_rfl)) (fun _ _ _ h => h) (Or.inl ⟨by rfl, ?_⟩) ?_ ?_
 rotate_left
 ·intro w'
  go_simp
  with_reducible rfl
 rotate_left
 ·simp only [Act.put, List.setIfInBounds_toArray, List.set_cons_zero, List.set_cons_succ, i64_w, i32_w]
  rfl
 refine take_ (i := 5) (N := some 19) (v := ?_) (a' := ?_) #[true, true, true, true, true, true, true, false] rfl rfl (take_ofW HT_.out HW_.out (by kernel_rfl)) (fun _ _ _ h => h) (Or.inl ⟨by rfl, ?_⟩) hHeld ?_ ?_
 rotate_left
 ·rintro w' ⟨s0, s1, s2⟩
  go_simp
  with_reducible rfl
 rotate_left
 ·simp only [Act.put, List.setIfInBounds_toArray, List.set_cons_zero, List.set_cons_succ, i64_w, i32_w]
  rfl
 refine pure_ (i := 7) (N := some 9) (v := ?_) (a' := ?_) #[true, true, true, true, true, true, true, true] rfl rfl (any_of HT_.out (by kernel_rfl)) (fun _ _ _ h => h) (Or.inl ⟨by rfl, ?_⟩) ?_ ?_
 rotate_left
 ·intro w'
  go_simp
  with_reducible rfl
 rotate_left
 ·simp only [Act.put, List.setIfInBounds_toArray, List.set_cons_zero, List.set_cons_succ, i64_w, i32_w]
  rfl
 refine done_ (done_of HT_.out (by kernel_rfl)) ?_
 go_upto_region 2 with (fail)
 go_cut [39] (fun v39 wc => ∃ (kq : Nat) (x39_3 : Bool), v39 = .bool x39_3 ∧ Aside0 (decode_Units.j0 kq a0 l1 a2_1 a2_2 x39_3 a2_0 a2_1 a2_2 = some (r1, r2)) ∧ Aside0 (kq ≤ k) ∧ Aside0 (wc.heap[gb145]? = some (.cells #[.int .u8 a2_0, .int .i64 a2_1, .int .i64 a2_2] 42 (0, 0))) ∧ Aside0 (Below w.heap.size w wc))
 case first =>
  have H := HC4.out
  clear HC4
  by_cases c7 : a2_1 < 0
  ·rw [if_pos c7] at H
   have c7b0 : decide (a2_1 < 0) = true := decide_eq_true c7
   clear c7
   (first | rw [c7b0] | (simp only [i64_w, i32_w]; rw [c7b0]) | skip)
   have H' := Aside0.mk H
   clear H
   go_wp2
   go_meet
   case rel => exact ⟨_, (true), (by first | rfl | (simp; done) | (simp [*]; done) | (simp [wrap64, wrap32]; done)), H', ⟨by first | omega | exact Nat.le_refl _⟩, ⟨by (with_reducible repeat (first | refine blk_drewN ?_ _ | refine blk_drew ?_ | refine blk_alloc ?_ _)); exact BK145.out⟩, ⟨by repeat (first | (with_reducible first | exact HB.out | apply below_alloc | apply pw_below_drewN | apply below_drew1 | refine below_set ?_ GE145.out) | exact HB.out)⟩⟩
  ·rw [if_neg c7] at H
   have c7b0 : decide (a2_1 < 0) = false := decide_eq_false c7
   clear c7
   (first | rw [c7b0] | (simp only [i64_w, i32_w]; rw [c7b0]) | skip)
   by_cases c8 : a2_2 < 0
   ·rw [if_pos c8] at H
    have c8b0 : decide (a2_2 < 0) = true := decide_eq_true c8
    clear c8
    have H' := Aside0.mk H
    clear H
    go_wp2
    go_meet
    case rel => exact ⟨_, (true), (by first | rfl | (simp; done) | (simp [*]; done) | (simp [wrap64, wrap32]; done)), H', ⟨by first | omega | exact Nat.le_refl _⟩, ⟨by (with_reducible repeat (first | refine blk_drewN ?_ _ | refine blk_drew ?_ | refine blk_alloc ?_ _)); exact BK145.out⟩, ⟨by repeat (first | (with_reducible first | exact HB.out | apply below_alloc | apply pw_below_drewN | apply below_drew1 | refine below_set ?_ GE145.out) | exact HB.out)⟩⟩
   ·rw [if_neg c8] at H
    have c8b0 : decide (a2_2 < 0) = false := decide_eq_false c8
    clear c8
    by_cases c9 : a2_1 > (l1.length : Int)
    ·rw [if_pos c9] at H
     have c9b0 : decide ((l1.length : Int) < a2_1) = true := decide_eq_true c9
     clear c9
     have H' := Aside0.mk H
     clear H
     go_wp2
     go_meet
     case rel => exact ⟨_, (true), (by first | rfl | (simp; done) | (simp [*]; done) | (simp [wrap64, wrap32]; done)), H', ⟨by first | omega | exact Nat.le_refl _⟩, ⟨by (with_reducible repeat (first | refine blk_drewN ?_ _ | refine blk_drew ?_ | refine blk_alloc ?_ _)); exact BK145.out⟩, ⟨by repeat (first | (with_reducible first | exact HB.out | apply below_alloc | apply pw_below_drewN | apply below_drew1 | refine below_set ?_ GE145.out) | exact HB.out)⟩⟩
    ·rw [if_neg c9] at H
     have c9b0 : decide ((l1.length : Int) < a2_1) = false := decide_eq_false c9
     clear c9
     have H' := Aside0.mk H
     clear H
     go_wp2
     go_meet
     case rel => exact ⟨_, (decide (a2_2 > (wrap64 ((l1.length : Int) - a2_1)))), (by first | rfl | (simp; done) | (simp [*]; done) | (simp [wrap64, wrap32]; done)), H', ⟨by first | omega | exact Nat.le_refl _⟩, ⟨by (with_reducible repeat (first | refine blk_drewN ?_ _ | refine blk_drew ?_ | refine blk_alloc ?_ _)); exact BK145.out⟩, ⟨by repeat (first | (with_reducible first | exact HB.out | apply below_alloc | apply pw_below_drewN | apply below_drew1 | refine below_set ?_ GE145.out) | exact HB.out)⟩⟩
 case rest =>
  clear HC4
  try clear c1
  try clear p2
  try clear p6
  try clear c7
  try clear c7b0
  try clear c8
  try clear c8b0
  try clear c9
  try clear c9b0
  obtain ⟨kq, x39_3, rfl, HA, HJ3, BK145, HB⟩ := hcut
  cases kq with
  | zero => exact absurd HA.out (by simp [decode_Units.j0])
  | succ kj3 =>
   have H := HA.out
   clear HA
   simp only [decode_Units.j0] at H
   by_cases c10 : x39_3 = true
   ·subst c10
    have H1 : (some (([] : List (S45)), 2)) = some (r1, r2) := by rw [if_pos rfl] at H; exact H
    clear H
    have H := H1
    clear H1
    simp only [Option.some.injEq, Prod.mk.injEq] at H
    obtain ⟨rfl, rfl⟩ := H
    go_wp2
    go_ret2
    exact ⟨_, by first | rfl | (simp [errW_none, errW_some] <;> rfl) | (simp [*, errW_none, errW_some] <;> rfl), by first | exact Kd.R_nil _ _ _ _ _ | exact Kd.N_nil _ _ _ _ _ | exact Kd.V_nil _ _ _ _ _ | exact Kd.Q_nil _ _ _ _ _ | exact Kd.S_nil _ _ _ _ _, by repeat (first | (with_reducible first | exact HB.out | apply below_alloc | apply pw_below_drewN | apply below_drew1 | refine below_set ?_ GE145.out) | exact HB.out)⟩
   ·replace c10 := Bool.eq_false_iff.mpr c10
    subst c10
    have H1 : (decode_Units.l0 kj3 a0 l1 a2_1 ([] : List (S45)) (wrap64 (a2_1 + a2_2)) a2_0 a2_1 a2_2) = some (r1, r2) := by rw [if_neg (show ¬ (false = true) by decide)] at H; exact H
    clear H
    have H := H1
    clear H1
    have H' := Aside0.mk H
    clear H
    go_wp2
    go_loopg [8, 10] kj3 (fun kq v8 v10 w' => ∃ (x8_2 : Int) (x10_2 : List (S45)), v8 = .int .i64 x8_2 ∧ Aside0 (decode_Units.l0 kq a0 l1 x8_2 x10_2 (wrap64 (a2_1 + a2_2)) a2_0 a2_1 a2_2 = some (r1, r2)) ∧ Aside0 (kq ≤ kj3) ∧ Aside0 (Kd.R k45 45 w' w.heap.size (fun _ => True) v10 x10_2) ∧ Aside0 (w'.heap[gb145]? = some (.cells #[.int .u8 a2_0, .int .i64 a2_1, .int .i64 a2_2] 42 (0, 0))) ∧ Aside0 (Below w.heap.size w w'))
    case atStart => exact ⟨(a2_1), (([] : List (S45))), (by first | rfl | (simp; done) | (simp [*]; done) | (simp [wrap64, wrap32]; done)), H', ⟨Nat.le_refl _⟩, ⟨by first | exact Kd.R_nil _ _ _ _ _ | exact Kd.N_nil _ _ _ _ _ | exact Kd.V_nil _ _ _ _ _ | exact Kd.Q_nil _ _ _ _ _ | exact Kd.S_nil _ _ _ _ _⟩, ⟨by (with_reducible repeat (first | refine blk_drewN ?_ _ | refine blk_drew ?_ | refine blk_alloc ?_ _)); exact BK145.out⟩, ⟨by repeat (first | (with_reducible first | exact HB.out | apply below_alloc | apply pw_below_drewN | apply below_drew1 | refine below_set ?_ GE145.out) | exact HB.out)⟩⟩
    case round =>
     clear H'
     try clear c1
     try clear p2
     try clear p6
     try clear c7
     try clear c7b0
     try clear c8
     try clear c8b0
     try clear c9
     try clear c9b0
     try clear c10
     try clear p2
     try clear p6
     obtain ⟨x8_2, x10_2, rfl, HA, HK2, HO_10, BK145, HB⟩ := hrel
     cases gk with
     | zero => exact absurd HA.out (by simp [decode_Units.l0])
     | succ k2 =>
      have H := HA.out
      clear HA
      simp only [decode_Units.l0] at H
      by_cases c11 : x8_2 < (wrap64 (a2_1 + a2_2))
      ·rw [if_pos c11] at H
       have c11b0 : decide (x8_2 < (wrap64 (a2_1 + a2_2))) = true := decide_eq_true c11
       clear c11
       by_cases c12 : 0 ≤ x8_2
       ·rw [if_pos c12] at H
        have c12b0 := eq_true c12
        have c12b1 : decide (0 ≤ x8_2) = true := decide_eq_true c12
        clear c12
        by_cases c13 : x8_2 ≤ (wrap64 (a2_1 + a2_2))
        ·rw [if_pos c13] at H
         have c13b0 := eq_true c13
         have c13b1 : decide (x8_2 ≤ (wrap64 (a2_1 + a2_2))) = true := decide_eq_true c13
         by_cases c14 : (wrap64 (a2_1 + a2_2)) ≤ (l1.length : Int)
         ·rw [if_pos c14] at H
          have c14b0 := eq_true c14
          have c14b1 : decide ((wrap64 (a2_1 + a2_2)) ≤ (l1.length : Int)) = true := decide_eq_true c14
          obtain ⟨y146, hy146⟩ : ∃ y_ : List Int, y_ = ((l1.take ((wrap64 (a2_1 + a2_2)) : Int).toNat).drop (x8_2 : Int).toNat) := ⟨_, rfl⟩
          replace H : ((decode_one.f k2 a0 a2_0 y146).bind fun bt150 => (if x10_2.length < 5864062014805 then (decode_Units.l0 k2 a0 l1 (wrap64 (x8_2 + bt150.2)) (x10_2 ++ [(⟨bt150.1, (⟨x8_2, bt150.2⟩ : S40)⟩ : S45)]) (wrap64 (a2_1 + a2_2)) a2_0 a2_1 a2_2) else (none))) = some (r1, r2) := by first | (rw [hy146]; with_reducible exact H) | (have H2_ := (Option.bind_some _ _).symm.trans H; rw [hy146]; with_reducible exact H2_) | (have H2_ := (Option.bind_some _ _).symm.trans H; with_reducible exact H2_) | with_reducible exact H | (rw [hy146]; exact H) | exact H
          have Ny146 := Aside0.mk hy146
          clear hy146
          replace H := Option.bind_eq_some_iff.mp H
          obtain ⟨⟨t150, t151⟩, A150, H⟩ := H
          replace H : (if x10_2.length < 5864062014805 then (decode_Units.l0 k2 a0 l1 (wrap64 (x8_2 + t151)) (x10_2 ++ [(⟨t150, (⟨x8_2, t151⟩ : S40)⟩ : S45)]) (wrap64 (a2_1 + a2_2)) a2_0 a2_1 a2_2) else (none)) = some (r1, r2) := H
          have A15 := Aside0.mk A150
          clear A150
          by_cases c16 : x10_2.length < 5864062014805
          ·rw [if_pos c16] at H
           have LMc16 := Aside0.mk c16
           clear c16
           obtain ⟨y152, hy152⟩ : ∃ y_ : List (S45), y_ = (x10_2 ++ [(⟨t150, (⟨x8_2, t151⟩ : S40)⟩ : S45)]) := ⟨_, rfl⟩
           replace H : (decode_Units.l0 k2 a0 l1 (wrap64 (x8_2 + t151)) y152 (wrap64 (a2_1 + a2_2)) a2_0 a2_1 a2_2) = some (r1, r2) := by first | (rw [hy152]; with_reducible exact H) | (have H2_ := (Option.bind_some _ _).symm.trans H; rw [hy152]; with_reducible exact H2_) | (have H2_ := (Option.bind_some _ _).symm.trans H; with_reducible exact H2_) | with_reducible exact H | (rw [hy152]; exact H) | exact H
           have Ny152 := Aside0.mk hy152
           clear hy152
           have H' := Aside0.mk H
           clear H
           try go_wp2
           have n0_ := Aside0.mk (Kd.R_drew HO_10.out)
           have n1_ := Aside0.mk (blk_drew BK145.out)
           have n2_ := Aside0.mk (below_drew1 HB.out)
           clear HO_10
           clear BK145
           clear HB
           have HO_10 := n0_
           have BK145 := n1_
           have HB := n2_
           clear n0_ n1_ n2_
           have q18 : ((wrap64 (a2_1 + a2_2)) : Int) ≤ ((l1.length : Int) : Int) := of_decide_eq_true (by first | (with_reducible assumption) | assumption)
           obtain ⟨i018, hi018, _, hsz18, _⟩ := info_parts info5
           have hroom18 : l1.length ≤ c1 := HC1.out
           have hC18 : Kd.C (Kd.int .u8) _ A1 l1.length l1 := HR1.out
           have ql18 : (x8_2 : Int) ≤ ((wrap64 (a2_1 + a2_2)) : Int) := of_decide_eq_true (by first | (with_reducible assumption) | assumption)
           have q018 : (0 : Int) ≤ (x8_2 : Int) := of_decide_eq_true (by first | (with_reducible assumption) | assumption)
           have hcut18 := cut_mid (P := Tryd.prog) 22 5 .i64 .i64 Tryd.underlying22 hi018 1 hsz18 A1 l1.length c1 x8_2 (wrap64 (a2_1 + a2_2)) q018 ql18 q18 hroom18
           have hr18 := Kd.C_mid (lo := (x8_2 : Int).toNat) (hi := ((wrap64 (a2_1 + a2_2)) : Int).toNat) (c := c1) hC18 (by omega) (by omega) hroom18
           obtain ⟨A18, hA18⟩ : ∃ A1z_, A1z_ = (if c1 = (x8_2 : Int).toNat then A1 else (A1 : Option Addr).map (·.add ((x8_2 : Int).toNat * 1))) := ⟨_, rfl⟩
           obtain ⟨c18, hc18⟩ : ∃ c1z_, c1z_ = c1 - (x8_2 : Int).toNat := ⟨_, rfl⟩
           have hy18 : y146.length = ((wrap64 (a2_1 + a2_2)) : Int).toNat - (x8_2 : Int).toNat := (by rw [Ny146.out, List.length_drop, List.length_take] <;> omega)
           rw [show ((l1).take ((wrap64 (a2_1 + a2_2)) : Int).toNat).drop (x8_2 : Int).toNat = y146 from Ny146.out.symm] at hr18
           replace hr18 : Kd.C (Kd.int .u8) _ A18 y146.length y146 := (by rw [hA18]; exact hr18)
           rw [← hy18, ← hA18, ← hc18] at hcut18
           have HR149 := Aside0.mk hr18
           have HC149 := Aside0.mk (show y146.length ≤ c18 from by rw [hy18, hc18]; exact Nat.sub_le_sub_right (Nat.le_trans (by omega) hroom18) _)
           clear hr18 hC18 hroom18 hi018 hsz18 hc18
           have KY18 := Aside0.mk hy18
           have KA18 := Aside0.mk hA18
           clear hy18 hA18
           replace q18 := eq_true q18
           refine start_ (n := 13) (S := fun w' => w'.cell? ⟨gb145, 0, none⟩ = some (.int .u8 a2_0) ∧ w'.cell? ⟨gb145, 1, none⟩ = some (.int .i64 a2_1) ∧ w'.cell? ⟨gb145, 2, none⟩ = some (.int .i64 a2_2)) (ds := []) #[false, false, false, false, false, false, false, false, false, false, false, false, false] (by kernel_rfl) rfl rfl ⟨(blk_cell BK145.out 0).trans rfl, (blk_cell BK145.out 1).trans rfl, (blk_cell BK145.out 2).trans rfl⟩ (fun hHeld => ?_); refine with_tabW decode_Units.tab7 decode_Units.bits7 (fun HT_ HW_ => ?_)
           generalize wr.drew = w17 at HO_10 BK145 HB HR149 hHeld ⊢
           refine pure_ (i := 0) (N := some 47) (v := ?_) (a' := ?_) #[true, false, false, false, false, false, false, false, false, false, false, false, false] rfl rfl (any_of HT_.out (by kernel_rfl)) (fun _ _ _ h => h) (Or.inl ⟨by rfl, ?_⟩) ?_ ?_
           rotate_left
           ·intro w'
            go_simp
            with_reducible rfl
           rotate_left
           ·simp only [Act.put, List.setIfInBounds_toArray, List.set_cons_zero, List.set_cons_succ, i64_w, i32_w]
            rfl
           refine pure_ (i := 1) (N := some 48) (v := ?_) (a' := ?_) #[true, true, false, false, false, false, false, false, false, false, false, false, false] rfl rfl (any_of HT_.out (by kernel_rfl)) (fun _ _ _ h => h) (Or.inl ⟨by rfl, ?_⟩) ?_ ?_
           rotate_left
           ·intro w'
            go_simp
            with_reducible rfl
           rotate_left
           ·simp only [Act.put, List.setIfInBounds_toArray, List.set_cons_zero, List.set_cons_succ, i64_w, i32_w]
            rfl
           refine pure_ (i := 3) (N := some 50) (v := ?_) (a' := ?_) #[true, true, false, true, false, false, false, false, false, false, false, false, false] rfl rfl (any_of HT_.out (by kernel_rfl)) (fun _ _ _ h => h) (Or.inl ⟨by rfl, ?_⟩) ?_ ?_
           rotate_left
           ·intro w'
            go_simp
            with_reducible rfl
           rotate_left
           ·simp only [Act.put, List.setIfInBounds_toArray, List.set_cons_zero, List.set_cons_succ, i64_w, i32_w]
            rfl
           refine pure_ (i := 4) (N := some 51) (v := ?_) (a' := ?_) #[true, true, false, true, true, false, false, false, false, false, false, false, false] rfl rfl (any_of HT_.out (by kernel_rfl)) (fun _ _ _ h => h) (Or.inl ⟨by rfl, ?_⟩) ?_ ?_
           rotate_left
           ·intro w'
            go_simp
            with_reducible rfl
           rotate_left
           ·simp only [Act.put, List.setIfInBounds_toArray, List.set_cons_zero, List.set_cons_succ, i64_w, i32_w]
            rfl
           refine pure_ (i := 5) (N := some 52) (v := ?_) (a' := ?_) #[true, true, false, true, true, true, false, false, false, false, false, false, false] rfl rfl (any_of HT_.out (by kernel_rfl)) (fun _ _ _ h => h) (Or.inl ⟨by rfl, ?_⟩) ?_ ?_
           rotate_left
           ·intro w'
            go_simp
            with_reducible rfl
           rotate_left
           ·simp only [Act.put, List.setIfInBounds_toArray, List.set_cons_zero, List.set_cons_succ, i64_w, i32_w]
            rfl
           refine pure_ (i := 6) (N := some 53) (v := ?_) (a' := ?_) #[true, true, false, true, true, true, true, false, false, false, false, false, false] rfl rfl (any_of HT_.out (by kernel_rfl)) (fun _ _ _ h => h) (Or.inl ⟨by rfl, ?_⟩) ?_ ?_
           rotate_left
           ·intro w'
            go_simp
            with_reducible rfl
           rotate_left
           ·simp only [Act.put, List.setIfInBounds_toArray, List.set_cons_zero, List.set_cons_succ, i64_w, i32_w]
            rfl
           refine take_ (i := 2) (N := some 49) (v := ?_) (a' := ?_) #[true, true, true, true, true, true, true, false, false, false, false, false, false] rfl rfl (take_ofW HT_.out HW_.out (by kernel_rfl)) (fun _ _ _ h => h) (Or.inl ⟨by rfl, ?_⟩) hHeld ?_ ?_
           rotate_left
           ·rintro w' ⟨s0, s1, s2⟩
            go_simp
            with_reducible rfl
           rotate_left
           ·simp only [Act.put, List.setIfInBounds_toArray, List.set_cons_zero, List.set_cons_succ, i64_w, i32_w]
            rfl
           refine one_ (i := 7) (N := some 54) #[true, true, true, true, true, true, true, true, false, false, false, false, false] rfl rfl (one_of HT_.out (by kernel_rfl)) (by decide) (fun K hK => ?_)
           refine goes_ Tryd.func38 (by kernel_rfl) rfl #[.int .u8 a0, .int .u8 a2_0, .slice A18 y146.length c18] (by rfl) rfl rfl (by (try simp only [List.map_toArray, List.map_cons, List.map_nil]); first | done | rfl | (simp only [List.length_drop, List.length_take]; rfl)) ?_
           with_reducible refine (decode_one.calls k2 a0 a2_0 _ _ y146 t150 t151 _ ?side1 ?side2 A15.out ?sideL).mono ?_
           (case sideL => first | exact HL.out | exact HL.out.below HB.out | exact HL.out.below (by repeat (first | (with_reducible first | exact HB.out | apply below_alloc | apply pw_below_drewN | apply below_drew1 | refine below_set ?_ (Aside0.out (by assumption))) | exact HB.out)))
           (case side1 => repeat (first | exact (Kd.C_below HR149.out HB.out) | (with_reducible refine Kd.C_alloc ?_ _) | (with_reducible refine Kd.C_drewN ?_ _) | (with_reducible refine Kd.C_drew ?_)))
           (case side2 => exact HC149.out)
           rintro e w19 ⟨rfl, hb⟩
           refine ⟨_, rfl, ?_⟩
           have n0_ := Aside0.mk (Kd.R_below (by (with_reducible repeat (first | apply Kd.R_alloc | apply Kd.R_drewN | apply Kd.R_drew)); exact HO_10.out) hb)
           have n1_ := Aside0.mk (blk_below (g := gb145) (o := .cells #[.int .u8 a2_0, .int .i64 a2_1, .int .i64 a2_2] 42 (0, 0)) (by (with_reducible repeat (first | refine blk_drewN ?_ _ | refine blk_drew ?_ | refine blk_alloc ?_ _)); exact BK145.out) hb)
           have n2_ := Aside0.mk (below_step (by repeat (first | (with_reducible first | exact HB.out | apply below_alloc | apply pw_below_drewN | apply below_drew1 | refine below_set ?_ GE145.out) | exact HB.out)) hb)
           clear HO_10
           clear BK145
           clear HB
           have HO_10 := n0_
           have BK145 := n1_
           have HB := n2_
           clear n0_ n1_ n2_
           (try clear hb)
           (try clear hb2)
           (try clear hk)
           (try clear hi)
           refine hK.out _ _ ⟨(blk_cell BK145.out 0).trans rfl, (blk_cell BK145.out 1).trans rfl, (blk_cell BK145.out 2).trans rfl⟩ (fun hHeld => ?_)
           clear hK K
           refine norm_ (a' := ?_) ?_ ?_
           rotate_left
           ·show Act.put _ (some 54) _ = _
            simp only [Act.put, List.setIfInBounds_toArray, List.set_cons_zero, List.set_cons_succ, i64_w, i32_w]
            rfl
           refine pure_ (i := 8) (N := some 46) (v := ?_) (a' := ?_) #[true, true, true, true, true, true, true, true, true, false, false, false, false] rfl rfl (any_of HT_.out (by kernel_rfl)) (fun _ _ _ h => h) (Or.inl ⟨by rfl, ?_⟩) ?_ ?_
           rotate_left
           ·intro w'
            go_simp
            with_reducible rfl
           rotate_left
           ·simp only [Act.put, List.setIfInBounds_toArray, List.set_cons_zero, List.set_cons_succ, i64_w, i32_w]
            rfl
           refine pure_ (i := 9) (N := some 55) (v := ?_) (a' := ?_) #[true, true, true, true, true, true, true, true, true, true, false, false, false] rfl rfl (any_of HT_.out (by kernel_rfl)) (fun _ _ _ h => h) (Or.inl ⟨by rfl, ?_⟩) ?_ ?_
           rotate_left
           ·intro w'
            go_simp
            with_reducible rfl
           rotate_left
           ·simp only [Act.put, List.setIfInBounds_toArray, List.set_cons_zero, List.set_cons_succ, i64_w, i32_w]
            rfl
           refine pure_ (i := 10) (N := some 56) (v := ?_) (a' := ?_) #[true, true, true, true, true, true, true, true, true, true, true, false, false] rfl rfl (any_of HT_.out (by kernel_rfl)) (fun _ _ _ h => h) (Or.inl ⟨by rfl, ?_⟩) ?_ ?_
           rotate_left
           ·intro w'
            go_simp
            with_reducible rfl
           rotate_left
           ·simp only [Act.put, List.setIfInBounds_toArray, List.set_cons_zero, List.set_cons_succ, i64_w, i32_w]
            rfl
           refine pure_ (i := 11) (N := some 12) (v := ?_) (a' := ?_) #[true, true, true, true, true, true, true, true, true, true, true, true, false] rfl rfl (any_of HT_.out (by kernel_rfl)) (fun _ _ _ h => h) (Or.inl ⟨by rfl, ?_⟩) ?_ ?_
           rotate_left
           ·intro w'
            go_simp
            with_reducible rfl
           rotate_left
           ·simp only [Act.put, List.setIfInBounds_toArray, List.set_cons_zero, List.set_cons_succ, i64_w, i32_w]
            rfl
           refine pure_ (i := 12) (N := some 13) (v := ?_) (a' := ?_) #[true, true, true, true, true, true, true, true, true, true, true, true, true] rfl rfl (any_of HT_.out (by kernel_rfl)) (fun _ _ _ h => h) (Or.inl ⟨by rfl, ?_⟩) ?_ ?_
           rotate_left
           ·intro w'
            go_simp
            with_reducible rfl
           rotate_left
           ·simp only [Act.put, List.setIfInBounds_toArray, List.set_cons_zero, List.set_cons_succ, i64_w, i32_w]
            rfl
           refine done_ (done_of HT_.out (by kernel_rfl)) ?_
           try go_wp2_with (first | ((with_reducible refine gate_builtin (b := .append) (xs := #[.tmp 57, .tmp 63]) rfl ?_); (try (refine gate_guard (by rfl) ?_; dsimp only)); at_builtin; refine Kd.R_append k45 (w0 := w) w.heap.size rfl (.tmp 57) (.tmp 63) 34 45 (.agg #[(.int .i32 0), (.int .i64 0), (.int .i64 0)]) 24 rfl Tryd.underlying34 info45 rfl (by decide) (by omega) u10 x10_2 (⟨t150, (⟨x8_2, t151⟩ : S40)⟩ : S45) [.int .i32 t150, .int .i64 x8_2, .int .i64 t151] (fun _ => True) (fun _ => False) rfl rfl ?aP (fun _ hk => hk.elim) ?aF ?aO ?aB ?aS ?aL ?_; (case aP => exact k45_mkM _ _ _ (⟨t150, (⟨x8_2, t151⟩ : S40)⟩ : S45)); (case aB => exact (by repeat (first | (with_reducible first | exact HB.out | apply below_alloc | apply pw_below_drewN | apply below_drew1 | refine below_set ?_ GE145.out) | exact HB.out))); (case aF => exact (fun _ _ => trivial)); (case aO => exact (by (with_reducible repeat (first | apply Kd.R_alloc | apply Kd.R_drewN | apply Kd.R_drew)); exact HO_10.out)); (case aS => exact (below_size (by repeat (first | (with_reducible first | exact HB.out | apply below_alloc | apply pw_below_drewN | apply below_drew1 | refine below_set ?_ GE145.out) | exact HB.out)))); (case aL => have := LMc16.out; omega); intro v153 w20 ho hb hg hat; rw [← Ny152.out] at ho; have n0_ := Aside0.mk (blk_grown (g := gb145) (o := .cells #[.int .u8 a2_0, .int .i64 a2_1, .int .i64 a2_2] 42 (0, 0)) (by (with_reducible repeat (first | refine blk_drewN ?_ _ | refine blk_drew ?_ | refine blk_alloc ?_ _)); exact BK145.out) hg (Kd.R_ne HO_10.out BK145.out (by decide))); have n1_ := Aside0.mk (hb); have n2_ := Aside0.mk (ho); clear BK145; clear HB; clear HO_10; have BK145 := n0_; have HB := n1_; have HO154 := n2_; clear n0_ n1_ n2_; clear ho hb hg hat))
           go_roundg k2
           case measure => have := HJ3.out; have := HK2.out; omega
           case rel => exact ⟨(wrap64 (x8_2 + t151)), (y152), (by first | rfl | (simp; done) | (simp [*]; done) | (simp [wrap64, wrap32]; done)), H', ⟨by have := HJ3.out; have := HK2.out; omega⟩, ⟨by (with_reducible repeat (first | apply Kd.R_alloc | apply Kd.R_drewN | apply Kd.R_drew)); exact HO154.out⟩, ⟨by (with_reducible repeat (first | refine blk_drewN ?_ _ | refine blk_drew ?_ | refine blk_alloc ?_ _)); exact BK145.out⟩, ⟨by repeat (first | (with_reducible first | exact HB.out | apply below_alloc | apply pw_below_drewN | apply below_drew1 | refine below_set ?_ GE145.out) | exact HB.out)⟩⟩
          ·rw [if_neg c16] at H
           exact absurd H (by simp)
         ·rw [if_neg c14] at H
          exact absurd H (by simp)
        ·rw [if_neg c13] at H
         exact absurd H (by simp)
       ·rw [if_neg c12] at H
        exact absurd H (by simp)
      ·rw [if_neg c11] at H
       have c11b0 : decide (x8_2 < (wrap64 (a2_1 + a2_2))) = false := decide_eq_false c11
       clear c11
       simp only [Option.some.injEq, Prod.mk.injEq] at H
       obtain ⟨rfl, rfl⟩ := H
       go_wp2
       go_ret2
       exact ⟨_, by first | rfl | (simp [errW_none, errW_some] <;> rfl) | (simp [*, errW_none, errW_some] <;> rfl), by (with_reducible repeat (first | apply Kd.R_alloc | apply Kd.R_drewN | apply Kd.R_drew)); exact HO_10.out, by repeat (first | (with_reducible first | exact HB.out | apply below_alloc | apply pw_below_drewN | apply below_drew1 | refine below_set ?_ GE145.out) | exact HB.out)⟩

/-! ### redpenlaw15_Awake: function 9 -/
def redpenlaw15_Awake.f (k : Nat)  : Option (Bool) := (const_bytes.f ([97, 38, 97, 109, 112, 59, 98] : List Int)).bind fun t155 => ((decode_Units.f k 1 t155 1 0 7).bind fun bt158 => (if bt158.2 = 0 then (if (bt158.1.length : Int) = 3 then (if 1 < (bt158.1.length : Int) then (if (((rd_T45 bt158.1 1).f0) == 38 && ((((rd_T45 bt158.1 1).f1.f0) == 1 && (((rd_T45 bt158.1 1).f1.f1) == 5)))) = true then (if 2 < (bt158.1.length : Int) then (some (((rd_T45 bt158.1 2).f1.f0) == 6)) else (none)) else (some false)) else (none)) else (some false)) else (some false)))
theorem redpenlaw15_Awake.mono : ∀ k, LeO (redpenlaw15_Awake.f k ) (redpenlaw15_Awake.f (k + 1) ) := by
 intro  k
 unfold redpenlaw15_Awake.f
 repeat' first
   | (with_reducible exact decode_Units.mono _ _ _ _ _ _)
   | (with_reducible exact LeO.refl _)
   | (with_reducible exact LeO.none _)
   | (with_reducible refine LeO.ite ?_ ?_)
   | (with_reducible refine LeO.bind ?_ (fun _ => ?_))
   | exact decode_Units.mono _ _ _ _ _ _
   | exact LeO.none _
   | refine LeO.ite ?_ ?_
   | refine LeO.bind ?_ (fun _ => ?_)
set_option maxHeartbeats 8000000 in
set_option maxRecDepth 100000 in
theorem redpenlaw15_Awake.calls (k : Nat)  (r : Bool) (w : World) (h : redpenlaw15_Awake.f k  = some r) (hL : Go.Proofs.YtekalnhackjldaaDoor.H.Laid w) :
  Calls Tryd.prog 9 #[] w fun e w' => e = .returned (.bool r) ∧ Below w.heap.size w w' := by
 have HL := Aside0.mk hL
 clear hL
 have hu40 := Tryd.underlying40
 have hu42 := Tryd.underlying42
 have hu45 := Tryd.underlying45
 have HB := Aside0.mk (Below.refl w.heap.size w)
 have H : ((const_bytes.f ([97, 38, 97, 109, 112, 59, 98] : List Int)).bind fun t155 => ((decode_Units.f k 1 t155 1 0 7).bind fun bt158 => (if bt158.2 = 0 then (if (bt158.1.length : Int) = 3 then (if 1 < (bt158.1.length : Int) then (if (((rd_T45 bt158.1 1).f0) == 38 && ((((rd_T45 bt158.1 1).f1.f0) == 1 && (((rd_T45 bt158.1 1).f1.f1) == 5)))) = true then (if 2 < (bt158.1.length : Int) then (some (((rd_T45 bt158.1 2).f1.f0) == 6)) else (none)) else (some false)) else (none)) else (some false)) else (some false)))) = some r := h
 clear h
 replace H := Option.bind_eq_some_iff.mp H
 obtain ⟨t155, A10, H⟩ := H
 replace H : ((decode_Units.f k 1 t155 1 0 7).bind fun bt158 => (if bt158.2 = 0 then (if (bt158.1.length : Int) = 3 then (if 1 < (bt158.1.length : Int) then (if (((rd_T45 bt158.1 1).f0) == 38 && ((((rd_T45 bt158.1 1).f1.f0) == 1 && (((rd_T45 bt158.1 1).f1.f1) == 5)))) = true then (if 2 < (bt158.1.length : Int) then (some (((rd_T45 bt158.1 2).f1.f0) == 6)) else (none)) else (some false)) else (none)) else (some false)) else (some false))) = some r := H
 have A1 := Aside0.mk A10
 clear A10
 replace H := Option.bind_eq_some_iff.mp H
 obtain ⟨⟨t158, t161⟩, A20, H⟩ := H
 replace H : (if t161 = 0 then (if (t158.length : Int) = 3 then (if 1 < (t158.length : Int) then (if (((rd_T45 t158 1).f0) == 38 && ((((rd_T45 t158 1).f1.f0) == 1 && (((rd_T45 t158 1).f1.f1) == 5)))) = true then (if 2 < (t158.length : Int) then (some (((rd_T45 t158 2).f1.f0) == 6)) else (none)) else (some false)) else (none)) else (some false)) else (some false)) = some r := H
 have A2 := Aside0.mk A20
 clear A20
 by_cases c3 : t161 = 0
 ·rw [if_pos c3] at H
  have c3b0 : (t161 == 0) = true := beq_iff_eq.mpr c3
  have c3b1 : (t161 != 0) = false := bne_eq_false_iff_eq.mpr c3
  clear c3
  by_cases c4 : (t158.length : Int) = 3
  ·rw [if_pos c4] at H
   have c4b0 : ((t158.length : Int) == 3) = true := beq_iff_eq.mpr c4
   have c4b1 : ((t158.length : Int) != 3) = false := bne_eq_false_iff_eq.mpr c4
   clear c4
   by_cases c5 : 1 < (t158.length : Int)
   ·rw [if_pos c5] at H
    have c5b0 : decide (1 < (t158.length : Int)) = true := decide_eq_true c5
    have c5b1 : decide (1 < t158.length) = true := decide_eq_true (by omega)
    clear c5
    by_cases c6 : (((rd_T45 t158 1).f0) == 38 && ((((rd_T45 t158 1).f1.f0) == 1 && (((rd_T45 t158 1).f1.f1) == 5)))) = true
    ·rw [if_pos c6] at H
     have c6b0 : (((rd_T45 t158 1).f0) == 38 && ((((rd_T45 t158 1).f1.f0) == 1 && (((rd_T45 t158 1).f1.f1) == 5)))) = true := c6
     (try (have c6b1 : decide (((rd_T45 t158 1).f0) = 38 && ((((rd_T45 t158 1).f1.f0) == 1 && (((rd_T45 t158 1).f1.f1) == 5)))) = true := by simpa using c6))
     (try (have c6b2 : (((rd_T45 t158 1).f0) == 38 && ((((rd_T45 t158 1).f1.f0) == 1 && (((rd_T45 t158 1).f1.f1) == 5)))) = true := by simpa using c6))
     clear c6
     by_cases c7 : 2 < (t158.length : Int)
     ·rw [if_pos c7] at H
      have c7b0 : decide (2 < (t158.length : Int)) = true := decide_eq_true c7
      have c7b1 : decide (2 < t158.length) = true := decide_eq_true (by omega)
      clear c7
      obtain rfl := Option.some.inj H
      go_enter Tryd.func9, Tryd.ntmps9
      go_wp2_with (first | ((with_reducible refine gate_dst (N := 5) rfl ?_); (try (refine gate_guard (by rfl) ?_; dsimp only)); refine const_goes (N := some 5) rfl rfl (a0 := ([97, 38, 97, 109, 112, 59, 98] : List Int)) rfl (by first | rfl | (simp; done)) (by first | rfl | (simp; done)) (by first | rfl | (simp; done)) Tryd.underlying22 Tryd.underlying5 ?_; (with_reducible refine (const_bytes.calls ([97, 38, 97, 109, 112, 59, 98] : List Int) t155 _ A1.out).mono ?_); rintro e w8 ⟨v156, rfl, ho0, hb⟩; refine ⟨_, rfl, ?_⟩; have n0_ := Aside0.mk (Kd.V_lower (Kd.V_mono (ok' := fun k_ => True) ho0 (fun k_ hk_ => trivial)) (below_size (by repeat (first | (with_reducible first | exact HB.out | apply below_alloc | apply pw_below_drewN | apply below_drew1) | exact HB.out)))); have n1_ := Aside0.mk (below_step (by repeat (first | (with_reducible first | exact HB.out | apply below_alloc | apply pw_below_drewN | apply below_drew1) | exact HB.out)) hb); clear HB; have HO157 := n0_; have HB := n1_; clear n0_ n1_; (try clear hb); (try clear hb2); (try clear hk); (try clear hi); (try clear ho0); obtain ⟨Ao9, co9, eo9⟩ := Kd.V_slice HO157.out; subst eo9) | ((with_reducible refine gate_callee (f := 16) rfl ?_); refine goesL_ (some 8) rfl rfl Tryd.func16 (by kernel_rfl) rfl #[.int .u8 1, .slice Ao9 t155.length co9, .agg #[.int .u8 1, .int .i64 0, .int .i64 7]] rfl (by (try simp only [List.map_toArray, List.map_cons, List.map_nil]); first | done | rfl | (simp only [List.length_drop, List.length_take]; rfl)) ?_; (with_reducible refine (decode_Units.calls k 1 _ _ t155 1 0 7 t158 t161 _ ?side1 ?side2 A2.out ?sideL).mono ?_); (case sideL => first | exact HL.out | exact HL.out.below HB.out | exact HL.out.below (by repeat (first | (with_reducible first | exact HB.out | apply below_alloc | apply pw_below_drewN | apply below_drew1 | refine below_set ?_ (Aside0.out (by assumption))) | exact HB.out))); (case side1 => repeat (first | exact (Kd.V_reads' HO157.out).2.2 | (with_reducible refine Kd.C_alloc ?_ _) | (with_reducible refine Kd.C_drewN ?_ _) | (with_reducible refine Kd.C_drew ?_))); (case side2 => exact (Kd.V_reads' HO157.out).2.1); rintro e w10 ⟨v159, rfl, ho0, hb⟩; refine ⟨_, rfl, ?_⟩; have n0_ := Aside0.mk (Kd.V_elder' (by (with_reducible repeat (first | apply Kd.V_alloc | apply Kd.V_drewN | apply Kd.V_drew)); exact HO157.out) (Kd.R_base ho0) hb); have n1_ := Aside0.mk (Kd.R_lower ho0 (below_size (by repeat (first | (with_reducible first | exact HB.out | apply below_alloc | apply pw_below_drewN | apply below_drew1) | exact HB.out)))); have n2_ := Aside0.mk (below_step (by repeat (first | (with_reducible first | exact HB.out | apply below_alloc | apply pw_below_drewN | apply below_drew1) | exact HB.out)) hb); clear HO157; clear HB; have HO157 := n0_; have HO160 := n1_; have HB := n2_; clear n0_ n1_ n2_; (try clear hb); (try clear hb2); (try clear hk); (try clear hi); (try clear ho0); obtain ⟨Ao11, co11, eo11⟩ := Kd.R_slice HO160.out; subst eo11; have p162 : 0 ≤ (1 : Int) := (by omega); have q162 : 1 < (t158.length : Int) := of_decide_eq_true (by first | (with_reducible assumption) | assumption); obtain ⟨ad162, e162, hx162_0, hx162_1, hx162_2⟩ := at_T45 (Kd.R_reads' HO160.out).2.2 1 p162 q162; cases e162; (try simp only [show (1 : Int).toNat = 1 from rfl, Nat.reduceMul, Nat.reduceEqDiff, Go.Addr.add, ↓reduceIte] at hx162_0); (try simp only [show (1 : Int).toNat = 1 from rfl, Nat.reduceMul, Nat.reduceEqDiff, Go.Addr.add, ↓reduceIte] at hx162_1); (try simp only [show (1 : Int).toNat = 1 from rfl, Nat.reduceMul, Nat.reduceEqDiff, Go.Addr.add, ↓reduceIte] at hx162_2); have qi162 : (1 < t158.length) = True := eq_true (by omega); (try rw [show ((1 : Int)).toNat = 1 from rfl] at hx162_0); (try rw [show 1 * 3 = 3 from rfl] at hx162_0); (try rw [show ((1 : Int)).toNat = 1 from rfl] at hx162_1); (try rw [show 1 * 3 = 3 from rfl] at hx162_1); (try rw [show ((1 : Int)).toNat = 1 from rfl] at hx162_2); (try rw [show 1 * 3 = 3 from rfl] at hx162_2); replace p162 := eq_true p162; replace q162 := eq_true q162; have p163 : 0 ≤ (2 : Int) := (by omega); have q163 : 2 < (t158.length : Int) := of_decide_eq_true (by first | (with_reducible assumption) | assumption); obtain ⟨ad163, e163, hx163_0, hx163_1, hx163_2⟩ := at_T45 (Kd.R_reads' HO160.out).2.2 2 p163 q163; obtain rfl : ad162 = ad163 := (by injection e163); (try simp only [show (2 : Int).toNat = 2 from rfl, Nat.reduceMul, Nat.reduceEqDiff, Go.Addr.add, ↓reduceIte] at hx163_0); (try simp only [show (2 : Int).toNat = 2 from rfl, Nat.reduceMul, Nat.reduceEqDiff, Go.Addr.add, ↓reduceIte] at hx163_1); (try simp only [show (2 : Int).toNat = 2 from rfl, Nat.reduceMul, Nat.reduceEqDiff, Go.Addr.add, ↓reduceIte] at hx163_2); have qi163 : (2 < t158.length) = True := eq_true (by omega); (try rw [show ((2 : Int)).toNat = 2 from rfl] at hx163_0); (try rw [show 2 * 3 = 6 from rfl] at hx163_0); (try rw [show ((2 : Int)).toNat = 2 from rfl] at hx163_1); (try rw [show 2 * 3 = 6 from rfl] at hx163_1); (try rw [show ((2 : Int)).toNat = 2 from rfl] at hx163_2); (try rw [show 2 * 3 = 6 from rfl] at hx163_2); replace p163 := eq_true p163; replace q163 := eq_true q163))
      go_ret
      exact ⟨by first | rfl | (simp [errW_none, errW_some] <;> rfl) | (simp [*, errW_none, errW_some] <;> rfl), by repeat (first | (with_reducible first | exact HB.out | apply below_alloc | apply pw_below_drewN | apply below_drew1) | exact HB.out)⟩
     ·rw [if_neg c7] at H
      exact absurd H (by simp)
    ·rw [if_neg c6] at H
     have c6b0 : (((rd_T45 t158 1).f0) == 38 && ((((rd_T45 t158 1).f1.f0) == 1 && (((rd_T45 t158 1).f1.f1) == 5)))) = false := by simpa using c6
     (try (have c6b1 : decide (((rd_T45 t158 1).f0) = 38 && ((((rd_T45 t158 1).f1.f0) == 1 && (((rd_T45 t158 1).f1.f1) == 5)))) = false := by simpa using c6))
     (try (have c6b2 : (((rd_T45 t158 1).f0) == 38 && ((((rd_T45 t158 1).f1.f0) == 1 && (((rd_T45 t158 1).f1.f1) == 5)))) = false := by simpa using c6))
     (try (have c6b3 : ¬ (((rd_T45 t158 1).f0) = 38 && ((((rd_T45 t158 1).f1.f0) == 1 && (((rd_T45 t158 1).f1.f1) == 5)))) := by simpa using c6))
     clear c6
     obtain rfl := Option.some.inj H
     go_enter Tryd.func9, Tryd.ntmps9
     go_wp2_with (first | ((with_reducible refine gate_dst (N := 5) rfl ?_); (try (refine gate_guard (by rfl) ?_; dsimp only)); refine const_goes (N := some 5) rfl rfl (a0 := ([97, 38, 97, 109, 112, 59, 98] : List Int)) rfl (by first | rfl | (simp; done)) (by first | rfl | (simp; done)) (by first | rfl | (simp; done)) Tryd.underlying22 Tryd.underlying5 ?_; (with_reducible refine (const_bytes.calls ([97, 38, 97, 109, 112, 59, 98] : List Int) t155 _ A1.out).mono ?_); rintro e w12 ⟨v156, rfl, ho0, hb⟩; refine ⟨_, rfl, ?_⟩; have n0_ := Aside0.mk (Kd.V_lower (Kd.V_mono (ok' := fun k_ => True) ho0 (fun k_ hk_ => trivial)) (below_size (by repeat (first | (with_reducible first | exact HB.out | apply below_alloc | apply pw_below_drewN | apply below_drew1) | exact HB.out)))); have n1_ := Aside0.mk (below_step (by repeat (first | (with_reducible first | exact HB.out | apply below_alloc | apply pw_below_drewN | apply below_drew1) | exact HB.out)) hb); clear HB; have HO157 := n0_; have HB := n1_; clear n0_ n1_; (try clear hb); (try clear hb2); (try clear hk); (try clear hi); (try clear ho0); obtain ⟨Ao13, co13, eo13⟩ := Kd.V_slice HO157.out; subst eo13) | ((with_reducible refine gate_callee (f := 16) rfl ?_); refine goesL_ (some 8) rfl rfl Tryd.func16 (by kernel_rfl) rfl #[.int .u8 1, .slice Ao13 t155.length co13, .agg #[.int .u8 1, .int .i64 0, .int .i64 7]] rfl (by (try simp only [List.map_toArray, List.map_cons, List.map_nil]); first | done | rfl | (simp only [List.length_drop, List.length_take]; rfl)) ?_; (with_reducible refine (decode_Units.calls k 1 _ _ t155 1 0 7 t158 t161 _ ?side1 ?side2 A2.out ?sideL).mono ?_); (case sideL => first | exact HL.out | exact HL.out.below HB.out | exact HL.out.below (by repeat (first | (with_reducible first | exact HB.out | apply below_alloc | apply pw_below_drewN | apply below_drew1 | refine below_set ?_ (Aside0.out (by assumption))) | exact HB.out))); (case side1 => repeat (first | exact (Kd.V_reads' HO157.out).2.2 | (with_reducible refine Kd.C_alloc ?_ _) | (with_reducible refine Kd.C_drewN ?_ _) | (with_reducible refine Kd.C_drew ?_))); (case side2 => exact (Kd.V_reads' HO157.out).2.1); rintro e w14 ⟨v159, rfl, ho0, hb⟩; refine ⟨_, rfl, ?_⟩; have n0_ := Aside0.mk (Kd.V_elder' (by (with_reducible repeat (first | apply Kd.V_alloc | apply Kd.V_drewN | apply Kd.V_drew)); exact HO157.out) (Kd.R_base ho0) hb); have n1_ := Aside0.mk (Kd.R_lower ho0 (below_size (by repeat (first | (with_reducible first | exact HB.out | apply below_alloc | apply pw_below_drewN | apply below_drew1) | exact HB.out)))); have n2_ := Aside0.mk (below_step (by repeat (first | (with_reducible first | exact HB.out | apply below_alloc | apply pw_below_drewN | apply below_drew1) | exact HB.out)) hb); clear HO157; clear HB; have HO157 := n0_; have HO160 := n1_; have HB := n2_; clear n0_ n1_ n2_; (try clear hb); (try clear hb2); (try clear hk); (try clear hi); (try clear ho0); obtain ⟨Ao15, co15, eo15⟩ := Kd.R_slice HO160.out; subst eo15; have p162 : 0 ≤ (1 : Int) := (by omega); have q162 : 1 < (t158.length : Int) := of_decide_eq_true (by first | (with_reducible assumption) | assumption); obtain ⟨ad162, e162, hx162_0, hx162_1, hx162_2⟩ := at_T45 (Kd.R_reads' HO160.out).2.2 1 p162 q162; cases e162; (try simp only [show (1 : Int).toNat = 1 from rfl, Nat.reduceMul, Nat.reduceEqDiff, Go.Addr.add, ↓reduceIte] at hx162_0); (try simp only [show (1 : Int).toNat = 1 from rfl, Nat.reduceMul, Nat.reduceEqDiff, Go.Addr.add, ↓reduceIte] at hx162_1); (try simp only [show (1 : Int).toNat = 1 from rfl, Nat.reduceMul, Nat.reduceEqDiff, Go.Addr.add, ↓reduceIte] at hx162_2); have qi162 : (1 < t158.length) = True := eq_true (by omega); (try rw [show ((1 : Int)).toNat = 1 from rfl] at hx162_0); (try rw [show 1 * 3 = 3 from rfl] at hx162_0); (try rw [show ((1 : Int)).toNat = 1 from rfl] at hx162_1); (try rw [show 1 * 3 = 3 from rfl] at hx162_1); (try rw [show ((1 : Int)).toNat = 1 from rfl] at hx162_2); (try rw [show 1 * 3 = 3 from rfl] at hx162_2); replace p162 := eq_true p162; replace q162 := eq_true q162))
     go_ret
     exact ⟨by first | rfl | (simp [errW_none, errW_some] <;> rfl) | (simp [*, errW_none, errW_some] <;> rfl), by repeat (first | (with_reducible first | exact HB.out | apply below_alloc | apply pw_below_drewN | apply below_drew1) | exact HB.out)⟩
   ·rw [if_neg c5] at H
    exact absurd H (by simp)
  ·rw [if_neg c4] at H
   have c4b0 : ((t158.length : Int) == 3) = false := beq_eq_false_iff_ne.mpr c4
   have c4b1 : ((t158.length : Int) != 3) = true := bne_iff_ne.mpr c4
   obtain rfl := Option.some.inj H
   go_enter Tryd.func9, Tryd.ntmps9
   go_wp2_with (first | ((with_reducible refine gate_dst (N := 5) rfl ?_); (try (refine gate_guard (by rfl) ?_; dsimp only)); refine const_goes (N := some 5) rfl rfl (a0 := ([97, 38, 97, 109, 112, 59, 98] : List Int)) rfl (by first | rfl | (simp; done)) (by first | rfl | (simp; done)) (by first | rfl | (simp; done)) Tryd.underlying22 Tryd.underlying5 ?_; (with_reducible refine (const_bytes.calls ([97, 38, 97, 109, 112, 59, 98] : List Int) t155 _ A1.out).mono ?_); rintro e w16 ⟨v156, rfl, ho0, hb⟩; refine ⟨_, rfl, ?_⟩; have n0_ := Aside0.mk (Kd.V_lower (Kd.V_mono (ok' := fun k_ => True) ho0 (fun k_ hk_ => trivial)) (below_size (by repeat (first | (with_reducible first | exact HB.out | apply below_alloc | apply pw_below_drewN | apply below_drew1) | exact HB.out)))); have n1_ := Aside0.mk (below_step (by repeat (first | (with_reducible first | exact HB.out | apply below_alloc | apply pw_below_drewN | apply below_drew1) | exact HB.out)) hb); clear HB; have HO157 := n0_; have HB := n1_; clear n0_ n1_; (try clear hb); (try clear hb2); (try clear hk); (try clear hi); (try clear ho0); obtain ⟨Ao17, co17, eo17⟩ := Kd.V_slice HO157.out; subst eo17) | ((with_reducible refine gate_callee (f := 16) rfl ?_); refine goesL_ (some 8) rfl rfl Tryd.func16 (by kernel_rfl) rfl #[.int .u8 1, .slice Ao17 t155.length co17, .agg #[.int .u8 1, .int .i64 0, .int .i64 7]] rfl (by (try simp only [List.map_toArray, List.map_cons, List.map_nil]); first | done | rfl | (simp only [List.length_drop, List.length_take]; rfl)) ?_; (with_reducible refine (decode_Units.calls k 1 _ _ t155 1 0 7 t158 t161 _ ?side1 ?side2 A2.out ?sideL).mono ?_); (case sideL => first | exact HL.out | exact HL.out.below HB.out | exact HL.out.below (by repeat (first | (with_reducible first | exact HB.out | apply below_alloc | apply pw_below_drewN | apply below_drew1 | refine below_set ?_ (Aside0.out (by assumption))) | exact HB.out))); (case side1 => repeat (first | exact (Kd.V_reads' HO157.out).2.2 | (with_reducible refine Kd.C_alloc ?_ _) | (with_reducible refine Kd.C_drewN ?_ _) | (with_reducible refine Kd.C_drew ?_))); (case side2 => exact (Kd.V_reads' HO157.out).2.1); rintro e w18 ⟨v159, rfl, ho0, hb⟩; refine ⟨_, rfl, ?_⟩; have n0_ := Aside0.mk (Kd.V_elder' (by (with_reducible repeat (first | apply Kd.V_alloc | apply Kd.V_drewN | apply Kd.V_drew)); exact HO157.out) (Kd.R_base ho0) hb); have n1_ := Aside0.mk (Kd.R_lower ho0 (below_size (by repeat (first | (with_reducible first | exact HB.out | apply below_alloc | apply pw_below_drewN | apply below_drew1) | exact HB.out)))); have n2_ := Aside0.mk (below_step (by repeat (first | (with_reducible first | exact HB.out | apply below_alloc | apply pw_below_drewN | apply below_drew1) | exact HB.out)) hb); clear HO157; clear HB; have HO157 := n0_; have HO160 := n1_; have HB := n2_; clear n0_ n1_ n2_; (try clear hb); (try clear hb2); (try clear hk); (try clear hi); (try clear ho0); obtain ⟨Ao19, co19, eo19⟩ := Kd.R_slice HO160.out; subst eo19))
   go_ret
   exact ⟨by first | rfl | (simp [errW_none, errW_some] <;> rfl) | (simp [*, errW_none, errW_some] <;> rfl), by repeat (first | (with_reducible first | exact HB.out | apply below_alloc | apply pw_below_drewN | apply below_drew1) | exact HB.out)⟩
 ·rw [if_neg c3] at H
  have c3b0 : (t161 == 0) = false := beq_eq_false_iff_ne.mpr c3
  have c3b1 : (t161 != 0) = true := bne_iff_ne.mpr c3
  obtain rfl := Option.some.inj H
  go_enter Tryd.func9, Tryd.ntmps9
  go_wp2_with (first | ((with_reducible refine gate_dst (N := 5) rfl ?_); (try (refine gate_guard (by rfl) ?_; dsimp only)); refine const_goes (N := some 5) rfl rfl (a0 := ([97, 38, 97, 109, 112, 59, 98] : List Int)) rfl (by first | rfl | (simp; done)) (by first | rfl | (simp; done)) (by first | rfl | (simp; done)) Tryd.underlying22 Tryd.underlying5 ?_; (with_reducible refine (const_bytes.calls ([97, 38, 97, 109, 112, 59, 98] : List Int) t155 _ A1.out).mono ?_); rintro e w20 ⟨v156, rfl, ho0, hb⟩; refine ⟨_, rfl, ?_⟩; have n0_ := Aside0.mk (Kd.V_lower (Kd.V_mono (ok' := fun k_ => True) ho0 (fun k_ hk_ => trivial)) (below_size (by repeat (first | (with_reducible first | exact HB.out | apply below_alloc | apply pw_below_drewN | apply below_drew1) | exact HB.out)))); have n1_ := Aside0.mk (below_step (by repeat (first | (with_reducible first | exact HB.out | apply below_alloc | apply pw_below_drewN | apply below_drew1) | exact HB.out)) hb); clear HB; have HO157 := n0_; have HB := n1_; clear n0_ n1_; (try clear hb); (try clear hb2); (try clear hk); (try clear hi); (try clear ho0); obtain ⟨Ao21, co21, eo21⟩ := Kd.V_slice HO157.out; subst eo21) | ((with_reducible refine gate_callee (f := 16) rfl ?_); refine goesL_ (some 8) rfl rfl Tryd.func16 (by kernel_rfl) rfl #[.int .u8 1, .slice Ao21 t155.length co21, .agg #[.int .u8 1, .int .i64 0, .int .i64 7]] rfl (by (try simp only [List.map_toArray, List.map_cons, List.map_nil]); first | done | rfl | (simp only [List.length_drop, List.length_take]; rfl)) ?_; (with_reducible refine (decode_Units.calls k 1 _ _ t155 1 0 7 t158 t161 _ ?side1 ?side2 A2.out ?sideL).mono ?_); (case sideL => first | exact HL.out | exact HL.out.below HB.out | exact HL.out.below (by repeat (first | (with_reducible first | exact HB.out | apply below_alloc | apply pw_below_drewN | apply below_drew1 | refine below_set ?_ (Aside0.out (by assumption))) | exact HB.out))); (case side1 => repeat (first | exact (Kd.V_reads' HO157.out).2.2 | (with_reducible refine Kd.C_alloc ?_ _) | (with_reducible refine Kd.C_drewN ?_ _) | (with_reducible refine Kd.C_drew ?_))); (case side2 => exact (Kd.V_reads' HO157.out).2.1); rintro e w22 ⟨v159, rfl, ho0, hb⟩; refine ⟨_, rfl, ?_⟩; have n0_ := Aside0.mk (Kd.V_elder' (by (with_reducible repeat (first | apply Kd.V_alloc | apply Kd.V_drewN | apply Kd.V_drew)); exact HO157.out) (Kd.R_base ho0) hb); have n1_ := Aside0.mk (Kd.R_lower ho0 (below_size (by repeat (first | (with_reducible first | exact HB.out | apply below_alloc | apply pw_below_drewN | apply below_drew1) | exact HB.out)))); have n2_ := Aside0.mk (below_step (by repeat (first | (with_reducible first | exact HB.out | apply below_alloc | apply pw_below_drewN | apply below_drew1) | exact HB.out)) hb); clear HO157; clear HB; have HO157 := n0_; have HO160 := n1_; have HB := n2_; clear n0_ n1_ n2_; (try clear hb); (try clear hb2); (try clear hk); (try clear hi); (try clear ho0)))
  go_ret
  exact ⟨by first | rfl | (simp [errW_none, errW_some] <;> rfl) | (simp [*, errW_none, errW_some] <;> rfl), by repeat (first | (with_reducible first | exact HB.out | apply below_alloc | apply pw_below_drewN | apply below_drew1) | exact HB.out)⟩

/-! ### redpenlaw11_Bits: function 10 -/
def redpenlaw11_Bits.l0 : Nat → List ByteArray → List Int → List Int → List Int → Int → Int → Option (List Int)
 | 0, _, _, _, _, _, _ => none
 | k + 1, x0, x2, x7, x11, x12, x13 => if x13 < x12 then (if 0 ≤ x13 then (if x13 < (x11.length : Int) then (if x13 ≥ 60 then (some x7) else (if (wrap64 (rd x11 x13)) < (x0.length : Int) then (if 0 ≤ (wrap64 (rd x11 x13)) then (if x7.length + (rdOf ByteArray.empty x0 (wrap64 (rd x11 x13))).size < 140737488355328 then (redpenlaw11_Bits.l0 k x0 x2 (x7 ++ bytesOf (rdOf ByteArray.empty x0 (wrap64 (rd x11 x13)))) x11 x12 (wrap64 (x13 + 1))) else (none)) else (none)) else (if (x2.length : Int) > 0 then (if (x2.length : Int) = 0 then (none) else (if 0 ≤ (Int.tmod (wrap64 (rd x11 x13)) (x2.length : Int)) then (if (Int.tmod (wrap64 (rd x11 x13)) (x2.length : Int)) < (x2.length : Int) then (if x7.length < 140737488355328 then (redpenlaw11_Bits.l0 k x0 x2 (x7 ++ [rd x2 (Int.tmod (wrap64 (rd x11 x13)) (x2.length : Int))]) x11 x12 (wrap64 (x13 + 1))) else (none)) else (none)) else (none))) else (redpenlaw11_Bits.l0 k x0 x2 x7 x11 x12 (wrap64 (x13 + 1)))))) else (none)) else (none)) else (some x7)
def redpenlaw11_Bits.f (k : Nat) (l0 : List ByteArray) (l1 : List Int) (l2 : List Int) : Option (List Int) := redpenlaw11_Bits.l0 k l0 l2 ([] : List Int) l1 (l1.length : Int) 0
theorem redpenlaw11_Bits.mono_l : ∀ k, (∀ y0 y1 y2 y3 y4 y5, LeO (redpenlaw11_Bits.l0 k y0 y1 y2 y3 y4 y5) (redpenlaw11_Bits.l0 (k + 1) y0 y1 y2 y3 y4 y5))
 | 0 => fun _ _ _ _ _ _ r h => by simp [redpenlaw11_Bits.l0] at h
 | k + 1 => by
  have ih0 := redpenlaw11_Bits.mono_l k
  ·intro y0 y1 y2 y3 y4 y5
   unfold redpenlaw11_Bits.l0
   repeat' first
   | (with_reducible exact ih0 _ _ _ _ _ _)
   | (with_reducible exact LeO.refl _)
   | (with_reducible exact LeO.none _)
   | (with_reducible refine LeO.ite ?_ ?_)
   | (with_reducible refine LeO.bind ?_ (fun _ => ?_))
   | exact ih0 _ _ _ _ _ _
   | exact LeO.none _
   | refine LeO.ite ?_ ?_
   | refine LeO.bind ?_ (fun _ => ?_)
theorem redpenlaw11_Bits.mono : ∀ a0 a1 a2 k, LeO (redpenlaw11_Bits.f k a0 a1 a2) (redpenlaw11_Bits.f (k + 1) a0 a1 a2) := by
 intro a0 a1 a2 k
 have ih0 := redpenlaw11_Bits.mono_l k
 unfold redpenlaw11_Bits.f
 repeat' first
   | (with_reducible exact ih0 _ _ _ _ _ _)
   | (with_reducible exact LeO.refl _)
   | (with_reducible exact LeO.none _)
   | (with_reducible refine LeO.ite ?_ ?_)
   | (with_reducible refine LeO.bind ?_ (fun _ => ?_))
   | exact ih0 _ _ _ _ _ _
   | exact LeO.none _
   | refine LeO.ite ?_ ?_
   | refine LeO.bind ?_ (fun _ => ?_)
set_option maxHeartbeats 8000000 in
set_option maxRecDepth 100000 in
theorem redpenlaw11_Bits.calls (k : Nat) (A0 : Option Addr) (c0 : Nat) (l0 : List ByteArray) (A1 : Option Addr) (c1 : Nat) (l1 : List Int) (A2 : Option Addr) (c2 : Nat) (l2 : List Int) (r : List Int) (w : World) (hr0 : Kd.C Kd.string w A0 l0.length l0) (hc0 : l0.length ≤ c0) (hr1 : Kd.C (Kd.int .u8) w A1 l1.length l1) (hc1 : l1.length ≤ c1) (hr2 : Kd.C (Kd.int .u8) w A2 l2.length l2) (hc2 : l2.length ≤ c2) (h : redpenlaw11_Bits.f k l0 l1 l2 = some r) :
  Calls Tryd.prog 10 #[.slice A0 l0.length c0, .slice A1 l1.length c1, .slice A2 l2.length c2] w fun e w' => ∃ v0_ : Value, e = .returned (v0_) ∧ Kd.R (Kd.int .u8) 5 w' w.heap.size (fun _ => True) v0_ r ∧ Below w.heap.size w w' := by
 have HR0 := Aside0.mk hr0
 have HC0 := Aside0.mk hc0
 clear hr0 hc0
 have HR1 := Aside0.mk hr1
 have HC1 := Aside0.mk hc1
 clear hr1 hc1
 have HR2 := Aside0.mk hr2
 have HC2 := Aside0.mk hc2
 clear hr2 hc2
 have HB := Aside0.mk (Below.refl w.heap.size w)
 have H : (redpenlaw11_Bits.l0 k l0 l2 ([] : List Int) l1 (l1.length : Int) 0) = some r := h
 clear h
 have H' := Aside0.mk H
 clear H
 go_enter Tryd.func10, Tryd.ntmps10
 go_wp2
 go_loopg [7, 13] k (fun kq v7 v13 w' => ∃ (x7_1 : List Int) (x13_1 : Int), v13 = .int .i64 x13_1 ∧ Aside0 (redpenlaw11_Bits.l0 kq l0 l2 x7_1 l1 (l1.length : Int) x13_1 = some r) ∧ Aside0 (kq ≤ k) ∧ Aside0 (Kd.R (Kd.int .u8) 5 w' w.heap.size (fun _ => True) v7 x7_1) ∧ Aside0 (Below w.heap.size w w'))
 case atStart => exact ⟨(([] : List Int)), (0), (by first | rfl | (simp; done) | (simp [*]; done) | (simp [wrap64, wrap32]; done)), H', ⟨Nat.le_refl _⟩, ⟨by first | exact Kd.R_nil _ _ _ _ _ | exact Kd.N_nil _ _ _ _ _ | exact Kd.V_nil _ _ _ _ _ | exact Kd.Q_nil _ _ _ _ _ | exact Kd.S_nil _ _ _ _ _⟩, ⟨by repeat (first | (with_reducible first | exact HB.out | apply below_alloc | apply pw_below_drewN | apply below_drew1) | exact HB.out)⟩⟩
 case round =>
  clear H'
  try clear c1
  try clear c2
  try clear p2
  obtain ⟨x7_1, x13_1, rfl, HA, HK1, HO_7, HB⟩ := hrel
  cases gk with
  | zero => exact absurd HA.out (by simp [redpenlaw11_Bits.l0])
  | succ k1 =>
   have H := HA.out
   clear HA
   simp only [redpenlaw11_Bits.l0] at H
   by_cases c4 : x13_1 < (l1.length : Int)
   ·rw [if_pos c4] at H
    have c4b0 : decide (x13_1 < (l1.length : Int)) = true := decide_eq_true c4
    clear c4
    by_cases c5 : 0 ≤ x13_1
    ·rw [if_pos c5] at H
     have c5b0 : decide (0 ≤ x13_1) = true := decide_eq_true c5
     clear c5
     by_cases c6 : x13_1 < (l1.length : Int)
     ·rw [if_pos c6] at H
      have c6b0 : decide (x13_1 < (l1.length : Int)) = true := decide_eq_true c6
      clear c6
      by_cases c7 : x13_1 ≥ 60
      ·rw [if_pos c7] at H
       have c7b0 : decide (60 ≤ x13_1) = true := decide_eq_true c7
       clear c7
       obtain rfl := Option.some.inj H
       have p164 : 0 ≤ (x13_1 : Int) := of_decide_eq_true (by first | (with_reducible assumption) | assumption)
       have q164 : x13_1 < (l1.length : Int) := of_decide_eq_true (by first | (with_reducible assumption) | assumption)
       obtain ⟨ad164, e164, hx164_0⟩ := Kd.at_int HR1.out x13_1 p164 q164
       cases e164
       replace hx164_0 := (HB.out.cell (World.block_lt_of_cell? w _ hx164_0)).trans hx164_0
       replace p164 := eq_true p164
       replace q164 := eq_true q164
       go_wp2
       go_ret
       exact ⟨_, by first | rfl | (simp [errW_none, errW_some] <;> rfl) | (simp [*, errW_none, errW_some] <;> rfl), by (with_reducible repeat (first | apply Kd.R_alloc | apply Kd.R_drewN | apply Kd.R_drew)); exact HO_7.out, by repeat (first | (with_reducible first | exact HB.out | apply below_alloc | apply pw_below_drewN | apply below_drew1) | exact HB.out)⟩
      ·rw [if_neg c7] at H
       have c7b0 : decide (60 ≤ x13_1) = false := decide_eq_false c7
       clear c7
       by_cases c8 : (wrap64 (rd l1 x13_1)) < (l0.length : Int)
       ·rw [if_pos c8] at H
        have c8b0 : decide ((wrap64 (rd l1 x13_1)) < (l0.length : Int)) = true := decide_eq_true c8
        clear c8
        obtain ⟨ji9, hji9⟩ : ∃ j_ : Int, (wrap64 (rd l1 x13_1)) = j_ := ⟨_, rfl⟩
        replace H : (if 0 ≤ (ji9) then (if x7_1.length + (rdOf ByteArray.empty l0 (ji9)).size < 140737488355328 then (redpenlaw11_Bits.l0 k1 l0 l2 (x7_1 ++ bytesOf (rdOf ByteArray.empty l0 (ji9))) l1 (l1.length : Int) (wrap64 (x13_1 + 1))) else (none)) else (none)) = some r := by first | (rw [hji9] at H; exact H) | (simp only [hji9] at H ⊢; exact H)
        (try rw [hji9] at c8b0)
        have hji9w : (IntKind.i64.wrap (rd l1 x13_1)) = ji9 := (i64_w _).trans hji9
        by_cases c10 : 0 ≤ (ji9)
        ·rw [if_pos c10] at H
         have c10b0 : decide (0 ≤ (ji9)) = true := decide_eq_true c10
         clear c10
         by_cases c11 : x7_1.length + (rdOf ByteArray.empty l0 (ji9)).size < 140737488355328
         ·rw [if_pos c11] at H
          have LMc11 := Aside0.mk c11
          clear c11
          obtain ⟨y166, hy166⟩ : ∃ y_ : List Int, y_ = (x7_1 ++ bytesOf (rdOf ByteArray.empty l0 (ji9))) := ⟨_, rfl⟩
          replace H : (redpenlaw11_Bits.l0 k1 l0 l2 y166 l1 (l1.length : Int) (wrap64 (x13_1 + 1))) = some r := by first | (rw [hy166]; with_reducible exact H) | (have H2_ := (Option.bind_some _ _).symm.trans H; rw [hy166]; with_reducible exact H2_) | (have H2_ := (Option.bind_some _ _).symm.trans H; with_reducible exact H2_) | with_reducible exact H | (rw [hy166]; exact H) | exact H
          have Ny166 := Aside0.mk hy166
          clear hy166
          have H' := Aside0.mk H
          clear H
          have p164 : 0 ≤ (x13_1 : Int) := of_decide_eq_true (by first | (with_reducible assumption) | assumption)
          have q164 : x13_1 < (l1.length : Int) := of_decide_eq_true (by first | (with_reducible assumption) | assumption)
          obtain ⟨ad164, e164, hx164_0⟩ := Kd.at_int HR1.out x13_1 p164 q164
          cases e164
          replace hx164_0 := (HB.out.cell (World.block_lt_of_cell? w _ hx164_0)).trans hx164_0
          replace p164 := eq_true p164
          replace q164 := eq_true q164
          have p165 : 0 ≤ ((ji9) : Int) := of_decide_eq_true (by first | (with_reducible assumption) | assumption)
          have q165 : (ji9) < (l0.length : Int) := of_decide_eq_true (by first | (with_reducible assumption) | assumption)
          obtain ⟨ad165, e165, hx165_0⟩ := Kd.at_string HR0.out (ji9) p165 q165
          cases e165
          replace hx165_0 := (HB.out.cell (World.block_lt_of_cell? w _ hx165_0)).trans hx165_0
          replace p165 := eq_true p165
          replace q165 := eq_true q165
          go_wp2_with (first | (at_builtin; refine print_append_str (w0 := w) w.heap.size rfl (.tmp 26) _ 22 9 5 rfl Tryd.underlying22 Tryd.underlying9 info5 u7 x7_1 (rdOf ByteArray.empty l0 (ji9)) rfl rfl ?aO ?aB ?aS ?aL ?_; (case aB => exact (by repeat (first | (with_reducible first | exact HB.out | apply below_alloc | apply pw_below_drewN | apply below_drew1) | exact HB.out))); (case aO => exact (Kd.own_of_R (by (with_reducible repeat (first | apply Kd.R_alloc | apply Kd.R_drewN | apply Kd.R_drew)); exact HO_7.out))); (case aS => exact (below_size (by repeat (first | (with_reducible first | exact HB.out | apply below_alloc | apply pw_below_drewN | apply below_drew1) | exact HB.out)))); (case aL => have := LMc11.out; omega); intro v167 w12 ho0 hb hg; have ho := Kd.R_of_own (h1 := fun _ => rfl) (ok := fun _ => True) ho0 (fun _ _ => trivial); clear ho0; have hat := True.intro; rw [← Ny166.out] at ho; change Kd.R (Kd.int .u8) 5 w12 w.heap.size (fun _ => True) v167 y166 at ho; have n0_ := Aside0.mk (hb); have n1_ := Aside0.mk (ho); clear HB; clear HO_7; have HB := n0_; have HO168 := n1_; clear n0_ n1_; clear ho hb hg hat))
          go_roundg k1
          case measure => have := HK1.out; omega
          case rel => exact ⟨(y166), (wrap64 (x13_1 + 1)), (by first | rfl | (simp; done) | (simp [*]; done) | (simp [wrap64, wrap32]; done)), H', ⟨by have := HK1.out; omega⟩, ⟨by (with_reducible repeat (first | apply Kd.R_alloc | apply Kd.R_drewN | apply Kd.R_drew)); exact HO168.out⟩, ⟨by repeat (first | (with_reducible first | exact HB.out | apply below_alloc | apply pw_below_drewN | apply below_drew1) | exact HB.out)⟩⟩
         ·rw [if_neg c11] at H
          exact absurd H (by simp)
        ·rw [if_neg c10] at H
         exact absurd H (by simp)
       ·rw [if_neg c8] at H
        have c8b0 : decide ((wrap64 (rd l1 x13_1)) < (l0.length : Int)) = false := decide_eq_false c8
        clear c8
        by_cases c13 : (l2.length : Int) > 0
        ·rw [if_pos c13] at H
         have c13b0 : decide (0 < (l2.length : Int)) = true := decide_eq_true c13
         have c13b1 : decide (0 < l2.length) = true := decide_eq_true (by omega)
         clear c13
         by_cases c14 : (l2.length : Int) = 0
         ·rw [if_pos c14] at H
          exact absurd H (by simp)
         ·rw [if_neg c14] at H
          have c14b0 : ((l2.length : Int) == 0) = false := beq_eq_false_iff_ne.mpr c14
          have c14b1 : ((l2.length : Int) != 0) = true := bne_iff_ne.mpr c14
          have c14b2 : ¬ (l2 = []) := fun h_ => c14 (by rw [h_]; rfl)
          obtain ⟨ji15, hji15⟩ : ∃ j_ : Int, (Int.tmod (wrap64 (rd l1 x13_1)) (l2.length : Int)) = j_ := ⟨_, rfl⟩
          replace H : (if 0 ≤ (ji15) then (if (ji15) < (l2.length : Int) then (if x7_1.length < 140737488355328 then (redpenlaw11_Bits.l0 k1 l0 l2 (x7_1 ++ [rd l2 (ji15)]) l1 (l1.length : Int) (wrap64 (x13_1 + 1))) else (none)) else (none)) else (none)) = some r := by first | (rw [hji15] at H; exact H) | (simp only [hji15] at H ⊢; exact H)
          by_cases c16 : 0 ≤ (ji15)
          ·rw [if_pos c16] at H
           have c16b0 : decide (0 ≤ (ji15)) = true := decide_eq_true c16
           clear c16
           by_cases c17 : (ji15) < (l2.length : Int)
           ·rw [if_pos c17] at H
            have c17b0 : decide ((ji15) < (l2.length : Int)) = true := decide_eq_true c17
            clear c17
            by_cases c18 : x7_1.length < 140737488355328
            ·rw [if_pos c18] at H
             have LMc18 := Aside0.mk c18
             clear c18
             obtain ⟨y170, hy170⟩ : ∃ y_ : List Int, y_ = (x7_1 ++ [rd l2 (ji15)]) := ⟨_, rfl⟩
             replace H : (redpenlaw11_Bits.l0 k1 l0 l2 y170 l1 (l1.length : Int) (wrap64 (x13_1 + 1))) = some r := by first | (rw [hy170]; with_reducible exact H) | (have H2_ := (Option.bind_some _ _).symm.trans H; rw [hy170]; with_reducible exact H2_) | (have H2_ := (Option.bind_some _ _).symm.trans H; with_reducible exact H2_) | with_reducible exact H | (rw [hy170]; exact H) | exact H
             have Ny170 := Aside0.mk hy170
             clear hy170
             have H' := Aside0.mk H
             clear H
             have p164 : 0 ≤ (x13_1 : Int) := of_decide_eq_true (by first | (with_reducible assumption) | assumption)
             have q164 : x13_1 < (l1.length : Int) := of_decide_eq_true (by first | (with_reducible assumption) | assumption)
             obtain ⟨ad164, e164, hx164_0⟩ := Kd.at_int HR1.out x13_1 p164 q164
             cases e164
             replace hx164_0 := (HB.out.cell (World.block_lt_of_cell? w _ hx164_0)).trans hx164_0
             replace p164 := eq_true p164
             replace q164 := eq_true q164
             have p169 : 0 ≤ ((ji15) : Int) := of_decide_eq_true (by first | (with_reducible assumption) | assumption)
             have q169 : (ji15) < (l2.length : Int) := of_decide_eq_true (by first | (with_reducible assumption) | assumption)
             obtain ⟨ad169, e169, hx169_0⟩ := Kd.at_int HR2.out (ji15) p169 q169
             cases e169
             replace hx169_0 := (HB.out.cell (World.block_lt_of_cell? w _ hx169_0)).trans hx169_0
             replace p169 := eq_true p169
             replace q169 := eq_true q169
             go_wp2_with (first | ((with_reducible refine gate_builtin (b := .append) (xs := #[.tmp 35, .tmp 43]) rfl ?_); at_builtin; refine Kd.R_append (Kd.int .u8) (w0 := w) w.heap.size rfl (.tmp 35) (.tmp 43) 22 5 (.int .u8 0) 1 rfl Tryd.underlying22 info5 rfl (by decide) (by omega) u7 x7_1 (rd l2 (ji15)) [.int .u8 (rd l2 (ji15))] (fun _ => True) (fun _ => False) rfl rfl ?aP (fun _ hk => hk.elim) ?aF ?aO ?aB ?aS ?aL ?_; (case aP => exact rfl); (case aB => exact (by repeat (first | (with_reducible first | exact HB.out | apply below_alloc | apply pw_below_drewN | apply below_drew1) | exact HB.out))); (case aF => exact (fun _ _ => trivial)); (case aO => exact (by (with_reducible repeat (first | apply Kd.R_alloc | apply Kd.R_drewN | apply Kd.R_drew)); exact HO_7.out)); (case aS => exact (below_size (by repeat (first | (with_reducible first | exact HB.out | apply below_alloc | apply pw_below_drewN | apply below_drew1) | exact HB.out)))); (case aL => have := LMc18.out; omega); intro v171 w19 ho hb hg hat; rw [← Ny170.out] at ho; have n0_ := Aside0.mk (hb); have n1_ := Aside0.mk (ho); clear HB; clear HO_7; have HB := n0_; have HO172 := n1_; clear n0_ n1_; clear ho hb hg hat))
             go_roundg k1
             case measure => have := HK1.out; omega
             case rel => exact ⟨(y170), (wrap64 (x13_1 + 1)), (by first | rfl | (simp; done) | (simp [*]; done) | (simp [wrap64, wrap32]; done)), H', ⟨by have := HK1.out; omega⟩, ⟨by (with_reducible repeat (first | apply Kd.R_alloc | apply Kd.R_drewN | apply Kd.R_drew)); exact HO172.out⟩, ⟨by repeat (first | (with_reducible first | exact HB.out | apply below_alloc | apply pw_below_drewN | apply below_drew1) | exact HB.out)⟩⟩
            ·rw [if_neg c18] at H
             exact absurd H (by simp)
           ·rw [if_neg c17] at H
            exact absurd H (by simp)
          ·rw [if_neg c16] at H
           exact absurd H (by simp)
        ·rw [if_neg c13] at H
         have c13b0 : decide (0 < (l2.length : Int)) = false := decide_eq_false c13
         have c13b1 : decide (0 < l2.length) = false := decide_eq_false (by omega)
         clear c13
         have H' := Aside0.mk H
         clear H
         have p164 : 0 ≤ (x13_1 : Int) := of_decide_eq_true (by first | (with_reducible assumption) | assumption)
         have q164 : x13_1 < (l1.length : Int) := of_decide_eq_true (by first | (with_reducible assumption) | assumption)
         obtain ⟨ad164, e164, hx164_0⟩ := Kd.at_int HR1.out x13_1 p164 q164
         cases e164
         replace hx164_0 := (HB.out.cell (World.block_lt_of_cell? w _ hx164_0)).trans hx164_0
         replace p164 := eq_true p164
         replace q164 := eq_true q164
         go_wp2
         go_roundg k1
         case measure => have := HK1.out; omega
         case rel => exact ⟨(x7_1), (wrap64 (x13_1 + 1)), (by first | rfl | (simp; done) | (simp [*]; done) | (simp [wrap64, wrap32]; done)), H', ⟨by have := HK1.out; omega⟩, ⟨by (with_reducible repeat (first | apply Kd.R_alloc | apply Kd.R_drewN | apply Kd.R_drew)); exact HO_7.out⟩, ⟨by repeat (first | (with_reducible first | exact HB.out | apply below_alloc | apply pw_below_drewN | apply below_drew1) | exact HB.out)⟩⟩
     ·rw [if_neg c6] at H
      exact absurd H (by simp)
    ·rw [if_neg c5] at H
     exact absurd H (by simp)
   ·rw [if_neg c4] at H
    have c4b0 : decide (x13_1 < (l1.length : Int)) = false := decide_eq_false c4
    clear c4
    obtain rfl := Option.some.inj H
    go_wp2
    go_ret
    exact ⟨_, by first | rfl | (simp [errW_none, errW_some] <;> rfl) | (simp [*, errW_none, errW_some] <;> rfl), by (with_reducible repeat (first | apply Kd.R_alloc | apply Kd.R_drewN | apply Kd.R_drew)); exact HO_7.out, by repeat (first | (with_reducible first | exact HB.out | apply below_alloc | apply pw_below_drewN | apply below_drew1) | exact HB.out)⟩

/-! ### redpenlaw15_pieces: function 11 -/
def redpenlaw15_pieces.f  : Option (List ByteArray) := some (([(⟨#[38, 97, 109, 112, 59]⟩ : ByteArray), (⟨#[38, 108, 116, 59]⟩ : ByteArray), (⟨#[38, 103, 116, 59]⟩ : ByteArray), (⟨#[38, 113, 117, 111, 116, 59]⟩ : ByteArray), (⟨#[38, 97, 112, 111, 115, 59]⟩ : ByteArray), (⟨#[38, 110, 98, 115, 112, 59]⟩ : ByteArray), (⟨#[38]⟩ : ByteArray), (⟨#[38, 35, 54, 53, 59]⟩ : ByteArray), (⟨#[38, 35, 120, 52, 49, 59]⟩ : ByteArray), (⟨#[38, 35, 88, 49, 70, 54, 48, 48, 59]⟩ : ByteArray), (⟨#[38, 35, 48, 59]⟩ : ByteArray), (⟨#[38, 35, 120, 68, 56, 48, 48, 59]⟩ : ByteArray), (⟨#[38, 35, 49, 49, 49, 52, 49, 49, 50, 59]⟩ : ByteArray), (⟨#[38, 35, 59]⟩ : ByteArray), (⟨#[38, 35, 120, 59]⟩ : ByteArray), (⟨#[38, 97, 109]⟩ : ByteArray), (⟨#[59]⟩ : ByteArray), (⟨#[38, 35, 48, 48, 48, 48, 48, 48, 48, 48, 48, 54, 53, 59]⟩ : ByteArray), (⟨#[92]⟩ : ByteArray), (⟨#[92, 110]⟩ : ByteArray), (⟨#[92, 120, 52, 49]⟩ : ByteArray), (⟨#[92, 117, 48, 48, 101, 52]⟩ : ByteArray), (⟨#[92, 85, 48, 48, 48, 49, 70, 54, 48, 48]⟩ : ByteArray), (⟨#[92, 120, 52]⟩ : ByteArray), (⟨#[92, 117, 49, 50]⟩ : ByteArray), (⟨#[92, 113]⟩ : ByteArray), (⟨#[92, 34]⟩ : ByteArray), (⟨#[92, 36]⟩ : ByteArray), (⟨#[39, 39]⟩ : ByteArray), (⟨#[39]⟩ : ByteArray), (⟨#[119, 111, 114, 100]⟩ : ByteArray), (⟨#[195, 169]⟩ : ByteArray), (⟨#[255]⟩ : ByteArray), (⟨#[92, 195, 169]⟩ : ByteArray), (⟨#[92, 42]⟩ : ByteArray), (⟨#[38, 35, 52, 50, 57, 52, 57, 54, 55, 51, 54, 49, 59]⟩ : ByteArray), (⟨#[38, 65, 109, 112, 59]⟩ : ByteArray)] : List ByteArray))
set_option maxHeartbeats 8000000 in
set_option maxRecDepth 100000 in
theorem redpenlaw15_pieces.calls  (r : List ByteArray) (w : World) (h : redpenlaw15_pieces.f  = some r) :
  Calls Tryd.prog 11 #[] w fun e w' => ∃ v0_ : Value, e = .returned (v0_) ∧ Kd.R Kd.string 9 w' w.heap.size (fun _ => True) v0_ r ∧ Below w.heap.size w w' := by
 have HB := Aside0.mk (Below.refl w.heap.size w)
 have H : (some (([(⟨#[38, 97, 109, 112, 59]⟩ : ByteArray), (⟨#[38, 108, 116, 59]⟩ : ByteArray), (⟨#[38, 103, 116, 59]⟩ : ByteArray), (⟨#[38, 113, 117, 111, 116, 59]⟩ : ByteArray), (⟨#[38, 97, 112, 111, 115, 59]⟩ : ByteArray), (⟨#[38, 110, 98, 115, 112, 59]⟩ : ByteArray), (⟨#[38]⟩ : ByteArray), (⟨#[38, 35, 54, 53, 59]⟩ : ByteArray), (⟨#[38, 35, 120, 52, 49, 59]⟩ : ByteArray), (⟨#[38, 35, 88, 49, 70, 54, 48, 48, 59]⟩ : ByteArray), (⟨#[38, 35, 48, 59]⟩ : ByteArray), (⟨#[38, 35, 120, 68, 56, 48, 48, 59]⟩ : ByteArray), (⟨#[38, 35, 49, 49, 49, 52, 49, 49, 50, 59]⟩ : ByteArray), (⟨#[38, 35, 59]⟩ : ByteArray), (⟨#[38, 35, 120, 59]⟩ : ByteArray), (⟨#[38, 97, 109]⟩ : ByteArray), (⟨#[59]⟩ : ByteArray), (⟨#[38, 35, 48, 48, 48, 48, 48, 48, 48, 48, 48, 54, 53, 59]⟩ : ByteArray), (⟨#[92]⟩ : ByteArray), (⟨#[92, 110]⟩ : ByteArray), (⟨#[92, 120, 52, 49]⟩ : ByteArray), (⟨#[92, 117, 48, 48, 101, 52]⟩ : ByteArray), (⟨#[92, 85, 48, 48, 48, 49, 70, 54, 48, 48]⟩ : ByteArray), (⟨#[92, 120, 52]⟩ : ByteArray), (⟨#[92, 117, 49, 50]⟩ : ByteArray), (⟨#[92, 113]⟩ : ByteArray), (⟨#[92, 34]⟩ : ByteArray), (⟨#[92, 36]⟩ : ByteArray), (⟨#[39, 39]⟩ : ByteArray), (⟨#[39]⟩ : ByteArray), (⟨#[119, 111, 114, 100]⟩ : ByteArray), (⟨#[195, 169]⟩ : ByteArray), (⟨#[255]⟩ : ByteArray), (⟨#[92, 195, 169]⟩ : ByteArray), (⟨#[92, 42]⟩ : ByteArray), (⟨#[38, 35, 52, 50, 57, 52, 57, 54, 55, 51, 54, 49, 59]⟩ : ByteArray), (⟨#[38, 65, 109, 112, 59]⟩ : ByteArray)] : List ByteArray))) = some r := h
 clear h
 obtain ⟨y173, hy173⟩ : ∃ y_ : List ByteArray, y_ = (([(⟨#[38, 97, 109, 112, 59]⟩ : ByteArray), (⟨#[38, 108, 116, 59]⟩ : ByteArray), (⟨#[38, 103, 116, 59]⟩ : ByteArray), (⟨#[38, 113, 117, 111, 116, 59]⟩ : ByteArray), (⟨#[38, 97, 112, 111, 115, 59]⟩ : ByteArray), (⟨#[38, 110, 98, 115, 112, 59]⟩ : ByteArray), (⟨#[38]⟩ : ByteArray), (⟨#[38, 35, 54, 53, 59]⟩ : ByteArray), (⟨#[38, 35, 120, 52, 49, 59]⟩ : ByteArray), (⟨#[38, 35, 88, 49, 70, 54, 48, 48, 59]⟩ : ByteArray), (⟨#[38, 35, 48, 59]⟩ : ByteArray), (⟨#[38, 35, 120, 68, 56, 48, 48, 59]⟩ : ByteArray), (⟨#[38, 35, 49, 49, 49, 52, 49, 49, 50, 59]⟩ : ByteArray), (⟨#[38, 35, 59]⟩ : ByteArray), (⟨#[38, 35, 120, 59]⟩ : ByteArray), (⟨#[38, 97, 109]⟩ : ByteArray), (⟨#[59]⟩ : ByteArray), (⟨#[38, 35, 48, 48, 48, 48, 48, 48, 48, 48, 48, 54, 53, 59]⟩ : ByteArray), (⟨#[92]⟩ : ByteArray), (⟨#[92, 110]⟩ : ByteArray), (⟨#[92, 120, 52, 49]⟩ : ByteArray), (⟨#[92, 117, 48, 48, 101, 52]⟩ : ByteArray), (⟨#[92, 85, 48, 48, 48, 49, 70, 54, 48, 48]⟩ : ByteArray), (⟨#[92, 120, 52]⟩ : ByteArray), (⟨#[92, 117, 49, 50]⟩ : ByteArray), (⟨#[92, 113]⟩ : ByteArray), (⟨#[92, 34]⟩ : ByteArray), (⟨#[92, 36]⟩ : ByteArray), (⟨#[39, 39]⟩ : ByteArray), (⟨#[39]⟩ : ByteArray), (⟨#[119, 111, 114, 100]⟩ : ByteArray), (⟨#[195, 169]⟩ : ByteArray), (⟨#[255]⟩ : ByteArray), (⟨#[92, 195, 169]⟩ : ByteArray), (⟨#[92, 42]⟩ : ByteArray), (⟨#[38, 35, 52, 50, 57, 52, 57, 54, 55, 51, 54, 49, 59]⟩ : ByteArray), (⟨#[38, 65, 109, 112, 59]⟩ : ByteArray)] : List ByteArray)) := ⟨_, rfl⟩
 replace H : (some y173) = some r := by first | (rw [hy173]; with_reducible exact H) | (have H2_ := (Option.bind_some _ _).symm.trans H; rw [hy173]; with_reducible exact H2_) | (have H2_ := (Option.bind_some _ _).symm.trans H; with_reducible exact H2_) | with_reducible exact H | (rw [hy173]; exact H) | exact H
 have Ny173 := Aside0.mk hy173
 clear hy173
 obtain rfl := Option.some.inj H
 go_enter Tryd.func11, Tryd.ntmps11
 go_wp2_with (first | ((with_reducible refine gate_dst (N := 1) rfl ?_); refine Kd.R_lit Kd.string _ 9 ?hg (N := 1) ?hd (xs := ([(⟨#[38, 97, 109, 112, 59]⟩ : ByteArray), (⟨#[38, 108, 116, 59]⟩ : ByteArray), (⟨#[38, 103, 116, 59]⟩ : ByteArray), (⟨#[38, 113, 117, 111, 116, 59]⟩ : ByteArray), (⟨#[38, 97, 112, 111, 115, 59]⟩ : ByteArray), (⟨#[38, 110, 98, 115, 112, 59]⟩ : ByteArray), (⟨#[38]⟩ : ByteArray), (⟨#[38, 35, 54, 53, 59]⟩ : ByteArray), (⟨#[38, 35, 120, 52, 49, 59]⟩ : ByteArray), (⟨#[38, 35, 88, 49, 70, 54, 48, 48, 59]⟩ : ByteArray), (⟨#[38, 35, 48, 59]⟩ : ByteArray), (⟨#[38, 35, 120, 68, 56, 48, 48, 59]⟩ : ByteArray), (⟨#[38, 35, 49, 49, 49, 52, 49, 49, 50, 59]⟩ : ByteArray), (⟨#[38, 35, 59]⟩ : ByteArray), (⟨#[38, 35, 120, 59]⟩ : ByteArray), (⟨#[38, 97, 109]⟩ : ByteArray), (⟨#[59]⟩ : ByteArray), (⟨#[38, 35, 48, 48, 48, 48, 48, 48, 48, 48, 48, 54, 53, 59]⟩ : ByteArray), (⟨#[92]⟩ : ByteArray), (⟨#[92, 110]⟩ : ByteArray), (⟨#[92, 120, 52, 49]⟩ : ByteArray), (⟨#[92, 117, 48, 48, 101, 52]⟩ : ByteArray), (⟨#[92, 85, 48, 48, 48, 49, 70, 54, 48, 48]⟩ : ByteArray), (⟨#[92, 120, 52]⟩ : ByteArray), (⟨#[92, 117, 49, 50]⟩ : ByteArray), (⟨#[92, 113]⟩ : ByteArray), (⟨#[92, 34]⟩ : ByteArray), (⟨#[92, 36]⟩ : ByteArray), (⟨#[39, 39]⟩ : ByteArray), (⟨#[39]⟩ : ByteArray), (⟨#[119, 111, 114, 100]⟩ : ByteArray), (⟨#[195, 169]⟩ : ByteArray), (⟨#[255]⟩ : ByteArray), (⟨#[92, 195, 169]⟩ : ByteArray), (⟨#[92, 42]⟩ : ByteArray), (⟨#[38, 35, 52, 50, 57, 52, 57, 54, 55, 51, 54, 49, 59]⟩ : ByteArray), (⟨#[38, 65, 109, 112, 59]⟩ : ByteArray)] : List ByteArray)) (inner := [.string (⟨#[38, 97, 109, 112, 59]⟩ : ByteArray), .string (⟨#[38, 108, 116, 59]⟩ : ByteArray), .string (⟨#[38, 103, 116, 59]⟩ : ByteArray), .string (⟨#[38, 113, 117, 111, 116, 59]⟩ : ByteArray), .string (⟨#[38, 97, 112, 111, 115, 59]⟩ : ByteArray), .string (⟨#[38, 110, 98, 115, 112, 59]⟩ : ByteArray), .string (⟨#[38]⟩ : ByteArray), .string (⟨#[38, 35, 54, 53, 59]⟩ : ByteArray), .string (⟨#[38, 35, 120, 52, 49, 59]⟩ : ByteArray), .string (⟨#[38, 35, 88, 49, 70, 54, 48, 48, 59]⟩ : ByteArray), .string (⟨#[38, 35, 48, 59]⟩ : ByteArray), .string (⟨#[38, 35, 120, 68, 56, 48, 48, 59]⟩ : ByteArray), .string (⟨#[38, 35, 49, 49, 49, 52, 49, 49, 50, 59]⟩ : ByteArray), .string (⟨#[38, 35, 59]⟩ : ByteArray), .string (⟨#[38, 35, 120, 59]⟩ : ByteArray), .string (⟨#[38, 97, 109]⟩ : ByteArray), .string (⟨#[59]⟩ : ByteArray), .string (⟨#[38, 35, 48, 48, 48, 48, 48, 48, 48, 48, 48, 54, 53, 59]⟩ : ByteArray), .string (⟨#[92]⟩ : ByteArray), .string (⟨#[92, 110]⟩ : ByteArray), .string (⟨#[92, 120, 52, 49]⟩ : ByteArray), .string (⟨#[92, 117, 48, 48, 101, 52]⟩ : ByteArray), .string (⟨#[92, 85, 48, 48, 48, 49, 70, 54, 48, 48]⟩ : ByteArray), .string (⟨#[92, 120, 52]⟩ : ByteArray), .string (⟨#[92, 117, 49, 50]⟩ : ByteArray), .string (⟨#[92, 113]⟩ : ByteArray), .string (⟨#[92, 34]⟩ : ByteArray), .string (⟨#[92, 36]⟩ : ByteArray), .string (⟨#[39, 39]⟩ : ByteArray), .string (⟨#[39]⟩ : ByteArray), .string (⟨#[119, 111, 114, 100]⟩ : ByteArray), .string (⟨#[195, 169]⟩ : ByteArray), .string (⟨#[255]⟩ : ByteArray), .string (⟨#[92, 195, 169]⟩ : ByteArray), .string (⟨#[92, 42]⟩ : ByteArray), .string (⟨#[38, 35, 52, 50, 57, 52, 57, 54, 55, 51, 54, 49, 59]⟩ : ByteArray), .string (⟨#[38, 65, 109, 112, 59]⟩ : ByteArray)]) (ok := fun _ => True) (okp := fun _ => True) ?hr ?hp (fun _ hk => hk) trivial (Below.refl _ _) (Nat.le_refl _) (by simp) ?_; (case hd => rfl); (case hg => rfl); (case hr => first | (go_simp; done) | (go_simp; rfl)); (case hp => exact (Reps.one (show Kd.M Kd.string _ _ _ (⟨#[38, 97, 109, 112, 59]⟩ : ByteArray) [.string (⟨#[38, 97, 109, 112, 59]⟩ : ByteArray)] from rfl) (Reps.one (show Kd.M Kd.string _ _ _ (⟨#[38, 108, 116, 59]⟩ : ByteArray) [.string (⟨#[38, 108, 116, 59]⟩ : ByteArray)] from rfl) (Reps.one (show Kd.M Kd.string _ _ _ (⟨#[38, 103, 116, 59]⟩ : ByteArray) [.string (⟨#[38, 103, 116, 59]⟩ : ByteArray)] from rfl) (Reps.one (show Kd.M Kd.string _ _ _ (⟨#[38, 113, 117, 111, 116, 59]⟩ : ByteArray) [.string (⟨#[38, 113, 117, 111, 116, 59]⟩ : ByteArray)] from rfl) (Reps.one (show Kd.M Kd.string _ _ _ (⟨#[38, 97, 112, 111, 115, 59]⟩ : ByteArray) [.string (⟨#[38, 97, 112, 111, 115, 59]⟩ : ByteArray)] from rfl) (Reps.one (show Kd.M Kd.string _ _ _ (⟨#[38, 110, 98, 115, 112, 59]⟩ : ByteArray) [.string (⟨#[38, 110, 98, 115, 112, 59]⟩ : ByteArray)] from rfl) (Reps.one (show Kd.M Kd.string _ _ _ (⟨#[38]⟩ : ByteArray) [.string (⟨#[38]⟩ : ByteArray)] from rfl) (Reps.one (show Kd.M Kd.string _ _ _ (⟨#[38, 35, 54, 53, 59]⟩ : ByteArray) [.string (⟨#[38, 35, 54, 53, 59]⟩ : ByteArray)] from rfl) (Reps.one (show Kd.M Kd.string _ _ _ (⟨#[38, 35, 120, 52, 49, 59]⟩ : ByteArray) [.string (⟨#[38, 35, 120, 52, 49, 59]⟩ : ByteArray)] from rfl) (Reps.one (show Kd.M Kd.string _ _ _ (⟨#[38, 35, 88, 49, 70, 54, 48, 48, 59]⟩ : ByteArray) [.string (⟨#[38, 35, 88, 49, 70, 54, 48, 48, 59]⟩ : ByteArray)] from rfl) (Reps.one (show Kd.M Kd.string _ _ _ (⟨#[38, 35, 48, 59]⟩ : ByteArray) [.string (⟨#[38, 35, 48, 59]⟩ : ByteArray)] from rfl) (Reps.one (show Kd.M Kd.string _ _ _ (⟨#[38, 35, 120, 68, 56, 48, 48, 59]⟩ : ByteArray) [.string (⟨#[38, 35, 120, 68, 56, 48, 48, 59]⟩ : ByteArray)] from rfl) (Reps.one (show Kd.M Kd.string _ _ _ (⟨#[38, 35, 49, 49, 49, 52, 49, 49, 50, 59]⟩ : ByteArray) [.string (⟨#[38, 35, 49, 49, 49, 52, 49, 49, 50, 59]⟩ : ByteArray)] from rfl) (Reps.one (show Kd.M Kd.string _ _ _ (⟨#[38, 35, 59]⟩ : ByteArray) [.string (⟨#[38, 35, 59]⟩ : ByteArray)] from rfl) (Reps.one (show Kd.M Kd.string _ _ _ (⟨#[38, 35, 120, 59]⟩ : ByteArray) [.string (⟨#[38, 35, 120, 59]⟩ : ByteArray)] from rfl) (Reps.one (show Kd.M Kd.string _ _ _ (⟨#[38, 97, 109]⟩ : ByteArray) [.string (⟨#[38, 97, 109]⟩ : ByteArray)] from rfl) (Reps.one (show Kd.M Kd.string _ _ _ (⟨#[59]⟩ : ByteArray) [.string (⟨#[59]⟩ : ByteArray)] from rfl) (Reps.one (show Kd.M Kd.string _ _ _ (⟨#[38, 35, 48, 48, 48, 48, 48, 48, 48, 48, 48, 54, 53, 59]⟩ : ByteArray) [.string (⟨#[38, 35, 48, 48, 48, 48, 48, 48, 48, 48, 48, 54, 53, 59]⟩ : ByteArray)] from rfl) (Reps.one (show Kd.M Kd.string _ _ _ (⟨#[92]⟩ : ByteArray) [.string (⟨#[92]⟩ : ByteArray)] from rfl) (Reps.one (show Kd.M Kd.string _ _ _ (⟨#[92, 110]⟩ : ByteArray) [.string (⟨#[92, 110]⟩ : ByteArray)] from rfl) (Reps.one (show Kd.M Kd.string _ _ _ (⟨#[92, 120, 52, 49]⟩ : ByteArray) [.string (⟨#[92, 120, 52, 49]⟩ : ByteArray)] from rfl) (Reps.one (show Kd.M Kd.string _ _ _ (⟨#[92, 117, 48, 48, 101, 52]⟩ : ByteArray) [.string (⟨#[92, 117, 48, 48, 101, 52]⟩ : ByteArray)] from rfl) (Reps.one (show Kd.M Kd.string _ _ _ (⟨#[92, 85, 48, 48, 48, 49, 70, 54, 48, 48]⟩ : ByteArray) [.string (⟨#[92, 85, 48, 48, 48, 49, 70, 54, 48, 48]⟩ : ByteArray)] from rfl) (Reps.one (show Kd.M Kd.string _ _ _ (⟨#[92, 120, 52]⟩ : ByteArray) [.string (⟨#[92, 120, 52]⟩ : ByteArray)] from rfl) (Reps.one (show Kd.M Kd.string _ _ _ (⟨#[92, 117, 49, 50]⟩ : ByteArray) [.string (⟨#[92, 117, 49, 50]⟩ : ByteArray)] from rfl) (Reps.one (show Kd.M Kd.string _ _ _ (⟨#[92, 113]⟩ : ByteArray) [.string (⟨#[92, 113]⟩ : ByteArray)] from rfl) (Reps.one (show Kd.M Kd.string _ _ _ (⟨#[92, 34]⟩ : ByteArray) [.string (⟨#[92, 34]⟩ : ByteArray)] from rfl) (Reps.one (show Kd.M Kd.string _ _ _ (⟨#[92, 36]⟩ : ByteArray) [.string (⟨#[92, 36]⟩ : ByteArray)] from rfl) (Reps.one (show Kd.M Kd.string _ _ _ (⟨#[39, 39]⟩ : ByteArray) [.string (⟨#[39, 39]⟩ : ByteArray)] from rfl) (Reps.one (show Kd.M Kd.string _ _ _ (⟨#[39]⟩ : ByteArray) [.string (⟨#[39]⟩ : ByteArray)] from rfl) (Reps.one (show Kd.M Kd.string _ _ _ (⟨#[119, 111, 114, 100]⟩ : ByteArray) [.string (⟨#[119, 111, 114, 100]⟩ : ByteArray)] from rfl) (Reps.one (show Kd.M Kd.string _ _ _ (⟨#[195, 169]⟩ : ByteArray) [.string (⟨#[195, 169]⟩ : ByteArray)] from rfl) (Reps.one (show Kd.M Kd.string _ _ _ (⟨#[255]⟩ : ByteArray) [.string (⟨#[255]⟩ : ByteArray)] from rfl) (Reps.one (show Kd.M Kd.string _ _ _ (⟨#[92, 195, 169]⟩ : ByteArray) [.string (⟨#[92, 195, 169]⟩ : ByteArray)] from rfl) (Reps.one (show Kd.M Kd.string _ _ _ (⟨#[92, 42]⟩ : ByteArray) [.string (⟨#[92, 42]⟩ : ByteArray)] from rfl) (Reps.one (show Kd.M Kd.string _ _ _ (⟨#[38, 35, 52, 50, 57, 52, 57, 54, 55, 51, 54, 49, 59]⟩ : ByteArray) [.string (⟨#[38, 35, 52, 50, 57, 52, 57, 54, 55, 51, 54, 49, 59]⟩ : ByteArray)] from rfl) (Reps.one (show Kd.M Kd.string _ _ _ (⟨#[38, 65, 109, 112, 59]⟩ : ByteArray) [.string (⟨#[38, 65, 109, 112, 59]⟩ : ByteArray)] from rfl) (Reps.none _ _))))))))))))))))))))))))))))))))))))))); intro v174 w1 ho2 hb hg_ hnew_; clear hg_ hnew_; (first | rw [← Ny173.out] at ho2 | (simp only [Int.reduceToNat] at ho2; rw [← Ny173.out] at ho2)); have n0_ := Aside0.mk (Kd.R_lower ho2 (below_size (by repeat (first | (with_reducible first | exact HB.out | apply below_alloc | apply pw_below_drewN | apply below_drew1) | exact HB.out)))); have n1_ := Aside0.mk (below_step (by repeat (first | (with_reducible first | exact HB.out | apply below_alloc | apply pw_below_drewN | apply below_drew1) | exact HB.out)) hb); clear HB; have HO175 := n0_; have HB := n1_; clear n0_ n1_; clear hb ho2))
 go_ret
 exact ⟨_, by first | rfl | (simp [errW_none, errW_some] <;> rfl) | (simp [*, errW_none, errW_some] <;> rfl), by (with_reducible repeat (first | apply Kd.R_alloc | apply Kd.R_drewN | apply Kd.R_drew)); exact HO175.out, by repeat (first | (with_reducible first | exact HB.out | apply below_alloc | apply pw_below_drewN | apply below_drew1) | exact HB.out)⟩

end Go.Proofs.YtekalnhackjldaaDoor.PDecodeOnes
