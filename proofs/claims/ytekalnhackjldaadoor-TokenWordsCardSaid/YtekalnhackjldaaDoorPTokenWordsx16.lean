-- Laid by a program of ours (the kit's print with words and contracts of our own beside it).
import Derived.Test.YtekalnhackjldaaDoorPTokenWordsx0
import Derived.Test.YtekalnhackjldaaDoorXSq
import Derived.Test.YtekalnhackjldaaDoorPTokenWordsx12
import Derived.Test.YtekalnhackjldaaDoorPTokenWordsx13
import Derived.Test.YtekalnhackjldaaDoorPTokenWordsx14
import Derived.Test.YtekalnhackjldaaDoorPTokenWordsx15
namespace Go.Proofs.YtekalnhackjldaaDoor.PTokenWords
open Go.RowKit Go.Proofs.YtekalnhackjldaaDoor.X Go.Proofs.YtekalnhackjldaaDoorW.PrintWords Go.Proofs.YtekalnhackjldaaDoorW.PrintLast Go.Proofs.YtekalnhackjldaaDoorW.PrintMore
attribute [local go_sem] max2_int min2_int max_two min_two max_three min_three max_four min_four   -- for this text's walks alone
set_option linter.unusedVariables false
set_option linter.unusedSimpArgs false

/-! ### redpenref15_Words: function 32 -/
mutual
def redpenref15_Words.l0 : Nat → List Int → List (S45) → Int → Int → List (S90) → List (S93) → Int → Option ((List (S90)))
 | 0, _, _, _, _, _, _, _ => none
 | k + 1, x0, x1, x2, x3, x9, x10, x11 => if x11 < (x10.length : Int) then (if 0 ≤ x11 then ((redpenref15_Split.f k x1 ((rd_T93 x10 x11).f0) ((rd_T93 x10 x11).f1)).bind fun t353 => (redpenref15_Words.l1 k x0 x1 x2 x3 x9 x10 x11 t353 0)) else (none)) else (some x9)
def redpenref15_Words.l1 : Nat → List Int → List (S45) → Int → Int → List (S90) → List (S93) → Int → List (S93) → Int → Option ((List (S90)))
 | 0, _, _, _, _, _, _, _, _, _ => none
 | k + 1, x0, x1, x2, x3, x9, x10, x11, x12, x13 => if x13 < (x12.length : Int) then (if 0 ≤ x13 then (if 0 ≤ ((rd_T93 x12 x13).f0) then (if ((rd_T93 x12 x13).f0) ≤ ((rd_T93 x12 x13).f1) then (if ((rd_T93 x12 x13).f1) ≤ (x1.length : Int) then ((some ((x1.take (((rd_T93 x12 x13).f1) : Int).toNat).drop (((rd_T93 x12 x13).f0) : Int).toNat : List (S45))).bind fun y358 => (if (y358.length : Int) < x2 then (redpenref15_Words.j2 k x0 x1 x2 x3 x9 x10 x11 x12 x13 y358 true) else (redpenref15_Words.j2 k x0 x1 x2 x3 x9 x10 x11 x12 x13 y358 (decide ((y358.length : Int) > x3))))) else (none)) else (none)) else (none)) else (none)) else (redpenref15_Words.l0 k x0 x1 x2 x3 x9 x10 (wrap64 (x11 + 1)))
def redpenref15_Words.j2 : Nat → List Int → List (S45) → Int → Int → List (S90) → List (S93) → Int → List (S93) → Int → List (S45) → Bool → Option ((List (S90)))
 | 0, _, _, _, _, _, _, _, _, _, _, _ => none
 | k + 1, x0, x1, x2, x3, x9, x10, x11, x12, x13, x14, x63 => if x63 = true then (redpenref15_Words.l1 k x0 x1 x2 x3 x9 x10 x11 x12 (wrap64 (x13 + 1))) else (if 0 ≤ (wrap64 ((x14.length : Int) - 1)) then (if (wrap64 ((x14.length : Int) - 1)) < (x14.length : Int) then ((redpenref15_Text.f k x14).bind fun t364 => (if 0 < (x14.length : Int) then ((redpenref15_Literal.f k x0 x14).bind fun t367 => (if x9.length < 3518437208883 then (redpenref15_Words.l1 k x0 x1 x2 x3 (x9 ++ [(⟨t364, (⟨(rd_T45 x14 0).f1.f0, wrap64 ((wrap64 (((rd_T45 x14 (wrap64 ((x14.length : Int) - 1))).f1.f0) + ((rd_T45 x14 (wrap64 ((x14.length : Int) - 1))).f1.f1))) - ((rd_T45 x14 0).f1.f0))⟩ : S40), t367⟩ : S90)]) x10 x11 x12 (wrap64 (x13 + 1))) else (none))) else (none))) else (none)) else (none))
end
def redpenref15_Words.f (k : Nat) (l0 : List Int) (l1 : List (S45)) (a2 : Int) (a3 : Int) : Option ((List (S90))) := (redpenref15_Runs.f k l1).bind fun t348 => (redpenref15_Words.l0 k l0 l1 a2 a3 ([] : List (S90)) t348 0)
theorem redpenref15_Words.mono_l : ∀ k, (∀ y0 y1 y2 y3 y4 y5 y6, LeO (redpenref15_Words.l0 k y0 y1 y2 y3 y4 y5 y6) (redpenref15_Words.l0 (k + 1) y0 y1 y2 y3 y4 y5 y6)) ∧ (∀ y0 y1 y2 y3 y4 y5 y6 y7 y8, LeO (redpenref15_Words.l1 k y0 y1 y2 y3 y4 y5 y6 y7 y8) (redpenref15_Words.l1 (k + 1) y0 y1 y2 y3 y4 y5 y6 y7 y8)) ∧ (∀ y0 y1 y2 y3 y4 y5 y6 y7 y8 y9 y10, LeO (redpenref15_Words.j2 k y0 y1 y2 y3 y4 y5 y6 y7 y8 y9 y10) (redpenref15_Words.j2 (k + 1) y0 y1 y2 y3 y4 y5 y6 y7 y8 y9 y10))
 | 0 => ⟨fun _ _ _ _ _ _ _ r h => by simp [redpenref15_Words.l0] at h, fun _ _ _ _ _ _ _ _ _ r h => by simp [redpenref15_Words.l1] at h, fun _ _ _ _ _ _ _ _ _ _ _ r h => by simp [redpenref15_Words.j2] at h⟩
 | k + 1 => by
  obtain ⟨ih0, ih1, ih2⟩ := redpenref15_Words.mono_l k
  refine ⟨?_, ?_, ?_⟩
  ·intro y0 y1 y2 y3 y4 y5 y6
   unfold redpenref15_Words.l0
   repeat' first
   | (with_reducible exact ih0 _ _ _ _ _ _ _)
   | (with_reducible exact ih1 _ _ _ _ _ _ _ _ _)
   | (with_reducible exact ih2 _ _ _ _ _ _ _ _ _ _ _)
   | (with_reducible exact redpenref15_Literal.mono _ _ _)
   | (with_reducible exact redpenref15_Runs.mono _ _)
   | (with_reducible exact redpenref15_Split.mono _ _ _ _)
   | (with_reducible exact redpenref15_Text.mono _ _)
   | (with_reducible exact LeO.refl _)
   | (with_reducible exact LeO.none _)
   | (with_reducible refine LeO.ite ?_ ?_)
   | (with_reducible refine LeO.bind ?_ (fun _ => ?_))
  ·intro y0 y1 y2 y3 y4 y5 y6 y7 y8
   unfold redpenref15_Words.l1
   repeat' first
   | (with_reducible exact ih0 _ _ _ _ _ _ _)
   | (with_reducible exact ih1 _ _ _ _ _ _ _ _ _)
   | (with_reducible exact ih2 _ _ _ _ _ _ _ _ _ _ _)
   | (with_reducible exact redpenref15_Literal.mono _ _ _)
   | (with_reducible exact redpenref15_Runs.mono _ _)
   | (with_reducible exact redpenref15_Split.mono _ _ _ _)
   | (with_reducible exact redpenref15_Text.mono _ _)
   | (with_reducible exact LeO.refl _)
   | (with_reducible exact LeO.none _)
   | (with_reducible refine LeO.ite ?_ ?_)
   | (with_reducible refine LeO.bind ?_ (fun _ => ?_))
  ·intro y0 y1 y2 y3 y4 y5 y6 y7 y8 y9 y10
   unfold redpenref15_Words.j2
   repeat' first
   | (with_reducible exact ih0 _ _ _ _ _ _ _)
   | (with_reducible exact ih1 _ _ _ _ _ _ _ _ _)
   | (with_reducible exact ih2 _ _ _ _ _ _ _ _ _ _ _)
   | (with_reducible exact redpenref15_Literal.mono _ _ _)
   | (with_reducible exact redpenref15_Runs.mono _ _)
   | (with_reducible exact redpenref15_Split.mono _ _ _ _)
   | (with_reducible exact redpenref15_Text.mono _ _)
   | (with_reducible exact LeO.refl _)
   | (with_reducible exact LeO.none _)
   | (with_reducible refine LeO.ite ?_ ?_)
   | (with_reducible refine LeO.bind ?_ (fun _ => ?_))
theorem redpenref15_Words.mono : ∀ a0 a1 a2 a3 k, LeO (redpenref15_Words.f k a0 a1 a2 a3) (redpenref15_Words.f (k + 1) a0 a1 a2 a3) := by
 intro a0 a1 a2 a3 k
 obtain ⟨ih0, ih1, ih2⟩ := redpenref15_Words.mono_l k
 unfold redpenref15_Words.f
 repeat' first
   | (with_reducible exact ih0 _ _ _ _ _ _ _)
   | (with_reducible exact ih1 _ _ _ _ _ _ _ _ _)
   | (with_reducible exact ih2 _ _ _ _ _ _ _ _ _ _ _)
   | (with_reducible exact redpenref15_Literal.mono _ _ _)
   | (with_reducible exact redpenref15_Runs.mono _ _)
   | (with_reducible exact redpenref15_Split.mono _ _ _ _)
   | (with_reducible exact redpenref15_Text.mono _ _)
   | (with_reducible exact LeO.refl _)
   | (with_reducible exact LeO.none _)
   | (with_reducible refine LeO.ite ?_ ?_)
   | (with_reducible refine LeO.bind ?_ (fun _ => ?_))
def redpenref15_Words.T6 : Bool × List (List Nat × List Nat) := (true, [([], []), ([], []), ([], []), ([1, 2], [1, 2]), ([3], [3]), ([4], [4]), ([], []), ([], []), ([6, 7], [6, 7]), ([8], [8]), ([9], [9]), ([0, 5, 10], [0, 5, 10]), ([11, 11, 0, 1, 2, 3, 4, 5, 6, 7, 8, 9, 10, 11], [11])])
def redpenref15_Words.B6 : List Nat := [0, 0, 0, 6, 14, 30, 0, 0, 192, 448, 960, 2047, 4095]
theorem redpenref15_Words.tab6 : rtab .any (opsOf Tryd.f32 6) = redpenref15_Words.T6 := by kernel_rfl
theorem redpenref15_Words.bits6 : waitsOk redpenref15_Words.T6.2 redpenref15_Words.B6 = true := by kernel_rfl
def redpenref15_Words.T10 : Bool × List (List Nat × List Nat) := (true, [([], []), ([], []), ([], []), ([1, 2], [1, 2]), ([3], [3]), ([4], [4]), ([], []), ([], []), ([6, 7], [6, 7]), ([8], [8]), ([9], [9]), ([0, 5, 10], [0, 5, 10]), ([11, 0, 1, 2, 3, 4, 5, 6, 7, 8, 9, 10, 11], [11])])
def redpenref15_Words.B10 : List Nat := [0, 0, 0, 6, 14, 30, 0, 0, 192, 448, 960, 2047, 4095]
theorem redpenref15_Words.tab10 : rtab .any (opsOf Tryd.f32 10) = redpenref15_Words.T10 := by kernel_rfl
theorem redpenref15_Words.bits10 : waitsOk redpenref15_Words.T10.2 redpenref15_Words.B10 = true := by kernel_rfl
def redpenref15_Words.T12 : Bool × List (List Nat × List Nat) := (true, [([], []), ([], []), ([1], [1]), ([2], [2]), ([0, 3], [0, 3]), ([4], [4]), ([5], [5]), ([6], [6]), ([], []), ([], []), ([9], [9]), ([10], [10]), ([8, 11], [8, 11]), ([12], [12]), ([13], [13]), ([14], [14]), ([7, 15], [7, 15]), ([16, 0, 1, 2, 3, 4, 5, 6, 7, 8, 9, 10, 11, 12, 13, 14, 15, 16], [16])])
def redpenref15_Words.B12 : List Nat := [0, 0, 2, 6, 15, 31, 63, 127, 0, 0, 512, 1536, 3840, 7936, 16128, 32512, 65535, 131071]
theorem redpenref15_Words.tab12 : rtab .any (opsOf Tryd.f32 12) = redpenref15_Words.T12 := by kernel_rfl
theorem redpenref15_Words.bits12 : waitsOk redpenref15_Words.T12.2 redpenref15_Words.B12 = true := by kernel_rfl
def redpenref15_Words.T13 : Bool × List (List Nat × List Nat) := (true, [([], []), ([], []), ([1], [1]), ([], []), ([3], [3]), ([4], [4]), ([5], [5]), ([6], [6]), ([], []), ([], []), ([9], [9]), ([10], [10]), ([11], [11]), ([12], [12]), ([8, 13], [8, 13]), ([7, 14], [7, 14]), ([], []), ([], []), ([16, 17, 2], [16, 17]), ([2, 15, 18], [2, 15, 18]), ([19], [19]), ([0, 20, 18], [0, 20]), ([21, 21, 0, 1, 2, 3, 4, 5, 6, 7, 8, 9, 10, 11, 12, 13, 14, 15, 16, 17, 18, 19, 20, 21], [0, 21])])
def redpenref15_Words.B13 : List Nat := [0, 0, 2, 0, 8, 24, 56, 120, 0, 0, 512, 1536, 3584, 7680, 16128, 32760, 0, 0, 196614, 524286, 1048574, 2097151, 4194303]
theorem redpenref15_Words.tab13 : rtab .any (opsOf Tryd.f32 13) = redpenref15_Words.T13 := by kernel_rfl
theorem redpenref15_Words.bits13 : waitsOk redpenref15_Words.T13.2 redpenref15_Words.B13 = true := by kernel_rfl
set_option maxHeartbeats 8000000 in
set_option maxRecDepth 100000 in
theorem redpenref15_Words.calls (k : Nat) (A0 : Option Addr) (c0 : Nat) (l0 : List Int) (A1 : Option Addr) (c1 : Nat) (l1 : List (S45)) (a2 : Int) (a3 : Int) (r : List (S90)) (w : World) (hr0 : Kd.C (Kd.int .u8) w A0 l0.length l0) (hc0 : l0.length ≤ c0) (hr1 : Kd.C k45 w A1 l1.length l1) (hc1 : l1.length ≤ c1) (h : redpenref15_Words.f k l0 l1 a2 a3 = some r) :
  Calls Tryd.prog 32 #[.slice A0 l0.length c0, .slice A1 l1.length c1, .int .i64 a2, .int .i64 a3] w fun e w' => ∃ v0_ : Value, e = .returned (v0_) ∧ Kd.R k90 90 w' w.heap.size (fun _ => True) v0_ r ∧ Below w.heap.size w w' := by
 have hu40 := Tryd.underlying40
 have hu90 := Tryd.underlying90
 have HR0 := Aside0.mk hr0
 have HC0 := Aside0.mk hc0
 clear hr0 hc0
 have HR1 := Aside0.mk hr1
 have HC1 := Aside0.mk hc1
 clear hr1 hc1
 have HB := Aside0.mk (Below.refl w.heap.size w)
 have H : ((redpenref15_Runs.f k l1).bind fun t348 => (redpenref15_Words.l0 k l0 l1 a2 a3 ([] : List (S90)) t348 0)) = some r := h
 clear h
 replace H := Option.bind_eq_some_iff.mp H
 obtain ⟨t348, A50, H⟩ := H
 replace H : (redpenref15_Words.l0 k l0 l1 a2 a3 ([] : List (S90)) t348 0) = some r := H
 have A5 := Aside0.mk A50
 clear A50
 have H' := Aside0.mk H
 clear H
 go_enter Tryd.func32, Tryd.ntmps32
 go_wp2_with (first | ((with_reducible refine gate_callee (f := 49) rfl ?_); refine goesL_ (some 17) rfl rfl Tryd.func49 (by kernel_rfl) rfl #[.slice A1 l1.length c1] rfl (by (try simp only [List.map_toArray, List.map_cons, List.map_nil]); first | done | rfl | (simp only [List.length_drop, List.length_take]; rfl)) ?_; (with_reducible refine (redpenref15_Runs.calls k _ _ l1 t348 _ ?side1 ?side2 A5.out).mono ?_); (case side1 => repeat (first | exact HR1.out | (with_reducible refine Kd.C_alloc ?_ _) | (with_reducible refine Kd.C_drewN ?_ _) | (with_reducible refine Kd.C_drew ?_))); (case side2 => exact HC1.out); rintro e w6 ⟨v349, rfl, ho0, hb⟩; refine ⟨_, rfl, ?_⟩; have n0_ := Aside0.mk (Kd.R_lower ho0 (below_size (by repeat (first | (with_reducible first | exact HB.out | apply below_alloc | apply pw_below_drewN | apply below_drew1) | exact HB.out)))); have n1_ := Aside0.mk (below_step (by repeat (first | (with_reducible first | exact HB.out | apply below_alloc | apply pw_below_drewN | apply below_drew1) | exact HB.out)) hb); clear HB; have HO350 := n0_; have HB := n1_; clear n0_ n1_; (try clear hb); (try clear hb2); (try clear hk); (try clear hi); (try clear ho0)))
 go_loopg [9, 11] k (fun kq v9 v11 w' => ∃ (x9_1 : List (S90)) (x11_1 : Int), v11 = .int .i64 x11_1 ∧ Aside0 (redpenref15_Words.l0 kq l0 l1 a2 a3 x9_1 t348 x11_1 = some r) ∧ Aside0 (kq ≤ k) ∧ Aside0 (Kd.R k90 90 w' w.heap.size (fun _ => True) v9 x9_1) ∧ Aside0 (Kd.R k93 93 w' w.heap.size (fun _ => True) v349 t348) ∧ Aside0 (Below w.heap.size w w'))
 case atStart => exact ⟨(([] : List (S90))), (0), (by first | rfl | (simp; done) | (simp [*]; done) | (simp [wrap64, wrap32]; done)), H', ⟨Nat.le_refl _⟩, ⟨by first | exact Kd.R_nil _ _ _ _ _ | exact Kd.N_nil _ _ _ _ _ | exact Kd.V_nil _ _ _ _ _ | exact Kd.Q_nil _ _ _ _ _ | exact Kd.S_nil _ _ _ _ _⟩, ⟨by (with_reducible repeat (first | apply Kd.R_alloc | apply Kd.R_drewN | apply Kd.R_drew)); exact HO350.out⟩, ⟨by repeat (first | (with_reducible first | exact HB.out | apply below_alloc | apply pw_below_drewN | apply below_drew1) | exact HB.out)⟩⟩
 case round =>
  clear H'
  (try clear c1); (try clear p2); (try clear c3); (try clear c4)
  obtain ⟨x9_1, x11_1, rfl, HA, HK1, HO_9, HO_10, HB⟩ := hrel
  cases gk with
  | zero => exact absurd HA.out (by simp [redpenref15_Words.l0])
  | succ k1 =>
   have H := HA.out
   clear HA
   simp only [redpenref15_Words.l0] at H
   by_cases c7 : x11_1 < (t348.length : Int)
   ·rw [if_pos c7] at H
    have c7b0 : decide (x11_1 < (t348.length : Int)) = true := decide_eq_true c7
    clear c7
    by_cases c8 : 0 ≤ x11_1
    ·rw [if_pos c8] at H
     have c8b0 : decide (0 ≤ x11_1) = true := decide_eq_true c8
     clear c8
     replace H := Option.bind_eq_some_iff.mp H
     obtain ⟨t353, A90, H⟩ := H
     replace H : (redpenref15_Words.l1 k1 l0 l1 a2 a3 x9_1 t348 x11_1 t353 0) = some r := H
     have A9 := Aside0.mk A90
     clear A90
     have H' := Aside0.mk H
     clear H
     obtain ⟨Ao10, co10, eo10⟩ := Kd.R_slice HO_10.out
     subst eo10
     try go_wp2
     have n0_ := Aside0.mk (Kd.R_drew HO_9.out)
     have n1_ := Aside0.mk (Kd.R_drew HO_10.out)
     have n2_ := Aside0.mk (below_drew1 HB.out)
     clear HO_9
     clear HO_10
     clear HB
     have HO_9 := n0_
     have HO_10 := n1_
     have HB := n2_
     clear n0_ n1_ n2_
     have p351 : 0 ≤ (x11_1 : Int) := of_decide_eq_true (by first | (with_reducible assumption) | assumption)
     have q351 : x11_1 < (t348.length : Int) := of_decide_eq_true (by first | (with_reducible assumption) | assumption)
     obtain ⟨ad351, e351, hx351_0, hx351_1⟩ := at_T93 (Kd.R_reads' HO_10.out).2.2 x11_1 p351 q351
     cases e351
     replace p351 := eq_true p351
     replace q351 := eq_true q351
     have p352 : 0 ≤ (x11_1 : Int) := of_decide_eq_true (by first | (with_reducible assumption) | assumption)
     have q352 : x11_1 < (t348.length : Int) := of_decide_eq_true (by first | (with_reducible assumption) | assumption)
     obtain ⟨ad352, e352, hx352_0, hx352_1⟩ := at_T93 (Kd.R_reads' HO_10.out).2.2 x11_1 p352 q352
     obtain rfl : ad351 = ad352 := (by injection e352)
     replace p352 := eq_true p352
     replace q352 := eq_true q352
     refine start_ (n := 13) (S := fun w' => w'.cell? (ad351.add ((x11_1).toNat * 2)) = some (.int .i64 ((rd_T93 t348 x11_1).f0)) ∧ w'.cell? ⟨(ad351.add ((x11_1).toNat * 2)).block, (ad351.add ((x11_1).toNat * 2)).off + 1, none⟩ = some (.int .i64 ((rd_T93 t348 x11_1).f1)) ∧ w'.cell? (ad351.add ((x11_1).toNat * 2)) = some (.int .i64 ((rd_T93 t348 x11_1).f0)) ∧ w'.cell? ⟨(ad351.add ((x11_1).toNat * 2)).block, (ad351.add ((x11_1).toNat * 2)).off + 1, none⟩ = some (.int .i64 ((rd_T93 t348 x11_1).f1))) (ds := []) (bs 13 0) (by kernel_rfl) rfl rfl ⟨hx351_0, hx351_1, hx352_0, hx352_1⟩ (fun hHeld => ?_); refine with_tabW redpenref15_Words.tab6 redpenref15_Words.bits6 (fun HT_ HW_ => ?_)
     generalize wr.drew = w11 at HO_9 HO_10 HB hx351_0 hx351_1 hx352_0 hx352_1 hHeld ⊢
     refine pu_ 0 (some 24) ?_ (bs 13 1) HT_.out (by kernel_rfl) rfl rfl (fun _ _ _ h => h) (Or.inl ⟨by rfl, ?_⟩) ?_ ?_ ?_; rotate_left; (· intro w'; go_simp; with_reducible rfl); rotate_left; (· simp only [Act.put, sit, scz, scs, i64_w, i32_w]; rfl)
     refine pu_ 1 (some 25) ?_ (bs 13 3) HT_.out (by kernel_rfl) rfl rfl (fun _ _ _ h => h) (Or.inl ⟨by rfl, ?_⟩) ?_ ?_ ?_; rotate_left; (· intro w'; go_simp; with_reducible rfl); rotate_left; (· simp only [Act.put, sit, scz, scs, i64_w, i32_w]; rfl)
     refine pu_ 2 (some 26) ?_ (bs 13 7) HT_.out (by kernel_rfl) rfl rfl (fun _ _ _ h => h) (Or.inl ⟨by rfl, ?_⟩) ?_ ?_ ?_; rotate_left; (· intro w'; go_simp; with_reducible rfl); rotate_left; (· simp only [Act.put, sit, scz, scs, i64_w, i32_w]; rfl)
     refine pu_ 3 (some 27) ?_ (bs 13 15) HT_.out (by kernel_rfl) rfl rfl (fun _ _ _ h => h) (Or.inl ⟨by rfl, ?_⟩) ?_ ?_ ?_; rotate_left; (· intro w'; go_simp; with_reducible rfl); rotate_left; (· simp only [Act.put, sit, scz, scs, i64_w, i32_w]; rfl)
     refine pu_ 4 (some 28) ?_ (bs 13 31) HT_.out (by kernel_rfl) rfl rfl (fun _ _ _ h => h) (Or.inl ⟨by rfl, ?_⟩) ?_ ?_ ?_; rotate_left; (· intro w'; go_simp; with_reducible rfl); rotate_left; (· simp only [Act.put, sit, scz, scs, i64_w, i32_w]; rfl)
     refine pu_ 6 (some 30) ?_ (bs 13 95) HT_.out (by kernel_rfl) rfl rfl (fun _ _ _ h => h) (Or.inl ⟨by rfl, ?_⟩) ?_ ?_ ?_; rotate_left; (· intro w'; go_simp; with_reducible rfl); rotate_left; (· simp only [Act.put, sit, scz, scs, i64_w, i32_w]; rfl)
     refine pu_ 7 (some 31) ?_ (bs 13 223) HT_.out (by kernel_rfl) rfl rfl (fun _ _ _ h => h) (Or.inl ⟨by rfl, ?_⟩) ?_ ?_ ?_; rotate_left; (· intro w'; go_simp; with_reducible rfl); rotate_left; (· simp only [Act.put, sit, scz, scs, i64_w, i32_w]; rfl)
     refine pu_ 8 (some 32) ?_ (bs 13 479) HT_.out (by kernel_rfl) rfl rfl (fun _ _ _ h => h) (Or.inl ⟨by rfl, ?_⟩) ?_ ?_ ?_; rotate_left; (· intro w'; go_simp; with_reducible rfl); rotate_left; (· simp only [Act.put, sit, scz, scs, i64_w, i32_w]; rfl)
     refine pu_ 9 (some 33) ?_ (bs 13 991) HT_.out (by kernel_rfl) rfl rfl (fun _ _ _ h => h) (Or.inl ⟨by rfl, ?_⟩) ?_ ?_ ?_; rotate_left; (· intro w'; go_simp; with_reducible rfl); rotate_left; (· simp only [Act.put, sit, scz, scs, i64_w, i32_w]; rfl)
     refine take_ (i := 5) (N := some 29) (v := ?_) (a' := ?_) (bs 13 1023) rfl rfl (take_ofW HT_.out HW_.out (by kernel_rfl)) (fun _ _ _ h => h) (Or.inl ⟨by rfl, ?_⟩) hHeld ?_ ?_; rotate_left; (· rintro w' ⟨s0, s1, s2, s3⟩; go_simp; with_reducible rfl); rotate_left; (· simp only [Act.put, sit, scz, scs, i64_w, i32_w]; rfl)
     refine take_ (i := 10) (N := some 34) (v := ?_) (a' := ?_) (bs 13 2047) rfl rfl (take_ofW HT_.out HW_.out (by kernel_rfl)) (fun _ _ _ h => h) (Or.inl ⟨by rfl, ?_⟩) hHeld ?_ ?_; rotate_left; (· rintro w' ⟨s0, s1, s2, s3⟩; go_simp; with_reducible rfl); rotate_left; (· simp only [Act.put, sit, scz, scs, i64_w, i32_w]; rfl)
     refine one_ (i := 11) (N := some 35) (bs 13 4095) rfl rfl (one_of HT_.out (by kernel_rfl)) (by decide) (fun K hK => ?_)
     refine goes_ Tryd.func50 (by kernel_rfl) rfl #[.slice A1 l1.length c1, .int .i64 ((rd_T93 t348 x11_1).f0), .int .i64 ((rd_T93 t348 x11_1).f1)] (by rfl) rfl rfl (by (try simp only [List.map_toArray, List.map_cons, List.map_nil]); first | done | rfl | (simp only [List.length_drop, List.length_take]; rfl)) ?_
     with_reducible refine (redpenref15_Split.calls k1 _ _ l1 ((rd_T93 t348 x11_1).f0) ((rd_T93 t348 x11_1).f1) t353 _ ?side1 ?side2 A9.out).mono ?_
     (case side1 => repeat (first | exact (Kd.C_below HR1.out HB.out) | (with_reducible refine Kd.C_alloc ?_ _) | (with_reducible refine Kd.C_drewN ?_ _) | (with_reducible refine Kd.C_drew ?_)))
     (case side2 => exact HC1.out)
     rintro e w12 ⟨v354, rfl, ho0, hb⟩
     have HS0_ := (hb.cell (World.block_lt_of_cell? _ _ (hHeld.1))).trans (hHeld.1)
     have HS1_ := (hb.cell (World.block_lt_of_cell? _ _ (hHeld.2.1))).trans (hHeld.2.1)
     have HS2_ := (hb.cell (World.block_lt_of_cell? _ _ (hHeld.2.2.1))).trans (hHeld.2.2.1)
     have HS3_ := (hb.cell (World.block_lt_of_cell? _ _ (hHeld.2.2.2))).trans (hHeld.2.2.2)
     refine ⟨_, rfl, ?_⟩
     have n0_ := Aside0.mk (Kd.R_below (by (with_reducible repeat (first | apply Kd.R_alloc | apply Kd.R_drewN | apply Kd.R_drew)); exact HO_9.out) hb)
     have n1_ := Aside0.mk (Kd.R_elder' (by (with_reducible repeat (first | apply Kd.R_alloc | apply Kd.R_drewN | apply Kd.R_drew)); exact HO_10.out) (Kd.R_base ho0) hb)
     have n2_ := Aside0.mk (Kd.R_lower (Kd.R_new' ho0 (Kd.R_lt (by (with_reducible repeat (first | apply Kd.R_alloc | apply Kd.R_drewN | apply Kd.R_drew)); exact HO_10.out))) (below_size (by repeat (first | (with_reducible first | exact HB.out | apply below_alloc | apply pw_below_drewN | apply below_drew1) | exact HB.out))))
     have n3_ := Aside0.mk (below_step (by repeat (first | (with_reducible first | exact HB.out | apply below_alloc | apply pw_below_drewN | apply below_drew1) | exact HB.out)) hb)
     clear HO_9
     clear HO_10
     clear HB
     have HO_9 := n0_
     have HO_10 := n1_
     have HO355 := n2_
     have HB := n3_
     clear n0_ n1_ n2_ n3_
     (try clear hb)
     (try clear hb2)
     (try clear hk)
     (try clear hi)
     (try clear ho0)
     refine hK.out _ _ ⟨HS0_, HS1_, HS2_, HS3_⟩ (fun hHeld => ?_)
     clear hK K
     refine norm_ (a' := ?_) ?_ ?_
     rotate_left
     ·show Act.put _ (some 35) _ = _
      simp only [Act.put, List.setIfInBounds_toArray, List.set_cons_zero, List.set_cons_succ, i64_w, i32_w]
      rfl
     refine pu_ 12 (some 12) ?_ (bs 13 8191) HT_.out (by kernel_rfl) rfl rfl (fun _ _ _ h => h) (Or.inl ⟨by rfl, ?_⟩) ?_ ?_ ?_; rotate_left; (· intro w'; go_simp; with_reducible rfl); rotate_left; (· simp only [Act.put, sit, scz, scs, i64_w, i32_w]; rfl)
     refine done_ (done_of HT_.out (by kernel_rfl)) ?_
     try go_wp2
     go_loopg [9, 13] k1 (fun kq v9 v13 w' => ∃ (x9_2 : List (S90)) (x13_2 : Int), v13 = .int .i64 x13_2 ∧ Aside0 (redpenref15_Words.l1 kq l0 l1 a2 a3 x9_2 t348 x11_1 t353 x13_2 = some r) ∧ Aside0 (kq ≤ k1) ∧ Aside0 (Kd.R k90 90 w' w.heap.size (fun _ => True) v9 x9_2) ∧ Aside0 (Kd.R k93 93 w' w.heap.size (fun k_ => some k_ ≠ (v354 : Value).ownBlock) (.slice (some ad351) t348.length co10) t348) ∧ Aside0 (Kd.R k93 93 w' w.heap.size (fun k_ => some k_ ≠ ((.slice (some ad351) t348.length co10) : Value).ownBlock) v354 t353) ∧ Aside0 (Below w.heap.size w w'))
     case atStart => exact ⟨(x9_1), (0), (by first | rfl | (simp; done) | (simp [*]; done) | (simp [wrap64, wrap32]; done)), H', ⟨Nat.le_refl _⟩, ⟨by (with_reducible repeat (first | apply Kd.R_alloc | apply Kd.R_drewN | apply Kd.R_drew)); exact HO_9.out⟩, ⟨by (with_reducible repeat (first | apply Kd.R_alloc | apply Kd.R_drewN | apply Kd.R_drew)); exact Kd.R_mono HO_10.out (fun _ hk => hk.2)⟩, ⟨by (with_reducible repeat (first | apply Kd.R_alloc | apply Kd.R_drewN | apply Kd.R_drew)); exact Kd.R_mono HO355.out (fun _ hk => hk.2)⟩, ⟨by repeat (first | (with_reducible first | exact HB.out | apply below_alloc | apply pw_below_drewN | apply below_drew1) | exact HB.out)⟩⟩
     case round =>
      clear H'
      (try clear c1); (try clear p2); (try clear c3); (try clear p3); (try clear q3); (try clear hx3); (try clear c4); (try clear c5); (try clear c7); (try clear c7b0); (try clear c8); (try clear c8b0); (try clear hx351_0); (try clear hx351_1); (try clear hx352_0); (try clear hx352_1); (try clear p2); (try clear p351); (try clear p352); (try clear q351); (try clear q352)
      obtain ⟨x9_2, x13_2, rfl, HA, HK2, HO_9, HO_10, HO_12, HB⟩ := hrel
      cases gk with
      | zero => exact absurd HA.out (by simp [redpenref15_Words.l1])
      | succ k2 =>
       have H := HA.out
       clear HA
       simp only [redpenref15_Words.l1] at H
       by_cases c13 : x13_2 < (t353.length : Int)
       ·rw [if_pos c13] at H
        have c13b0 : decide (x13_2 < (t353.length : Int)) = true := decide_eq_true c13
        clear c13
        by_cases c14 : 0 ≤ x13_2
        ·rw [if_pos c14] at H
         have c14b0 : decide (0 ≤ x13_2) = true := decide_eq_true c14
         clear c14
         by_cases c15 : 0 ≤ ((rd_T93 t353 x13_2).f0)
         ·rw [if_pos c15] at H
          have c15b0 := eq_true c15
          have c15b1 : decide (0 ≤ ((rd_T93 t353 x13_2).f0)) = true := decide_eq_true c15
          clear c15
          by_cases c16 : ((rd_T93 t353 x13_2).f0) ≤ ((rd_T93 t353 x13_2).f1)
          ·rw [if_pos c16] at H
           have c16b0 := eq_true c16
           have c16b1 : decide (((rd_T93 t353 x13_2).f0) ≤ ((rd_T93 t353 x13_2).f1)) = true := decide_eq_true c16
           clear c16
           by_cases c17 : ((rd_T93 t353 x13_2).f1) ≤ (l1.length : Int)
           ·rw [if_pos c17] at H
            have c17b0 := eq_true c17
            have c17b1 : decide (((rd_T93 t353 x13_2).f1) ≤ (l1.length : Int)) = true := decide_eq_true c17
            clear c17
            obtain ⟨y358, hy358⟩ : ∃ y_ : List (S45), y_ = ((l1.take (((rd_T93 t353 x13_2).f1) : Int).toNat).drop (((rd_T93 t353 x13_2).f0) : Int).toNat) := ⟨_, rfl⟩
            replace H : (if (y358.length : Int) < a2 then (redpenref15_Words.j2 k2 l0 l1 a2 a3 x9_2 t348 x11_1 t353 x13_2 y358 true) else (redpenref15_Words.j2 k2 l0 l1 a2 a3 x9_2 t348 x11_1 t353 x13_2 y358 (decide ((y358.length : Int) > a3)))) = some r := by first | (rw [hy358]; with_reducible exact H) | (have H2_ := (Option.bind_some _ _).symm.trans H; rw [hy358]; with_reducible exact H2_) | (have H2_ := (Option.bind_some _ _).symm.trans H; with_reducible exact H2_) | with_reducible exact H | (rw [hy358]; exact H) | exact H
            have Ny358 := Aside0.mk hy358
            clear hy358
            have HC18 := Aside0.mk H
            clear H
            obtain ⟨Ao19, co19, eo19⟩ := Kd.R_slice HO_12.out
            subst eo19
            try go_wp2
            have n0_ := Aside0.mk (Kd.R_drew HO_9.out)
            have n1_ := Aside0.mk (Kd.R_drew HO_10.out)
            have n2_ := Aside0.mk (Kd.R_drew HO_12.out)
            have n3_ := Aside0.mk (below_drew1 HB.out)
            clear HO_9
            clear HO_10
            clear HO_12
            clear HB
            have HO_9 := n0_
            have HO_10 := n1_
            have HO_12 := n2_
            have HB := n3_
            clear n0_ n1_ n2_ n3_
            have p356 : 0 ≤ (x13_2 : Int) := of_decide_eq_true (by first | (with_reducible assumption) | assumption)
            have q356 : x13_2 < (t353.length : Int) := of_decide_eq_true (by first | (with_reducible assumption) | assumption)
            obtain ⟨ad356, e356, hx356_0, hx356_1⟩ := at_T93 (Kd.R_reads' HO_12.out).2.2 x13_2 p356 q356
            cases e356
            replace p356 := eq_true p356
            replace q356 := eq_true q356
            have p357 : 0 ≤ (x13_2 : Int) := of_decide_eq_true (by first | (with_reducible assumption) | assumption)
            have q357 : x13_2 < (t353.length : Int) := of_decide_eq_true (by first | (with_reducible assumption) | assumption)
            obtain ⟨ad357, e357, hx357_0, hx357_1⟩ := at_T93 (Kd.R_reads' HO_12.out).2.2 x13_2 p357 q357
            obtain rfl : ad356 = ad357 := (by injection e357)
            replace p357 := eq_true p357
            replace q357 := eq_true q357
            have q21 : (((rd_T93 t353 x13_2).f1) : Int) ≤ ((l1.length : Int) : Int) := of_decide_eq_true (by first | (with_reducible assumption) | assumption)
            obtain ⟨i021, hi021, _, hsz21, _⟩ := info_parts info45
            have hroom21 : l1.length ≤ c1 := HC1.out
            have hC21 : Kd.C k45 _ A1 l1.length l1 := HR1.out
            have ql21 : (((rd_T93 t353 x13_2).f0) : Int) ≤ (((rd_T93 t353 x13_2).f1) : Int) := of_decide_eq_true (by first | (with_reducible assumption) | assumption)
            have q021 : (0 : Int) ≤ (((rd_T93 t353 x13_2).f0) : Int) := of_decide_eq_true (by first | (with_reducible assumption) | assumption)
            have hcut21 := cut_mid (P := Tryd.prog) 34 45 .i64 .i64 Tryd.underlying34 hi021 3 hsz21 A1 l1.length c1 ((rd_T93 t353 x13_2).f0) ((rd_T93 t353 x13_2).f1) q021 ql21 q21 hroom21
            have hr21 := Kd.C_mid (lo := (((rd_T93 t353 x13_2).f0) : Int).toNat) (hi := (((rd_T93 t353 x13_2).f1) : Int).toNat) (c := c1) hC21 (by omega) (by omega) hroom21
            obtain ⟨A21, hA21⟩ : ∃ A1z_, A1z_ = (if c1 = (((rd_T93 t353 x13_2).f0) : Int).toNat then A1 else (A1 : Option Addr).map (·.add ((((rd_T93 t353 x13_2).f0) : Int).toNat * 3))) := ⟨_, rfl⟩
            obtain ⟨c21, hc21⟩ : ∃ c1z_, c1z_ = c1 - (((rd_T93 t353 x13_2).f0) : Int).toNat := ⟨_, rfl⟩
            have hy21 : y358.length = (((rd_T93 t353 x13_2).f1) : Int).toNat - (((rd_T93 t353 x13_2).f0) : Int).toNat := (by rw [Ny358.out, List.length_drop, List.length_take] <;> omega)
            rw [show ((l1).take (((rd_T93 t353 x13_2).f1) : Int).toNat).drop (((rd_T93 t353 x13_2).f0) : Int).toNat = y358 from Ny358.out.symm] at hr21
            replace hr21 : Kd.C k45 _ A21 y358.length y358 := (by rw [hA21]; exact hr21)
            rw [← hy21, ← hA21, ← hc21] at hcut21
            have HR361 := Aside0.mk hr21
            have HC361 := Aside0.mk (show y358.length ≤ c21 from by rw [hy21, hc21]; exact Nat.sub_le_sub_right (Nat.le_trans (by omega) hroom21) _)
            clear hr21 hC21 hroom21 hi021 hsz21 hc21
            have KY21 := Aside0.mk hy21
            have KA21 := Aside0.mk hA21
            clear hy21 hA21
            replace q21 := eq_true q21
            refine start_ (n := 13) (S := fun w' => w'.cell? (ad356.add ((x13_2).toNat * 2)) = some (.int .i64 ((rd_T93 t353 x13_2).f0)) ∧ w'.cell? ⟨(ad356.add ((x13_2).toNat * 2)).block, (ad356.add ((x13_2).toNat * 2)).off + 1, none⟩ = some (.int .i64 ((rd_T93 t353 x13_2).f1)) ∧ w'.cell? (ad356.add ((x13_2).toNat * 2)) = some (.int .i64 ((rd_T93 t353 x13_2).f0)) ∧ w'.cell? ⟨(ad356.add ((x13_2).toNat * 2)).block, (ad356.add ((x13_2).toNat * 2)).off + 1, none⟩ = some (.int .i64 ((rd_T93 t353 x13_2).f1))) (ds := []) (bs 13 0) (by kernel_rfl) rfl rfl ⟨hx356_0, hx356_1, hx357_0, hx357_1⟩ (fun hHeld => ?_); refine with_tabW redpenref15_Words.tab10 redpenref15_Words.bits10 (fun HT_ HW_ => ?_)
            generalize wr.drew = w20 at HO_9 HO_10 HO_12 HB HR361 hx356_0 hx356_1 hx357_0 hx357_1 hHeld ⊢
            refine pu_ 0 (some 42) ?_ (bs 13 1) HT_.out (by kernel_rfl) rfl rfl (fun _ _ _ h => h) (Or.inl ⟨by rfl, ?_⟩) ?_ ?_ ?_; rotate_left; (· intro w'; go_simp; with_reducible rfl); rotate_left; (· simp only [Act.put, sit, scz, scs, i64_w, i32_w]; rfl)
            refine pu_ 1 (some 43) ?_ (bs 13 3) HT_.out (by kernel_rfl) rfl rfl (fun _ _ _ h => h) (Or.inl ⟨by rfl, ?_⟩) ?_ ?_ ?_; rotate_left; (· intro w'; go_simp; with_reducible rfl); rotate_left; (· simp only [Act.put, sit, scz, scs, i64_w, i32_w]; rfl)
            refine pu_ 2 (some 44) ?_ (bs 13 7) HT_.out (by kernel_rfl) rfl rfl (fun _ _ _ h => h) (Or.inl ⟨by rfl, ?_⟩) ?_ ?_ ?_; rotate_left; (· intro w'; go_simp; with_reducible rfl); rotate_left; (· simp only [Act.put, sit, scz, scs, i64_w, i32_w]; rfl)
            refine pu_ 3 (some 45) ?_ (bs 13 15) HT_.out (by kernel_rfl) rfl rfl (fun _ _ _ h => h) (Or.inl ⟨by rfl, ?_⟩) ?_ ?_ ?_; rotate_left; (· intro w'; go_simp; with_reducible rfl); rotate_left; (· simp only [Act.put, sit, scz, scs, i64_w, i32_w]; rfl)
            refine pu_ 4 (some 46) ?_ (bs 13 31) HT_.out (by kernel_rfl) rfl rfl (fun _ _ _ h => h) (Or.inl ⟨by rfl, ?_⟩) ?_ ?_ ?_; rotate_left; (· intro w'; go_simp; with_reducible rfl); rotate_left; (· simp only [Act.put, sit, scz, scs, i64_w, i32_w]; rfl)
            refine pu_ 6 (some 48) ?_ (bs 13 95) HT_.out (by kernel_rfl) rfl rfl (fun _ _ _ h => h) (Or.inl ⟨by rfl, ?_⟩) ?_ ?_ ?_; rotate_left; (· intro w'; go_simp; with_reducible rfl); rotate_left; (· simp only [Act.put, sit, scz, scs, i64_w, i32_w]; rfl)
            refine pu_ 7 (some 49) ?_ (bs 13 223) HT_.out (by kernel_rfl) rfl rfl (fun _ _ _ h => h) (Or.inl ⟨by rfl, ?_⟩) ?_ ?_ ?_; rotate_left; (· intro w'; go_simp; with_reducible rfl); rotate_left; (· simp only [Act.put, sit, scz, scs, i64_w, i32_w]; rfl)
            refine pu_ 8 (some 50) ?_ (bs 13 479) HT_.out (by kernel_rfl) rfl rfl (fun _ _ _ h => h) (Or.inl ⟨by rfl, ?_⟩) ?_ ?_ ?_; rotate_left; (· intro w'; go_simp; with_reducible rfl); rotate_left; (· simp only [Act.put, sit, scz, scs, i64_w, i32_w]; rfl)
            refine pu_ 9 (some 51) ?_ (bs 13 991) HT_.out (by kernel_rfl) rfl rfl (fun _ _ _ h => h) (Or.inl ⟨by rfl, ?_⟩) ?_ ?_ ?_; rotate_left; (· intro w'; go_simp; with_reducible rfl); rotate_left; (· simp only [Act.put, sit, scz, scs, i64_w, i32_w]; rfl)
            refine take_ (i := 5) (N := some 47) (v := ?_) (a' := ?_) (bs 13 1023) rfl rfl (take_ofW HT_.out HW_.out (by kernel_rfl)) (fun _ _ _ h => h) (Or.inl ⟨by rfl, ?_⟩) hHeld ?_ ?_; rotate_left; (· rintro w' ⟨s0, s1, s2, s3⟩; go_simp; with_reducible rfl); rotate_left; (· simp only [Act.put, sit, scz, scs, i64_w, i32_w]; rfl)
            refine take_ (i := 10) (N := some 52) (v := ?_) (a' := ?_) (bs 13 2047) rfl rfl (take_ofW HT_.out HW_.out (by kernel_rfl)) (fun _ _ _ h => h) (Or.inl ⟨by rfl, ?_⟩) hHeld ?_ ?_; rotate_left; (· rintro w' ⟨s0, s1, s2, s3⟩; go_simp; with_reducible rfl); rotate_left; (· simp only [Act.put, sit, scz, scs, i64_w, i32_w]; rfl)
            refine pu_ 11 (some 53) ?_ (bs 13 4095) HT_.out (by kernel_rfl) rfl rfl (fun _ _ _ h => h) (Or.inl ⟨by rfl, ?_⟩) ?_ ?_ ?_; rotate_left; (· intro w'; go_simp; with_reducible rfl); rotate_left; (· simp only [Act.put, sit, scz, scs, i64_w, i32_w]; rfl)
            refine pu_ 12 (some 14) ?_ (bs 13 8191) HT_.out (by kernel_rfl) rfl rfl (fun _ _ _ h => h) (Or.inl ⟨by rfl, ?_⟩) ?_ ?_ ?_; rotate_left; (· intro w'; go_simp; with_reducible rfl); rotate_left; (· simp only [Act.put, sit, scz, scs, i64_w, i32_w]; rfl)
            refine done_ (done_of HT_.out (by kernel_rfl)) ?_
            go_upto_region 11 with (fail)
            go_cut [63] (fun v63 wc => ∃ (kq : Nat) (x63_17 : Bool), v63 = .bool x63_17 ∧ Aside0 (redpenref15_Words.j2 kq l0 l1 a2 a3 x9_2 t348 x11_1 t353 x13_2 y358 x63_17 = some r) ∧ Aside0 (kq ≤ k2) ∧ Aside0 (Kd.R k90 90 wc w.heap.size (fun _ => True) u9 x9_2) ∧ Aside0 (Kd.R k93 93 wc w.heap.size (fun k_ => some k_ ≠ ((.slice (some ad356) t353.length co19) : Value).ownBlock) (.slice (some ad351) t348.length co10) t348) ∧ Aside0 (Kd.R k93 93 wc w.heap.size (fun k_ => some k_ ≠ ((.slice (some ad351) t348.length co10) : Value).ownBlock) (.slice (some ad356) t353.length co19) t353) ∧ Aside0 (Below w.heap.size w wc))
            case first =>
             have H := HC18.out
             clear HC18
             by_cases c22 : (y358.length : Int) < a2
             ·rw [if_pos c22] at H
              have c22b0 : decide ((y358.length : Int) < a2) = true := decide_eq_true c22
              clear c22
              (first | rw [c22b0] | (simp only [i64_w, i32_w]; rw [c22b0]) | skip)
              have H' := Aside0.mk H
              clear H
              go_wp2
              go_meet
              case rel => exact ⟨_, (true), (by first | rfl | (simp; done) | (simp [*]; done) | (simp [wrap64, wrap32]; done)), H', ⟨by have := HK1.out; have := HK2.out; first | omega | exact Nat.le_refl _⟩, ⟨by (with_reducible repeat (first | apply Kd.R_alloc | apply Kd.R_drewN | apply Kd.R_drew)); exact HO_9.out⟩, ⟨by (with_reducible repeat (first | apply Kd.R_alloc | apply Kd.R_drewN | apply Kd.R_drew)); exact HO_10.out⟩, ⟨by (with_reducible repeat (first | apply Kd.R_alloc | apply Kd.R_drewN | apply Kd.R_drew)); exact HO_12.out⟩, ⟨by repeat (first | (with_reducible first | exact HB.out | apply below_alloc | apply pw_below_drewN | apply below_drew1) | exact HB.out)⟩⟩
             ·rw [if_neg c22] at H
              have c22b0 : decide ((y358.length : Int) < a2) = false := decide_eq_false c22
              clear c22
              (first | rw [c22b0] | (simp only [i64_w, i32_w]; rw [c22b0]) | skip)
              have H' := Aside0.mk H
              clear H
              go_wp2
              go_meet
              case rel => exact ⟨_, (decide ((y358.length : Int) > a3)), (by first | rfl | (simp; done) | (simp [*]; done) | (simp [wrap64, wrap32]; done)), H', ⟨by have := HK1.out; have := HK2.out; first | omega | exact Nat.le_refl _⟩, ⟨by (with_reducible repeat (first | apply Kd.R_alloc | apply Kd.R_drewN | apply Kd.R_drew)); exact HO_9.out⟩, ⟨by (with_reducible repeat (first | apply Kd.R_alloc | apply Kd.R_drewN | apply Kd.R_drew)); exact HO_10.out⟩, ⟨by (with_reducible repeat (first | apply Kd.R_alloc | apply Kd.R_drewN | apply Kd.R_drew)); exact HO_12.out⟩, ⟨by repeat (first | (with_reducible first | exact HB.out | apply below_alloc | apply pw_below_drewN | apply below_drew1) | exact HB.out)⟩⟩
            case rest =>
             clear HC18
             (try clear c1); (try clear c2); (try clear p2); (try clear q2); (try clear c3); (try clear p3); (try clear q3); (try clear hx3); (try clear c4); (try clear c5); (try clear c7); (try clear c7b0); (try clear c8); (try clear c8b0); (try clear c13); (try clear c13b0); (try clear c14); (try clear c14b0); (try clear c15); (try clear c15b0); (try clear c15b1); (try clear c16); (try clear c16b0); (try clear c16b1); (try clear c17); (try clear c17b0); (try clear c17b1); (try clear c21); (try clear q21); (try clear c22); (try clear c22b0); (try clear hx351_0); (try clear hx351_1); (try clear hx352_0); (try clear hx352_1); (try clear hx356_0); (try clear hx356_1); (try clear hx357_0); (try clear hx357_1); (try clear p2); (try clear p3); (try clear p351); (try clear p352); (try clear p356); (try clear p357); (try clear q021); (try clear q21); (try clear q3); (try clear q351); (try clear q352); (try clear q356); (try clear q357)
             obtain ⟨kq, x63_17, rfl, HA, HJ17, HO_9, HO_10, HO_12, HB⟩ := hcut
             cases kq with
             | zero => exact absurd HA.out (by simp [redpenref15_Words.j2])
             | succ kj17 =>
              have H := HA.out
              clear HA
              simp only [redpenref15_Words.j2] at H
              by_cases c23 : x63_17 = true
              ·subst c23
               have H1 : (redpenref15_Words.l1 kj17 l0 l1 a2 a3 x9_2 t348 x11_1 t353 (wrap64 (x13_2 + 1))) = some r := by rw [if_pos rfl] at H; exact H
               clear H
               have H := H1
               clear H1
               have H' := Aside0.mk H
               clear H
               go_wp2
               go_roundg kj17
               case measure => have := HK1.out; have := HK2.out; have := HJ17.out; omega
               case rel => exact ⟨(x9_2), (wrap64 (x13_2 + 1)), (by first | rfl | (simp; done) | (simp [*]; done) | (simp [wrap64, wrap32]; done)), H', ⟨by have := HK1.out; have := HK2.out; have := HJ17.out; omega⟩, ⟨by (with_reducible repeat (first | apply Kd.R_alloc | apply Kd.R_drewN | apply Kd.R_drew)); exact HO_9.out⟩, ⟨by (with_reducible repeat (first | apply Kd.R_alloc | apply Kd.R_drewN | apply Kd.R_drew)); exact HO_10.out⟩, ⟨by (with_reducible repeat (first | apply Kd.R_alloc | apply Kd.R_drewN | apply Kd.R_drew)); exact HO_12.out⟩, ⟨by repeat (first | (with_reducible first | exact HB.out | apply below_alloc | apply pw_below_drewN | apply below_drew1) | exact HB.out)⟩⟩
              ·replace c23 := Bool.eq_false_iff.mpr c23
               subst c23
               have H1 : (if 0 ≤ (wrap64 ((y358.length : Int) - 1)) then (if (wrap64 ((y358.length : Int) - 1)) < (y358.length : Int) then ((redpenref15_Text.f kj17 y358).bind fun t364 => (if 0 < (y358.length : Int) then ((redpenref15_Literal.f kj17 l0 y358).bind fun t367 => (if x9_2.length < 3518437208883 then (redpenref15_Words.l1 kj17 l0 l1 a2 a3 (x9_2 ++ [(⟨t364, (⟨(rd_T45 y358 0).f1.f0, wrap64 ((wrap64 (((rd_T45 y358 (wrap64 ((y358.length : Int) - 1))).f1.f0) + ((rd_T45 y358 (wrap64 ((y358.length : Int) - 1))).f1.f1))) - ((rd_T45 y358 0).f1.f0))⟩ : S40), t367⟩ : S90)]) t348 x11_1 t353 (wrap64 (x13_2 + 1))) else (none))) else (none))) else (none)) else (none)) = some r := by rw [if_neg (show ¬ (false = true) by decide)] at H; exact H
               clear H
               have H := H1
               clear H1
               obtain ⟨ji24, hji24⟩ : ∃ j_ : Int, (wrap64 ((y358.length : Int) - 1)) = j_ := ⟨_, rfl⟩
               replace H : (if 0 ≤ (ji24) then (if (ji24) < (y358.length : Int) then ((redpenref15_Text.f kj17 y358).bind fun t364 => (if 0 < (y358.length : Int) then ((redpenref15_Literal.f kj17 l0 y358).bind fun t367 => (if x9_2.length < 3518437208883 then (redpenref15_Words.l1 kj17 l0 l1 a2 a3 (x9_2 ++ [(⟨t364, (⟨(rd_T45 y358 0).f1.f0, wrap64 ((wrap64 (((rd_T45 y358 (ji24)).f1.f0) + ((rd_T45 y358 (ji24)).f1.f1))) - ((rd_T45 y358 0).f1.f0))⟩ : S40), t367⟩ : S90)]) t348 x11_1 t353 (wrap64 (x13_2 + 1))) else (none))) else (none))) else (none)) else (none)) = some r := by first | (rw [hji24] at H; exact H) | (simp only [hji24] at H ⊢; exact H)
               have hji24w : (IntKind.i64.wrap ((y358.length : Int) - 1)) = ji24 := (i64_w _).trans hji24
               by_cases c25 : 0 ≤ (ji24)
               ·rw [if_pos c25] at H
                have c25b0 : decide (0 ≤ (ji24)) = true := decide_eq_true c25
                clear c25
                by_cases c26 : (ji24) < (y358.length : Int)
                ·rw [if_pos c26] at H
                 have c26b0 : decide ((ji24) < (y358.length : Int)) = true := decide_eq_true c26
                 clear c26
                 replace H := Option.bind_eq_some_iff.mp H
                 obtain ⟨t364, A270, H⟩ := H
                 replace H : (if 0 < (y358.length : Int) then ((redpenref15_Literal.f kj17 l0 y358).bind fun t367 => (if x9_2.length < 3518437208883 then (redpenref15_Words.l1 kj17 l0 l1 a2 a3 (x9_2 ++ [(⟨t364, (⟨(rd_T45 y358 0).f1.f0, wrap64 ((wrap64 (((rd_T45 y358 (ji24)).f1.f0) + ((rd_T45 y358 (ji24)).f1.f1))) - ((rd_T45 y358 0).f1.f0))⟩ : S40), t367⟩ : S90)]) t348 x11_1 t353 (wrap64 (x13_2 + 1))) else (none))) else (none)) = some r := H
                 have A27 := Aside0.mk A270
                 clear A270
                 by_cases c28 : 0 < (y358.length : Int)
                 ·rw [if_pos c28] at H
                  have c28b0 : decide (0 < (y358.length : Int)) = true := decide_eq_true c28
                  have c28b1 : decide (0 < y358.length) = true := decide_eq_true (by omega)
                  clear c28
                  replace H := Option.bind_eq_some_iff.mp H
                  obtain ⟨t367, A290, H⟩ := H
                  replace H : (if x9_2.length < 3518437208883 then (redpenref15_Words.l1 kj17 l0 l1 a2 a3 (x9_2 ++ [(⟨t364, (⟨(rd_T45 y358 0).f1.f0, wrap64 ((wrap64 (((rd_T45 y358 (ji24)).f1.f0) + ((rd_T45 y358 (ji24)).f1.f1))) - ((rd_T45 y358 0).f1.f0))⟩ : S40), t367⟩ : S90)]) t348 x11_1 t353 (wrap64 (x13_2 + 1))) else (none)) = some r := H
                  have A29 := Aside0.mk A290
                  clear A290
                  by_cases c30 : x9_2.length < 3518437208883
                  ·rw [if_pos c30] at H
                   have LMc30 := Aside0.mk c30
                   clear c30
                   obtain ⟨y368, hy368⟩ : ∃ y_ : List (S90), y_ = (x9_2 ++ [(⟨t364, (⟨(rd_T45 y358 0).f1.f0, wrap64 ((wrap64 (((rd_T45 y358 (ji24)).f1.f0) + ((rd_T45 y358 (ji24)).f1.f1))) - ((rd_T45 y358 0).f1.f0))⟩ : S40), t367⟩ : S90)]) := ⟨_, rfl⟩
                   replace H : (redpenref15_Words.l1 kj17 l0 l1 a2 a3 y368 t348 x11_1 t353 (wrap64 (x13_2 + 1))) = some r := by first | (rw [hy368]; with_reducible exact H) | (have H2_ := (Option.bind_some _ _).symm.trans H; rw [hy368]; with_reducible exact H2_) | (have H2_ := (Option.bind_some _ _).symm.trans H; with_reducible exact H2_) | with_reducible exact H | (rw [hy368]; exact H) | exact H
                   have Ny368 := Aside0.mk hy368
                   clear hy368
                   have H' := Aside0.mk H
                   clear H
                   try go_wp2
                   have n0_ := Aside0.mk (Kd.R_drew HO_9.out)
                   have n1_ := Aside0.mk (Kd.R_drew HO_10.out)
                   have n2_ := Aside0.mk (Kd.R_drew HO_12.out)
                   have n3_ := Aside0.mk (below_drew1 HB.out)
                   clear HO_9
                   clear HO_10
                   clear HO_12
                   clear HB
                   have HO_9 := n0_
                   have HO_10 := n1_
                   have HO_12 := n2_
                   have HB := n3_
                   clear n0_ n1_ n2_ n3_
                   have p362 : 0 ≤ ((ji24) : Int) := of_decide_eq_true (by first | (with_reducible assumption) | assumption)
                   have q362 : (ji24) < (y358.length : Int) := of_decide_eq_true (by first | (with_reducible assumption) | assumption)
                   obtain ⟨ad362, e362, hx362_0, hx362_1, hx362_2⟩ := at_T45 HR361.out (ji24) p362 q362
                   have hw362_2 := hx362_2
                   have hw362_1 := hx362_1
                   have hw362_0 := hx362_0
                   cases e362
                   replace hx362_0 := (HB.out.cell (World.block_lt_of_cell? w _ hx362_0)).trans hx362_0
                   replace hx362_1 := (HB.out.cell (World.block_lt_of_cell? w _ hx362_1)).trans hx362_1
                   replace hx362_2 := (HB.out.cell (World.block_lt_of_cell? w _ hx362_2)).trans hx362_2
                   replace p362 := eq_true p362
                   replace q362 := eq_true q362
                   have p363 : 0 ≤ ((ji24) : Int) := of_decide_eq_true (by first | (with_reducible assumption) | assumption)
                   have q363 : (ji24) < (y358.length : Int) := of_decide_eq_true (by first | (with_reducible assumption) | assumption)
                   obtain ⟨ad363, e363, hx363_0, hx363_1, hx363_2⟩ := at_T45 HR361.out (ji24) p363 q363
                   have hw363_2 := hx363_2
                   have hw363_1 := hx363_1
                   have hw363_0 := hx363_0
                   obtain rfl : ad362 = ad363 := (by injection e363)
                   replace hx363_0 := (HB.out.cell (World.block_lt_of_cell? w _ hx363_0)).trans hx363_0
                   replace hx363_1 := (HB.out.cell (World.block_lt_of_cell? w _ hx363_1)).trans hx363_1
                   replace hx363_2 := (HB.out.cell (World.block_lt_of_cell? w _ hx363_2)).trans hx363_2
                   replace p363 := eq_true p363
                   replace q363 := eq_true q363
                   refine start_ (n := 18) (S := fun w' => w'.cell? (ad362.add (((ji24)).toNat * 3)) = some (.int .i32 ((rd_T45 y358 (ji24)).f0)) ∧ w'.cell? ⟨(ad362.add (((ji24)).toNat * 3)).block, (ad362.add (((ji24)).toNat * 3)).off + 1, none⟩ = some (.int .i64 ((rd_T45 y358 (ji24)).f1.f0)) ∧ w'.cell? ⟨(ad362.add (((ji24)).toNat * 3)).block, (ad362.add (((ji24)).toNat * 3)).off + 2, none⟩ = some (.int .i64 ((rd_T45 y358 (ji24)).f1.f1)) ∧ w'.cell? (ad362.add (((ji24)).toNat * 3)) = some (.int .i32 ((rd_T45 y358 (ji24)).f0)) ∧ w'.cell? ⟨(ad362.add (((ji24)).toNat * 3)).block, (ad362.add (((ji24)).toNat * 3)).off + 1, none⟩ = some (.int .i64 ((rd_T45 y358 (ji24)).f1.f0)) ∧ w'.cell? ⟨(ad362.add (((ji24)).toNat * 3)).block, (ad362.add (((ji24)).toNat * 3)).off + 2, none⟩ = some (.int .i64 ((rd_T45 y358 (ji24)).f1.f1))) (ds := []) (bs 18 0) (by kernel_rfl) rfl rfl ⟨((HB.out.cell (World.block_lt_of_cell? w _ hw362_0)).trans hw362_0), ((HB.out.cell (World.block_lt_of_cell? w _ hw362_1)).trans hw362_1), ((HB.out.cell (World.block_lt_of_cell? w _ hw362_2)).trans hw362_2), ((HB.out.cell (World.block_lt_of_cell? w _ hw363_0)).trans hw363_0), ((HB.out.cell (World.block_lt_of_cell? w _ hw363_1)).trans hw363_1), ((HB.out.cell (World.block_lt_of_cell? w _ hw363_2)).trans hw363_2)⟩ (fun hHeld => ?_); refine with_tabW redpenref15_Words.tab12 redpenref15_Words.bits12 (fun HT_ HW_ => ?_)
                   generalize wc.drew = w31 at HO_9 HO_10 HO_12 HB hx362_0 hx362_1 hx362_2 hx363_0 hx363_1 hx363_2 hHeld ⊢
                   refine pu_ 0 (some 64) ?_ (bs 18 1) HT_.out (by kernel_rfl) rfl rfl (fun _ _ _ h => h) (Or.inl ⟨by rfl, ?_⟩) ?_ ?_ ?_; rotate_left; (· intro w'; go_simp; with_reducible rfl); rotate_left; (· simp only [Act.put, sit, scz, scs, i64_w, i32_w]; rfl)
                   refine pu_ 1 (some 65) ?_ (bs 18 3) HT_.out (by kernel_rfl) rfl rfl (fun _ _ _ h => h) (Or.inl ⟨by rfl, ?_⟩) ?_ ?_ ?_; rotate_left; (· intro w'; go_simp; with_reducible rfl); rotate_left; (· simp only [Act.put, sit, scz, scs, i64_w, i32_w]; rfl)
                   refine pu_ 2 (some 66) ?_ (bs 18 7) HT_.out (by kernel_rfl) rfl rfl (fun _ _ _ h => h) (Or.inl ⟨by rfl, ?_⟩) ?_ ?_ ?_; rotate_left; (· intro w'; go_simp; with_reducible rfl); rotate_left; (· simp only [Act.put, sit, scz, scs, i64_w, i32_w]; rfl)
                   refine pu_ 3 (some 67) ?_ (bs 18 15) HT_.out (by kernel_rfl) rfl rfl (fun _ _ _ h => h) (Or.inl ⟨by rfl, ?_⟩) ?_ ?_ ?_; rotate_left; (· intro w'; go_simp; with_reducible rfl); rotate_left; (· simp only [Act.put, sit, scz, scs, i64_w, i32_w]; rfl)
                   refine pu_ 4 (some 68) ?_ (bs 18 31) HT_.out (by kernel_rfl) rfl rfl (fun _ _ _ h => h) (Or.inl ⟨by rfl, ?_⟩) ?_ ?_ ?_; rotate_left; (· intro w'; go_simp; with_reducible rfl); rotate_left; (· simp only [Act.put, sit, scz, scs, i64_w, i32_w]; rfl)
                   refine pu_ 5 (some 69) ?_ (bs 18 63) HT_.out (by kernel_rfl) rfl rfl (fun _ _ _ h => h) (Or.inl ⟨by rfl, ?_⟩) ?_ ?_ ?_; rotate_left; (· intro w'; go_simp; with_reducible rfl); rotate_left; (· simp only [Act.put, sit, scz, scs, i64_w, i32_w]; rfl)
                   refine pu_ 6 (some 70) ?_ (bs 18 127) HT_.out (by kernel_rfl) rfl rfl (fun _ _ _ h => h) (Or.inl ⟨by rfl, ?_⟩) ?_ ?_ ?_; rotate_left; (· intro w'; go_simp; with_reducible rfl); rotate_left; (· simp only [Act.put, sit, scz, scs, i64_w, i32_w]; rfl)
                   refine pu_ 8 (some 72) ?_ (bs 18 383) HT_.out (by kernel_rfl) rfl rfl (fun _ _ _ h => h) (Or.inl ⟨by rfl, ?_⟩) ?_ ?_ ?_; rotate_left; (· intro w'; go_simp; with_reducible rfl); rotate_left; (· simp only [Act.put, sit, scz, scs, i64_w, i32_w]; rfl)
                   refine pu_ 9 (some 73) ?_ (bs 18 895) HT_.out (by kernel_rfl) rfl rfl (fun _ _ _ h => h) (Or.inl ⟨by rfl, ?_⟩) ?_ ?_ ?_; rotate_left; (· intro w'; go_simp; with_reducible rfl); rotate_left; (· simp only [Act.put, sit, scz, scs, i64_w, i32_w]; rfl)
                   refine pu_ 10 (some 74) ?_ (bs 18 1919) HT_.out (by kernel_rfl) rfl rfl (fun _ _ _ h => h) (Or.inl ⟨by rfl, ?_⟩) ?_ ?_ ?_; rotate_left; (· intro w'; go_simp; with_reducible rfl); rotate_left; (· simp only [Act.put, sit, scz, scs, i64_w, i32_w]; rfl)
                   refine pu_ 11 (some 75) ?_ (bs 18 3967) HT_.out (by kernel_rfl) rfl rfl (fun _ _ _ h => h) (Or.inl ⟨by rfl, ?_⟩) ?_ ?_ ?_; rotate_left; (· intro w'; go_simp; with_reducible rfl); rotate_left; (· simp only [Act.put, sit, scz, scs, i64_w, i32_w]; rfl)
                   refine pu_ 12 (some 76) ?_ (bs 18 8063) HT_.out (by kernel_rfl) rfl rfl (fun _ _ _ h => h) (Or.inl ⟨by rfl, ?_⟩) ?_ ?_ ?_; rotate_left; (· intro w'; go_simp; with_reducible rfl); rotate_left; (· simp only [Act.put, sit, scz, scs, i64_w, i32_w]; rfl)
                   refine pu_ 13 (some 77) ?_ (bs 18 16255) HT_.out (by kernel_rfl) rfl rfl (fun _ _ _ h => h) (Or.inl ⟨by rfl, ?_⟩) ?_ ?_ ?_; rotate_left; (· intro w'; go_simp; with_reducible rfl); rotate_left; (· simp only [Act.put, sit, scz, scs, i64_w, i32_w]; rfl)
                   refine pu_ 14 (some 78) ?_ (bs 18 32639) HT_.out (by kernel_rfl) rfl rfl (fun _ _ _ h => h) (Or.inl ⟨by rfl, ?_⟩) ?_ ?_ ?_; rotate_left; (· intro w'; go_simp; with_reducible rfl); rotate_left; (· simp only [Act.put, sit, scz, scs, i64_w, i32_w]; rfl)
                   refine take_ (i := 7) (N := some 71) (v := ?_) (a' := ?_) (bs 18 32767) rfl rfl (take_ofW HT_.out HW_.out (by kernel_rfl)) (fun _ _ _ h => h) (Or.inl ⟨by rfl, ?_⟩) hHeld ?_ ?_; rotate_left; (· rintro w' ⟨s0, s1, s2, s3, s4, s5⟩; go_simp; with_reducible rfl); rotate_left; (· simp only [Act.put, sit, scz, scs, i64_w, i32_w]; rfl)
                   refine take_ (i := 15) (N := some 79) (v := ?_) (a' := ?_) (bs 18 65535) rfl rfl (take_ofW HT_.out HW_.out (by kernel_rfl)) (fun _ _ _ h => h) (Or.inl ⟨by rfl, ?_⟩) hHeld ?_ ?_; rotate_left; (· rintro w' ⟨s0, s1, s2, s3, s4, s5⟩; go_simp; with_reducible rfl); rotate_left; (· simp only [Act.put, sit, scz, scs, i64_w, i32_w]; rfl)
                   refine pu_ 16 (some 80) ?_ (bs 18 131071) HT_.out (by kernel_rfl) rfl rfl (fun _ _ _ h => h) (Or.inl ⟨by rfl, ?_⟩) ?_ ?_ ?_; rotate_left; (· intro w'; go_simp; with_reducible rfl); rotate_left; (· simp only [Act.put, sit, scz, scs, i64_w, i32_w]; rfl)
                   refine pu_ 17 (some 15) ?_ (bs 18 262143) HT_.out (by kernel_rfl) rfl rfl (fun _ _ _ h => h) (Or.inl ⟨by rfl, ?_⟩) ?_ ?_ ?_; rotate_left; (· intro w'; go_simp; with_reducible rfl); rotate_left; (· simp only [Act.put, sit, scz, scs, i64_w, i32_w]; rfl)
                   refine done_ (done_of HT_.out (by kernel_rfl)) ?_
                   try go_wp2
                   have n0_ := Aside0.mk (Kd.R_drew HO_9.out)
                   have n1_ := Aside0.mk (Kd.R_drew HO_10.out)
                   have n2_ := Aside0.mk (Kd.R_drew HO_12.out)
                   have n3_ := Aside0.mk (below_drew1 HB.out)
                   clear HO_9
                   clear HO_10
                   clear HO_12
                   clear HB
                   have HO_9 := n0_
                   have HO_10 := n1_
                   have HO_12 := n2_
                   have HB := n3_
                   clear n0_ n1_ n2_ n3_
                   have p365 : 0 ≤ (0 : Int) := (by omega)
                   have q365 : 0 < (y358.length : Int) := of_decide_eq_true (by first | (with_reducible assumption) | assumption)
                   obtain ⟨ad365, e365, hx365_0, hx365_1, hx365_2⟩ := at_T45 HR361.out 0 p365 q365
                   have hw365_2 := hx365_2
                   (try rw [show ((0 : Int)).toNat = 0 from rfl] at hw365_2)
                   (try rw [show 0 * 3 = 0 from rfl] at hw365_2)
                   (try rw [Addr.add_zero'] at hw365_2)
                   have hw365_1 := hx365_1
                   (try rw [show ((0 : Int)).toNat = 0 from rfl] at hw365_1)
                   (try rw [show 0 * 3 = 0 from rfl] at hw365_1)
                   (try rw [Addr.add_zero'] at hw365_1)
                   have hw365_0 := hx365_0
                   (try rw [show ((0 : Int)).toNat = 0 from rfl] at hw365_0)
                   (try rw [show 0 * 3 = 0 from rfl] at hw365_0)
                   (try rw [Addr.add_zero'] at hw365_0)
                   obtain rfl : ad362 = ad365 := (by injection e365)
                   have qi365 : (0 < y358.length) = True := eq_true (by omega)
                   (try rw [show ((0 : Int)).toNat = 0 from rfl] at hx365_0)
                   (try rw [show 0 * 3 = 0 from rfl] at hx365_0)
                   (try rw [Addr.add_zero'] at hx365_0)
                   (try rw [show ((0 : Int)).toNat = 0 from rfl] at hx365_1)
                   (try rw [show 0 * 3 = 0 from rfl] at hx365_1)
                   (try rw [Addr.add_zero'] at hx365_1)
                   (try rw [show ((0 : Int)).toNat = 0 from rfl] at hx365_2)
                   (try rw [show 0 * 3 = 0 from rfl] at hx365_2)
                   (try rw [Addr.add_zero'] at hx365_2)
                   replace hx365_0 := (HB.out.cell (World.block_lt_of_cell? w _ hx365_0)).trans hx365_0
                   replace hx365_1 := (HB.out.cell (World.block_lt_of_cell? w _ hx365_1)).trans hx365_1
                   replace hx365_2 := (HB.out.cell (World.block_lt_of_cell? w _ hx365_2)).trans hx365_2
                   replace p365 := eq_true p365
                   replace q365 := eq_true q365
                   have p366 : 0 ≤ (0 : Int) := (by omega)
                   have q366 : 0 < (y358.length : Int) := of_decide_eq_true (by first | (with_reducible assumption) | assumption)
                   obtain ⟨ad366, e366, hx366_0, hx366_1, hx366_2⟩ := at_T45 HR361.out 0 p366 q366
                   have hw366_2 := hx366_2
                   (try rw [show ((0 : Int)).toNat = 0 from rfl] at hw366_2)
                   (try rw [show 0 * 3 = 0 from rfl] at hw366_2)
                   (try rw [Addr.add_zero'] at hw366_2)
                   have hw366_1 := hx366_1
                   (try rw [show ((0 : Int)).toNat = 0 from rfl] at hw366_1)
                   (try rw [show 0 * 3 = 0 from rfl] at hw366_1)
                   (try rw [Addr.add_zero'] at hw366_1)
                   have hw366_0 := hx366_0
                   (try rw [show ((0 : Int)).toNat = 0 from rfl] at hw366_0)
                   (try rw [show 0 * 3 = 0 from rfl] at hw366_0)
                   (try rw [Addr.add_zero'] at hw366_0)
                   obtain rfl : ad362 = ad366 := (by injection e366)
                   have qi366 : (0 < y358.length) = True := eq_true (by omega)
                   (try rw [show ((0 : Int)).toNat = 0 from rfl] at hx366_0)
                   (try rw [show 0 * 3 = 0 from rfl] at hx366_0)
                   (try rw [Addr.add_zero'] at hx366_0)
                   (try rw [show ((0 : Int)).toNat = 0 from rfl] at hx366_1)
                   (try rw [show 0 * 3 = 0 from rfl] at hx366_1)
                   (try rw [Addr.add_zero'] at hx366_1)
                   (try rw [show ((0 : Int)).toNat = 0 from rfl] at hx366_2)
                   (try rw [show 0 * 3 = 0 from rfl] at hx366_2)
                   (try rw [Addr.add_zero'] at hx366_2)
                   replace hx366_0 := (HB.out.cell (World.block_lt_of_cell? w _ hx366_0)).trans hx366_0
                   replace hx366_1 := (HB.out.cell (World.block_lt_of_cell? w _ hx366_1)).trans hx366_1
                   replace hx366_2 := (HB.out.cell (World.block_lt_of_cell? w _ hx366_2)).trans hx366_2
                   replace p366 := eq_true p366
                   replace q366 := eq_true q366
                   refine start_ (n := 23) (S := fun w' => w'.cell? ad362 = some (.int .i32 ((rd_T45 y358 0).f0)) ∧ w'.cell? ⟨ad362.block, ad362.off + 1, none⟩ = some (.int .i64 ((rd_T45 y358 0).f1.f0)) ∧ w'.cell? ⟨ad362.block, ad362.off + 2, none⟩ = some (.int .i64 ((rd_T45 y358 0).f1.f1)) ∧ w'.cell? ad362 = some (.int .i32 ((rd_T45 y358 0).f0)) ∧ w'.cell? ⟨ad362.block, ad362.off + 1, none⟩ = some (.int .i64 ((rd_T45 y358 0).f1.f0)) ∧ w'.cell? ⟨ad362.block, ad362.off + 2, none⟩ = some (.int .i64 ((rd_T45 y358 0).f1.f1))) (ds := []) (bs 23 0) (by kernel_rfl) rfl rfl ⟨((HB.out.cell (World.block_lt_of_cell? w _ hw365_0)).trans hw365_0), ((HB.out.cell (World.block_lt_of_cell? w _ hw365_1)).trans hw365_1), ((HB.out.cell (World.block_lt_of_cell? w _ hw365_2)).trans hw365_2), ((HB.out.cell (World.block_lt_of_cell? w _ hw366_0)).trans hw366_0), ((HB.out.cell (World.block_lt_of_cell? w _ hw366_1)).trans hw366_1), ((HB.out.cell (World.block_lt_of_cell? w _ hw366_2)).trans hw366_2)⟩ (fun hHeld => ?_); refine with_tabW redpenref15_Words.tab13 redpenref15_Words.bits13 (fun HT_ HW_ => ?_)
                   generalize w31.drew = w32 at HO_9 HO_10 HO_12 HB hx365_0 hx365_1 hx365_2 hx366_0 hx366_1 hx366_2 hHeld ⊢
                   refine pu_ 0 (some 81) ?_ (bs 23 1) HT_.out (by kernel_rfl) rfl rfl (fun _ _ _ h => h) (Or.inl ⟨by rfl, ?_⟩) ?_ ?_ ?_; rotate_left; (· intro w'; go_simp; with_reducible rfl); rotate_left; (· simp only [Act.put, sit, scz, scs, i64_w, i32_w]; rfl)
                   refine pu_ 1 (some 82) ?_ (bs 23 3) HT_.out (by kernel_rfl) rfl rfl (fun _ _ _ h => h) (Or.inl ⟨by rfl, ?_⟩) ?_ ?_ ?_; rotate_left; (· intro w'; go_simp; with_reducible rfl); rotate_left; (· simp only [Act.put, sit, scz, scs, i64_w, i32_w]; rfl)
                   refine pu_ 3 (some 84) ?_ (bs 23 11) HT_.out (by kernel_rfl) rfl rfl (fun _ _ _ h => h) (Or.inl ⟨by rfl, ?_⟩) ?_ ?_ ?_; rotate_left; (· intro w'; go_simp; with_reducible rfl); rotate_left; (· simp only [Act.put, sit, scz, scs, i64_w, i32_w]; rfl)
                   refine pu_ 4 (some 85) ?_ (bs 23 27) HT_.out (by kernel_rfl) rfl rfl (fun _ _ _ h => h) (Or.inl ⟨by rfl, ?_⟩) ?_ ?_ ?_; rotate_left; (· intro w'; go_simp; with_reducible rfl); rotate_left; (· simp only [Act.put, sit, scz, scs, i64_w, i32_w]; rfl)
                   refine pu_ 5 (some 86) ?_ (bs 23 59) HT_.out (by kernel_rfl) rfl rfl (fun _ _ _ h => h) (Or.inl ⟨by rfl, ?_⟩) ?_ ?_ ?_; rotate_left; (· intro w'; go_simp; with_reducible rfl); rotate_left; (· simp only [Act.put, sit, scz, scs, i64_w, i32_w]; rfl)
                   refine pu_ 6 (some 87) ?_ (bs 23 123) HT_.out (by kernel_rfl) rfl rfl (fun _ _ _ h => h) (Or.inl ⟨by rfl, ?_⟩) ?_ ?_ ?_; rotate_left; (· intro w'; go_simp; with_reducible rfl); rotate_left; (· simp only [Act.put, sit, scz, scs, i64_w, i32_w]; rfl)
                   refine pu_ 8 (some 89) ?_ (bs 23 379) HT_.out (by kernel_rfl) rfl rfl (fun _ _ _ h => h) (Or.inl ⟨by rfl, ?_⟩) ?_ ?_ ?_; rotate_left; (· intro w'; go_simp; with_reducible rfl); rotate_left; (· simp only [Act.put, sit, scz, scs, i64_w, i32_w]; rfl)
                   refine pu_ 9 (some 90) ?_ (bs 23 891) HT_.out (by kernel_rfl) rfl rfl (fun _ _ _ h => h) (Or.inl ⟨by rfl, ?_⟩) ?_ ?_ ?_; rotate_left; (· intro w'; go_simp; with_reducible rfl); rotate_left; (· simp only [Act.put, sit, scz, scs, i64_w, i32_w]; rfl)
                   refine pu_ 10 (some 91) ?_ (bs 23 1915) HT_.out (by kernel_rfl) rfl rfl (fun _ _ _ h => h) (Or.inl ⟨by rfl, ?_⟩) ?_ ?_ ?_; rotate_left; (· intro w'; go_simp; with_reducible rfl); rotate_left; (· simp only [Act.put, sit, scz, scs, i64_w, i32_w]; rfl)
                   refine pu_ 11 (some 92) ?_ (bs 23 3963) HT_.out (by kernel_rfl) rfl rfl (fun _ _ _ h => h) (Or.inl ⟨by rfl, ?_⟩) ?_ ?_ ?_; rotate_left; (· intro w'; go_simp; with_reducible rfl); rotate_left; (· simp only [Act.put, sit, scz, scs, i64_w, i32_w]; rfl)
                   refine pu_ 12 (some 93) ?_ (bs 23 8059) HT_.out (by kernel_rfl) rfl rfl (fun _ _ _ h => h) (Or.inl ⟨by rfl, ?_⟩) ?_ ?_ ?_; rotate_left; (· intro w'; go_simp; with_reducible rfl); rotate_left; (· simp only [Act.put, sit, scz, scs, i64_w, i32_w]; rfl)
                   refine pu_ 16 (some 97) ?_ (bs 23 73595) HT_.out (by kernel_rfl) rfl rfl (fun _ _ _ h => h) (Or.inl ⟨by rfl, ?_⟩) ?_ ?_ ?_; rotate_left; (· intro w'; go_simp; with_reducible rfl); rotate_left; (· simp only [Act.put, sit, scz, scs, i64_w, i32_w]; rfl)
                   refine pu_ 17 (some 98) ?_ (bs 23 204667) HT_.out (by kernel_rfl) rfl rfl (fun _ _ _ h => h) (Or.inl ⟨by rfl, ?_⟩) ?_ ?_ ?_; rotate_left; (· intro w'; go_simp; with_reducible rfl); rotate_left; (· simp only [Act.put, sit, scz, scs, i64_w, i32_w]; rfl)
                   refine take_ (i := 7) (N := some 88) (v := ?_) (a' := ?_) (bs 23 204795) rfl rfl (take_ofW HT_.out HW_.out (by kernel_rfl)) (fun _ _ _ h => h) (Or.inl ⟨by rfl, ?_⟩) hHeld ?_ ?_; rotate_left; (· rintro w' ⟨s0, s1, s2, s3, s4, s5⟩; go_simp; with_reducible rfl); rotate_left; (· simp only [Act.put, sit, scz, scs, i64_w, i32_w]; rfl)
                   refine take_ (i := 13) (N := some 94) (v := ?_) (a' := ?_) (bs 23 212987) rfl rfl (take_ofW HT_.out HW_.out (by kernel_rfl)) (fun _ _ _ h => h) (Or.inl ⟨by rfl, ?_⟩) hHeld ?_ ?_; rotate_left; (· rintro w' ⟨s0, s1, s2, s3, s4, s5⟩; go_simp; with_reducible rfl); rotate_left; (· simp only [Act.put, sit, scz, scs, i64_w, i32_w]; rfl)
                   refine pu_ 14 (some 95) ?_ (bs 23 229371) HT_.out (by kernel_rfl) rfl rfl (fun _ _ _ h => h) (Or.inl ⟨by rfl, ?_⟩) ?_ ?_ ?_; rotate_left; (· intro w'; go_simp; with_reducible rfl); rotate_left; (· simp only [Act.put, sit, scz, scs, i64_w, i32_w]; rfl)
                   refine pu_ 15 (some 96) ?_ (bs 23 262139) HT_.out (by kernel_rfl) rfl rfl (fun _ _ _ h => h) (Or.inl ⟨by rfl, ?_⟩) ?_ ?_ ?_; rotate_left; (· intro w'; go_simp; with_reducible rfl); rotate_left; (· simp only [Act.put, sit, scz, scs, i64_w, i32_w]; rfl)
                   refine one_ (i := 2) (N := some 83) (bs 23 262143) rfl rfl (one_of HT_.out (by kernel_rfl)) (by decide) (fun K hK => ?_)
                   refine goes_ Tryd.func22 (by kernel_rfl) rfl #[.slice (some ad362) y358.length c21] (by rfl) rfl rfl (by (try simp only [List.map_toArray, List.map_cons, List.map_nil]); first | done | rfl | (simp only [List.length_drop, List.length_take]; rfl)) ?_
                   with_reducible refine (redpenref15_Text.calls kj17 _ _ y358 t364 _ ?side1 ?side2 A27.out).mono ?_
                   (case side1 => repeat (first | exact (Kd.C_below HR361.out HB.out) | (with_reducible refine Kd.C_alloc ?_ _) | (with_reducible refine Kd.C_drewN ?_ _) | (with_reducible refine Kd.C_drew ?_)))
                   (case side2 => exact HC361.out)
                   rintro e w33 ⟨rfl, hb⟩
                   refine ⟨_, rfl, ?_⟩
                   have n0_ := Aside0.mk (Kd.R_below (by (with_reducible repeat (first | apply Kd.R_alloc | apply Kd.R_drewN | apply Kd.R_drew)); exact HO_9.out) hb)
                   have n1_ := Aside0.mk (Kd.R_below (by (with_reducible repeat (first | apply Kd.R_alloc | apply Kd.R_drewN | apply Kd.R_drew)); exact HO_10.out) hb)
                   have n2_ := Aside0.mk (Kd.R_below (by (with_reducible repeat (first | apply Kd.R_alloc | apply Kd.R_drewN | apply Kd.R_drew)); exact HO_12.out) hb)
                   have n3_ := Aside0.mk (below_step (by repeat (first | (with_reducible first | exact HB.out | apply below_alloc | apply pw_below_drewN | apply below_drew1) | exact HB.out)) hb)
                   clear HO_9
                   clear HO_10
                   clear HO_12
                   clear HB
                   have HO_9 := n0_
                   have HO_10 := n1_
                   have HO_12 := n2_
                   have HB := n3_
                   clear n0_ n1_ n2_ n3_
                   (try clear hb)
                   (try clear hb2)
                   (try clear hk)
                   (try clear hi)
                   refine hK.out _ _ ⟨((HB.out.cell (World.block_lt_of_cell? w _ hw365_0)).trans hw365_0), ((HB.out.cell (World.block_lt_of_cell? w _ hw365_1)).trans hw365_1), ((HB.out.cell (World.block_lt_of_cell? w _ hw365_2)).trans hw365_2), ((HB.out.cell (World.block_lt_of_cell? w _ hw366_0)).trans hw366_0), ((HB.out.cell (World.block_lt_of_cell? w _ hw366_1)).trans hw366_1), ((HB.out.cell (World.block_lt_of_cell? w _ hw366_2)).trans hw366_2)⟩ (fun hHeld => ?_)
                   clear hK K
                   refine norm_ (a' := ?_) ?_ ?_
                   rotate_left
                   ·show Act.put _ (some 83) _ = _
                    simp only [Act.put, List.setIfInBounds_toArray, List.set_cons_zero, List.set_cons_succ, i64_w, i32_w]
                    rfl
                   refine one_ (i := 18) (N := some 99) (bs 23 524287) rfl rfl (one_of HT_.out (by kernel_rfl)) (by decide) (fun K hK => ?_)
                   refine goes_ Tryd.func24 (by kernel_rfl) rfl #[.slice A0 l0.length c0, .slice (some ad362) y358.length c21] (by rfl) rfl rfl (by (try simp only [List.map_toArray, List.map_cons, List.map_nil]); first | done | rfl | (simp only [List.length_drop, List.length_take]; rfl)) ?_
                   with_reducible refine (redpenref15_Literal.calls kj17 _ _ l0 _ _ y358 t367 _ ?side1 ?side2 ?side3 ?side4 A29.out).mono ?_
                   (case side1 => repeat (first | exact (Kd.C_below HR0.out HB.out) | (with_reducible refine Kd.C_alloc ?_ _) | (with_reducible refine Kd.C_drewN ?_ _) | (with_reducible refine Kd.C_drew ?_)))
                   (case side2 => exact HC0.out)
                   (case side3 => repeat (first | exact (Kd.C_below HR361.out HB.out) | (with_reducible refine Kd.C_alloc ?_ _) | (with_reducible refine Kd.C_drewN ?_ _) | (with_reducible refine Kd.C_drew ?_)))
                   (case side4 => exact HC361.out)
                   rintro e w34 ⟨rfl, hb⟩
                   refine ⟨_, rfl, ?_⟩
                   have n0_ := Aside0.mk (Kd.R_below (by (with_reducible repeat (first | apply Kd.R_alloc | apply Kd.R_drewN | apply Kd.R_drew)); exact HO_9.out) hb)
                   have n1_ := Aside0.mk (Kd.R_below (by (with_reducible repeat (first | apply Kd.R_alloc | apply Kd.R_drewN | apply Kd.R_drew)); exact HO_10.out) hb)
                   have n2_ := Aside0.mk (Kd.R_below (by (with_reducible repeat (first | apply Kd.R_alloc | apply Kd.R_drewN | apply Kd.R_drew)); exact HO_12.out) hb)
                   have n3_ := Aside0.mk (below_step (by repeat (first | (with_reducible first | exact HB.out | apply below_alloc | apply pw_below_drewN | apply below_drew1) | exact HB.out)) hb)
                   clear HO_9
                   clear HO_10
                   clear HO_12
                   clear HB
                   have HO_9 := n0_
                   have HO_10 := n1_
                   have HO_12 := n2_
                   have HB := n3_
                   clear n0_ n1_ n2_ n3_
                   (try clear hb)
                   (try clear hb2)
                   (try clear hk)
                   (try clear hi)
                   refine hK.out _ _ ⟨((HB.out.cell (World.block_lt_of_cell? w _ hw365_0)).trans hw365_0), ((HB.out.cell (World.block_lt_of_cell? w _ hw365_1)).trans hw365_1), ((HB.out.cell (World.block_lt_of_cell? w _ hw365_2)).trans hw365_2), ((HB.out.cell (World.block_lt_of_cell? w _ hw366_0)).trans hw366_0), ((HB.out.cell (World.block_lt_of_cell? w _ hw366_1)).trans hw366_1), ((HB.out.cell (World.block_lt_of_cell? w _ hw366_2)).trans hw366_2)⟩ (fun hHeld => ?_)
                   clear hK K
                   refine norm_ (a' := ?_) ?_ ?_
                   rotate_left
                   ·show Act.put _ (some 99) _ = _
                    simp only [Act.put, List.setIfInBounds_toArray, List.set_cons_zero, List.set_cons_succ, i64_w, i32_w]
                    rfl
                   refine pu_ 19 (some 100) ?_ (bs 23 1048575) HT_.out (by kernel_rfl) rfl rfl (fun _ _ _ h => h) (Or.inl ⟨by rfl, ?_⟩) ?_ ?_ ?_; rotate_left; (· intro w'; go_simp; with_reducible rfl); rotate_left; (· simp only [Act.put, sit, scz, scs, i64_w, i32_w]; rfl)
                   refine one_ (i := 20) (N := some 101) (bs 23 2097151) rfl rfl (one_of HT_.out (by kernel_rfl)) (by decide) (fun K hK => ?_)
                   refine value_ (w1 := ?_) (v := ?_) (by rfl) rfl ?_ ?_
                   rotate_left 2
                   ·go_simp
                    constructor
                    ·rfl
                    ·rfl
                   refine hK.out _ _ ⟨(World.cell?_alloc_lt _ _ _ (World.block_lt_of_cell? _ _ (((HB.out.cell (World.block_lt_of_cell? w _ hw365_0)).trans hw365_0)))).trans (((HB.out.cell (World.block_lt_of_cell? w _ hw365_0)).trans hw365_0)), (World.cell?_alloc_lt _ _ _ (World.block_lt_of_cell? _ _ (((HB.out.cell (World.block_lt_of_cell? w _ hw365_1)).trans hw365_1)))).trans (((HB.out.cell (World.block_lt_of_cell? w _ hw365_1)).trans hw365_1)), (World.cell?_alloc_lt _ _ _ (World.block_lt_of_cell? _ _ (((HB.out.cell (World.block_lt_of_cell? w _ hw365_2)).trans hw365_2)))).trans (((HB.out.cell (World.block_lt_of_cell? w _ hw365_2)).trans hw365_2)), (World.cell?_alloc_lt _ _ _ (World.block_lt_of_cell? _ _ (((HB.out.cell (World.block_lt_of_cell? w _ hw366_0)).trans hw366_0)))).trans (((HB.out.cell (World.block_lt_of_cell? w _ hw366_0)).trans hw366_0)), (World.cell?_alloc_lt _ _ _ (World.block_lt_of_cell? _ _ (((HB.out.cell (World.block_lt_of_cell? w _ hw366_1)).trans hw366_1)))).trans (((HB.out.cell (World.block_lt_of_cell? w _ hw366_1)).trans hw366_1)), (World.cell?_alloc_lt _ _ _ (World.block_lt_of_cell? _ _ (((HB.out.cell (World.block_lt_of_cell? w _ hw366_2)).trans hw366_2)))).trans (((HB.out.cell (World.block_lt_of_cell? w _ hw366_2)).trans hw366_2))⟩ (fun hHeld => ?_)
                   clear hK K
                   refine norm_ (a' := ?_) ?_ ?_
                   rotate_left
                   ·show Act.put _ (some 101) _ = _
                    simp only [Act.put, List.setIfInBounds_toArray, List.set_cons_zero, List.set_cons_succ, i64_w, i32_w]
                    rfl
                   refine one_ (i := 21) (N := some 102) (bs 23 4194303) rfl rfl (one_of HT_.out (by kernel_rfl)) (by decide) (fun K hK => ?_)
                   refine Kd.R_append_step k90 (w0 := w) w.heap.size (by rfl) (.tmp 81) (.tmp 101) 64 90 (.agg #[(.string ⟨#[]⟩), (.int .i64 0), (.int .i64 0), (.bool false)]) 40 rfl Tryd.underlying64 info90 rfl (by decide) (by omega) u9 x9_2 (⟨t364, (⟨(rd_T45 y358 0).f1.f0, wrap64 ((wrap64 (((rd_T45 y358 (ji24)).f1.f0) + ((rd_T45 y358 (ji24)).f1.f1))) - ((rd_T45 y358 0).f1.f0))⟩ : S40), t367⟩ : S90) [.string t364, .int .i64 ((rd_T45 y358 0).f1.f0), .int .i64 (wrap64 ((wrap64 (((rd_T45 y358 (ji24)).f1.f0) + ((rd_T45 y358 (ji24)).f1.f1))) - ((rd_T45 y358 0).f1.f0))), .bool t367] (fun _ => True) (fun _ => False) rfl rfl ?aP (fun _ hk => hk.elim) ?aF ?aO ?aB ?aS ?aL ?_
                   (case aP => exact k90_mkM _ _ _ (⟨t364, (⟨(rd_T45 y358 0).f1.f0, wrap64 ((wrap64 (((rd_T45 y358 (ji24)).f1.f0) + ((rd_T45 y358 (ji24)).f1.f1))) - ((rd_T45 y358 0).f1.f0))⟩ : S40), t367⟩ : S90))
                   (case aB => exact (by repeat (first | (with_reducible first | exact HB.out | apply below_alloc | apply pw_below_drewN | apply below_drew1) | exact HB.out)))
                   (case aF => exact (fun _ _ => trivial))
                   (case aO => exact (by (with_reducible repeat (first | apply Kd.R_alloc | apply Kd.R_drewN | apply Kd.R_drew)); exact HO_9.out))
                   (case aS => exact (below_size (by repeat (first | (with_reducible first | exact HB.out | apply below_alloc | apply pw_below_drewN | apply below_drew1) | exact HB.out))))
                   (case aL => have := LMc30.out; omega)
                   intro v369 w35 ho hb hg hat
                   rw [← Ny368.out] at ho
                   have n0_ := Aside0.mk (Kd.R_over' (by (with_reducible repeat (first | apply Kd.R_alloc | apply Kd.R_drewN | apply Kd.R_drew)); exact HO_10.out) (Kd.R_typed (by (with_reducible repeat (first | apply Kd.R_alloc | apply Kd.R_drewN | apply Kd.R_drew)); exact HO_9.out)) (by decide) hg)
                   have n1_ := Aside0.mk (Kd.R_over' (by (with_reducible repeat (first | apply Kd.R_alloc | apply Kd.R_drewN | apply Kd.R_drew)); exact HO_12.out) (Kd.R_typed (by (with_reducible repeat (first | apply Kd.R_alloc | apply Kd.R_drewN | apply Kd.R_drew)); exact HO_9.out)) (by decide) hg)
                   have n2_ := Aside0.mk (hb)
                   have n3_ := Aside0.mk (ho)
                   clear HO_10
                   clear HO_12
                   clear HB
                   clear HO_9
                   have HO_10 := n0_
                   have HO_12 := n1_
                   have HB := n2_
                   have HO370 := n3_
                   clear n0_ n1_ n2_ n3_
                   clear ho hb hg hat
                   refine hK.out _ _ ⟨((HB.out.cell (World.block_lt_of_cell? w _ hw365_0)).trans hw365_0), ((HB.out.cell (World.block_lt_of_cell? w _ hw365_1)).trans hw365_1), ((HB.out.cell (World.block_lt_of_cell? w _ hw365_2)).trans hw365_2), ((HB.out.cell (World.block_lt_of_cell? w _ hw366_0)).trans hw366_0), ((HB.out.cell (World.block_lt_of_cell? w _ hw366_1)).trans hw366_1), ((HB.out.cell (World.block_lt_of_cell? w _ hw366_2)).trans hw366_2)⟩ (fun hHeld => ?_)
                   clear hK K
                   refine norm_ (a' := ?_) ?_ ?_
                   rotate_left
                   ·show Act.put _ (some 102) _ = _
                    simp only [Act.put, List.setIfInBounds_toArray, List.set_cons_zero, List.set_cons_succ, i64_w, i32_w]
                    rfl
                   refine pu_ 22 (some 9) ?_ (bs 23 8388607) HT_.out (by kernel_rfl) rfl rfl (fun _ _ _ h => h) (Or.inl ⟨by rfl, ?_⟩) ?_ ?_ ?_; rotate_left; (· intro w'; go_simp; with_reducible rfl); rotate_left; (· simp only [Act.put, sit, scz, scs, i64_w, i32_w]; rfl)
                   refine done_ (done_of HT_.out (by kernel_rfl)) ?_
                   try go_wp2
                   go_roundg kj17
                   case measure => have := HK1.out; have := HK2.out; have := HJ17.out; omega
                   case rel => exact ⟨(y368), (wrap64 (x13_2 + 1)), (by first | rfl | (simp; done) | (simp [*]; done) | (simp [wrap64, wrap32]; done)), H', ⟨by have := HK1.out; have := HK2.out; have := HJ17.out; omega⟩, ⟨by (with_reducible repeat (first | apply Kd.R_alloc | apply Kd.R_drewN | apply Kd.R_drew)); exact HO370.out⟩, ⟨by (with_reducible repeat (first | apply Kd.R_alloc | apply Kd.R_drewN | apply Kd.R_drew)); exact HO_10.out⟩, ⟨by (with_reducible repeat (first | apply Kd.R_alloc | apply Kd.R_drewN | apply Kd.R_drew)); exact HO_12.out⟩, ⟨by repeat (first | (with_reducible first | exact HB.out | apply below_alloc | apply pw_below_drewN | apply below_drew1) | exact HB.out)⟩⟩
                  ·rw [if_neg c30] at H
                   exact absurd H (by simp)
                 ·rw [if_neg c28] at H
                  exact absurd H (by simp)
                ·rw [if_neg c26] at H
                 exact absurd H (by simp)
               ·rw [if_neg c25] at H
                exact absurd H (by simp)
           ·rw [if_neg c17] at H
            exact absurd H (by simp)
          ·rw [if_neg c16] at H
           exact absurd H (by simp)
         ·rw [if_neg c15] at H
          exact absurd H (by simp)
        ·rw [if_neg c14] at H
         exact absurd H (by simp)
       ·rw [if_neg c13] at H
        have c13b0 : decide (x13_2 < (t353.length : Int)) = false := decide_eq_false c13
        clear c13
        have H' := Aside0.mk H
        clear H
        obtain ⟨Ao36, co36, eo36⟩ := Kd.R_slice HO_12.out
        subst eo36
        go_wp2
        go_roundg k2
        case measure => have := HK1.out; have := HK2.out; omega
        case rel => exact ⟨(x9_2), (wrap64 (x11_1 + 1)), (by first | rfl | (simp; done) | (simp [*]; done) | (simp [wrap64, wrap32]; done)), H', ⟨by have := HK1.out; have := HK2.out; omega⟩, ⟨by (with_reducible repeat (first | apply Kd.R_alloc | apply Kd.R_drewN | apply Kd.R_drew)); exact HO_9.out⟩, ⟨by (with_reducible repeat (first | apply Kd.R_alloc | apply Kd.R_drewN | apply Kd.R_drew)); exact Kd.R_mono HO_10.out (fun _ hk => trivial)⟩, ⟨by repeat (first | (with_reducible first | exact HB.out | apply below_alloc | apply pw_below_drewN | apply below_drew1) | exact HB.out)⟩⟩
    ·rw [if_neg c8] at H
     exact absurd H (by simp)
   ·rw [if_neg c7] at H
    have c7b0 : decide (x11_1 < (t348.length : Int)) = false := decide_eq_false c7
    clear c7
    obtain rfl := Option.some.inj H
    obtain ⟨Ao37, co37, eo37⟩ := Kd.R_slice HO_10.out
    subst eo37
    go_wp2
    go_ret
    exact ⟨_, by first | rfl | (simp [errW_none, errW_some] <;> rfl) | (simp [*, errW_none, errW_some] <;> rfl), by (with_reducible repeat (first | apply Kd.R_alloc | apply Kd.R_drewN | apply Kd.R_drew)); exact HO_9.out, by repeat (first | (with_reducible first | exact HB.out | apply below_alloc | apply pw_below_drewN | apply below_drew1) | exact HB.out)⟩

end Go.Proofs.YtekalnhackjldaaDoor.PTokenWords
