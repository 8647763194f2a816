-- x
import Derived.Test.YtekalnhackjldaaDoorXOnes
import Derived.Test.YtekalnhackjldaaDoorPDecodeOnesx0
import Derived.Test.YtekalnhackjldaaDoorPDecodeOnesx2
import Derived.Test.YtekalnhackjldaaDoorPDecodeOnesx3
import Derived.Test.YtekalnhackjldaaDoorPDecodeOnesx6
import Derived.Test.YtekalnhackjldaaDoorPDecodeOnesx8
import Derived.Test.YtekalnhackjldaaDoorPDecodeOnesx9
namespace Go.Proofs.YtekalnhackjldaaDoor.PDecodeOnes
open Go.RowKit Go.Proofs.YtekalnhackjldaaDoor.X Go.Proofs.YtekalnhackjldaaDoorW.PrintWords Go.Proofs.YtekalnhackjldaaDoorW.PrintLast Go.Proofs.YtekalnhackjldaaDoorW.PrintMore
attribute [local go_sem] max2_int min2_int max_two min_two max_three min_three max_four min_four   -- for this text's walks alone
set_option linter.unusedVariables false
set_option linter.unusedSimpArgs false

/-! ### redpenlaw15_DecodeOnes: function 3 -/
mutual
def redpenlaw15_DecodeOnes.l0 : Nat → Int → List Int → Int → Int → Option (Bool)
 | 0, _, _, _, _ => none
 | k + 1, x0, x7, x30, x31 => if x31 < x30 then (if 0 ≤ x31 then (if x31 ≤ (x7.length : Int) then ((some (([38] : List Int) : List Int)).bind fun y208 => ((some (x7.drop (x31 : Int).toNat : List Int)).bind fun y211 => (if y208.length + y211.length < 140737488355328 then ((some (([92] : List Int) : List Int)).bind fun y219 => ((some (x7.drop (x31 : Int).toNat : List Int)).bind fun y222 => (if y219.length + y222.length < 140737488355328 then ((some (([(x7.drop (x31 : Int).toNat), (y208 ++ y211), (y219 ++ y222)] : List (List Int)) : List (List Int))).bind fun y230 => (redpenlaw15_DecodeOnes.l1 k x0 x7 x30 x31 y230 (y230.length : Int) 0)) else (none)))) else (none)))) else (none)) else (none)) else (some true)
def redpenlaw15_DecodeOnes.l1 : Nat → Int → List Int → Int → Int → List (List Int) → Int → Int → Option (Bool)
 | 0, _, _, _, _, _, _, _ => none
 | k + 1, x0, x7, x30, x31, x49, x50, x51 => if x51 < x50 then (if 0 ≤ x51 then (if x51 < (x49.length : Int) then ((decode_Entity.f (rd_L1 x49 x51)).bind fun bt234 => ((redpenref15_Entity.f k (rd_L1 x49 x51)).bind fun bt237 => (if bt234.1 = bt237.1 then (if bt234.2.1 = bt237.2.1 then (if (bt234.2.2 != bt237.2.2) = true then (some false) else ((some (([x0, 7, 5] : List Int) : List Int)).bind fun y240 => (redpenlaw15_DecodeOnes.l2 k x0 x7 (rd_L1 x49 x51) x30 x31 x49 x50 x51 y240 (y240.length : Int) 0))) else (some false)) else (some false)))) else (none)) else (none)) else (redpenlaw15_DecodeOnes.l0 k x0 x7 x30 (wrap64 (x31 + 1)))
def redpenlaw15_DecodeOnes.l2 : Nat → Int → List Int → List Int → Int → Int → List (List Int) → Int → Int → List Int → Int → Int → Option (Bool)
 | 0, _, _, _, _, _, _, _, _, _, _, _ => none
 | k + 1, x0, x7, x10, x30, x31, x49, x50, x51, x81, x82, x83 => if x83 < x82 then (if 0 ≤ x83 then (if x83 < (x81.length : Int) then ((decode_Escape.f k (rd x81 x83) x10).bind fun bt244 => ((redpenref15_Escape.f k (rd x81 x83) x10).bind fun bt247 => (if bt244.1 = bt247.1 then (if bt244.2.1 = bt247.2.1 then (if (bt244.2.2 != bt247.2.2) = true then (some false) else (redpenlaw15_DecodeOnes.l2 k x0 x7 x10 x30 x31 x49 x50 x51 x81 x82 (wrap64 (x83 + 1)))) else (some false)) else (some false)))) else (none)) else (none)) else (redpenlaw15_DecodeOnes.l1 k x0 x7 x30 x31 x49 x50 (wrap64 (x51 + 1)))
end
def redpenlaw15_DecodeOnes.f (k : Nat) (a0 : Int) (l1 : List Int) (l2 : List Int) : Option (Bool) := (redpenlaw15_Awake.f k).bind fun t196 => (if t196 = true then (if (l1.length : Int) > 200 then (some true) else ((redpenlaw15_pieces.f).bind fun t197 => ((redpenlaw11_Bits.f k t197 l2 l1).bind fun t200 => (redpenlaw15_DecodeOnes.l0 k a0 t200 (mn (t200.length : Int) 60) 0)))) else (some false))
theorem redpenlaw15_DecodeOnes.mono_l : ∀ k, (∀ y0 y1 y2 y3, LeO (redpenlaw15_DecodeOnes.l0 k y0 y1 y2 y3) (redpenlaw15_DecodeOnes.l0 (k + 1) y0 y1 y2 y3)) ∧ (∀ y0 y1 y2 y3 y4 y5 y6, LeO (redpenlaw15_DecodeOnes.l1 k y0 y1 y2 y3 y4 y5 y6) (redpenlaw15_DecodeOnes.l1 (k + 1) y0 y1 y2 y3 y4 y5 y6)) ∧ (∀ y0 y1 y2 y3 y4 y5 y6 y7 y8 y9 y10, LeO (redpenlaw15_DecodeOnes.l2 k y0 y1 y2 y3 y4 y5 y6 y7 y8 y9 y10) (redpenlaw15_DecodeOnes.l2 (k + 1) y0 y1 y2 y3 y4 y5 y6 y7 y8 y9 y10))
 | 0 => ⟨fun _ _ _ _ r h => by simp [redpenlaw15_DecodeOnes.l0] at h, fun _ _ _ _ _ _ _ r h => by simp [redpenlaw15_DecodeOnes.l1] at h, fun _ _ _ _ _ _ _ _ _ _ _ r h => by simp [redpenlaw15_DecodeOnes.l2] at h⟩
 | k + 1 => by
  obtain ⟨ih0, ih1, ih2⟩ := redpenlaw15_DecodeOnes.mono_l k
  refine ⟨?_, ?_, ?_⟩
  ·intro y0 y1 y2 y3
   unfold redpenlaw15_DecodeOnes.l0
   repeat' first
   | (with_reducible exact ih0 _ _ _ _)
   | (with_reducible exact ih1 _ _ _ _ _ _ _)
   | (with_reducible exact ih2 _ _ _ _ _ _ _ _ _ _ _)
   | (with_reducible exact decode_Escape.mono _ _ _)
   | (with_reducible exact redpenlaw11_Bits.mono _ _ _ _)
   | (with_reducible exact redpenlaw15_Awake.mono _)
   | (with_reducible exact redpenref15_Entity.mono _ _)
   | (with_reducible exact redpenref15_Escape.mono _ _ _)
   | (with_reducible exact LeO.refl _)
   | (with_reducible exact LeO.none _)
   | (with_reducible refine LeO.ite ?_ ?_)
   | (with_reducible refine LeO.bind ?_ (fun _ => ?_))
   | exact ih0 _ _ _ _
   | exact ih1 _ _ _ _ _ _ _
   | exact ih2 _ _ _ _ _ _ _ _ _ _ _
   | exact decode_Escape.mono _ _ _
   | exact redpenlaw11_Bits.mono _ _ _ _
   | exact redpenlaw15_Awake.mono _
   | exact redpenref15_Entity.mono _ _
   | exact redpenref15_Escape.mono _ _ _
   | exact LeO.none _
   | refine LeO.ite ?_ ?_
   | refine LeO.bind ?_ (fun _ => ?_)
  ·intro y0 y1 y2 y3 y4 y5 y6
   unfold redpenlaw15_DecodeOnes.l1
   repeat' first
   | (with_reducible exact ih0 _ _ _ _)
   | (with_reducible exact ih1 _ _ _ _ _ _ _)
   | (with_reducible exact ih2 _ _ _ _ _ _ _ _ _ _ _)
   | (with_reducible exact decode_Escape.mono _ _ _)
   | (with_reducible exact redpenlaw11_Bits.mono _ _ _ _)
   | (with_reducible exact redpenlaw15_Awake.mono _)
   | (with_reducible exact redpenref15_Entity.mono _ _)
   | (with_reducible exact redpenref15_Escape.mono _ _ _)
   | (with_reducible exact LeO.refl _)
   | (with_reducible exact LeO.none _)
   | (with_reducible refine LeO.ite ?_ ?_)
   | (with_reducible refine LeO.bind ?_ (fun _ => ?_))
   | exact ih0 _ _ _ _
   | exact ih1 _ _ _ _ _ _ _
   | exact ih2 _ _ _ _ _ _ _ _ _ _ _
   | exact decode_Escape.mono _ _ _
   | exact redpenlaw11_Bits.mono _ _ _ _
   | exact redpenlaw15_Awake.mono _
   | exact redpenref15_Entity.mono _ _
   | exact redpenref15_Escape.mono _ _ _
   | exact LeO.none _
   | refine LeO.ite ?_ ?_
   | refine LeO.bind ?_ (fun _ => ?_)
  ·intro y0 y1 y2 y3 y4 y5 y6 y7 y8 y9 y10
   unfold redpenlaw15_DecodeOnes.l2
   repeat' first
   | (with_reducible exact ih0 _ _ _ _)
   | (with_reducible exact ih1 _ _ _ _ _ _ _)
   | (with_reducible exact ih2 _ _ _ _ _ _ _ _ _ _ _)
   | (with_reducible exact decode_Escape.mono _ _ _)
   | (with_reducible exact redpenlaw11_Bits.mono _ _ _ _)
   | (with_reducible exact redpenlaw15_Awake.mono _)
   | (with_reducible exact redpenref15_Entity.mono _ _)
   | (with_reducible exact redpenref15_Escape.mono _ _ _)
   | (with_reducible exact LeO.refl _)
   | (with_reducible exact LeO.none _)
   | (with_reducible refine LeO.ite ?_ ?_)
   | (with_reducible refine LeO.bind ?_ (fun _ => ?_))
   | exact ih0 _ _ _ _
   | exact ih1 _ _ _ _ _ _ _
   | exact ih2 _ _ _ _ _ _ _ _ _ _ _
   | exact decode_Escape.mono _ _ _
   | exact redpenlaw11_Bits.mono _ _ _ _
   | exact redpenlaw15_Awake.mono _
   | exact redpenref15_Entity.mono _ _
   | exact redpenref15_Escape.mono _ _ _
   | exact LeO.none _
   | refine LeO.ite ?_ ?_
   | refine LeO.bind ?_ (fun _ => ?_)
theorem redpenlaw15_DecodeOnes.mono : ∀ a0 a1 a2 k, LeO (redpenlaw15_DecodeOnes.f k a0 a1 a2) (redpenlaw15_DecodeOnes.f (k + 1) a0 a1 a2) := by
 intro a0 a1 a2 k
 obtain ⟨ih0, ih1, ih2⟩ := redpenlaw15_DecodeOnes.mono_l k
 unfold redpenlaw15_DecodeOnes.f
 repeat' first
   | (with_reducible exact ih0 _ _ _ _)
   | (with_reducible exact ih1 _ _ _ _ _ _ _)
   | (with_reducible exact ih2 _ _ _ _ _ _ _ _ _ _ _)
   | (with_reducible exact decode_Escape.mono _ _ _)
   | (with_reducible exact redpenlaw11_Bits.mono _ _ _ _)
   | (with_reducible exact redpenlaw15_Awake.mono _)
   | (with_reducible exact redpenref15_Entity.mono _ _)
   | (with_reducible exact redpenref15_Escape.mono _ _ _)
   | (with_reducible exact LeO.refl _)
   | (with_reducible exact LeO.none _)
   | (with_reducible refine LeO.ite ?_ ?_)
   | (with_reducible refine LeO.bind ?_ (fun _ => ?_))
   | exact ih0 _ _ _ _
   | exact ih1 _ _ _ _ _ _ _
   | exact ih2 _ _ _ _ _ _ _ _ _ _ _
   | exact decode_Escape.mono _ _ _
   | exact redpenlaw11_Bits.mono _ _ _ _
   | exact redpenlaw15_Awake.mono _
   | exact redpenref15_Entity.mono _ _
   | exact redpenref15_Escape.mono _ _ _
   | exact LeO.none _
   | refine LeO.ite ?_ ?_
   | refine LeO.bind ?_ (fun _ => ?_)
def redpenlaw15_DecodeOnes.T9 : Bool × List (List Nat × List Nat) := (true, [([], []), ([], []), ([0, 1], [0, 1]), ([], []), ([3], [3]), ([], []), ([], []), ([5, 6], [5, 6]), ([4, 7], [4, 7]), ([], []), ([9], [9]), ([], []), ([], []), ([11, 12], [11, 12]), ([10, 13, 8], [10, 13]), ([2, 8, 14], [2, 8, 14]), ([15], [15]), ([], [])])
def redpenlaw15_DecodeOnes.B9 : List Nat := [0, 0, 3, 0, 8, 0, 0, 96, 248, 0, 512, 0, 0, 6144, 16376, 32767, 65535, 0]
theorem redpenlaw15_DecodeOnes.tab9 : rtab .any (opsOf Tryd.f3 9) = redpenlaw15_DecodeOnes.T9 := by kernel_rfl
theorem redpenlaw15_DecodeOnes.bits9 : waitsOk redpenlaw15_DecodeOnes.T9.2 redpenlaw15_DecodeOnes.B9 = true := by kernel_rfl
set_option maxHeartbeats 8000000 in
set_option maxRecDepth 100000 in
theorem redpenlaw15_DecodeOnes.calls (k : Nat) (a0 : Int) (A1 : Option Addr) (c1 : Nat) (l1 : List Int) (A2 : Option Addr) (c2 : Nat) (l2 : List Int) (r : Bool) (w : World) (hr1 : Kd.C (Kd.int .u8) w A1 l1.length l1) (hc1 : l1.length ≤ c1) (hr2 : Kd.C (Kd.int .u8) w A2 l2.length l2) (hc2 : l2.length ≤ c2) (h : redpenlaw15_DecodeOnes.f k a0 l1 l2 = some r) (hr_ : r = true) (hL : Go.Proofs.YtekalnhackjldaaDoor.H.Laid w) :
  Calls Tryd.prog 3 #[.int .u8 a0, .slice A1 l1.length c1, .slice A2 l2.length c2] w fun e w' => e = .returned (.bool r) ∧ Below w.heap.size w w' := by
 have HL := Aside0.mk hL
 clear hL
 have HR1 := Aside0.mk hr1
 have HC1 := Aside0.mk hc1
 clear hr1 hc1
 have HR2 := Aside0.mk hr2
 have HC2 := Aside0.mk hc2
 clear hr2 hc2
 have HB := Aside0.mk (Below.refl w.heap.size w)
 have H : ((redpenlaw15_Awake.f k).bind fun t196 => (if t196 = true then (if (l1.length : Int) > 200 then (some true) else ((redpenlaw15_pieces.f).bind fun t197 => ((redpenlaw11_Bits.f k t197 l2 l1).bind fun t200 => (redpenlaw15_DecodeOnes.l0 k a0 t200 (mn (t200.length : Int) 60) 0)))) else (some false))) = some r := h
 clear h
 replace H := Option.bind_eq_some_iff.mp H
 obtain ⟨t196, A40, H⟩ := H
 replace H : (if t196 = true then (if (l1.length : Int) > 200 then (some true) else ((redpenlaw15_pieces.f).bind fun t197 => ((redpenlaw11_Bits.f k t197 l2 l1).bind fun t200 => (redpenlaw15_DecodeOnes.l0 k a0 t200 (mn (t200.length : Int) 60) 0)))) else (some false)) = some r := H
 have A4 := Aside0.mk A40
 clear A40
 by_cases c5 : t196 = true
 ·subst c5
  have H1 : (if (l1.length : Int) > 200 then (some true) else ((redpenlaw15_pieces.f).bind fun t197 => ((redpenlaw11_Bits.f k t197 l2 l1).bind fun t200 => (redpenlaw15_DecodeOnes.l0 k a0 t200 (mn (t200.length : Int) 60) 0)))) = some r := by rw [if_pos rfl] at H; exact H
  clear H
  have H := H1
  clear H1
  by_cases c6 : (l1.length : Int) > 200
  ·rw [if_pos c6] at H
   have c6b0 : decide (200 < (l1.length : Int)) = true := decide_eq_true c6
   have c6b1 : decide (200 < l1.length) = true := decide_eq_true (by omega)
   clear c6
   obtain rfl := Option.some.inj H
   go_enter Tryd.func3, Tryd.ntmps3
   go_wp2_with (first | ((with_reducible refine gate_callee (f := 9) rfl ?_); refine goesL_ (some 19) rfl rfl Tryd.func9 (by kernel_rfl) rfl #[] rfl (by (try simp only [List.map_toArray, List.map_cons, List.map_nil]); first | done | rfl | (simp only [List.length_drop, List.length_take]; rfl)) ?_; (with_reducible refine (redpenlaw15_Awake.calls k  true _ A4.out ?sideL).mono ?_); (case sideL => first | exact HL.out | exact HL.out.below HB.out | exact HL.out.below (by repeat (first | (with_reducible first | exact HB.out | apply below_alloc | apply pw_below_drewN | apply below_drew1 | refine below_set ?_ (Aside0.out (by assumption))) | exact HB.out))); rintro e w7 ⟨rfl, hb⟩; refine ⟨_, rfl, ?_⟩; have n0_ := Aside0.mk (below_step (by repeat (first | (with_reducible first | exact HB.out | apply below_alloc | apply pw_below_drewN | apply below_drew1) | exact HB.out)) hb); clear HB; have HB := n0_; clear n0_; (try clear hb); (try clear hb2); (try clear hk); (try clear hi)))
   go_ret
   exact ⟨by first | rfl | (simp [errW_none, errW_some] <;> rfl) | (simp [*, errW_none, errW_some] <;> rfl), by repeat (first | (with_reducible first | exact HB.out | apply below_alloc | apply pw_below_drewN | apply below_drew1) | exact HB.out)⟩
  ·rw [if_neg c6] at H
   have c6b0 : decide (200 < (l1.length : Int)) = false := decide_eq_false c6
   have c6b1 : decide (200 < l1.length) = false := decide_eq_false (by omega)
   clear c6
   replace H := Option.bind_eq_some_iff.mp H
   obtain ⟨t197, A80, H⟩ := H
   replace H : ((redpenlaw11_Bits.f k t197 l2 l1).bind fun t200 => (redpenlaw15_DecodeOnes.l0 k a0 t200 (mn (t200.length : Int) 60) 0)) = some r := H
   have A8 := Aside0.mk A80
   clear A80
   replace H := Option.bind_eq_some_iff.mp H
   obtain ⟨t200, A90, H⟩ := H
   replace H : (redpenlaw15_DecodeOnes.l0 k a0 t200 (mn (t200.length : Int) 60) 0) = some r := H
   have A9 := Aside0.mk A90
   clear A90
   obtain ⟨ji10, hji10⟩ : ∃ j_ : Int, (mn (t200.length : Int) 60) = j_ := ⟨_, rfl⟩
   replace H : (redpenlaw15_DecodeOnes.l0 k a0 t200 ji10 0) = some r := by first | (rw [hji10] at H; exact H) | (simp only [hji10] at H ⊢; exact H)
   (try rw [hji10] at A4)
   (try rw [hji10] at A8)
   (try rw [hji10] at A9)
   (try (have hji10h : ji10 ≤ 60 := by (rw [← hji10]; unfold mn; (repeat' split) <;> omega)))
   (try (have hji10g : ji10 ≤ 64 := by omega))
   (try (have hji10l : 0 ≤ ji10 := by (rw [← hji10]; unfold mn; (repeat' split) <;> omega)))
   (try (have hji10m : 0 ≤ ji10 := by omega))
   have hji10_ : (if 60 < (t200.length : Int) then 60 else (t200.length : Int)) = ji10 := hji10
   have H' := Aside0.mk H
   clear H
   go_enter Tryd.func3, Tryd.ntmps3
   go_wp2_with (first | ((with_reducible refine gate_callee (f := 9) rfl ?_); refine goesL_ (some 19) rfl rfl Tryd.func9 (by kernel_rfl) rfl #[] rfl (by (try simp only [List.map_toArray, List.map_cons, List.map_nil]); first | done | rfl | (simp only [List.length_drop, List.length_take]; rfl)) ?_; (with_reducible refine (redpenlaw15_Awake.calls k  true _ A4.out ?sideL).mono ?_); (case sideL => first | exact HL.out | exact HL.out.below HB.out | exact HL.out.below (by repeat (first | (with_reducible first | exact HB.out | apply below_alloc | apply pw_below_drewN | apply below_drew1 | refine below_set ?_ (Aside0.out (by assumption))) | exact HB.out))); rintro e w11 ⟨rfl, hb⟩; refine ⟨_, rfl, ?_⟩; have n0_ := Aside0.mk (below_step (by repeat (first | (with_reducible first | exact HB.out | apply below_alloc | apply pw_below_drewN | apply below_drew1) | exact HB.out)) hb); clear HB; have HB := n0_; clear n0_; (try clear hb); (try clear hb2); (try clear hk); (try clear hi)) | ((with_reducible refine gate_callee (f := 11) rfl ?_); refine goesL_ (some 24) rfl rfl Tryd.func11 (by kernel_rfl) rfl #[] rfl (by (try simp only [List.map_toArray, List.map_cons, List.map_nil]); first | done | rfl | (simp only [List.length_drop, List.length_take]; rfl)) ?_; (with_reducible refine (redpenlaw15_pieces.calls  t197 _ A8.out).mono ?_); rintro e w12 ⟨v198, rfl, ho0, hb⟩; refine ⟨_, rfl, ?_⟩; have n0_ := Aside0.mk (Kd.R_lower ho0 (below_size (by repeat (first | (with_reducible first | exact HB.out | apply below_alloc | apply pw_below_drewN | apply below_drew1) | exact HB.out)))); have n1_ := Aside0.mk (below_step (by repeat (first | (with_reducible first | exact HB.out | apply below_alloc | apply pw_below_drewN | apply below_drew1) | exact HB.out)) hb); clear HB; have HO199 := n0_; have HB := n1_; clear n0_ n1_; (try clear hb); (try clear hb2); (try clear hk); (try clear hi); (try clear ho0); obtain ⟨Ao13, co13, eo13⟩ := Kd.R_slice HO199.out; subst eo13) | ((with_reducible refine gate_callee (f := 10) rfl ?_); refine goesL_ (some 27) rfl rfl Tryd.func10 (by kernel_rfl) rfl #[.slice Ao13 t197.length co13, .slice A2 l2.length c2, .slice A1 l1.length c1] rfl (by (try simp only [List.map_toArray, List.map_cons, List.map_nil]); first | done | rfl | (simp only [List.length_drop, List.length_take]; rfl)) ?_; (with_reducible refine (redpenlaw11_Bits.calls k _ _ t197 _ _ l2 _ _ l1 t200 _ ?side1 ?side2 ?side3 ?side4 ?side5 ?side6 A9.out).mono ?_); (case side1 => repeat (first | exact (Kd.R_reads' HO199.out).2.2 | (with_reducible refine Kd.C_alloc ?_ _) | (with_reducible refine Kd.C_drewN ?_ _) | (with_reducible refine Kd.C_drew ?_))); (case side2 => exact (Kd.R_reads' HO199.out).2.1); (case side3 => repeat (first | exact (Kd.C_below HR2.out HB.out) | (with_reducible refine Kd.C_alloc ?_ _) | (with_reducible refine Kd.C_drewN ?_ _) | (with_reducible refine Kd.C_drew ?_))); (case side4 => exact HC2.out); (case side5 => repeat (first | exact (Kd.C_below HR1.out HB.out) | (with_reducible refine Kd.C_alloc ?_ _) | (with_reducible refine Kd.C_drewN ?_ _) | (with_reducible refine Kd.C_drew ?_))); (case side6 => exact HC1.out); rintro e w14 ⟨v201, rfl, ho0, hb⟩; refine ⟨_, rfl, ?_⟩; have n0_ := Aside0.mk (Kd.R_below (by (with_reducible repeat (first | apply Kd.R_alloc | apply Kd.R_drewN | apply Kd.R_drew)); exact HO199.out) hb); have n1_ := Aside0.mk (Kd.R_lower ho0 (below_size (by repeat (first | (with_reducible first | exact HB.out | apply below_alloc | apply pw_below_drewN | apply below_drew1) | exact HB.out)))); have n2_ := Aside0.mk (below_step (by repeat (first | (with_reducible first | exact HB.out | apply below_alloc | apply pw_below_drewN | apply below_drew1) | exact HB.out)) hb); clear HO199; clear HB; have HO199 := n0_; have HO202 := n1_; have HB := n2_; clear n0_ n1_ n2_; (try clear hb); (try clear hb2); (try clear hk); (try clear hi); (try clear ho0); obtain ⟨Ao15, co15, eo15⟩ := Kd.R_slice HO202.out; subst eo15))
   go_loopg [31] k (fun kq v31 w' => ∃ (x31_1 : Int), v31 = .int .i64 x31_1 ∧ Aside0 (redpenlaw15_DecodeOnes.l0 kq a0 t200 ji10 x31_1 = some r) ∧ Aside0 (kq ≤ k) ∧ Aside0 (Kd.R (Kd.int .u8) 5 w' w.heap.size (fun _ => True) (.slice Ao15 t200.length co15) t200) ∧ Aside0 (Below w.heap.size w w'))
   case atStart => exact ⟨(0), (by first | rfl | (simp; done) | (simp [*]; done) | (simp [wrap64, wrap32]; done)), H', ⟨Nat.le_refl _⟩, ⟨by (with_reducible repeat (first | apply Kd.R_alloc | apply Kd.R_drewN | apply Kd.R_drew)); exact HO202.out⟩, ⟨by repeat (first | (with_reducible first | exact HB.out | apply below_alloc | apply pw_below_drewN | apply below_drew1) | exact HB.out)⟩⟩
   case round =>
    clear H'
    try clear c1
    try clear c2
    try clear p2
    try clear c3
    try clear c5
    try clear c6
    try clear c6b0
    try clear c6b1
    try clear c9
    try clear c10
    try clear c11
    obtain ⟨x31_1, rfl, HA, HK1, HO_7, HB⟩ := hrel
    cases gk with
    | zero => exact absurd HA.out (by simp [redpenlaw15_DecodeOnes.l0])
    | succ k1 =>
     have H := HA.out
     clear HA
     simp only [redpenlaw15_DecodeOnes.l0] at H
     by_cases c16 : x31_1 < ji10
     ·rw [if_pos c16] at H
      have c16b0 : decide (x31_1 < ji10) = true := decide_eq_true c16
      clear c16
      by_cases c17 : 0 ≤ x31_1
      ·rw [if_pos c17] at H
       have c17b0 := eq_true c17
       have c17b1 : decide (0 ≤ x31_1) = true := decide_eq_true c17
       clear c17
       by_cases c18 : x31_1 ≤ (t200.length : Int)
       ·rw [if_pos c18] at H
        have c18b0 := eq_true c18
        have c18b1 : decide (x31_1 ≤ (t200.length : Int)) = true := decide_eq_true c18
        clear c18
        obtain ⟨y203, hy203⟩ : ∃ y_ : List Int, y_ = (t200.drop (x31_1 : Int).toNat) := ⟨_, rfl⟩
        replace H : ((some (([38] : List Int) : List Int)).bind fun y208 => ((some (t200.drop (x31_1 : Int).toNat : List Int)).bind fun y211 => (if y208.length + y211.length < 140737488355328 then ((some (([92] : List Int) : List Int)).bind fun y219 => ((some (t200.drop (x31_1 : Int).toNat : List Int)).bind fun y222 => (if y219.length + y222.length < 140737488355328 then ((some (([y203, (y208 ++ y211), (y219 ++ y222)] : List (List Int)) : List (List Int))).bind fun y230 => (redpenlaw15_DecodeOnes.l1 k1 a0 t200 ji10 x31_1 y230 (y230.length : Int) 0)) else (none)))) else (none)))) = some r := by first | (rw [hy203]; with_reducible exact H) | (have H2_ := (Option.bind_some _ _).symm.trans H; rw [hy203]; with_reducible exact H2_) | (have H2_ := (Option.bind_some _ _).symm.trans H; with_reducible exact H2_) | with_reducible exact H | (rw [hy203]; exact H) | exact H
        have Ny203 := Aside0.mk hy203
        clear hy203
        obtain ⟨y208, hy208⟩ : ∃ y_ : List Int, y_ = (([38] : List Int)) := ⟨_, rfl⟩
        replace H : ((some (t200.drop (x31_1 : Int).toNat : List Int)).bind fun y211 => (if y208.length + y211.length < 140737488355328 then ((some (([92] : List Int) : List Int)).bind fun y219 => ((some (t200.drop (x31_1 : Int).toNat : List Int)).bind fun y222 => (if y219.length + y222.length < 140737488355328 then ((some (([y203, (y208 ++ y211), (y219 ++ y222)] : List (List Int)) : List (List Int))).bind fun y230 => (redpenlaw15_DecodeOnes.l1 k1 a0 t200 ji10 x31_1 y230 (y230.length : Int) 0)) else (none)))) else (none))) = some r := by first | (rw [hy208]; with_reducible exact H) | (have H2_ := (Option.bind_some _ _).symm.trans H; rw [hy208]; with_reducible exact H2_) | (have H2_ := (Option.bind_some _ _).symm.trans H; with_reducible exact H2_) | with_reducible exact H | (rw [hy208]; exact H) | exact H
        have Ny208 := Aside0.mk hy208
        clear hy208
        have c19b0 := eq_true (of_decide_eq_true (by first | (with_reducible assumption) | assumption) : 0 ≤ x31_1)
        have c20b0 := eq_true (of_decide_eq_true (by first | (with_reducible assumption) | assumption) : x31_1 ≤ (t200.length : Int))
        obtain ⟨y211, hy211⟩ : ∃ y_ : List Int, y_ = (t200.drop (x31_1 : Int).toNat) := ⟨_, rfl⟩
        replace H : (if y208.length + y211.length < 140737488355328 then ((some (([92] : List Int) : List Int)).bind fun y219 => ((some (t200.drop (x31_1 : Int).toNat : List Int)).bind fun y222 => (if y219.length + y222.length < 140737488355328 then ((some (([y203, (y208 ++ y211), (y219 ++ y222)] : List (List Int)) : List (List Int))).bind fun y230 => (redpenlaw15_DecodeOnes.l1 k1 a0 t200 ji10 x31_1 y230 (y230.length : Int) 0)) else (none)))) else (none)) = some r := by first | (rw [hy211]; with_reducible exact H) | (have H2_ := (Option.bind_some _ _).symm.trans H; rw [hy211]; with_reducible exact H2_) | (have H2_ := (Option.bind_some _ _).symm.trans H; with_reducible exact H2_) | with_reducible exact H | (rw [hy211]; exact H) | exact H
        have Ny211 := Aside0.mk hy211
        clear hy211
        by_cases c21 : y208.length + y211.length < 140737488355328
        ·rw [if_pos c21] at H
         have LMc21 := Aside0.mk c21
         clear c21
         obtain ⟨y216, hy216⟩ : ∃ y_ : List Int, y_ = (y208 ++ y211) := ⟨_, rfl⟩
         replace H : ((some (([92] : List Int) : List Int)).bind fun y219 => ((some (t200.drop (x31_1 : Int).toNat : List Int)).bind fun y222 => (if y219.length + y222.length < 140737488355328 then ((some (([y203, y216, (y219 ++ y222)] : List (List Int)) : List (List Int))).bind fun y230 => (redpenlaw15_DecodeOnes.l1 k1 a0 t200 ji10 x31_1 y230 (y230.length : Int) 0)) else (none)))) = some r := by first | (rw [hy216]; with_reducible exact H) | (have H2_ := (Option.bind_some _ _).symm.trans H; rw [hy216]; with_reducible exact H2_) | (have H2_ := (Option.bind_some _ _).symm.trans H; with_reducible exact H2_) | with_reducible exact H | (rw [hy216]; exact H) | exact H
         have Ny216 := Aside0.mk hy216
         clear hy216
         obtain ⟨y219, hy219⟩ : ∃ y_ : List Int, y_ = (([92] : List Int)) := ⟨_, rfl⟩
         replace H : ((some (t200.drop (x31_1 : Int).toNat : List Int)).bind fun y222 => (if y219.length + y222.length < 140737488355328 then ((some (([y203, y216, (y219 ++ y222)] : List (List Int)) : List (List Int))).bind fun y230 => (redpenlaw15_DecodeOnes.l1 k1 a0 t200 ji10 x31_1 y230 (y230.length : Int) 0)) else (none))) = some r := by first | (rw [hy219]; with_reducible exact H) | (have H2_ := (Option.bind_some _ _).symm.trans H; rw [hy219]; with_reducible exact H2_) | (have H2_ := (Option.bind_some _ _).symm.trans H; with_reducible exact H2_) | with_reducible exact H | (rw [hy219]; exact H) | exact H
         have Ny219 := Aside0.mk hy219
         clear hy219
         have c22b0 := eq_true (of_decide_eq_true (by first | (with_reducible assumption) | assumption) : 0 ≤ x31_1)
         have c23b0 := eq_true (of_decide_eq_true (by first | (with_reducible assumption) | assumption) : x31_1 ≤ (t200.length : Int))
         obtain ⟨y222, hy222⟩ : ∃ y_ : List Int, y_ = (t200.drop (x31_1 : Int).toNat) := ⟨_, rfl⟩
         replace H : (if y219.length + y222.length < 140737488355328 then ((some (([y203, y216, (y219 ++ y222)] : List (List Int)) : List (List Int))).bind fun y230 => (redpenlaw15_DecodeOnes.l1 k1 a0 t200 ji10 x31_1 y230 (y230.length : Int) 0)) else (none)) = some r := by first | (rw [hy222]; with_reducible exact H) | (have H2_ := (Option.bind_some _ _).symm.trans H; rw [hy222]; with_reducible exact H2_) | (have H2_ := (Option.bind_some _ _).symm.trans H; with_reducible exact H2_) | with_reducible exact H | (rw [hy222]; exact H) | exact H
         have Ny222 := Aside0.mk hy222
         clear hy222
         by_cases c24 : y219.length + y222.length < 140737488355328
         ·rw [if_pos c24] at H
          have LMc24 := Aside0.mk c24
          clear c24
          obtain ⟨y227, hy227⟩ : ∃ y_ : List Int, y_ = (y219 ++ y222) := ⟨_, rfl⟩
          replace H : ((some (([y203, y216, y227] : List (List Int)) : List (List Int))).bind fun y230 => (redpenlaw15_DecodeOnes.l1 k1 a0 t200 ji10 x31_1 y230 (y230.length : Int) 0)) = some r := by first | (rw [hy227]; with_reducible exact H) | (have H2_ := (Option.bind_some _ _).symm.trans H; rw [hy227]; with_reducible exact H2_) | (have H2_ := (Option.bind_some _ _).symm.trans H; with_reducible exact H2_) | with_reducible exact H | (rw [hy227]; exact H) | exact H
          have Ny227 := Aside0.mk hy227
          clear hy227
          obtain ⟨y230, hy230⟩ : ∃ y_ : List (List Int), y_ = (([y203, y216, y227] : List (List Int))) := ⟨_, rfl⟩
          replace H : (redpenlaw15_DecodeOnes.l1 k1 a0 t200 ji10 x31_1 y230 (y230.length : Int) 0) = some r := by first | (rw [hy230]; with_reducible exact H) | (have H2_ := (Option.bind_some _ _).symm.trans H; rw [hy230]; with_reducible exact H2_) | (have H2_ := (Option.bind_some _ _).symm.trans H; with_reducible exact H2_) | with_reducible exact H | (rw [hy230]; exact H) | exact H
          have Ny230 := Aside0.mk hy230
          clear hy230
          have H' := Aside0.mk H
          clear H
          try go_wp2
          have n0_ := Aside0.mk (Kd.R_drew HO_7.out)
          have n1_ := Aside0.mk (below_drew1 HB.out)
          clear HO_7
          clear HB
          have HO_7 := n0_
          have HB := n1_
          clear n0_ n1_
          have q26 : (x31_1 : Int) ≤ ((t200.length : Int) : Int) := of_decide_eq_true (by first | (with_reducible assumption) | assumption)
          obtain ⟨i026, hi026, _, hsz26, _⟩ := info_parts info5
          have hroom26 : t200.length ≤ co15 := (Kd.R_reads' HO_7.out).2.1
          have hC26 : Kd.F (Kd.int .u8) _ _ Ao15 t200.length t200 := (Kd.V_at (base := w.heap.size) (Kd.R_V HO_7.out)).2.2
          have q026 : (0 : Int) ≤ (x31_1 : Int) := of_decide_eq_true (by first | (with_reducible assumption) | assumption)
          have hcut26 := cut_from (P := Tryd.prog) 22 5 .i64 Tryd.underlying22 hi026 1 hsz26 Ao15 t200.length co15 x31_1 q026 q26
          have hr26 := Kd.F_cut (m := (x31_1 : Int).toNat) (c := co15) hC26 (by omega) hroom26
          obtain ⟨A26, hA26⟩ : ∃ A1z_, A1z_ = (if co15 = (x31_1 : Int).toNat then Ao15 else (Ao15 : Option Addr).map (·.add ((x31_1 : Int).toNat * 1))) := ⟨_, rfl⟩
          obtain ⟨c26, hc26⟩ : ∃ c1z_, c1z_ = co15 - (x31_1 : Int).toNat := ⟨_, rfl⟩
          have hy26 : y203.length = t200.length - (x31_1 : Int).toNat := (by rw [Ny203.out, List.length_drop] <;> omega)
          rw [show (t200).drop (x31_1 : Int).toNat = y203 from Ny203.out.symm] at hr26
          replace hr26 : Kd.F (Kd.int .u8) _ _ A26 y203.length y203 := (by rw [hA26]; exact hr26)
          rw [← hy26, ← hA26, ← hc26] at hcut26
          have HO207 := Aside0.mk (show Kd.V (Kd.int .u8) 5 _ w.heap.size _ (.slice A26 y203.length c26) y203 from Kd.V_mk (by rw [hy26, hc26]; exact Nat.sub_le_sub_right hroom26 _) hr26)
          have HC207 := Aside0.mk (show y203.length ≤ c26 from by rw [hy26, hc26]; exact Nat.sub_le_sub_right hroom26 _)
          clear hr26 hC26 hroom26 hi026 hsz26 hc26
          have KY26 := Aside0.mk hy26
          have KA26 := Aside0.mk hA26
          clear hy26 hA26
          replace q26 := eq_true q26
          have q27 : (x31_1 : Int) ≤ ((t200.length : Int) : Int) := of_decide_eq_true (by first | (with_reducible assumption) | assumption)
          obtain ⟨i027, hi027, _, hsz27, _⟩ := info_parts info5
          have hroom27 : t200.length ≤ co15 := (Kd.R_reads' HO_7.out).2.1
          have hC27 : Kd.F (Kd.int .u8) _ _ Ao15 t200.length t200 := (Kd.V_at (base := w.heap.size) (Kd.R_V HO_7.out)).2.2
          have q027 : (0 : Int) ≤ (x31_1 : Int) := of_decide_eq_true (by first | (with_reducible assumption) | assumption)
          have hcut27 := cut_from (P := Tryd.prog) 22 5 .i64 Tryd.underlying22 hi027 1 hsz27 Ao15 t200.length co15 x31_1 q027 q27
          have hr27 := Kd.F_cut (m := (x31_1 : Int).toNat) (c := co15) hC27 (by omega) hroom27
          obtain ⟨A27, hA27⟩ : ∃ A1z_, A1z_ = (if co15 = (x31_1 : Int).toNat then Ao15 else (Ao15 : Option Addr).map (·.add ((x31_1 : Int).toNat * 1))) := ⟨_, rfl⟩
          obtain ⟨c27, hc27⟩ : ∃ c1z_, c1z_ = co15 - (x31_1 : Int).toNat := ⟨_, rfl⟩
          have hy27 : y211.length = t200.length - (x31_1 : Int).toNat := (by rw [Ny211.out, List.length_drop] <;> omega)
          rw [show (t200).drop (x31_1 : Int).toNat = y211 from Ny211.out.symm] at hr27
          replace hr27 : Kd.F (Kd.int .u8) _ _ A27 y211.length y211 := (by rw [hA27]; exact hr27)
          rw [← hy27, ← hA27, ← hc27] at hcut27
          have HO215 := Aside0.mk (show Kd.V (Kd.int .u8) 5 _ w.heap.size _ (.slice A27 y211.length c27) y211 from Kd.V_mk (by rw [hy27, hc27]; exact Nat.sub_le_sub_right hroom27 _) hr27)
          have HC215 := Aside0.mk (show y211.length ≤ c27 from by rw [hy27, hc27]; exact Nat.sub_le_sub_right hroom27 _)
          clear hr27 hC27 hroom27 hi027 hsz27 hc27
          have KY27 := Aside0.mk hy27
          have KA27 := Aside0.mk hA27
          clear hy27 hA27
          replace q27 := eq_true q27
          have q28 : (x31_1 : Int) ≤ ((t200.length : Int) : Int) := of_decide_eq_true (by first | (with_reducible assumption) | assumption)
          obtain ⟨i028, hi028, _, hsz28, _⟩ := info_parts info5
          have hroom28 : t200.length ≤ co15 := (Kd.R_reads' HO_7.out).2.1
          have hC28 : Kd.F (Kd.int .u8) _ _ Ao15 t200.length t200 := (Kd.V_at (base := w.heap.size) (Kd.R_V HO_7.out)).2.2
          have q028 : (0 : Int) ≤ (x31_1 : Int) := of_decide_eq_true (by first | (with_reducible assumption) | assumption)
          have hcut28 := cut_from (P := Tryd.prog) 22 5 .i64 Tryd.underlying22 hi028 1 hsz28 Ao15 t200.length co15 x31_1 q028 q28
          have hr28 := Kd.F_cut (m := (x31_1 : Int).toNat) (c := co15) hC28 (by omega) hroom28
          obtain ⟨A28, hA28⟩ : ∃ A1z_, A1z_ = (if co15 = (x31_1 : Int).toNat then Ao15 else (Ao15 : Option Addr).map (·.add ((x31_1 : Int).toNat * 1))) := ⟨_, rfl⟩
          obtain ⟨c28, hc28⟩ : ∃ c1z_, c1z_ = co15 - (x31_1 : Int).toNat := ⟨_, rfl⟩
          have hy28 : y222.length = t200.length - (x31_1 : Int).toNat := (by rw [Ny222.out, List.length_drop] <;> omega)
          rw [show (t200).drop (x31_1 : Int).toNat = y222 from Ny222.out.symm] at hr28
          replace hr28 : Kd.F (Kd.int .u8) _ _ A28 y222.length y222 := (by rw [hA28]; exact hr28)
          rw [← hy28, ← hA28, ← hc28] at hcut28
          have HO226 := Aside0.mk (show Kd.V (Kd.int .u8) 5 _ w.heap.size _ (.slice A28 y222.length c28) y222 from Kd.V_mk (by rw [hy28, hc28]; exact Nat.sub_le_sub_right hroom28 _) hr28)
          have HC226 := Aside0.mk (show y222.length ≤ c28 from by rw [hy28, hc28]; exact Nat.sub_le_sub_right hroom28 _)
          clear hr28 hC28 hroom28 hi028 hsz28 hc28
          have KY28 := Aside0.mk hy28
          have KA28 := Aside0.mk hA28
          clear hy28 hA28
          replace q28 := eq_true q28
          refine start_ (n := 18) (S := fun w' => True) (ds := []) #[false, false, false, false, false, false, false, false, false, false, false, false, false, false, false, false, false, false] (by kernel_rfl) rfl rfl trivial (fun hHeld => ?_); refine with_tabW redpenlaw15_DecodeOnes.tab9 redpenlaw15_DecodeOnes.bits9 (fun HT_ HW_ => ?_)
          generalize wr.drew = w25 at HO_7 HB HO207 HO215 HO226 hHeld ⊢
          refine pure_ (i := 0) (N := some 34) (v := ?_) (a' := ?_) #[true, false, false, false, false, false, false, false, false, false, false, false, false, false, false, false, false, false] rfl rfl (any_of HT_.out (by kernel_rfl)) (fun _ _ _ h => h) (Or.inl ⟨by rfl, ?_⟩) ?_ ?_
          rotate_left
          ·intro w'
           go_simp
           with_reducible rfl
          rotate_left
          ·simp only [Act.put, List.setIfInBounds_toArray, List.set_cons_zero, List.set_cons_succ, i64_w, i32_w]
           rfl
          refine pure_ (i := 1) (N := some 35) (v := ?_) (a' := ?_) #[true, true, false, false, false, false, false, false, false, false, false, false, false, false, false, false, false, false] rfl rfl (any_of HT_.out (by kernel_rfl)) (fun _ _ _ h => h) (Or.inl ⟨by rfl, ?_⟩) ?_ ?_
          rotate_left
          ·intro w'
           go_simp
           with_reducible rfl
          rotate_left
          ·simp only [Act.put, List.setIfInBounds_toArray, List.set_cons_zero, List.set_cons_succ, i64_w, i32_w]
           rfl
          refine pure_ (i := 2) (N := some 36) (v := ?_) (a' := ?_) #[true, true, true, false, false, false, false, false, false, false, false, false, false, false, false, false, false, false] rfl rfl (any_of HT_.out (by kernel_rfl)) (fun _ _ _ h => h) (Or.inl ⟨by rfl, ?_⟩) ?_ ?_
          rotate_left
          ·intro w'
           go_simp
           with_reducible rfl
          rotate_left
          ·simp only [Act.put, List.setIfInBounds_toArray, List.set_cons_zero, List.set_cons_succ, i64_w, i32_w]
           rfl
          refine pure_ (i := 5) (N := some 39) (v := ?_) (a' := ?_) #[true, true, true, false, false, true, false, false, false, false, false, false, false, false, false, false, false, false] rfl rfl (any_of HT_.out (by kernel_rfl)) (fun _ _ _ h => h) (Or.inl ⟨by rfl, ?_⟩) ?_ ?_
          rotate_left
          ·intro w'
           go_simp
           with_reducible rfl
          rotate_left
          ·simp only [Act.put, List.setIfInBounds_toArray, List.set_cons_zero, List.set_cons_succ, i64_w, i32_w]
           rfl
          refine pure_ (i := 6) (N := some 40) (v := ?_) (a' := ?_) #[true, true, true, false, false, true, true, false, false, false, false, false, false, false, false, false, false, false] rfl rfl (any_of HT_.out (by kernel_rfl)) (fun _ _ _ h => h) (Or.inl ⟨by rfl, ?_⟩) ?_ ?_
          rotate_left
          ·intro w'
           go_simp
           with_reducible rfl
          rotate_left
          ·simp only [Act.put, List.setIfInBounds_toArray, List.set_cons_zero, List.set_cons_succ, i64_w, i32_w]
           rfl
          refine pure_ (i := 7) (N := some 41) (v := ?_) (a' := ?_) #[true, true, true, false, false, true, true, true, false, false, false, false, false, false, false, false, false, false] rfl rfl (any_of HT_.out (by kernel_rfl)) (fun _ _ _ h => h) (Or.inl ⟨by rfl, ?_⟩) ?_ ?_
          rotate_left
          ·intro w'
           go_simp
           with_reducible rfl
          rotate_left
          ·simp only [Act.put, List.setIfInBounds_toArray, List.set_cons_zero, List.set_cons_succ, i64_w, i32_w]
           rfl
          refine pure_ (i := 11) (N := some 45) (v := ?_) (a' := ?_) #[true, true, true, false, false, true, true, true, false, false, false, true, false, false, false, false, false, false] rfl rfl (any_of HT_.out (by kernel_rfl)) (fun _ _ _ h => h) (Or.inl ⟨by rfl, ?_⟩) ?_ ?_
          rotate_left
          ·intro w'
           go_simp
           with_reducible rfl
          rotate_left
          ·simp only [Act.put, List.setIfInBounds_toArray, List.set_cons_zero, List.set_cons_succ, i64_w, i32_w]
           rfl
          refine pure_ (i := 12) (N := some 46) (v := ?_) (a' := ?_) #[true, true, true, false, false, true, true, true, false, false, false, true, true, false, false, false, false, false] rfl rfl (any_of HT_.out (by kernel_rfl)) (fun _ _ _ h => h) (Or.inl ⟨by rfl, ?_⟩) ?_ ?_
          rotate_left
          ·intro w'
           go_simp
           with_reducible rfl
          rotate_left
          ·simp only [Act.put, List.setIfInBounds_toArray, List.set_cons_zero, List.set_cons_succ, i64_w, i32_w]
           rfl
          refine pure_ (i := 13) (N := some 47) (v := ?_) (a' := ?_) #[true, true, true, false, false, true, true, true, false, false, false, true, true, true, false, false, false, false] rfl rfl (any_of HT_.out (by kernel_rfl)) (fun _ _ _ h => h) (Or.inl ⟨by rfl, ?_⟩) ?_ ?_
          rotate_left
          ·intro w'
           go_simp
           with_reducible rfl
          rotate_left
          ·simp only [Act.put, List.setIfInBounds_toArray, List.set_cons_zero, List.set_cons_succ, i64_w, i32_w]
           rfl
          refine pure_ (i := 17) (N := some 51) (v := ?_) (a' := ?_) #[true, true, true, false, false, true, true, true, false, false, false, true, true, true, false, false, false, true] rfl rfl (any_of HT_.out (by kernel_rfl)) (fun _ _ _ h => h) (Or.inl ⟨by rfl, ?_⟩) ?_ ?_
          rotate_left
          ·intro w'
           go_simp
           with_reducible rfl
          rotate_left
          ·simp only [Act.put, List.setIfInBounds_toArray, List.set_cons_zero, List.set_cons_succ, i64_w, i32_w]
           rfl
          have YM := Aside0.mk (show 0 < y203.length by have q1_ := of_decide_eq_true c16b0; have q2_ := hji10_; rw [KY26.out]; split at q2_ <;> omega)
          have YL := Aside0.mk (show 1 + y203.length ≤ 140737488355328 by have q_ := LMc21.out; rw [Ny208.out, Ny211.out, ← Ny203.out, List.length_singleton] at q_; omega)
          refine join_ (σ := Value × Value × Value × Value) 2 #[true, true, true, true, true, true, true, true, true, true, true, true, true, true, true, false, false, true] (fun s_ => [(37, s_.1), (38, s_.1), (42, s_.2.2.1), (43, s_.2.1), (44, s_.2.1), (48, s_.2.2.2)]) (fun s_ w' => (Kd.V (Kd.int .u8) 5 w' w.heap.size (fun k_ => some k_ ≠ (s_.2.2.1 : Value).ownBlock ∧ some k_ ≠ (s_.2.2.2 : Value).ownBlock) (.slice A26 y203.length c26) y203) ∧ (Kd.V (Kd.int .u8) 5 w' w.heap.size (fun k_ => some k_ ≠ (s_.2.2.1 : Value).ownBlock ∧ some k_ ≠ (s_.2.2.2 : Value).ownBlock) (.slice A27 y211.length c27) y211) ∧ (Kd.V (Kd.int .u8) 5 w' w.heap.size (fun k_ => some k_ ≠ (s_.2.2.1 : Value).ownBlock ∧ some k_ ≠ (s_.2.2.2 : Value).ownBlock) (.slice A28 y222.length c28) y222) ∧ (Kd.R (Kd.int .u8) 5 w' w.heap.size (fun k_ => some k_ ≠ (s_.2.2.1 : Value).ownBlock ∧ some k_ ≠ (s_.2.2.2 : Value).ownBlock) (.slice Ao15 t200.length co15) t200) ∧ (Kd.R (Kd.int .u8) 5 w' w.heap.size (fun k_ => some k_ ≠ (s_.2.2.2 : Value).ownBlock ∧ some k_ ≠ (.slice Ao15 t200.length co15 : Value).ownBlock) s_.2.2.1 y216) ∧ (Kd.R (Kd.int .u8) 5 w' w.heap.size (fun k_ => some k_ ≠ (s_.2.2.1 : Value).ownBlock ∧ some k_ ≠ (.slice Ao15 t200.length co15 : Value).ownBlock) s_.2.2.2 y227) ∧ (Below w.heap.size w w')) ?_ ?_
          rotate_left
          ·intro N33
           refine join_ (σ := Value × Value × Value × Value) 3 #[true, true, true, true, true, true, true, true, true, true, true, true, true, true, false, false, false, true] (fun s_ => [(37, s_.1), (38, s_.1), (42, s_.2.2.1), (43, s_.2.1), (44, s_.2.1)]) (fun s_ w' => (Kd.V (Kd.int .u8) 5 w' w.heap.size (fun k_ => some k_ ≠ (s_.2.2.1 : Value).ownBlock ∧ some k_ ≠ (s_.2.2.2 : Value).ownBlock) (.slice A26 y203.length c26) y203) ∧ (Kd.V (Kd.int .u8) 5 w' w.heap.size (fun k_ => some k_ ≠ (s_.2.2.1 : Value).ownBlock ∧ some k_ ≠ (s_.2.2.2 : Value).ownBlock) (.slice A27 y211.length c27) y211) ∧ (Kd.V (Kd.int .u8) 5 w' w.heap.size (fun k_ => some k_ ≠ (s_.2.2.1 : Value).ownBlock ∧ some k_ ≠ (s_.2.2.2 : Value).ownBlock) (.slice A28 y222.length c28) y222) ∧ (Kd.R (Kd.int .u8) 5 w' w.heap.size (fun k_ => some k_ ≠ (s_.2.2.1 : Value).ownBlock ∧ some k_ ≠ (s_.2.2.2 : Value).ownBlock) (.slice Ao15 t200.length co15) t200) ∧ (Kd.R (Kd.int .u8) 5 w' w.heap.size (fun k_ => some k_ ≠ (s_.2.2.2 : Value).ownBlock ∧ some k_ ≠ (.slice Ao15 t200.length co15 : Value).ownBlock) s_.2.2.1 y216) ∧ ((LitRow 5 w' w.heap.size (fun k_ => some k_ ≠ (s_.2.2.1 : Value).ownBlock ∧ some k_ ≠ (.slice Ao15 t200.length co15 : Value).ownBlock) s_.2.2.2 92 ∧ s_.2.1 = s_.2.2.2)) ∧ (Below w.heap.size w w')) ?_ ?_
           ·rintro ⟨pA, pB, vA, vB⟩ wn ⟨f207, f215, f226, f7, fA, fB, fW⟩
            dsimp only at f207 f215 f226 f7 fA fB fW
            refine norm_ (a' := ?_) ?_ ?_
            rotate_left
            ·simp only [putAll, Act.put, List.setIfInBounds_toArray, List.set_cons_zero, List.set_cons_succ]
             rfl
            refine one_ (i := 14) (N := some 48) #[true, true, true, true, true, true, true, true, true, true, true, true, true, true, true, false, false, true] rfl rfl (one_of HT_.out (by kernel_rfl)) (by decide) (fun K hK => ?_)
            refine append_lit_step w.heap.size (by rfl) (.tmp 44) (.tmp 47) 22 5 rfl Tryd.underlying22 info5 vB 92 y203 _ _ _ _ fB.2 rfl fB.1 (Kd.V_reads' f207).2.2 (fun _ _ h => h) YM.out ?fr fW (below_size fW) YL.out ?_
            (case fr => exact (fun k_ hk => ⟨Kd.fresh' (Kd.R_lt fA) k_ hk, Kd.fresh' (Kd.R_lt f7) k_ hk⟩))
            intro v1 w1 ho hb hg hat
            replace ho := R_cast ho (show [92] ++ y203 = y227 by rw [Ny227.out, Ny219.out, Ny222.out, Ny203.out])
            have g207 := Kd.V_mono (ok' := fun k_ => some k_ ≠ (vA : Value).ownBlock ∧ some k_ ≠ (v1 : Value).ownBlock) (Kd.V_afterv (ok := (fun k_ => some k_ ≠ (vA : Value).ownBlock)) (Kd.V_mono f207 (fun _ hk => ⟨hk.1, hk.2⟩)) hg hat) (fun _ hk => ⟨hk.1, hk.2⟩)
            have g215 := Kd.V_mono (ok' := fun k_ => some k_ ≠ (vA : Value).ownBlock ∧ some k_ ≠ (v1 : Value).ownBlock) (Kd.V_afterv (ok := (fun k_ => some k_ ≠ (vA : Value).ownBlock)) (Kd.V_mono f215 (fun _ hk => ⟨hk.1, hk.2⟩)) hg hat) (fun _ hk => ⟨hk.1, hk.2⟩)
            have g226 := Kd.V_mono (ok' := fun k_ => some k_ ≠ (vA : Value).ownBlock ∧ some k_ ≠ (v1 : Value).ownBlock) (Kd.V_afterv (ok := (fun k_ => some k_ ≠ (vA : Value).ownBlock)) (Kd.V_mono f226 (fun _ hk => ⟨hk.1, hk.2⟩)) hg hat) (fun _ hk => ⟨hk.1, hk.2⟩)
            have g7 := Kd.R_mono (ok' := fun k_ => some k_ ≠ (vA : Value).ownBlock ∧ some k_ ≠ (v1 : Value).ownBlock) (Kd.R_after (ok := (fun k_ => some k_ ≠ (vA : Value).ownBlock)) (Kd.R_mono f7 (fun _ hk => ⟨hk.1, hk.2⟩)) hg hat) (fun _ hk => ⟨hk.1, hk.2⟩)
            have gO := Kd.R_mono (ok' := fun k_ => some k_ ≠ (v1 : Value).ownBlock ∧ some k_ ≠ (.slice Ao15 t200.length co15 : Value).ownBlock) (Kd.R_after (ok := (fun k_ => some k_ ≠ (.slice Ao15 t200.length co15 : Value).ownBlock)) (Kd.R_mono fA (fun _ hk => ⟨hk.2, hk.1⟩)) hg hat) (fun _ hk => ⟨hk.2, hk.1⟩)
            refine hK.out _ _ trivial (fun hHeld => ?_)
            exact norm_ (by show Act.put _ (some 48) _ = _; simp only [putAll, Act.put, List.setIfInBounds_toArray, List.set_cons_zero, List.set_cons_succ]) (N33 (pA, pB, vA, v1) _ ⟨g207, g215, g226, g7, gO, ho, hb⟩)
           intro N32
           refine join_ (σ := Value × Value × Value × Value) 4 #[true, true, true, true, true, true, true, true, true, true, false, true, true, true, false, false, false, true] (fun s_ => [(37, s_.1), (38, s_.1), (42, s_.2.2.1), (43, s_.2.1)]) (fun s_ w' => (Kd.V (Kd.int .u8) 5 w' w.heap.size (fun k_ => some k_ ≠ (s_.2.2.1 : Value).ownBlock ∧ some k_ ≠ (s_.2.2.2 : Value).ownBlock) (.slice A26 y203.length c26) y203) ∧ (Kd.V (Kd.int .u8) 5 w' w.heap.size (fun k_ => some k_ ≠ (s_.2.2.1 : Value).ownBlock ∧ some k_ ≠ (s_.2.2.2 : Value).ownBlock) (.slice A27 y211.length c27) y211) ∧ (Kd.V (Kd.int .u8) 5 w' w.heap.size (fun k_ => some k_ ≠ (s_.2.2.1 : Value).ownBlock ∧ some k_ ≠ (s_.2.2.2 : Value).ownBlock) (.slice A28 y222.length c28) y222) ∧ (Kd.R (Kd.int .u8) 5 w' w.heap.size (fun k_ => some k_ ≠ (s_.2.2.1 : Value).ownBlock ∧ some k_ ≠ (s_.2.2.2 : Value).ownBlock) (.slice Ao15 t200.length co15) t200) ∧ (Kd.R (Kd.int .u8) 5 w' w.heap.size (fun k_ => some k_ ≠ (s_.2.2.2 : Value).ownBlock ∧ some k_ ≠ (.slice Ao15 t200.length co15 : Value).ownBlock) s_.2.2.1 y216) ∧ ((LitRow 5 w' w.heap.size (fun k_ => some k_ ≠ (s_.2.2.1 : Value).ownBlock ∧ some k_ ≠ (.slice Ao15 t200.length co15 : Value).ownBlock) s_.2.2.2 92 ∧ s_.2.1 = s_.2.2.2)) ∧ (Below w.heap.size w w')) ?_ ?_
           ·rintro ⟨pA, pB, vA, vB⟩ wn ⟨f207, f215, f226, f7, fA, fB, fW⟩
            dsimp only at f207 f215 f226 f7 fA fB fW
            refine norm_ (a' := ?_) ?_ ?_
            rotate_left
            ·simp only [putAll, Act.put, List.setIfInBounds_toArray, List.set_cons_zero, List.set_cons_succ]
             rfl
            refine one_ (i := 10) (N := some 44) #[true, true, true, true, true, true, true, true, true, true, true, true, true, true, false, false, false, true] rfl rfl (one_of HT_.out (by kernel_rfl)) (by decide) (fun K hK => ?_)
            refine mark_step w.heap.size (by rfl) (t := 22) (x := .tmp 43) rfl fB.2 fB.1 Tryd.underlying22 Tryd.underlying5 fW (below_size fW) ?_
            intro w1 ho hb hg
            have g207 := Kd.V_mono (ok' := fun k_ => some k_ ≠ (vA : Value).ownBlock ∧ some k_ ≠ (vB : Value).ownBlock) (Kd.V_afterv (ok := (fun k_ => some k_ ≠ (vA : Value).ownBlock)) (Kd.V_mono f207 (fun _ hk => ⟨hk.1, hk.2⟩)) hg (.inl rfl)) (fun _ hk => ⟨hk.1, hk.2⟩)
            have g215 := Kd.V_mono (ok' := fun k_ => some k_ ≠ (vA : Value).ownBlock ∧ some k_ ≠ (vB : Value).ownBlock) (Kd.V_afterv (ok := (fun k_ => some k_ ≠ (vA : Value).ownBlock)) (Kd.V_mono f215 (fun _ hk => ⟨hk.1, hk.2⟩)) hg (.inl rfl)) (fun _ hk => ⟨hk.1, hk.2⟩)
            have g226 := Kd.V_mono (ok' := fun k_ => some k_ ≠ (vA : Value).ownBlock ∧ some k_ ≠ (vB : Value).ownBlock) (Kd.V_afterv (ok := (fun k_ => some k_ ≠ (vA : Value).ownBlock)) (Kd.V_mono f226 (fun _ hk => ⟨hk.1, hk.2⟩)) hg (.inl rfl)) (fun _ hk => ⟨hk.1, hk.2⟩)
            have g7 := Kd.R_mono (ok' := fun k_ => some k_ ≠ (vA : Value).ownBlock ∧ some k_ ≠ (vB : Value).ownBlock) (Kd.R_after (ok := (fun k_ => some k_ ≠ (vA : Value).ownBlock)) (Kd.R_mono f7 (fun _ hk => ⟨hk.1, hk.2⟩)) hg (.inl rfl)) (fun _ hk => ⟨hk.1, hk.2⟩)
            have gO := Kd.R_mono (ok' := fun k_ => some k_ ≠ (vB : Value).ownBlock ∧ some k_ ≠ (.slice Ao15 t200.length co15 : Value).ownBlock) (Kd.R_after (ok := (fun k_ => some k_ ≠ (.slice Ao15 t200.length co15 : Value).ownBlock)) (Kd.R_mono fA (fun _ hk => ⟨hk.2, hk.1⟩)) hg (.inl rfl)) (fun _ hk => ⟨hk.2, hk.1⟩)
            refine hK.out _ _ trivial (fun hHeld => ?_)
            exact norm_ (by show Act.put _ (some 44) _ = _; simp only [putAll, Act.put, List.setIfInBounds_toArray, List.set_cons_zero, List.set_cons_succ, fB.2]) (N32 (pA, pB, vA, vB) _ ⟨g207, g215, g226, g7, gO, ⟨ho, fB.2⟩, hb⟩)
           intro N31
           refine join_ (σ := Value × Value × Value × Value) 4 #[true, true, true, true, true, true, true, true, false, true, true, true, true, true, false, false, false, true] (fun s_ => [(37, s_.1), (38, s_.1), (43, s_.2.1), (44, s_.2.1)]) (fun s_ w' => (Kd.V (Kd.int .u8) 5 w' w.heap.size (fun k_ => some k_ ≠ (s_.2.2.1 : Value).ownBlock ∧ some k_ ≠ (s_.2.2.2 : Value).ownBlock) (.slice A26 y203.length c26) y203) ∧ (Kd.V (Kd.int .u8) 5 w' w.heap.size (fun k_ => some k_ ≠ (s_.2.2.1 : Value).ownBlock ∧ some k_ ≠ (s_.2.2.2 : Value).ownBlock) (.slice A27 y211.length c27) y211) ∧ (Kd.V (Kd.int .u8) 5 w' w.heap.size (fun k_ => some k_ ≠ (s_.2.2.1 : Value).ownBlock ∧ some k_ ≠ (s_.2.2.2 : Value).ownBlock) (.slice A28 y222.length c28) y222) ∧ (Kd.R (Kd.int .u8) 5 w' w.heap.size (fun k_ => some k_ ≠ (s_.2.2.1 : Value).ownBlock ∧ some k_ ≠ (s_.2.2.2 : Value).ownBlock) (.slice Ao15 t200.length co15) t200) ∧ ((LitRow 5 w' w.heap.size (fun k_ => some k_ ≠ (s_.2.2.2 : Value).ownBlock ∧ some k_ ≠ (.slice Ao15 t200.length co15 : Value).ownBlock) s_.2.2.1 38 ∧ s_.1 = s_.2.2.1)) ∧ ((LitRow 5 w' w.heap.size (fun k_ => some k_ ≠ (s_.2.2.1 : Value).ownBlock ∧ some k_ ≠ (.slice Ao15 t200.length co15 : Value).ownBlock) s_.2.2.2 92 ∧ s_.2.1 = s_.2.2.2)) ∧ (Below w.heap.size w w')) ?_ ?_
           ·rintro ⟨pA, pB, vA, vB⟩ wn ⟨f207, f215, f226, f7, fA, fB, fW⟩
            dsimp only at f207 f215 f226 f7 fA fB fW
            refine norm_ (a' := ?_) ?_ ?_
            rotate_left
            ·simp only [putAll, Act.put, List.setIfInBounds_toArray, List.set_cons_zero, List.set_cons_succ]
             rfl
            refine one_ (i := 8) (N := some 42) #[true, true, true, true, true, true, true, true, true, true, true, true, true, true, false, false, false, true] rfl rfl (one_of HT_.out (by kernel_rfl)) (by decide) (fun K hK => ?_)
            refine append_lit_step w.heap.size (by rfl) (.tmp 38) (.tmp 41) 22 5 rfl Tryd.underlying22 info5 vA 38 y203 _ _ _ _ fA.2 rfl fA.1 (Kd.V_reads' f207).2.2 (fun _ _ h => h) YM.out ?fr fW (below_size fW) YL.out ?_
            (case fr => exact (fun k_ hk => ⟨Kd.fresh' fB.1.lt k_ hk, Kd.fresh' (Kd.R_lt f7) k_ hk⟩))
            intro v1 w1 ho hb hg hat
            replace ho := R_cast ho (show [38] ++ y203 = y216 by rw [Ny216.out, Ny208.out, Ny211.out, Ny203.out])
            have g207 := Kd.V_mono (ok' := fun k_ => some k_ ≠ (v1 : Value).ownBlock ∧ some k_ ≠ (vB : Value).ownBlock) (Kd.V_afterv (ok := (fun k_ => some k_ ≠ (vB : Value).ownBlock)) (Kd.V_mono f207 (fun _ hk => ⟨hk.2, hk.1⟩)) hg hat) (fun _ hk => ⟨hk.2, hk.1⟩)
            have g215 := Kd.V_mono (ok' := fun k_ => some k_ ≠ (v1 : Value).ownBlock ∧ some k_ ≠ (vB : Value).ownBlock) (Kd.V_afterv (ok := (fun k_ => some k_ ≠ (vB : Value).ownBlock)) (Kd.V_mono f215 (fun _ hk => ⟨hk.2, hk.1⟩)) hg hat) (fun _ hk => ⟨hk.2, hk.1⟩)
            have g226 := Kd.V_mono (ok' := fun k_ => some k_ ≠ (v1 : Value).ownBlock ∧ some k_ ≠ (vB : Value).ownBlock) (Kd.V_afterv (ok := (fun k_ => some k_ ≠ (vB : Value).ownBlock)) (Kd.V_mono f226 (fun _ hk => ⟨hk.2, hk.1⟩)) hg hat) (fun _ hk => ⟨hk.2, hk.1⟩)
            have g7 := Kd.R_mono (ok' := fun k_ => some k_ ≠ (v1 : Value).ownBlock ∧ some k_ ≠ (vB : Value).ownBlock) (Kd.R_after (ok := (fun k_ => some k_ ≠ (vB : Value).ownBlock)) (Kd.R_mono f7 (fun _ hk => ⟨hk.2, hk.1⟩)) hg hat) (fun _ hk => ⟨hk.2, hk.1⟩)
            have gO := LitRow.mono (ok' := fun k_ => some k_ ≠ (v1 : Value).ownBlock ∧ some k_ ≠ (.slice Ao15 t200.length co15 : Value).ownBlock) (LitRow.after (ok := (fun k_ => some k_ ≠ (.slice Ao15 t200.length co15 : Value).ownBlock)) (LitRow.mono fB.1 (fun _ hk => ⟨hk.2, hk.1⟩)) hg hat) (fun _ hk => ⟨hk.2, hk.1⟩)
            refine hK.out _ _ trivial (fun hHeld => ?_)
            exact norm_ (by show Act.put _ (some 42) _ = _; simp only [putAll, Act.put, List.setIfInBounds_toArray, List.set_cons_zero, List.set_cons_succ]) (N32 (pA, pB, v1, vB) _ ⟨g207, g215, g226, g7, ho, ⟨gO, fB.2⟩, hb⟩)
           intro N22
           refine join_ (σ := Value × Value × Value × Value) 5 #[true, true, true, true, true, true, true, true, true, false, false, true, true, true, false, false, false, true] (fun s_ => [(37, s_.1), (38, s_.1), (42, s_.2.2.1)]) (fun s_ w' => (Kd.V (Kd.int .u8) 5 w' w.heap.size (fun k_ => some k_ ≠ (s_.2.2.1 : Value).ownBlock ∧ some k_ ≠ (s_.2.2.2 : Value).ownBlock) (.slice A26 y203.length c26) y203) ∧ (Kd.V (Kd.int .u8) 5 w' w.heap.size (fun k_ => some k_ ≠ (s_.2.2.1 : Value).ownBlock ∧ some k_ ≠ (s_.2.2.2 : Value).ownBlock) (.slice A27 y211.length c27) y211) ∧ (Kd.V (Kd.int .u8) 5 w' w.heap.size (fun k_ => some k_ ≠ (s_.2.2.1 : Value).ownBlock ∧ some k_ ≠ (s_.2.2.2 : Value).ownBlock) (.slice A28 y222.length c28) y222) ∧ (Kd.R (Kd.int .u8) 5 w' w.heap.size (fun k_ => some k_ ≠ (s_.2.2.1 : Value).ownBlock ∧ some k_ ≠ (s_.2.2.2 : Value).ownBlock) (.slice Ao15 t200.length co15) t200) ∧ (Kd.R (Kd.int .u8) 5 w' w.heap.size (fun k_ => some k_ ≠ (s_.2.2.2 : Value).ownBlock ∧ some k_ ≠ (.slice Ao15 t200.length co15 : Value).ownBlock) s_.2.2.1 y216) ∧ (s_.2.2.2 = .slice none 0 0) ∧ (Below w.heap.size w w')) ?_ ?_
           ·rintro ⟨pA, pB, vA, vB⟩ wn ⟨f207, f215, f226, f7, fA, fB, fW⟩
            dsimp only at f207 f215 f226 f7 fA fB fW
            refine norm_ (a' := ?_) ?_ ?_
            rotate_left
            ·simp only [putAll, Act.put, List.setIfInBounds_toArray, List.set_cons_zero, List.set_cons_succ]
             rfl
            refine one_ (i := 9) (N := some 43) #[true, true, true, true, true, true, true, true, true, true, false, true, true, true, false, false, false, true] rfl rfl (one_of HT_.out (by kernel_rfl)) (by decide) (fun K hK => ?_)
            refine lit_one_step (c := 92) (ok := fun _ => True) w.heap.size 5 (by rfl) ?hr trivial fW (below_size fW) ?_; (case hr => first | (go_simp; done) | (go_simp; rfl))
            intro v1 w1 ho hb hb2
            have g207 := Kd.V_mono (ok' := fun k_ => some k_ ≠ (vA : Value).ownBlock ∧ some k_ ≠ (v1 : Value).ownBlock) (Kd.V_elder' f207 ho.base_ hb2) (fun _ hk => ⟨hk.1.1, hk.2⟩)
            have g215 := Kd.V_mono (ok' := fun k_ => some k_ ≠ (vA : Value).ownBlock ∧ some k_ ≠ (v1 : Value).ownBlock) (Kd.V_elder' f215 ho.base_ hb2) (fun _ hk => ⟨hk.1.1, hk.2⟩)
            have g226 := Kd.V_mono (ok' := fun k_ => some k_ ≠ (vA : Value).ownBlock ∧ some k_ ≠ (v1 : Value).ownBlock) (Kd.V_elder' f226 ho.base_ hb2) (fun _ hk => ⟨hk.1.1, hk.2⟩)
            have g7 := Kd.R_mono (ok' := fun k_ => some k_ ≠ (vA : Value).ownBlock ∧ some k_ ≠ (v1 : Value).ownBlock) (Kd.R_elder' f7 ho.base_ hb2) (fun _ hk => ⟨hk.1.1, hk.2⟩)
            have gO := Kd.R_mono (ok' := fun k_ => some k_ ≠ (v1 : Value).ownBlock ∧ some k_ ≠ (.slice Ao15 t200.length co15 : Value).ownBlock) (Kd.R_elder' fA ho.base_ hb2) (fun _ hk => ⟨hk.2, hk.1.2⟩)
            have gM := LitRow.mono (ok' := fun k_ => some k_ ≠ (vA : Value).ownBlock ∧ some k_ ≠ (.slice Ao15 t200.length co15 : Value).ownBlock) (LitRow.lower (LitRow.new_ (LitRow.new_ ho (Kd.R_lt f7)) (Kd.R_lt fA)) (below_size fW)) (fun _ hk => ⟨hk.2, hk.1.2⟩)
            refine hK.out _ _ trivial (fun hHeld => ?_)
            exact norm_ (by show Act.put _ (some 43) _ = _; simp only [putAll, Act.put, List.setIfInBounds_toArray, List.set_cons_zero, List.set_cons_succ]) (N31 (pA, v1, vA, v1) _ ⟨g207, g215, g226, g7, gO, ⟨gM, rfl⟩, hb⟩)
           intro N30
           refine join_ (σ := Value × Value × Value × Value) 5 #[true, true, true, true, true, true, true, true, false, true, false, true, true, true, false, false, false, true] (fun s_ => [(37, s_.1), (38, s_.1), (43, s_.2.1)]) (fun s_ w' => (Kd.V (Kd.int .u8) 5 w' w.heap.size (fun k_ => some k_ ≠ (s_.2.2.1 : Value).ownBlock ∧ some k_ ≠ (s_.2.2.2 : Value).ownBlock) (.slice A26 y203.length c26) y203) ∧ (Kd.V (Kd.int .u8) 5 w' w.heap.size (fun k_ => some k_ ≠ (s_.2.2.1 : Value).ownBlock ∧ some k_ ≠ (s_.2.2.2 : Value).ownBlock) (.slice A27 y211.length c27) y211) ∧ (Kd.V (Kd.int .u8) 5 w' w.heap.size (fun k_ => some k_ ≠ (s_.2.2.1 : Value).ownBlock ∧ some k_ ≠ (s_.2.2.2 : Value).ownBlock) (.slice A28 y222.length c28) y222) ∧ (Kd.R (Kd.int .u8) 5 w' w.heap.size (fun k_ => some k_ ≠ (s_.2.2.1 : Value).ownBlock ∧ some k_ ≠ (s_.2.2.2 : Value).ownBlock) (.slice Ao15 t200.length co15) t200) ∧ ((LitRow 5 w' w.heap.size (fun k_ => some k_ ≠ (s_.2.2.2 : Value).ownBlock ∧ some k_ ≠ (.slice Ao15 t200.length co15 : Value).ownBlock) s_.2.2.1 38 ∧ s_.1 = s_.2.2.1)) ∧ ((LitRow 5 w' w.heap.size (fun k_ => some k_ ≠ (s_.2.2.1 : Value).ownBlock ∧ some k_ ≠ (.slice Ao15 t200.length co15 : Value).ownBlock) s_.2.2.2 92 ∧ s_.2.1 = s_.2.2.2)) ∧ (Below w.heap.size w w')) ?_ ?_
           ·rintro ⟨pA, pB, vA, vB⟩ wn ⟨f207, f215, f226, f7, fA, fB, fW⟩
            dsimp only at f207 f215 f226 f7 fA fB fW
            refine norm_ (a' := ?_) ?_ ?_
            rotate_left
            ·simp only [putAll, Act.put, List.setIfInBounds_toArray, List.set_cons_zero, List.set_cons_succ]
             rfl
            refine two_ (i := 8) (j := 10) (Ni := some 42) (Nj := some 44) #[true, true, true, true, true, true, true, true, true, true, false, true, true, true, false, false, false, true] #[true, true, true, true, true, true, true, true, false, true, true, true, true, true, false, false, false, true] rfl rfl rfl rfl (two_of HT_.out (by kernel_rfl)) (by decide) (by decide) (fun K hK => ?_) (fun K hK => ?_)
            ·skip
             refine append_lit_step w.heap.size (by rfl) (.tmp 38) (.tmp 41) 22 5 rfl Tryd.underlying22 info5 vA 38 y203 _ _ _ _ fA.2 rfl fA.1 (Kd.V_reads' f207).2.2 (fun _ _ h => h) YM.out ?fr fW (below_size fW) YL.out ?_
             (case fr => exact (fun k_ hk => ⟨Kd.fresh' fB.1.lt k_ hk, Kd.fresh' (Kd.R_lt f7) k_ hk⟩))
             intro v1 w1 ho hb hg hat
             replace ho := R_cast ho (show [38] ++ y203 = y216 by rw [Ny216.out, Ny208.out, Ny211.out, Ny203.out])
             have g207 := Kd.V_mono (ok' := fun k_ => some k_ ≠ (v1 : Value).ownBlock ∧ some k_ ≠ (vB : Value).ownBlock) (Kd.V_afterv (ok := (fun k_ => some k_ ≠ (vB : Value).ownBlock)) (Kd.V_mono f207 (fun _ hk => ⟨hk.2, hk.1⟩)) hg hat) (fun _ hk => ⟨hk.2, hk.1⟩)
             have g215 := Kd.V_mono (ok' := fun k_ => some k_ ≠ (v1 : Value).ownBlock ∧ some k_ ≠ (vB : Value).ownBlock) (Kd.V_afterv (ok := (fun k_ => some k_ ≠ (vB : Value).ownBlock)) (Kd.V_mono f215 (fun _ hk => ⟨hk.2, hk.1⟩)) hg hat) (fun _ hk => ⟨hk.2, hk.1⟩)
             have g226 := Kd.V_mono (ok' := fun k_ => some k_ ≠ (v1 : Value).ownBlock ∧ some k_ ≠ (vB : Value).ownBlock) (Kd.V_afterv (ok := (fun k_ => some k_ ≠ (vB : Value).ownBlock)) (Kd.V_mono f226 (fun _ hk => ⟨hk.2, hk.1⟩)) hg hat) (fun _ hk => ⟨hk.2, hk.1⟩)
             have g7 := Kd.R_mono (ok' := fun k_ => some k_ ≠ (v1 : Value).ownBlock ∧ some k_ ≠ (vB : Value).ownBlock) (Kd.R_after (ok := (fun k_ => some k_ ≠ (vB : Value).ownBlock)) (Kd.R_mono f7 (fun _ hk => ⟨hk.2, hk.1⟩)) hg hat) (fun _ hk => ⟨hk.2, hk.1⟩)
             have gO := LitRow.mono (ok' := fun k_ => some k_ ≠ (v1 : Value).ownBlock ∧ some k_ ≠ (.slice Ao15 t200.length co15 : Value).ownBlock) (LitRow.after (ok := (fun k_ => some k_ ≠ (.slice Ao15 t200.length co15 : Value).ownBlock)) (LitRow.mono fB.1 (fun _ hk => ⟨hk.2, hk.1⟩)) hg hat) (fun _ hk => ⟨hk.2, hk.1⟩)
             refine hK.out _ _ trivial (fun hHeld => ?_)
             exact norm_ (by show Act.put _ (some 42) _ = _; simp only [putAll, Act.put, List.setIfInBounds_toArray, List.set_cons_zero, List.set_cons_succ]) (N31 (pA, pB, v1, vB) _ ⟨g207, g215, g226, g7, ho, ⟨gO, fB.2⟩, hb⟩)
            ·skip
             refine mark_step w.heap.size (by rfl) (t := 22) (x := .tmp 43) rfl fB.2 fB.1 Tryd.underlying22 Tryd.underlying5 fW (below_size fW) ?_
             intro w1 ho hb hg
             have g207 := Kd.V_mono (ok' := fun k_ => some k_ ≠ (vA : Value).ownBlock ∧ some k_ ≠ (vB : Value).ownBlock) (Kd.V_afterv (ok := (fun k_ => some k_ ≠ (vA : Value).ownBlock)) (Kd.V_mono f207 (fun _ hk => ⟨hk.1, hk.2⟩)) hg (.inl rfl)) (fun _ hk => ⟨hk.1, hk.2⟩)
             have g215 := Kd.V_mono (ok' := fun k_ => some k_ ≠ (vA : Value).ownBlock ∧ some k_ ≠ (vB : Value).ownBlock) (Kd.V_afterv (ok := (fun k_ => some k_ ≠ (vA : Value).ownBlock)) (Kd.V_mono f215 (fun _ hk => ⟨hk.1, hk.2⟩)) hg (.inl rfl)) (fun _ hk => ⟨hk.1, hk.2⟩)
             have g226 := Kd.V_mono (ok' := fun k_ => some k_ ≠ (vA : Value).ownBlock ∧ some k_ ≠ (vB : Value).ownBlock) (Kd.V_afterv (ok := (fun k_ => some k_ ≠ (vA : Value).ownBlock)) (Kd.V_mono f226 (fun _ hk => ⟨hk.1, hk.2⟩)) hg (.inl rfl)) (fun _ hk => ⟨hk.1, hk.2⟩)
             have g7 := Kd.R_mono (ok' := fun k_ => some k_ ≠ (vA : Value).ownBlock ∧ some k_ ≠ (vB : Value).ownBlock) (Kd.R_after (ok := (fun k_ => some k_ ≠ (vA : Value).ownBlock)) (Kd.R_mono f7 (fun _ hk => ⟨hk.1, hk.2⟩)) hg (.inl rfl)) (fun _ hk => ⟨hk.1, hk.2⟩)
             have gO := LitRow.mono (ok' := fun k_ => some k_ ≠ (vB : Value).ownBlock ∧ some k_ ≠ (.slice Ao15 t200.length co15 : Value).ownBlock) (LitRow.after (ok := (fun k_ => some k_ ≠ (.slice Ao15 t200.length co15 : Value).ownBlock)) (LitRow.mono fA.1 (fun _ hk => ⟨hk.2, hk.1⟩)) hg (.inl rfl)) (fun _ hk => ⟨hk.2, hk.1⟩)
             refine hK.out _ _ trivial (fun hHeld => ?_)
             exact norm_ (by show Act.put _ (some 44) _ = _; simp only [putAll, Act.put, List.setIfInBounds_toArray, List.set_cons_zero, List.set_cons_succ, fB.2]) (N22 (pA, pB, vA, vB) _ ⟨g207, g215, g226, g7, ⟨gO, fA.2⟩, ⟨ho, fB.2⟩, hb⟩)
           intro N21
           refine join_ (σ := Value × Value × Value × Value) 5 #[true, true, true, true, false, true, true, true, false, true, true, true, true, true, false, false, false, true] (fun s_ => [(37, s_.1), (43, s_.2.1), (44, s_.2.1)]) (fun s_ w' => (Kd.V (Kd.int .u8) 5 w' w.heap.size (fun k_ => some k_ ≠ (s_.2.2.1 : Value).ownBlock ∧ some k_ ≠ (s_.2.2.2 : Value).ownBlock) (.slice A26 y203.length c26) y203) ∧ (Kd.V (Kd.int .u8) 5 w' w.heap.size (fun k_ => some k_ ≠ (s_.2.2.1 : Value).ownBlock ∧ some k_ ≠ (s_.2.2.2 : Value).ownBlock) (.slice A27 y211.length c27) y211) ∧ (Kd.V (Kd.int .u8) 5 w' w.heap.size (fun k_ => some k_ ≠ (s_.2.2.1 : Value).ownBlock ∧ some k_ ≠ (s_.2.2.2 : Value).ownBlock) (.slice A28 y222.length c28) y222) ∧ (Kd.R (Kd.int .u8) 5 w' w.heap.size (fun k_ => some k_ ≠ (s_.2.2.1 : Value).ownBlock ∧ some k_ ≠ (s_.2.2.2 : Value).ownBlock) (.slice Ao15 t200.length co15) t200) ∧ ((LitRow 5 w' w.heap.size (fun k_ => some k_ ≠ (s_.2.2.2 : Value).ownBlock ∧ some k_ ≠ (.slice Ao15 t200.length co15 : Value).ownBlock) s_.2.2.1 38 ∧ s_.1 = s_.2.2.1)) ∧ ((LitRow 5 w' w.heap.size (fun k_ => some k_ ≠ (s_.2.2.1 : Value).ownBlock ∧ some k_ ≠ (.slice Ao15 t200.length co15 : Value).ownBlock) s_.2.2.2 92 ∧ s_.2.1 = s_.2.2.2)) ∧ (Below w.heap.size w w')) ?_ ?_
           ·rintro ⟨pA, pB, vA, vB⟩ wn ⟨f207, f215, f226, f7, fA, fB, fW⟩
            dsimp only at f207 f215 f226 f7 fA fB fW
            refine norm_ (a' := ?_) ?_ ?_
            rotate_left
            ·simp only [putAll, Act.put, List.setIfInBounds_toArray, List.set_cons_zero, List.set_cons_succ]
             rfl
            refine one_ (i := 4) (N := some 38) #[true, true, true, true, true, true, true, true, false, true, true, true, true, true, false, false, false, true] rfl rfl (one_of HT_.out (by kernel_rfl)) (by decide) (fun K hK => ?_)
            refine mark_step w.heap.size (by rfl) (t := 22) (x := .tmp 37) rfl fA.2 fA.1 Tryd.underlying22 Tryd.underlying5 fW (below_size fW) ?_
            intro w1 ho hb hg
            have g207 := Kd.V_mono (ok' := fun k_ => some k_ ≠ (vA : Value).ownBlock ∧ some k_ ≠ (vB : Value).ownBlock) (Kd.V_afterv (ok := (fun k_ => some k_ ≠ (vB : Value).ownBlock)) (Kd.V_mono f207 (fun _ hk => ⟨hk.2, hk.1⟩)) hg (.inl rfl)) (fun _ hk => ⟨hk.2, hk.1⟩)
            have g215 := Kd.V_mono (ok' := fun k_ => some k_ ≠ (vA : Value).ownBlock ∧ some k_ ≠ (vB : Value).ownBlock) (Kd.V_afterv (ok := (fun k_ => some k_ ≠ (vB : Value).ownBlock)) (Kd.V_mono f215 (fun _ hk => ⟨hk.2, hk.1⟩)) hg (.inl rfl)) (fun _ hk => ⟨hk.2, hk.1⟩)
            have g226 := Kd.V_mono (ok' := fun k_ => some k_ ≠ (vA : Value).ownBlock ∧ some k_ ≠ (vB : Value).ownBlock) (Kd.V_afterv (ok := (fun k_ => some k_ ≠ (vB : Value).ownBlock)) (Kd.V_mono f226 (fun _ hk => ⟨hk.2, hk.1⟩)) hg (.inl rfl)) (fun _ hk => ⟨hk.2, hk.1⟩)
            have g7 := Kd.R_mono (ok' := fun k_ => some k_ ≠ (vA : Value).ownBlock ∧ some k_ ≠ (vB : Value).ownBlock) (Kd.R_after (ok := (fun k_ => some k_ ≠ (vB : Value).ownBlock)) (Kd.R_mono f7 (fun _ hk => ⟨hk.2, hk.1⟩)) hg (.inl rfl)) (fun _ hk => ⟨hk.2, hk.1⟩)
            have gO := LitRow.mono (ok' := fun k_ => some k_ ≠ (vA : Value).ownBlock ∧ some k_ ≠ (.slice Ao15 t200.length co15 : Value).ownBlock) (LitRow.after (ok := (fun k_ => some k_ ≠ (.slice Ao15 t200.length co15 : Value).ownBlock)) (LitRow.mono fB.1 (fun _ hk => ⟨hk.2, hk.1⟩)) hg (.inl rfl)) (fun _ hk => ⟨hk.2, hk.1⟩)
            refine hK.out _ _ trivial (fun hHeld => ?_)
            exact norm_ (by show Act.put _ (some 38) _ = _; simp only [putAll, Act.put, List.setIfInBounds_toArray, List.set_cons_zero, List.set_cons_succ, fA.2]) (N22 (pA, pB, vA, vB) _ ⟨g207, g215, g226, g7, ⟨ho, fA.2⟩, ⟨gO, fB.2⟩, hb⟩)
           intro N12
           refine join_ (σ := Value × Value × Value × Value) 6 #[true, true, true, true, true, true, true, true, false, false, false, true, true, true, false, false, false, true] (fun s_ => [(37, s_.1), (38, s_.1)]) (fun s_ w' => (Kd.V (Kd.int .u8) 5 w' w.heap.size (fun k_ => some k_ ≠ (s_.2.2.1 : Value).ownBlock ∧ some k_ ≠ (s_.2.2.2 : Value).ownBlock) (.slice A26 y203.length c26) y203) ∧ (Kd.V (Kd.int .u8) 5 w' w.heap.size (fun k_ => some k_ ≠ (s_.2.2.1 : Value).ownBlock ∧ some k_ ≠ (s_.2.2.2 : Value).ownBlock) (.slice A27 y211.length c27) y211) ∧ (Kd.V (Kd.int .u8) 5 w' w.heap.size (fun k_ => some k_ ≠ (s_.2.2.1 : Value).ownBlock ∧ some k_ ≠ (s_.2.2.2 : Value).ownBlock) (.slice A28 y222.length c28) y222) ∧ (Kd.R (Kd.int .u8) 5 w' w.heap.size (fun k_ => some k_ ≠ (s_.2.2.1 : Value).ownBlock ∧ some k_ ≠ (s_.2.2.2 : Value).ownBlock) (.slice Ao15 t200.length co15) t200) ∧ ((LitRow 5 w' w.heap.size (fun k_ => some k_ ≠ (s_.2.2.2 : Value).ownBlock ∧ some k_ ≠ (.slice Ao15 t200.length co15 : Value).ownBlock) s_.2.2.1 38 ∧ s_.1 = s_.2.2.1)) ∧ (s_.2.2.2 = .slice none 0 0) ∧ (Below w.heap.size w w')) ?_ ?_
           ·rintro ⟨pA, pB, vA, vB⟩ wn ⟨f207, f215, f226, f7, fA, fB, fW⟩
            dsimp only at f207 f215 f226 f7 fA fB fW
            refine norm_ (a' := ?_) ?_ ?_
            rotate_left
            ·simp only [putAll, Act.put, List.setIfInBounds_toArray, List.set_cons_zero, List.set_cons_succ]
             rfl
            refine two_ (i := 8) (j := 9) (Ni := some 42) (Nj := some 43) #[true, true, true, true, true, true, true, true, true, false, false, true, true, true, false, false, false, true] #[true, true, true, true, true, true, true, true, false, true, false, true, true, true, false, false, false, true] rfl rfl rfl rfl (two_of HT_.out (by kernel_rfl)) (by decide) (by decide) (fun K hK => ?_) (fun K hK => ?_)
            ·skip
             refine append_lit_step w.heap.size (by rfl) (.tmp 38) (.tmp 41) 22 5 rfl Tryd.underlying22 info5 vA 38 y203 _ _ _ _ fA.2 rfl fA.1 (Kd.V_reads' f207).2.2 (fun _ _ h => h) YM.out ?fr fW (below_size fW) YL.out ?_
             (case fr => exact (fun k_ hk => ⟨by subst fB; simp [Value.ownBlock], Kd.fresh' (Kd.R_lt f7) k_ hk⟩))
             intro v1 w1 ho hb hg hat
             replace ho := R_cast ho (show [38] ++ y203 = y216 by rw [Ny216.out, Ny208.out, Ny211.out, Ny203.out])
             have g207 := Kd.V_mono (ok' := fun k_ => some k_ ≠ (v1 : Value).ownBlock ∧ some k_ ≠ (vB : Value).ownBlock) (Kd.V_afterv (ok := (fun k_ => some k_ ≠ (vB : Value).ownBlock)) (Kd.V_mono f207 (fun _ hk => ⟨hk.2, hk.1⟩)) hg hat) (fun _ hk => ⟨hk.2, hk.1⟩)
             have g215 := Kd.V_mono (ok' := fun k_ => some k_ ≠ (v1 : Value).ownBlock ∧ some k_ ≠ (vB : Value).ownBlock) (Kd.V_afterv (ok := (fun k_ => some k_ ≠ (vB : Value).ownBlock)) (Kd.V_mono f215 (fun _ hk => ⟨hk.2, hk.1⟩)) hg hat) (fun _ hk => ⟨hk.2, hk.1⟩)
             have g226 := Kd.V_mono (ok' := fun k_ => some k_ ≠ (v1 : Value).ownBlock ∧ some k_ ≠ (vB : Value).ownBlock) (Kd.V_afterv (ok := (fun k_ => some k_ ≠ (vB : Value).ownBlock)) (Kd.V_mono f226 (fun _ hk => ⟨hk.2, hk.1⟩)) hg hat) (fun _ hk => ⟨hk.2, hk.1⟩)
             have g7 := Kd.R_mono (ok' := fun k_ => some k_ ≠ (v1 : Value).ownBlock ∧ some k_ ≠ (vB : Value).ownBlock) (Kd.R_after (ok := (fun k_ => some k_ ≠ (vB : Value).ownBlock)) (Kd.R_mono f7 (fun _ hk => ⟨hk.2, hk.1⟩)) hg hat) (fun _ hk => ⟨hk.2, hk.1⟩)
             have gO := fB
             refine hK.out _ _ trivial (fun hHeld => ?_)
             exact norm_ (by show Act.put _ (some 42) _ = _; simp only [putAll, Act.put, List.setIfInBounds_toArray, List.set_cons_zero, List.set_cons_succ]) (N30 (pA, pB, v1, vB) _ ⟨g207, g215, g226, g7, ho, gO, hb⟩)
            ·skip
             refine lit_one_step (c := 92) (ok := fun _ => True) w.heap.size 5 (by rfl) ?hr trivial fW (below_size fW) ?_; (case hr => first | (go_simp; done) | (go_simp; rfl))
             intro v1 w1 ho hb hb2
             have g207 := Kd.V_mono (ok' := fun k_ => some k_ ≠ (vA : Value).ownBlock ∧ some k_ ≠ (v1 : Value).ownBlock) (Kd.V_elder' f207 ho.base_ hb2) (fun _ hk => ⟨hk.1.1, hk.2⟩)
             have g215 := Kd.V_mono (ok' := fun k_ => some k_ ≠ (vA : Value).ownBlock ∧ some k_ ≠ (v1 : Value).ownBlock) (Kd.V_elder' f215 ho.base_ hb2) (fun _ hk => ⟨hk.1.1, hk.2⟩)
             have g226 := Kd.V_mono (ok' := fun k_ => some k_ ≠ (vA : Value).ownBlock ∧ some k_ ≠ (v1 : Value).ownBlock) (Kd.V_elder' f226 ho.base_ hb2) (fun _ hk => ⟨hk.1.1, hk.2⟩)
             have g7 := Kd.R_mono (ok' := fun k_ => some k_ ≠ (vA : Value).ownBlock ∧ some k_ ≠ (v1 : Value).ownBlock) (Kd.R_elder' f7 ho.base_ hb2) (fun _ hk => ⟨hk.1.1, hk.2⟩)
             have gO := LitRow.mono (ok' := fun k_ => some k_ ≠ (v1 : Value).ownBlock ∧ some k_ ≠ (.slice Ao15 t200.length co15 : Value).ownBlock) (LitRow.elder fA.1 ho.base_ hb2) (fun _ hk => ⟨hk.2, hk.1.2⟩)
             have gM := LitRow.mono (ok' := fun k_ => some k_ ≠ (vA : Value).ownBlock ∧ some k_ ≠ (.slice Ao15 t200.length co15 : Value).ownBlock) (LitRow.lower (LitRow.new_ (LitRow.new_ ho (Kd.R_lt f7)) fA.1.lt) (below_size fW)) (fun _ hk => ⟨hk.2, hk.1.2⟩)
             refine hK.out _ _ trivial (fun hHeld => ?_)
             exact norm_ (by show Act.put _ (some 43) _ = _; simp only [putAll, Act.put, List.setIfInBounds_toArray, List.set_cons_zero, List.set_cons_succ]) (N21 (pA, v1, vA, v1) _ ⟨g207, g215, g226, g7, ⟨gO, fA.2⟩, ⟨gM, rfl⟩, hb⟩)
           intro N20
           refine join_ (σ := Value × Value × Value × Value) 6 #[true, true, true, true, false, true, true, true, false, true, false, true, true, true, false, false, false, true] (fun s_ => [(37, s_.1), (43, s_.2.1)]) (fun s_ w' => (Kd.V (Kd.int .u8) 5 w' w.heap.size (fun k_ => some k_ ≠ (s_.2.2.1 : Value).ownBlock ∧ some k_ ≠ (s_.2.2.2 : Value).ownBlock) (.slice A26 y203.length c26) y203) ∧ (Kd.V (Kd.int .u8) 5 w' w.heap.size (fun k_ => some k_ ≠ (s_.2.2.1 : Value).ownBlock ∧ some k_ ≠ (s_.2.2.2 : Value).ownBlock) (.slice A27 y211.length c27) y211) ∧ (Kd.V (Kd.int .u8) 5 w' w.heap.size (fun k_ => some k_ ≠ (s_.2.2.1 : Value).ownBlock ∧ some k_ ≠ (s_.2.2.2 : Value).ownBlock) (.slice A28 y222.length c28) y222) ∧ (Kd.R (Kd.int .u8) 5 w' w.heap.size (fun k_ => some k_ ≠ (s_.2.2.1 : Value).ownBlock ∧ some k_ ≠ (s_.2.2.2 : Value).ownBlock) (.slice Ao15 t200.length co15) t200) ∧ ((LitRow 5 w' w.heap.size (fun k_ => some k_ ≠ (s_.2.2.2 : Value).ownBlock ∧ some k_ ≠ (.slice Ao15 t200.length co15 : Value).ownBlock) s_.2.2.1 38 ∧ s_.1 = s_.2.2.1)) ∧ ((LitRow 5 w' w.heap.size (fun k_ => some k_ ≠ (s_.2.2.1 : Value).ownBlock ∧ some k_ ≠ (.slice Ao15 t200.length co15 : Value).ownBlock) s_.2.2.2 92 ∧ s_.2.1 = s_.2.2.2)) ∧ (Below w.heap.size w w')) ?_ ?_
           ·rintro ⟨pA, pB, vA, vB⟩ wn ⟨f207, f215, f226, f7, fA, fB, fW⟩
            dsimp only at f207 f215 f226 f7 fA fB fW
            refine norm_ (a' := ?_) ?_ ?_
            rotate_left
            ·simp only [putAll, Act.put, List.setIfInBounds_toArray, List.set_cons_zero, List.set_cons_succ]
             rfl
            refine two_ (i := 4) (j := 10) (Ni := some 38) (Nj := some 44) #[true, true, true, true, true, true, true, true, false, true, false, true, true, true, false, false, false, true] #[true, true, true, true, false, true, true, true, false, true, true, true, true, true, false, false, false, true] rfl rfl rfl rfl (two_of HT_.out (by kernel_rfl)) (by decide) (by decide) (fun K hK => ?_) (fun K hK => ?_)
            ·skip
             refine mark_step w.heap.size (by rfl) (t := 22) (x := .tmp 37) rfl fA.2 fA.1 Tryd.underlying22 Tryd.underlying5 fW (below_size fW) ?_
             intro w1 ho hb hg
             have g207 := Kd.V_mono (ok' := fun k_ => some k_ ≠ (vA : Value).ownBlock ∧ some k_ ≠ (vB : Value).ownBlock) (Kd.V_afterv (ok := (fun k_ => some k_ ≠ (vB : Value).ownBlock)) (Kd.V_mono f207 (fun _ hk => ⟨hk.2, hk.1⟩)) hg (.inl rfl)) (fun _ hk => ⟨hk.2, hk.1⟩)
             have g215 := Kd.V_mono (ok' := fun k_ => some k_ ≠ (vA : Value).ownBlock ∧ some k_ ≠ (vB : Value).ownBlock) (Kd.V_afterv (ok := (fun k_ => some k_ ≠ (vB : Value).ownBlock)) (Kd.V_mono f215 (fun _ hk => ⟨hk.2, hk.1⟩)) hg (.inl rfl)) (fun _ hk => ⟨hk.2, hk.1⟩)
             have g226 := Kd.V_mono (ok' := fun k_ => some k_ ≠ (vA : Value).ownBlock ∧ some k_ ≠ (vB : Value).ownBlock) (Kd.V_afterv (ok := (fun k_ => some k_ ≠ (vB : Value).ownBlock)) (Kd.V_mono f226 (fun _ hk => ⟨hk.2, hk.1⟩)) hg (.inl rfl)) (fun _ hk => ⟨hk.2, hk.1⟩)
             have g7 := Kd.R_mono (ok' := fun k_ => some k_ ≠ (vA : Value).ownBlock ∧ some k_ ≠ (vB : Value).ownBlock) (Kd.R_after (ok := (fun k_ => some k_ ≠ (vB : Value).ownBlock)) (Kd.R_mono f7 (fun _ hk => ⟨hk.2, hk.1⟩)) hg (.inl rfl)) (fun _ hk => ⟨hk.2, hk.1⟩)
             have gO := LitRow.mono (ok' := fun k_ => some k_ ≠ (vA : Value).ownBlock ∧ some k_ ≠ (.slice Ao15 t200.length co15 : Value).ownBlock) (LitRow.after (ok := (fun k_ => some k_ ≠ (.slice Ao15 t200.length co15 : Value).ownBlock)) (LitRow.mono fB.1 (fun _ hk => ⟨hk.2, hk.1⟩)) hg (.inl rfl)) (fun _ hk => ⟨hk.2, hk.1⟩)
             refine hK.out _ _ trivial (fun hHeld => ?_)
             exact norm_ (by show Act.put _ (some 38) _ = _; simp only [putAll, Act.put, List.setIfInBounds_toArray, List.set_cons_zero, List.set_cons_succ, fA.2]) (N21 (pA, pB, vA, vB) _ ⟨g207, g215, g226, g7, ⟨ho, fA.2⟩, ⟨gO, fB.2⟩, hb⟩)
            ·skip
             refine mark_step w.heap.size (by rfl) (t := 22) (x := .tmp 43) rfl fB.2 fB.1 Tryd.underlying22 Tryd.underlying5 fW (below_size fW) ?_
             intro w1 ho hb hg
             have g207 := Kd.V_mono (ok' := fun k_ => some k_ ≠ (vA : Value).ownBlock ∧ some k_ ≠ (vB : Value).ownBlock) (Kd.V_afterv (ok := (fun k_ => some k_ ≠ (vA : Value).ownBlock)) (Kd.V_mono f207 (fun _ hk => ⟨hk.1, hk.2⟩)) hg (.inl rfl)) (fun _ hk => ⟨hk.1, hk.2⟩)
             have g215 := Kd.V_mono (ok' := fun k_ => some k_ ≠ (vA : Value).ownBlock ∧ some k_ ≠ (vB : Value).ownBlock) (Kd.V_afterv (ok := (fun k_ => some k_ ≠ (vA : Value).ownBlock)) (Kd.V_mono f215 (fun _ hk => ⟨hk.1, hk.2⟩)) hg (.inl rfl)) (fun _ hk => ⟨hk.1, hk.2⟩)
             have g226 := Kd.V_mono (ok' := fun k_ => some k_ ≠ (vA : Value).ownBlock ∧ some k_ ≠ (vB : Value).ownBlock) (Kd.V_afterv (ok := (fun k_ => some k_ ≠ (vA : Value).ownBlock)) (Kd.V_mono f226 (fun _ hk => ⟨hk.1, hk.2⟩)) hg (.inl rfl)) (fun _ hk => ⟨hk.1, hk.2⟩)
             have g7 := Kd.R_mono (ok' := fun k_ => some k_ ≠ (vA : Value).ownBlock ∧ some k_ ≠ (vB : Value).ownBlock) (Kd.R_after (ok := (fun k_ => some k_ ≠ (vA : Value).ownBlock)) (Kd.R_mono f7 (fun _ hk => ⟨hk.1, hk.2⟩)) hg (.inl rfl)) (fun _ hk => ⟨hk.1, hk.2⟩)
             have gO := LitRow.mono (ok' := fun k_ => some k_ ≠ (vB : Value).ownBlock ∧ some k_ ≠ (.slice Ao15 t200.length co15 : Value).ownBlock) (LitRow.after (ok := (fun k_ => some k_ ≠ (.slice Ao15 t200.length co15 : Value).ownBlock)) (LitRow.mono fA.1 (fun _ hk => ⟨hk.2, hk.1⟩)) hg (.inl rfl)) (fun _ hk => ⟨hk.2, hk.1⟩)
             refine hK.out _ _ trivial (fun hHeld => ?_)
             exact norm_ (by show Act.put _ (some 44) _ = _; simp only [putAll, Act.put, List.setIfInBounds_toArray, List.set_cons_zero, List.set_cons_succ, fB.2]) (N12 (pA, pB, vA, vB) _ ⟨g207, g215, g226, g7, ⟨gO, fA.2⟩, ⟨ho, fB.2⟩, hb⟩)
           intro N11
           refine join_ (σ := Value × Value × Value × Value) 6 #[true, true, true, false, false, true, true, true, false, true, true, true, true, true, false, false, false, true] (fun s_ => [(43, s_.2.1), (44, s_.2.1)]) (fun s_ w' => (Kd.V (Kd.int .u8) 5 w' w.heap.size (fun k_ => some k_ ≠ (s_.2.2.1 : Value).ownBlock ∧ some k_ ≠ (s_.2.2.2 : Value).ownBlock) (.slice A26 y203.length c26) y203) ∧ (Kd.V (Kd.int .u8) 5 w' w.heap.size (fun k_ => some k_ ≠ (s_.2.2.1 : Value).ownBlock ∧ some k_ ≠ (s_.2.2.2 : Value).ownBlock) (.slice A27 y211.length c27) y211) ∧ (Kd.V (Kd.int .u8) 5 w' w.heap.size (fun k_ => some k_ ≠ (s_.2.2.1 : Value).ownBlock ∧ some k_ ≠ (s_.2.2.2 : Value).ownBlock) (.slice A28 y222.length c28) y222) ∧ (Kd.R (Kd.int .u8) 5 w' w.heap.size (fun k_ => some k_ ≠ (s_.2.2.1 : Value).ownBlock ∧ some k_ ≠ (s_.2.2.2 : Value).ownBlock) (.slice Ao15 t200.length co15) t200) ∧ (s_.2.2.1 = .slice none 0 0) ∧ ((LitRow 5 w' w.heap.size (fun k_ => some k_ ≠ (s_.2.2.1 : Value).ownBlock ∧ some k_ ≠ (.slice Ao15 t200.length co15 : Value).ownBlock) s_.2.2.2 92 ∧ s_.2.1 = s_.2.2.2)) ∧ (Below w.heap.size w w')) ?_ ?_
           ·rintro ⟨pA, pB, vA, vB⟩ wn ⟨f207, f215, f226, f7, fA, fB, fW⟩
            dsimp only at f207 f215 f226 f7 fA fB fW
            refine norm_ (a' := ?_) ?_ ?_
            rotate_left
            ·simp only [putAll, Act.put, List.setIfInBounds_toArray, List.set_cons_zero, List.set_cons_succ]
             rfl
            refine one_ (i := 3) (N := some 37) #[true, true, true, true, false, true, true, true, false, true, true, true, true, true, false, false, false, true] rfl rfl (one_of HT_.out (by kernel_rfl)) (by decide) (fun K hK => ?_)
            refine lit_one_step (c := 38) (ok := fun _ => True) w.heap.size 5 (by rfl) ?hr trivial fW (below_size fW) ?_; (case hr => first | (go_simp; done) | (go_simp; rfl))
            intro v1 w1 ho hb hb2
            have g207 := Kd.V_mono (ok' := fun k_ => some k_ ≠ (v1 : Value).ownBlock ∧ some k_ ≠ (vB : Value).ownBlock) (Kd.V_elder' f207 ho.base_ hb2) (fun _ hk => ⟨hk.2, hk.1.2⟩)
            have g215 := Kd.V_mono (ok' := fun k_ => some k_ ≠ (v1 : Value).ownBlock ∧ some k_ ≠ (vB : Value).ownBlock) (Kd.V_elder' f215 ho.base_ hb2) (fun _ hk => ⟨hk.2, hk.1.2⟩)
            have g226 := Kd.V_mono (ok' := fun k_ => some k_ ≠ (v1 : Value).ownBlock ∧ some k_ ≠ (vB : Value).ownBlock) (Kd.V_elder' f226 ho.base_ hb2) (fun _ hk => ⟨hk.2, hk.1.2⟩)
            have g7 := Kd.R_mono (ok' := fun k_ => some k_ ≠ (v1 : Value).ownBlock ∧ some k_ ≠ (vB : Value).ownBlock) (Kd.R_elder' f7 ho.base_ hb2) (fun _ hk => ⟨hk.2, hk.1.2⟩)
            have gO := LitRow.mono (ok' := fun k_ => some k_ ≠ (v1 : Value).ownBlock ∧ some k_ ≠ (.slice Ao15 t200.length co15 : Value).ownBlock) (LitRow.elder fB.1 ho.base_ hb2) (fun _ hk => ⟨hk.2, hk.1.2⟩)
            have gM := LitRow.mono (ok' := fun k_ => some k_ ≠ (vB : Value).ownBlock ∧ some k_ ≠ (.slice Ao15 t200.length co15 : Value).ownBlock) (LitRow.lower (LitRow.new_ (LitRow.new_ ho (Kd.R_lt f7)) fB.1.lt) (below_size fW)) (fun _ hk => ⟨hk.2, hk.1.2⟩)
            refine hK.out _ _ trivial (fun hHeld => ?_)
            exact norm_ (by show Act.put _ (some 37) _ = _; simp only [putAll, Act.put, List.setIfInBounds_toArray, List.set_cons_zero, List.set_cons_succ]) (N12 (v1, pB, v1, vB) _ ⟨g207, g215, g226, g7, ⟨gM, rfl⟩, ⟨gO, fB.2⟩, hb⟩)
           intro N02
           refine join_ (σ := Value × Value × Value × Value) 7 #[true, true, true, true, false, true, true, true, false, false, false, true, true, true, false, false, false, true] (fun s_ => [(37, s_.1)]) (fun s_ w' => (Kd.V (Kd.int .u8) 5 w' w.heap.size (fun k_ => some k_ ≠ (s_.2.2.1 : Value).ownBlock ∧ some k_ ≠ (s_.2.2.2 : Value).ownBlock) (.slice A26 y203.length c26) y203) ∧ (Kd.V (Kd.int .u8) 5 w' w.heap.size (fun k_ => some k_ ≠ (s_.2.2.1 : Value).ownBlock ∧ some k_ ≠ (s_.2.2.2 : Value).ownBlock) (.slice A27 y211.length c27) y211) ∧ (Kd.V (Kd.int .u8) 5 w' w.heap.size (fun k_ => some k_ ≠ (s_.2.2.1 : Value).ownBlock ∧ some k_ ≠ (s_.2.2.2 : Value).ownBlock) (.slice A28 y222.length c28) y222) ∧ (Kd.R (Kd.int .u8) 5 w' w.heap.size (fun k_ => some k_ ≠ (s_.2.2.1 : Value).ownBlock ∧ some k_ ≠ (s_.2.2.2 : Value).ownBlock) (.slice Ao15 t200.length co15) t200) ∧ ((LitRow 5 w' w.heap.size (fun k_ => some k_ ≠ (s_.2.2.2 : Value).ownBlock ∧ some k_ ≠ (.slice Ao15 t200.length co15 : Value).ownBlock) s_.2.2.1 38 ∧ s_.1 = s_.2.2.1)) ∧ (s_.2.2.2 = .slice none 0 0) ∧ (Below w.heap.size w w')) ?_ ?_
           ·rintro ⟨pA, pB, vA, vB⟩ wn ⟨f207, f215, f226, f7, fA, fB, fW⟩
            dsimp only at f207 f215 f226 f7 fA fB fW
            refine norm_ (a' := ?_) ?_ ?_
            rotate_left
            ·simp only [putAll, Act.put, List.setIfInBounds_toArray, List.set_cons_zero, List.set_cons_succ]
             rfl
            refine two_ (i := 4) (j := 9) (Ni := some 38) (Nj := some 43) #[true, true, true, true, true, true, true, true, false, false, false, true, true, true, false, false, false, true] #[true, true, true, true, false, true, true, true, false, true, false, true, true, true, false, false, false, true] rfl rfl rfl rfl (two_of HT_.out (by kernel_rfl)) (by decide) (by decide) (fun K hK => ?_) (fun K hK => ?_)
            ·skip
             refine mark_step w.heap.size (by rfl) (t := 22) (x := .tmp 37) rfl fA.2 fA.1 Tryd.underlying22 Tryd.underlying5 fW (below_size fW) ?_
             intro w1 ho hb hg
             have g207 := Kd.V_mono (ok' := fun k_ => some k_ ≠ (vA : Value).ownBlock ∧ some k_ ≠ (vB : Value).ownBlock) (Kd.V_afterv (ok := (fun k_ => some k_ ≠ (vB : Value).ownBlock)) (Kd.V_mono f207 (fun _ hk => ⟨hk.2, hk.1⟩)) hg (.inl rfl)) (fun _ hk => ⟨hk.2, hk.1⟩)
             have g215 := Kd.V_mono (ok' := fun k_ => some k_ ≠ (vA : Value).ownBlock ∧ some k_ ≠ (vB : Value).ownBlock) (Kd.V_afterv (ok := (fun k_ => some k_ ≠ (vB : Value).ownBlock)) (Kd.V_mono f215 (fun _ hk => ⟨hk.2, hk.1⟩)) hg (.inl rfl)) (fun _ hk => ⟨hk.2, hk.1⟩)
             have g226 := Kd.V_mono (ok' := fun k_ => some k_ ≠ (vA : Value).ownBlock ∧ some k_ ≠ (vB : Value).ownBlock) (Kd.V_afterv (ok := (fun k_ => some k_ ≠ (vB : Value).ownBlock)) (Kd.V_mono f226 (fun _ hk => ⟨hk.2, hk.1⟩)) hg (.inl rfl)) (fun _ hk => ⟨hk.2, hk.1⟩)
             have g7 := Kd.R_mono (ok' := fun k_ => some k_ ≠ (vA : Value).ownBlock ∧ some k_ ≠ (vB : Value).ownBlock) (Kd.R_after (ok := (fun k_ => some k_ ≠ (vB : Value).ownBlock)) (Kd.R_mono f7 (fun _ hk => ⟨hk.2, hk.1⟩)) hg (.inl rfl)) (fun _ hk => ⟨hk.2, hk.1⟩)
             have gO := fB
             refine hK.out _ _ trivial (fun hHeld => ?_)
             exact norm_ (by show Act.put _ (some 38) _ = _; simp only [putAll, Act.put, List.setIfInBounds_toArray, List.set_cons_zero, List.set_cons_succ, fA.2]) (N20 (pA, pB, vA, vB) _ ⟨g207, g215, g226, g7, ⟨ho, fA.2⟩, gO, hb⟩)
            ·skip
             refine lit_one_step (c := 92) (ok := fun _ => True) w.heap.size 5 (by rfl) ?hr trivial fW (below_size fW) ?_; (case hr => first | (go_simp; done) | (go_simp; rfl))
             intro v1 w1 ho hb hb2
             have g207 := Kd.V_mono (ok' := fun k_ => some k_ ≠ (vA : Value).ownBlock ∧ some k_ ≠ (v1 : Value).ownBlock) (Kd.V_elder' f207 ho.base_ hb2) (fun _ hk => ⟨hk.1.1, hk.2⟩)
             have g215 := Kd.V_mono (ok' := fun k_ => some k_ ≠ (vA : Value).ownBlock ∧ some k_ ≠ (v1 : Value).ownBlock) (Kd.V_elder' f215 ho.base_ hb2) (fun _ hk => ⟨hk.1.1, hk.2⟩)
             have g226 := Kd.V_mono (ok' := fun k_ => some k_ ≠ (vA : Value).ownBlock ∧ some k_ ≠ (v1 : Value).ownBlock) (Kd.V_elder' f226 ho.base_ hb2) (fun _ hk => ⟨hk.1.1, hk.2⟩)
             have g7 := Kd.R_mono (ok' := fun k_ => some k_ ≠ (vA : Value).ownBlock ∧ some k_ ≠ (v1 : Value).ownBlock) (Kd.R_elder' f7 ho.base_ hb2) (fun _ hk => ⟨hk.1.1, hk.2⟩)
             have gO := LitRow.mono (ok' := fun k_ => some k_ ≠ (v1 : Value).ownBlock ∧ some k_ ≠ (.slice Ao15 t200.length co15 : Value).ownBlock) (LitRow.elder fA.1 ho.base_ hb2) (fun _ hk => ⟨hk.2, hk.1.2⟩)
             have gM := LitRow.mono (ok' := fun k_ => some k_ ≠ (vA : Value).ownBlock ∧ some k_ ≠ (.slice Ao15 t200.length co15 : Value).ownBlock) (LitRow.lower (LitRow.new_ (LitRow.new_ ho (Kd.R_lt f7)) fA.1.lt) (below_size fW)) (fun _ hk => ⟨hk.2, hk.1.2⟩)
             refine hK.out _ _ trivial (fun hHeld => ?_)
             exact norm_ (by show Act.put _ (some 43) _ = _; simp only [putAll, Act.put, List.setIfInBounds_toArray, List.set_cons_zero, List.set_cons_succ]) (N11 (pA, v1, vA, v1) _ ⟨g207, g215, g226, g7, ⟨gO, fA.2⟩, ⟨gM, rfl⟩, hb⟩)
           intro N10
           refine join_ (σ := Value × Value × Value × Value) 7 #[true, true, true, false, false, true, true, true, false, true, false, true, true, true, false, false, false, true] (fun s_ => [(43, s_.2.1)]) (fun s_ w' => (Kd.V (Kd.int .u8) 5 w' w.heap.size (fun k_ => some k_ ≠ (s_.2.2.1 : Value).ownBlock ∧ some k_ ≠ (s_.2.2.2 : Value).ownBlock) (.slice A26 y203.length c26) y203) ∧ (Kd.V (Kd.int .u8) 5 w' w.heap.size (fun k_ => some k_ ≠ (s_.2.2.1 : Value).ownBlock ∧ some k_ ≠ (s_.2.2.2 : Value).ownBlock) (.slice A27 y211.length c27) y211) ∧ (Kd.V (Kd.int .u8) 5 w' w.heap.size (fun k_ => some k_ ≠ (s_.2.2.1 : Value).ownBlock ∧ some k_ ≠ (s_.2.2.2 : Value).ownBlock) (.slice A28 y222.length c28) y222) ∧ (Kd.R (Kd.int .u8) 5 w' w.heap.size (fun k_ => some k_ ≠ (s_.2.2.1 : Value).ownBlock ∧ some k_ ≠ (s_.2.2.2 : Value).ownBlock) (.slice Ao15 t200.length co15) t200) ∧ (s_.2.2.1 = .slice none 0 0) ∧ ((LitRow 5 w' w.heap.size (fun k_ => some k_ ≠ (s_.2.2.1 : Value).ownBlock ∧ some k_ ≠ (.slice Ao15 t200.length co15 : Value).ownBlock) s_.2.2.2 92 ∧ s_.2.1 = s_.2.2.2)) ∧ (Below w.heap.size w w')) ?_ ?_
           ·rintro ⟨pA, pB, vA, vB⟩ wn ⟨f207, f215, f226, f7, fA, fB, fW⟩
            dsimp only at f207 f215 f226 f7 fA fB fW
            refine norm_ (a' := ?_) ?_ ?_
            rotate_left
            ·simp only [putAll, Act.put, List.setIfInBounds_toArray, List.set_cons_zero, List.set_cons_succ]
             rfl
            refine two_ (i := 3) (j := 10) (Ni := some 37) (Nj := some 44) #[true, true, true, true, false, true, true, true, false, true, false, true, true, true, false, false, false, true] #[true, true, true, false, false, true, true, true, false, true, true, true, true, true, false, false, false, true] rfl rfl rfl rfl (two_of HT_.out (by kernel_rfl)) (by decide) (by decide) (fun K hK => ?_) (fun K hK => ?_)
            ·skip
             refine lit_one_step (c := 38) (ok := fun _ => True) w.heap.size 5 (by rfl) ?hr trivial fW (below_size fW) ?_; (case hr => first | (go_simp; done) | (go_simp; rfl))
             intro v1 w1 ho hb hb2
             have g207 := Kd.V_mono (ok' := fun k_ => some k_ ≠ (v1 : Value).ownBlock ∧ some k_ ≠ (vB : Value).ownBlock) (Kd.V_elder' f207 ho.base_ hb2) (fun _ hk => ⟨hk.2, hk.1.2⟩)
             have g215 := Kd.V_mono (ok' := fun k_ => some k_ ≠ (v1 : Value).ownBlock ∧ some k_ ≠ (vB : Value).ownBlock) (Kd.V_elder' f215 ho.base_ hb2) (fun _ hk => ⟨hk.2, hk.1.2⟩)
             have g226 := Kd.V_mono (ok' := fun k_ => some k_ ≠ (v1 : Value).ownBlock ∧ some k_ ≠ (vB : Value).ownBlock) (Kd.V_elder' f226 ho.base_ hb2) (fun _ hk => ⟨hk.2, hk.1.2⟩)
             have g7 := Kd.R_mono (ok' := fun k_ => some k_ ≠ (v1 : Value).ownBlock ∧ some k_ ≠ (vB : Value).ownBlock) (Kd.R_elder' f7 ho.base_ hb2) (fun _ hk => ⟨hk.2, hk.1.2⟩)
             have gO := LitRow.mono (ok' := fun k_ => some k_ ≠ (v1 : Value).ownBlock ∧ some k_ ≠ (.slice Ao15 t200.length co15 : Value).ownBlock) (LitRow.elder fB.1 ho.base_ hb2) (fun _ hk => ⟨hk.2, hk.1.2⟩)
             have gM := LitRow.mono (ok' := fun k_ => some k_ ≠ (vB : Value).ownBlock ∧ some k_ ≠ (.slice Ao15 t200.length co15 : Value).ownBlock) (LitRow.lower (LitRow.new_ (LitRow.new_ ho (Kd.R_lt f7)) fB.1.lt) (below_size fW)) (fun _ hk => ⟨hk.2, hk.1.2⟩)
             refine hK.out _ _ trivial (fun hHeld => ?_)
             exact norm_ (by show Act.put _ (some 37) _ = _; simp only [putAll, Act.put, List.setIfInBounds_toArray, List.set_cons_zero, List.set_cons_succ]) (N11 (v1, pB, v1, vB) _ ⟨g207, g215, g226, g7, ⟨gM, rfl⟩, ⟨gO, fB.2⟩, hb⟩)
            ·skip
             refine mark_step w.heap.size (by rfl) (t := 22) (x := .tmp 43) rfl fB.2 fB.1 Tryd.underlying22 Tryd.underlying5 fW (below_size fW) ?_
             intro w1 ho hb hg
             have g207 := Kd.V_mono (ok' := fun k_ => some k_ ≠ (vA : Value).ownBlock ∧ some k_ ≠ (vB : Value).ownBlock) (Kd.V_afterv (ok := (fun k_ => some k_ ≠ (vA : Value).ownBlock)) (Kd.V_mono f207 (fun _ hk => ⟨hk.1, hk.2⟩)) hg (.inl rfl)) (fun _ hk => ⟨hk.1, hk.2⟩)
             have g215 := Kd.V_mono (ok' := fun k_ => some k_ ≠ (vA : Value).ownBlock ∧ some k_ ≠ (vB : Value).ownBlock) (Kd.V_afterv (ok := (fun k_ => some k_ ≠ (vA : Value).ownBlock)) (Kd.V_mono f215 (fun _ hk => ⟨hk.1, hk.2⟩)) hg (.inl rfl)) (fun _ hk => ⟨hk.1, hk.2⟩)
             have g226 := Kd.V_mono (ok' := fun k_ => some k_ ≠ (vA : Value).ownBlock ∧ some k_ ≠ (vB : Value).ownBlock) (Kd.V_afterv (ok := (fun k_ => some k_ ≠ (vA : Value).ownBlock)) (Kd.V_mono f226 (fun _ hk => ⟨hk.1, hk.2⟩)) hg (.inl rfl)) (fun _ hk => ⟨hk.1, hk.2⟩)
             have g7 := Kd.R_mono (ok' := fun k_ => some k_ ≠ (vA : Value).ownBlock ∧ some k_ ≠ (vB : Value).ownBlock) (Kd.R_after (ok := (fun k_ => some k_ ≠ (vA : Value).ownBlock)) (Kd.R_mono f7 (fun _ hk => ⟨hk.1, hk.2⟩)) hg (.inl rfl)) (fun _ hk => ⟨hk.1, hk.2⟩)
             have gO := fA
             refine hK.out _ _ trivial (fun hHeld => ?_)
             exact norm_ (by show Act.put _ (some 44) _ = _; simp only [putAll, Act.put, List.setIfInBounds_toArray, List.set_cons_zero, List.set_cons_succ, fB.2]) (N02 (pA, pB, vA, vB) _ ⟨g207, g215, g226, g7, gO, ⟨ho, fB.2⟩, hb⟩)
           intro N01
           refine join_ (σ := Value × Value × Value × Value) 8 #[true, true, true, false, false, true, true, true, false, false, false, true, true, true, false, false, false, true] (fun s_ => []) (fun s_ w' => (Kd.V (Kd.int .u8) 5 w' w.heap.size (fun k_ => some k_ ≠ (s_.2.2.1 : Value).ownBlock ∧ some k_ ≠ (s_.2.2.2 : Value).ownBlock) (.slice A26 y203.length c26) y203) ∧ (Kd.V (Kd.int .u8) 5 w' w.heap.size (fun k_ => some k_ ≠ (s_.2.2.1 : Value).ownBlock ∧ some k_ ≠ (s_.2.2.2 : Value).ownBlock) (.slice A27 y211.length c27) y211) ∧ (Kd.V (Kd.int .u8) 5 w' w.heap.size (fun k_ => some k_ ≠ (s_.2.2.1 : Value).ownBlock ∧ some k_ ≠ (s_.2.2.2 : Value).ownBlock) (.slice A28 y222.length c28) y222) ∧ (Kd.R (Kd.int .u8) 5 w' w.heap.size (fun k_ => some k_ ≠ (s_.2.2.1 : Value).ownBlock ∧ some k_ ≠ (s_.2.2.2 : Value).ownBlock) (.slice Ao15 t200.length co15) t200) ∧ (s_.2.2.1 = .slice none 0 0) ∧ (s_.2.2.2 = .slice none 0 0) ∧ (Below w.heap.size w w')) ?_ ?_
           ·rintro ⟨pA, pB, vA, vB⟩ wn ⟨f207, f215, f226, f7, fA, fB, fW⟩
            dsimp only at f207 f215 f226 f7 fA fB fW
            refine norm_ (a' := ?_) ?_ ?_
            rotate_left
            ·simp only [putAll, Act.put, List.setIfInBounds_toArray, List.set_cons_zero, List.set_cons_succ]
             rfl
            refine two_ (i := 3) (j := 9) (Ni := some 37) (Nj := some 43) #[true, true, true, true, false, true, true, true, false, false, false, true, true, true, false, false, false, true] #[true, true, true, false, false, true, true, true, false, true, false, true, true, true, false, false, false, true] rfl rfl rfl rfl (two_of HT_.out (by kernel_rfl)) (by decide) (by decide) (fun K hK => ?_) (fun K hK => ?_)
            ·skip
             refine lit_one_step (c := 38) (ok := fun _ => True) w.heap.size 5 (by rfl) ?hr trivial fW (below_size fW) ?_; (case hr => first | (go_simp; done) | (go_simp; rfl))
             intro v1 w1 ho hb hb2
             have g207 := Kd.V_mono (ok' := fun k_ => some k_ ≠ (v1 : Value).ownBlock ∧ some k_ ≠ (vB : Value).ownBlock) (Kd.V_elder' f207 ho.base_ hb2) (fun _ hk => ⟨hk.2, hk.1.2⟩)
             have g215 := Kd.V_mono (ok' := fun k_ => some k_ ≠ (v1 : Value).ownBlock ∧ some k_ ≠ (vB : Value).ownBlock) (Kd.V_elder' f215 ho.base_ hb2) (fun _ hk => ⟨hk.2, hk.1.2⟩)
             have g226 := Kd.V_mono (ok' := fun k_ => some k_ ≠ (v1 : Value).ownBlock ∧ some k_ ≠ (vB : Value).ownBlock) (Kd.V_elder' f226 ho.base_ hb2) (fun _ hk => ⟨hk.2, hk.1.2⟩)
             have g7 := Kd.R_mono (ok' := fun k_ => some k_ ≠ (v1 : Value).ownBlock ∧ some k_ ≠ (vB : Value).ownBlock) (Kd.R_elder' f7 ho.base_ hb2) (fun _ hk => ⟨hk.2, hk.1.2⟩)
             have gO := fB
             have gM := LitRow.mono (ok' := fun k_ => some k_ ≠ (vB : Value).ownBlock ∧ some k_ ≠ (.slice Ao15 t200.length co15 : Value).ownBlock) (LitRow.lower (LitRow.new_ (LitRow.new_ ho (Kd.R_lt f7)) (by subst fB; intro k hk; cases hk)) (below_size fW)) (fun _ hk => ⟨hk.2, hk.1.2⟩)
             refine hK.out _ _ trivial (fun hHeld => ?_)
             exact norm_ (by show Act.put _ (some 37) _ = _; simp only [putAll, Act.put, List.setIfInBounds_toArray, List.set_cons_zero, List.set_cons_succ]) (N10 (v1, pB, v1, vB) _ ⟨g207, g215, g226, g7, ⟨gM, rfl⟩, gO, hb⟩)
            ·skip
             refine lit_one_step (c := 92) (ok := fun _ => True) w.heap.size 5 (by rfl) ?hr trivial fW (below_size fW) ?_; (case hr => first | (go_simp; done) | (go_simp; rfl))
             intro v1 w1 ho hb hb2
             have g207 := Kd.V_mono (ok' := fun k_ => some k_ ≠ (vA : Value).ownBlock ∧ some k_ ≠ (v1 : Value).ownBlock) (Kd.V_elder' f207 ho.base_ hb2) (fun _ hk => ⟨hk.1.1, hk.2⟩)
             have g215 := Kd.V_mono (ok' := fun k_ => some k_ ≠ (vA : Value).ownBlock ∧ some k_ ≠ (v1 : Value).ownBlock) (Kd.V_elder' f215 ho.base_ hb2) (fun _ hk => ⟨hk.1.1, hk.2⟩)
             have g226 := Kd.V_mono (ok' := fun k_ => some k_ ≠ (vA : Value).ownBlock ∧ some k_ ≠ (v1 : Value).ownBlock) (Kd.V_elder' f226 ho.base_ hb2) (fun _ hk => ⟨hk.1.1, hk.2⟩)
             have g7 := Kd.R_mono (ok' := fun k_ => some k_ ≠ (vA : Value).ownBlock ∧ some k_ ≠ (v1 : Value).ownBlock) (Kd.R_elder' f7 ho.base_ hb2) (fun _ hk => ⟨hk.1.1, hk.2⟩)
             have gO := fA
             have gM := LitRow.mono (ok' := fun k_ => some k_ ≠ (vA : Value).ownBlock ∧ some k_ ≠ (.slice Ao15 t200.length co15 : Value).ownBlock) (LitRow.lower (LitRow.new_ (LitRow.new_ ho (Kd.R_lt f7)) (by subst fA; intro k hk; cases hk)) (below_size fW)) (fun _ hk => ⟨hk.2, hk.1.2⟩)
             refine hK.out _ _ trivial (fun hHeld => ?_)
             exact norm_ (by show Act.put _ (some 43) _ = _; simp only [putAll, Act.put, List.setIfInBounds_toArray, List.set_cons_zero, List.set_cons_succ]) (N01 (pA, v1, vA, v1) _ ⟨g207, g215, g226, g7, gO, ⟨gM, rfl⟩, hb⟩)
           intro N00
           exact norm_ (by simp only [putAll]) (N00 (.slice none 0 0, .slice none 0 0, .slice none 0 0, .slice none 0 0) _ ⟨Kd.V_mono HO207.out (fun _ _ => ⟨by simp [Value.ownBlock], by simp [Value.ownBlock]⟩), Kd.V_mono HO215.out (fun _ _ => ⟨by simp [Value.ownBlock], by simp [Value.ownBlock]⟩), Kd.V_mono HO226.out (fun _ _ => ⟨by simp [Value.ownBlock], by simp [Value.ownBlock]⟩), Kd.R_mono HO_7.out (fun _ _ => ⟨by simp [Value.ownBlock], by simp [Value.ownBlock]⟩), rfl, rfl, HB.out⟩)
          rintro ⟨v209, v220, v217, v228⟩ w35 ⟨f207, f215, f226, f7, fA, fB, fW⟩
          dsimp only at f207 f215 f226 f7 fA fB fW
          clear HO_7 HB HO207 HO215 HO226
          have HO_7 := Aside0.mk f7
          have HO207 := Aside0.mk f207
          have HO215 := Aside0.mk f215
          have HO226 := Aside0.mk f226
          have HO218 := Aside0.mk fA
          have HB := Aside0.mk fW
          have HO229 := Aside0.mk fB
          clear f207 f215 f226 f7 fA fB fW
          obtain ⟨Ao36, co36, eo36⟩ := Kd.R_slice HO218.out
          (first | subst eo36 | (injection eo36 with f1_ f2_ f3_; have f4_ := f1_.symm; have f5_ := f3_.symm; clear f1_ f2_ f3_; subst f4_; subst f5_))
          obtain ⟨Ao37, co37, eo37⟩ := Kd.R_slice HO229.out
          (first | subst eo37 | (injection eo37 with f1_ f2_ f3_; have f4_ := f1_.symm; have f5_ := f3_.symm; clear f1_ f2_ f3_; subst f4_; subst f5_))
          have hHeld := trivial
          refine norm_ (a' := ?_) ?_ ?_
          rotate_left
          ·simp only [putAll, Act.put, List.setIfInBounds_toArray, List.set_cons_zero, List.set_cons_succ]
           rfl
          refine one_ (i := 15) (N := some 49) #[true, true, true, true, true, true, true, true, true, true, true, true, true, true, true, true, false, true] rfl rfl (one_of HT_.out (by kernel_rfl)) (by decide) (fun K hK => ?_)
          refine Kd.N_lit_step (Kd.slice 5 (Kd.int .u8)) _ 22 ?hg (N' := 49) ?hd (xs := ([y203, y216, y227] : List (List Int))) (inner := [.slice A26 y203.length c26, .slice Ao36 y216.length co36, .slice Ao37 y227.length co37]) (ok := (fun _ => True)) (okp := (fun _ => True)) ?hr ?hp (fun _ hk => hk) ((show ∀ k_, w35.heap.size ≤ k_ → (fun _ => True) k_ from fun k_ hk => trivial) _ (Nat.le_refl _)) (Below.refl _ _) (Nat.le_refl _) (by simp) ?_; (case hd => rfl); (case hg => rfl); (case hr => first | (go_simp; done) | (go_simp; rfl)); (case hp => exact (Reps.one (show Kd.FK (Kd.slice 5 (Kd.int .u8)) _ _ y203 [.slice A26 y203.length c26] from (Kd.FK_slice_mk (Kd.V_reads' (Kd.V_mono (ok' := (fun _ => True)) (HO207.out) (fun k_ hk => trivial))).2.1 (Kd.V_F (Kd.V_mono (ok' := (fun _ => True)) (HO207.out) (fun k_ hk => trivial))))) (Reps.one (show Kd.FK (Kd.slice 5 (Kd.int .u8)) _ _ y216 [.slice Ao36 y216.length co36] from (Kd.FK_slice_mk (Kd.R_reads' (Kd.R_mono (ok' := (fun _ => True)) (HO218.out) (fun k_ hk => trivial))).2.1 (Kd.R_F (Kd.R_mono (ok' := (fun _ => True)) (HO218.out) (fun k_ hk => trivial))))) (Reps.one (show Kd.FK (Kd.slice 5 (Kd.int .u8)) _ _ y227 [.slice Ao37 y227.length co37] from (Kd.FK_slice_mk (Kd.R_reads' (Kd.R_mono (ok' := (fun _ => True)) (HO229.out) (fun k_ hk => trivial))).2.1 (Kd.R_F (Kd.R_mono (ok' := (fun _ => True)) (HO229.out) (fun k_ hk => trivial))))) (Reps.none _ _)))))
          intro v231 w38 ho39 hb hg_ hnew_
          clear hg_ hnew_
          (first | rw [← Ny230.out] at ho39 | (simp only [Int.reduceToNat] at ho39; rw [← Ny230.out] at ho39))
          have n0_ := Aside0.mk (Kd.R_below (by (with_reducible repeat (first | apply Kd.R_alloc | apply Kd.R_drewN | apply Kd.R_drew)); exact HO_7.out) hb)
          have n1_ := Aside0.mk (Kd.V_elder' (by (with_reducible repeat (first | apply Kd.V_alloc | apply Kd.V_drewN | apply Kd.V_drew)); exact HO207.out) (Kd.N_base ho39) hb)
          have n2_ := Aside0.mk (Kd.V_elder' (by (with_reducible repeat (first | apply Kd.V_alloc | apply Kd.V_drewN | apply Kd.V_drew)); exact HO215.out) (Kd.N_base ho39) hb)
          have n3_ := Aside0.mk (Kd.V_elder' (by (with_reducible repeat (first | apply Kd.V_alloc | apply Kd.V_drewN | apply Kd.V_drew)); exact HO226.out) (Kd.N_base ho39) hb)
          have n4_ := Aside0.mk (Kd.N_lower ho39 (below_size (by repeat (first | (with_reducible first | exact HB.out | apply below_alloc | apply pw_below_drewN | apply below_drew1) | exact HB.out))))
          have n5_ := Aside0.mk (below_step (by repeat (first | (with_reducible first | exact HB.out | apply below_alloc | apply pw_below_drewN | apply below_drew1) | exact HB.out)) hb)
          clear HO_7
          clear HO207
          clear HO215
          clear HO226
          clear HB
          clear HO218
          clear HO229
          have HO_7 := n0_
          have HO207 := n1_
          have HO215 := n2_
          have HO226 := n3_
          have HO232 := n4_
          have HB := n5_
          clear n0_ n1_ n2_ n3_ n4_ n5_
          clear hb ho39
          obtain ⟨Ao40, co40, eo40⟩ := Kd.N_slice HO232.out
          (first | subst eo40 | (injection eo40 with f1_ f2_ f3_; have f4_ := f1_.symm; have f5_ := f3_.symm; clear f1_ f2_ f3_; subst f4_; subst f5_))
          refine hK.out _ _ trivial (fun hHeld => ?_)
          clear hK K
          refine norm_ (a' := ?_) ?_ ?_
          rotate_left
          ·show Act.put _ (some 49) _ = _
           simp only [Act.put, List.setIfInBounds_toArray, List.set_cons_zero, List.set_cons_succ, i64_w, i32_w]
           rfl
          refine pure_ (i := 16) (N := some 50) (v := ?_) (a' := ?_) #[true, true, true, true, true, true, true, true, true, true, true, true, true, true, true, true, true, true] rfl rfl (any_of HT_.out (by kernel_rfl)) (fun _ _ _ h => h) (Or.inl ⟨by rfl, ?_⟩) ?_ ?_
          rotate_left
          ·intro w'
           go_simp
           with_reducible rfl
          rotate_left
          ·simp only [Act.put, List.setIfInBounds_toArray, List.set_cons_zero, List.set_cons_succ, i64_w, i32_w]
           rfl
          refine done_ (done_of HT_.out (by kernel_rfl)) ?_
          try go_wp2
          go_loopg [51] k1 (fun kq v51 w' => ∃ (x51_2 : Int), v51 = .int .i64 x51_2 ∧ Aside0 (redpenlaw15_DecodeOnes.l1 kq a0 t200 ji10 x31_1 y230 (y230.length : Int) x51_2 = some r) ∧ Aside0 (kq ≤ k1) ∧ Aside0 (Kd.R (Kd.int .u8) 5 w' w.heap.size (fun _ => True) (.slice Ao15 t200.length co15) t200) ∧ Aside0 (Kd.N (Kd.slice 5 (Kd.int .u8)) 22 w' w.heap.size (fun _ => True) (.slice Ao40 y230.length co40) y230) ∧ Aside0 (Below w.heap.size w w'))
          case atStart => exact ⟨(0), (by first | rfl | (simp; done) | (simp [*]; done) | (simp [wrap64, wrap32]; done)), H', ⟨Nat.le_refl _⟩, ⟨by (with_reducible repeat (first | apply Kd.R_alloc | apply Kd.R_drewN | apply Kd.R_drew)); exact Kd.R_mono HO_7.out (fun _ hk => trivial)⟩, ⟨by (with_reducible repeat (first | apply Kd.N_alloc | apply Kd.N_drewN | apply Kd.N_drew)); exact HO232.out⟩, ⟨by repeat (first | (with_reducible first | exact HB.out | apply below_alloc | apply pw_below_drewN | apply below_drew1) | exact HB.out)⟩⟩
          case round =>
           clear H'
           try clear c1
           try clear c2
           try clear p2
           try clear q2
           try clear c21
           try clear c24
           try clear c26
           try clear q26
           try clear c27
           try clear q27
           try clear c28
           try clear q28
           try clear q026
           try clear q027
           try clear q028
           try clear q26
           try clear q27
           try clear q28
           obtain ⟨x51_2, rfl, HA, HK2, HO_7, HO_49, HB⟩ := hrel
           cases gk with
           | zero => exact absurd HA.out (by simp [redpenlaw15_DecodeOnes.l1])
           | succ k2 =>
            have H := HA.out
            clear HA
            simp only [redpenlaw15_DecodeOnes.l1] at H
            by_cases c41 : x51_2 < (y230.length : Int)
            ·rw [if_pos c41] at H
             have c41b0 : decide (x51_2 < (y230.length : Int)) = true := decide_eq_true c41
             clear c41
             by_cases c42 : 0 ≤ x51_2
             ·rw [if_pos c42] at H
              have c42b0 : decide (0 ≤ x51_2) = true := decide_eq_true c42
              clear c42
              by_cases c43 : x51_2 < (y230.length : Int)
              ·rw [if_pos c43] at H
               have c43b0 : decide (x51_2 < (y230.length : Int)) = true := decide_eq_true c43
               clear c43
               replace H := Option.bind_eq_some_iff.mp H
               obtain ⟨⟨t234, t235, t236⟩, A440, H⟩ := H
               replace H : ((redpenref15_Entity.f k2 (rd_L1 y230 x51_2)).bind fun bt237 => (if t234 = bt237.1 then (if t235 = bt237.2.1 then (if (t236 != bt237.2.2) = true then (some false) else ((some (([a0, 7, 5] : List Int) : List Int)).bind fun y240 => (redpenlaw15_DecodeOnes.l2 k2 a0 t200 (rd_L1 y230 x51_2) ji10 x31_1 y230 (y230.length : Int) x51_2 y240 (y240.length : Int) 0))) else (some false)) else (some false))) = some r := H
               have A44 := Aside0.mk A440
               clear A440
               replace H := Option.bind_eq_some_iff.mp H
               obtain ⟨⟨t237, t238, t239⟩, A450, H⟩ := H
               replace H : (if t234 = t237 then (if t235 = t238 then (if (t236 != t239) = true then (some false) else ((some (([a0, 7, 5] : List Int) : List Int)).bind fun y240 => (redpenlaw15_DecodeOnes.l2 k2 a0 t200 (rd_L1 y230 x51_2) ji10 x31_1 y230 (y230.length : Int) x51_2 y240 (y240.length : Int) 0))) else (some false)) else (some false)) = some r := H
               have A45 := Aside0.mk A450
               clear A450
               by_cases c46 : t234 = t237
               ·rw [if_pos c46] at H
                have c46b0 : (t234 == t237) = true := beq_iff_eq.mpr c46
                have c46b1 : (t234 != t237) = false := bne_eq_false_iff_eq.mpr c46
                clear c46
                by_cases c47 : t235 = t238
                ·rw [if_pos c47] at H
                 have c47b0 : (t235 == t238) = true := beq_iff_eq.mpr c47
                 have c47b1 : (t235 != t238) = false := bne_eq_false_iff_eq.mpr c47
                 clear c47
                 by_cases c48 : (t236 != t239) = true
                 ·rw [if_pos c48] at H
                  have c48b0 : (t236 != t239) = true := c48
                  (try (have c48b1 : decide (t236 = t239) = false := by simpa using c48))
                  (try (have c48b2 : (t236 == t239) = false := by simpa using c48))
                  (try (have c48b3 : ¬ (t236 = t239) := by simpa using c48))
                  clear c48
                  have hf_ := Option.some.inj H
                  rw [hr_] at hf_
                  cases hf_
                 ·rw [if_neg c48] at H
                  have c48b0 : (t236 != t239) = false := by simpa using c48
                  (try (have c48b1 : decide (t236 = t239) = true := by simpa using c48))
                  (try (have c48b2 : (t236 == t239) = true := by simpa using c48))
                  clear c48
                  obtain ⟨y240, hy240⟩ : ∃ y_ : List Int, y_ = (([a0, 7, 5] : List Int)) := ⟨_, rfl⟩
                  replace H : (redpenlaw15_DecodeOnes.l2 k2 a0 t200 (rd_L1 y230 x51_2) ji10 x31_1 y230 (y230.length : Int) x51_2 y240 (y240.length : Int) 0) = some r := by first | (rw [hy240]; with_reducible exact H) | (have H2_ := (Option.bind_some _ _).symm.trans H; rw [hy240]; with_reducible exact H2_) | (have H2_ := (Option.bind_some _ _).symm.trans H; with_reducible exact H2_) | with_reducible exact H | (rw [hy240]; exact H) | exact H
                  have Ny240 := Aside0.mk hy240
                  clear hy240
                  have H' := Aside0.mk H
                  clear H
                  have p233 : 0 ≤ (x51_2 : Int) := of_decide_eq_true (by first | (with_reducible assumption) | assumption)
                  have q233 : x51_2 < (y230.length : Int) := of_decide_eq_true (by first | (with_reducible assumption) | assumption)
                  obtain ⟨ad233, A233_0, c233_0, e233, hx233_0, hl233_0, hi233_0⟩ := at_L1 (Kd.N_reads' HO_49.out).2.2 x51_2 p233 q233
                  cases e233
                  obtain ⟨ce233, hce233, hMe233, hcc233⟩ := Kd.N_get HO_49.out [] x51_2 p233 (by first | exact q233 | exact of_decide_eq_true (by first | (with_reducible assumption) | assumption) | (have e_ := (Kd.N_reads' HO_49.out).1; omega))
                  obtain ⟨ua233_0, uc233_0, rfl, ul233_0, ge233_0⟩ := Kd.FK_slice_open hMe233
                  have hv233_0 := hcc233 0 _ rfl
                  rw [Nat.add_zero, show ((Kd.slice 5 (Kd.int .u8))).sz = 1 from rfl, Nat.mul_one] at hv233_0
                  replace hv233_0 := Option.some.inj (hv233_0.symm.trans hx233_0)
                  injection hv233_0 with hva_ hvn_ hvc_
                  rw [hva_] at ge233_0
                  rw [hvc_] at ul233_0
                  have HL233_0 := Aside0.mk (show Kd.V (Kd.int .u8) 5 _ w.heap.size _ _ (rd_L1 y230 x51_2) from Kd.V_mk ul233_0 ge233_0)
                  clear hva_ hvn_ hvc_ ge233_0 ul233_0
                  clear hcc233 hce233
                  have HR233_0 := Aside0.mk hi233_0
                  have HC233_0 := Aside0.mk hl233_0
                  clear hi233_0 hl233_0
                  replace p233 := eq_true p233
                  replace q233 := eq_true q233
                  go_wp2_with (first | ((with_reducible refine gate_callee (f := 12) rfl ?_); refine goesL_ (some 57) rfl rfl Tryd.func12 (by kernel_rfl) rfl #[.slice A233_0 (rd_L1 y230 x51_2).length c233_0] rfl (by (try simp only [List.map_toArray, List.map_cons, List.map_nil]); first | done | rfl | (simp only [List.length_drop, List.length_take]; rfl)) ?_; (with_reducible refine (decode_Entity.calls _ _ (rd_L1 y230 x51_2) t234 t235 t236 _ ?side1 ?side2 A44.out ?sideL).mono ?_); (case sideL => first | exact HL.out | exact HL.out.below HB.out | exact HL.out.below (by repeat (first | (with_reducible first | exact HB.out | apply below_alloc | apply pw_below_drewN | apply below_drew1 | refine below_set ?_ (Aside0.out (by assumption))) | exact HB.out))); (case side1 => repeat (first | exact (by repeat (first | (with_reducible exact HR233_0.out) | (with_reducible refine Kd.C_alloc ?_ _) | (with_reducible refine Kd.C_drewN ?_ _) | (with_reducible refine Kd.C_drew ?_) | exact HR233_0.out)) | (with_reducible refine Kd.C_alloc ?_ _) | (with_reducible refine Kd.C_drewN ?_ _) | (with_reducible refine Kd.C_drew ?_))); (case side2 => exact HC233_0.out); rintro e w49 ⟨rfl, hb⟩; refine ⟨_, rfl, ?_⟩; have n0_ := Aside0.mk (Kd.R_below (by (with_reducible repeat (first | apply Kd.R_alloc | apply Kd.R_drewN | apply Kd.R_drew)); exact HO_7.out) hb); have n1_ := Aside0.mk (Kd.N_below (by (with_reducible repeat (first | apply Kd.N_alloc | apply Kd.N_drewN | apply Kd.N_drew)); exact HO_49.out) hb); have n2_ := Aside0.mk (Kd.V_below (by (with_reducible repeat (first | apply Kd.V_alloc | apply Kd.V_drewN | apply Kd.V_drew)); exact HL233_0.out) hb); have n3_ := Aside0.mk (Kd.C_below (by repeat (first | (with_reducible exact HR233_0.out) | (with_reducible refine Kd.C_alloc ?_ _) | (with_reducible refine Kd.C_drewN ?_ _) | (with_reducible refine Kd.C_drew ?_) | exact HR233_0.out)) hb); have n4_ := Aside0.mk (below_step (by repeat (first | (with_reducible first | exact HB.out | apply below_alloc | apply pw_below_drewN | apply below_drew1) | exact HB.out)) hb); clear HO_7; clear HO_49; clear HL233_0; clear HR233_0; clear HB; have HO_7 := n0_; have HO_49 := n1_; have HL233_0 := n2_; have HR233_0 := n3_; have HB := n4_; clear n0_ n1_ n2_ n3_ n4_; (try clear hb); (try clear hb2); (try clear hk); (try clear hi)) | ((with_reducible refine gate_callee (f := 13) rfl ?_); refine goesL_ (some 63) rfl rfl Tryd.func13 (by kernel_rfl) rfl #[.slice A233_0 (rd_L1 y230 x51_2).length c233_0] rfl (by (try simp only [List.map_toArray, List.map_cons, List.map_nil]); first | done | rfl | (simp only [List.length_drop, List.length_take]; rfl)) ?_; (with_reducible refine (redpenref15_Entity.calls k2 _ _ (rd_L1 y230 x51_2) t237 t238 t239 _ ?side1 ?side2 A45.out).mono ?_); (case side1 => repeat (first | exact (by repeat (first | (with_reducible exact HR233_0.out) | (with_reducible refine Kd.C_alloc ?_ _) | (with_reducible refine Kd.C_drewN ?_ _) | (with_reducible refine Kd.C_drew ?_) | exact HR233_0.out)) | (with_reducible refine Kd.C_alloc ?_ _) | (with_reducible refine Kd.C_drewN ?_ _) | (with_reducible refine Kd.C_drew ?_))); (case side2 => exact HC233_0.out); rintro e w' ⟨rfl, ⟨nd, rfl⟩⟩; refine ⟨_, rfl, ?_⟩) | ((with_reducible refine gate_dst (N := 81) rfl ?_); refine Kd.R_lit (Kd.int .u8) _ 30 ?hg (N := 81) ?hd (xs := ([a0, 7, 5] : List Int)) (inner := [.int .u8 a0, .int .u8 7, .int .u8 5]) (ok := fun _ => True) (okp := fun _ => True) ?hr ?hp (fun _ hk => hk) trivial (Below.refl _ _) (Nat.le_refl _) (by simp) ?_; (case hd => rfl); (case hg => rfl); (case hr => first | (go_simp; done) | (go_simp; rfl)); (case hp => exact (Reps.one (show Kd.M (Kd.int .u8) _ _ _ a0 [.int .u8 a0] from rfl) (Reps.one (show Kd.M (Kd.int .u8) _ _ _ 7 [.int .u8 7] from rfl) (Reps.one (show Kd.M (Kd.int .u8) _ _ _ 5 [.int .u8 5] from rfl) (Reps.none _ _))))); intro v241 w50 ho51 hb hg_ hnew_; clear hg_ hnew_; (first | rw [← Ny240.out] at ho51 | (simp only [Int.reduceToNat] at ho51; rw [← Ny240.out] at ho51)); have n0_ := Aside0.mk (Kd.R_below (by (with_reducible repeat (first | apply Kd.R_alloc | apply Kd.R_drewN | apply Kd.R_drew)); exact HO_7.out) hb); have n1_ := Aside0.mk (Kd.N_elder' (by (with_reducible repeat (first | apply Kd.N_alloc | apply Kd.N_drewN | apply Kd.N_drew)); exact HO_49.out) (Kd.R_base ho51) hb); have n2_ := Aside0.mk (Kd.V_elder' (by (with_reducible repeat (first | apply Kd.V_alloc | apply Kd.V_drewN | apply Kd.V_drew)); exact HL233_0.out) (Kd.R_base ho51) hb); have n3_ := Aside0.mk (Kd.R_lower ho51 (below_size (by repeat (first | (with_reducible first | exact HB.out | apply below_alloc | apply pw_below_drewN | apply below_drew1) | exact HB.out)))); have n4_ := Aside0.mk (Kd.C_below (by repeat (first | (with_reducible exact HR233_0.out) | (with_reducible refine Kd.C_alloc ?_ _) | (with_reducible refine Kd.C_drewN ?_ _) | (with_reducible refine Kd.C_drew ?_) | exact HR233_0.out)) hb); have n5_ := Aside0.mk (below_step (by repeat (first | (with_reducible first | exact HB.out | apply below_alloc | apply pw_below_drewN | apply below_drew1) | exact HB.out)) hb); clear HO_7; clear HO_49; clear HL233_0; clear HR233_0; clear HB; have HO_7 := n0_; have HO_49 := n1_; have HL233_0 := n2_; have HO242 := n3_; have HR233_0 := n4_; have HB := n5_; clear n0_ n1_ n2_ n3_ n4_ n5_; clear hb ho51; obtain ⟨Ao52, co52, eo52⟩ := Kd.R_slice HO242.out; subst eo52))
                  go_loopg [83] k2 (fun kq v83 w' => ∃ (x83_3 : Int), v83 = .int .i64 x83_3 ∧ Aside0 (redpenlaw15_DecodeOnes.l2 kq a0 t200 (rd_L1 y230 x51_2) ji10 x31_1 y230 (y230.length : Int) x51_2 y240 (y240.length : Int) x83_3 = some r) ∧ Aside0 (kq ≤ k2) ∧ Aside0 (Kd.R (Kd.int .u8) 5 w' w.heap.size (fun _ => True) (.slice Ao15 t200.length co15) t200) ∧ Aside0 (Kd.N (Kd.slice 5 (Kd.int .u8)) 22 w' w.heap.size (fun k_ => some k_ ≠ ((.slice Ao52 y240.length co52) : Value).ownBlock) (.slice (some ad233) y230.length co40) y230) ∧ Aside0 (Kd.R (Kd.int .u8) 30 w' w.heap.size (fun _ => True) (.slice Ao52 y240.length co52) y240) ∧ Aside0 (Kd.C (Kd.int .u8) w' A233_0 (rd_L1 y230 x51_2).length (rd_L1 y230 x51_2)) ∧ Aside0 (Below w.heap.size w w'))
                  case atStart => exact ⟨(0), (by first | rfl | (simp; done) | (simp [*]; done) | (simp [wrap64, wrap32]; done)), H', ⟨Nat.le_refl _⟩, ⟨by (with_reducible repeat (first | apply Kd.R_alloc | apply Kd.R_drewN | apply Kd.R_drew)); exact HO_7.out⟩, ⟨by (with_reducible repeat (first | apply Kd.N_alloc | apply Kd.N_drewN | apply Kd.N_drew)); exact Kd.N_mono HO_49.out (fun _ hk => hk.2)⟩, ⟨by (with_reducible repeat (first | apply Kd.R_alloc | apply Kd.R_drewN | apply Kd.R_drew)); exact HO242.out⟩, ⟨by repeat (first | (with_reducible exact HR233_0.out) | (with_reducible refine Kd.C_alloc ?_ _) | (with_reducible refine Kd.C_drewN ?_ _) | (with_reducible refine Kd.C_drew ?_) | exact HR233_0.out)⟩, ⟨by repeat (first | (with_reducible first | exact HB.out | apply below_alloc | apply pw_below_drewN | apply below_drew1) | exact HB.out)⟩⟩
                  case round =>
                   clear H'
                   try clear c1
                   try clear c2
                   try clear p2
                   try clear q2
                   try clear hx2
                   try clear c4
                   try clear c12
                   try clear c13
                   try clear c21
                   try clear c23
                   try clear p23
                   try clear q23
                   try clear hx23
                   try clear c24
                   try clear c26
                   try clear q26
                   try clear c27
                   try clear q27
                   try clear c28
                   try clear q28
                   try clear c41
                   try clear c41b0
                   try clear c42
                   try clear c42b0
                   try clear c43
                   try clear c43b0
                   try clear c46
                   try clear c46b0
                   try clear c46b1
                   try clear c47
                   try clear c47b0
                   try clear c47b1
                   try clear c48
                   try clear c48b0
                   try clear c48b1
                   try clear c48b2
                   try clear hx233_0
                   try clear p2
                   try clear p233
                   try clear q026
                   try clear q027
                   try clear q028
                   try clear q2
                   try clear q233
                   try clear q26
                   try clear q27
                   try clear q28
                   obtain ⟨x83_3, rfl, HA, HK3, HO_7, HO_49, HO_81, HR233_0, HB⟩ := hrel
                   cases gk with
                   | zero => exact absurd HA.out (by simp [redpenlaw15_DecodeOnes.l2])
                   | succ k3 =>
                    have H := HA.out
                    clear HA
                    simp only [redpenlaw15_DecodeOnes.l2] at H
                    by_cases c53 : x83_3 < (y240.length : Int)
                    ·rw [if_pos c53] at H
                     have c53b0 : decide (x83_3 < (y240.length : Int)) = true := decide_eq_true c53
                     clear c53
                     by_cases c54 : 0 ≤ x83_3
                     ·rw [if_pos c54] at H
                      have c54b0 : decide (0 ≤ x83_3) = true := decide_eq_true c54
                      clear c54
                      by_cases c55 : x83_3 < (y240.length : Int)
                      ·rw [if_pos c55] at H
                       have c55b0 : decide (x83_3 < (y240.length : Int)) = true := decide_eq_true c55
                       clear c55
                       replace H := Option.bind_eq_some_iff.mp H
                       obtain ⟨⟨t244, t245, t246⟩, A560, H⟩ := H
                       replace H : ((redpenref15_Escape.f k3 (rd y240 x83_3) (rd_L1 y230 x51_2)).bind fun bt247 => (if t244 = bt247.1 then (if t245 = bt247.2.1 then (if (t246 != bt247.2.2) = true then (some false) else (redpenlaw15_DecodeOnes.l2 k3 a0 t200 (rd_L1 y230 x51_2) ji10 x31_1 y230 (y230.length : Int) x51_2 y240 (y240.length : Int) (wrap64 (x83_3 + 1)))) else (some false)) else (some false))) = some r := H
                       have A56 := Aside0.mk A560
                       clear A560
                       replace H := Option.bind_eq_some_iff.mp H
                       obtain ⟨⟨t247, t248, t249⟩, A570, H⟩ := H
                       replace H : (if t244 = t247 then (if t245 = t248 then (if (t246 != t249) = true then (some false) else (redpenlaw15_DecodeOnes.l2 k3 a0 t200 (rd_L1 y230 x51_2) ji10 x31_1 y230 (y230.length : Int) x51_2 y240 (y240.length : Int) (wrap64 (x83_3 + 1)))) else (some false)) else (some false)) = some r := H
                       have A57 := Aside0.mk A570
                       clear A570
                       by_cases c58 : t244 = t247
                       ·rw [if_pos c58] at H
                        have c58b0 : (t244 == t247) = true := beq_iff_eq.mpr c58
                        have c58b1 : (t244 != t247) = false := bne_eq_false_iff_eq.mpr c58
                        clear c58
                        by_cases c59 : t245 = t248
                        ·rw [if_pos c59] at H
                         have c59b0 : (t245 == t248) = true := beq_iff_eq.mpr c59
                         have c59b1 : (t245 != t248) = false := bne_eq_false_iff_eq.mpr c59
                         clear c59
                         by_cases c60 : (t246 != t249) = true
                         ·rw [if_pos c60] at H
                          have c60b0 : (t246 != t249) = true := c60
                          (try (have c60b1 : decide (t246 = t249) = false := by simpa using c60))
                          (try (have c60b2 : (t246 == t249) = false := by simpa using c60))
                          (try (have c60b3 : ¬ (t246 = t249) := by simpa using c60))
                          clear c60
                          have hf_ := Option.some.inj H
                          rw [hr_] at hf_
                          cases hf_
                         ·rw [if_neg c60] at H
                          have c60b0 : (t246 != t249) = false := by simpa using c60
                          (try (have c60b1 : decide (t246 = t249) = true := by simpa using c60))
                          (try (have c60b2 : (t246 == t249) = true := by simpa using c60))
                          clear c60
                          have H' := Aside0.mk H
                          clear H
                          have p243 : 0 ≤ (x83_3 : Int) := of_decide_eq_true (by first | (with_reducible assumption) | assumption)
                          have q243 : x83_3 < (y240.length : Int) := of_decide_eq_true (by first | (with_reducible assumption) | assumption)
                          obtain ⟨ad243, e243, hx243_0⟩ := Kd.at_int (Kd.R_reads' HO_81.out).2.2 x83_3 p243 q243
                          cases e243
                          replace p243 := eq_true p243
                          replace q243 := eq_true q243
                          go_wp2_with (first | ((with_reducible refine gate_callee (f := 14) rfl ?_); refine goesL_ (some 90) rfl rfl Tryd.func14 (by kernel_rfl) rfl #[.int .u8 (rd y240 x83_3), .slice A233_0 (rd_L1 y230 x51_2).length c233_0] rfl (by (try simp only [List.map_toArray, List.map_cons, List.map_nil]); first | done | rfl | (simp only [List.length_drop, List.length_take]; rfl)) ?_; (with_reducible refine (decode_Escape.calls k3 (rd y240 x83_3) _ _ (rd_L1 y230 x51_2) t244 t245 t246 _ ?side1 ?side2 A56.out).mono ?_); (case side1 => repeat (first | with_reducible exact HR233_0.out | (with_reducible refine Kd.C_drewN ?_ _) | (with_reducible refine Kd.C_drew ?_) | exact (Kd.C_below HR233_0.out HB.out) | (with_reducible refine Kd.C_alloc ?_ _) | (with_reducible refine Kd.C_drewN ?_ _) | (with_reducible refine Kd.C_drew ?_))); (case side2 => exact HC233_0.out); rintro e w' ⟨rfl, ⟨nd, rfl⟩⟩; refine ⟨_, rfl, ?_⟩) | ((with_reducible refine gate_callee (f := 15) rfl ?_); refine goesL_ (some 97) rfl rfl Tryd.func15 (by kernel_rfl) rfl #[.int .u8 (rd y240 x83_3), .slice A233_0 (rd_L1 y230 x51_2).length c233_0] rfl (by (try simp only [List.map_toArray, List.map_cons, List.map_nil]); first | done | rfl | (simp only [List.length_drop, List.length_take]; rfl)) ?_; (with_reducible refine (redpenref15_Escape.calls k3 (rd y240 x83_3) _ _ (rd_L1 y230 x51_2) t247 t248 t249 _ ?side1 ?side2 A57.out).mono ?_); (case side1 => repeat (first | with_reducible exact HR233_0.out | (with_reducible refine Kd.C_drewN ?_ _) | (with_reducible refine Kd.C_drew ?_) | exact (Kd.C_below HR233_0.out (by repeat (first | (with_reducible first | exact HB.out | apply below_alloc | apply pw_below_drewN | apply below_drew1) | exact HB.out))) | (with_reducible refine Kd.C_alloc ?_ _) | (with_reducible refine Kd.C_drewN ?_ _) | (with_reducible refine Kd.C_drew ?_))); (case side2 => exact HC233_0.out); rintro e w' ⟨rfl, ⟨nd, rfl⟩⟩; refine ⟨_, rfl, ?_⟩))
                          go_roundg k3
                          case measure => have := HK1.out; have := HK2.out; have := HK3.out; omega
                          case rel => exact ⟨(wrap64 (x83_3 + 1)), (by first | rfl | (simp; done) | (simp [*]; done) | (simp [wrap64, wrap32]; done)), H', ⟨by have := HK1.out; have := HK2.out; have := HK3.out; omega⟩, ⟨by (with_reducible repeat (first | apply Kd.R_alloc | apply Kd.R_drewN | apply Kd.R_drew)); exact HO_7.out⟩, ⟨by (with_reducible repeat (first | apply Kd.N_alloc | apply Kd.N_drewN | apply Kd.N_drew)); exact HO_49.out⟩, ⟨by (with_reducible repeat (first | apply Kd.R_alloc | apply Kd.R_drewN | apply Kd.R_drew)); exact HO_81.out⟩, ⟨by repeat (first | (with_reducible exact HR233_0.out) | (with_reducible refine Kd.C_alloc ?_ _) | (with_reducible refine Kd.C_drewN ?_ _) | (with_reducible refine Kd.C_drew ?_) | exact HR233_0.out)⟩, ⟨by repeat (first | (with_reducible first | exact HB.out | apply below_alloc | apply pw_below_drewN | apply below_drew1) | exact HB.out)⟩⟩
                        ·rw [if_neg c59] at H
                         have c59b0 : (t245 == t248) = false := beq_eq_false_iff_ne.mpr c59
                         have c59b1 : (t245 != t248) = true := bne_iff_ne.mpr c59
                         have hf_ := Option.some.inj H
                         rw [hr_] at hf_
                         cases hf_
                       ·rw [if_neg c58] at H
                        have c58b0 : (t244 == t247) = false := beq_eq_false_iff_ne.mpr c58
                        have c58b1 : (t244 != t247) = true := bne_iff_ne.mpr c58
                        have hf_ := Option.some.inj H
                        rw [hr_] at hf_
                        cases hf_
                      ·rw [if_neg c55] at H
                       exact absurd H (by simp)
                     ·rw [if_neg c54] at H
                      exact absurd H (by simp)
                    ·rw [if_neg c53] at H
                     have c53b0 : decide (x83_3 < (y240.length : Int)) = false := decide_eq_false c53
                     clear c53
                     have H' := Aside0.mk H
                     clear H
                     go_wp2
                     go_roundg k3
                     case measure => have := HK1.out; have := HK2.out; have := HK3.out; omega
                     case rel => exact ⟨(wrap64 (x51_2 + 1)), (by first | rfl | (simp; done) | (simp [*]; done) | (simp [wrap64, wrap32]; done)), H', ⟨by have := HK1.out; have := HK2.out; have := HK3.out; omega⟩, ⟨by (with_reducible repeat (first | apply Kd.R_alloc | apply Kd.R_drewN | apply Kd.R_drew)); exact HO_7.out⟩, ⟨by (with_reducible repeat (first | apply Kd.N_alloc | apply Kd.N_drewN | apply Kd.N_drew)); exact Kd.N_mono HO_49.out (fun _ hk => trivial)⟩, ⟨by repeat (first | (with_reducible first | exact HB.out | apply below_alloc | apply pw_below_drewN | apply below_drew1) | exact HB.out)⟩⟩
                ·rw [if_neg c47] at H
                 have c47b0 : (t235 == t238) = false := beq_eq_false_iff_ne.mpr c47
                 have c47b1 : (t235 != t238) = true := bne_iff_ne.mpr c47
                 have hf_ := Option.some.inj H
                 rw [hr_] at hf_
                 cases hf_
               ·rw [if_neg c46] at H
                have c46b0 : (t234 == t237) = false := beq_eq_false_iff_ne.mpr c46
                have c46b1 : (t234 != t237) = true := bne_iff_ne.mpr c46
                have hf_ := Option.some.inj H
                rw [hr_] at hf_
                cases hf_
              ·rw [if_neg c43] at H
               exact absurd H (by simp)
             ·rw [if_neg c42] at H
              exact absurd H (by simp)
            ·rw [if_neg c41] at H
             have c41b0 : decide (x51_2 < (y230.length : Int)) = false := decide_eq_false c41
             clear c41
             have H' := Aside0.mk H
             clear H
             go_wp2
             go_roundg k2
             case measure => have := HK1.out; have := HK2.out; omega
             case rel => exact ⟨(wrap64 (x31_1 + 1)), (by first | rfl | (simp; done) | (simp [*]; done) | (simp [wrap64, wrap32]; done)), H', ⟨by have := HK1.out; have := HK2.out; omega⟩, ⟨by (with_reducible repeat (first | apply Kd.R_alloc | apply Kd.R_drewN | apply Kd.R_drew)); exact HO_7.out⟩, ⟨by repeat (first | (with_reducible first | exact HB.out | apply below_alloc | apply pw_below_drewN | apply below_drew1) | exact HB.out)⟩⟩
         ·rw [if_neg c24] at H
          exact absurd H (by simp)
        ·rw [if_neg c21] at H
         exact absurd H (by simp)
       ·rw [if_neg c18] at H
        exact absurd H (by simp)
      ·rw [if_neg c17] at H
       exact absurd H (by simp)
     ·rw [if_neg c16] at H
      have c16b0 : decide (x31_1 < ji10) = false := decide_eq_false c16
      clear c16
      obtain rfl := Option.some.inj H
      go_wp2
      go_ret
      exact ⟨by first | rfl | (simp [errW_none, errW_some] <;> rfl) | (simp only [← hji10]; first | rfl | (simp [errW_none, errW_some] <;> rfl)) | (simp [*, errW_none, errW_some] <;> rfl), by repeat (first | (with_reducible first | exact HB.out | apply below_alloc | apply pw_below_drewN | apply below_drew1) | exact HB.out)⟩
 ·replace c5 := Bool.eq_false_iff.mpr c5
  subst c5
  have H1 : (some false) = some r := by rw [if_neg (show ¬ (false = true) by decide)] at H; exact H
  clear H
  have H := H1
  clear H1
  have hf_ := Option.some.inj H
  rw [hr_] at hf_
  cases hf_

end Go.Proofs.YtekalnhackjldaaDoor.PDecodeOnes
