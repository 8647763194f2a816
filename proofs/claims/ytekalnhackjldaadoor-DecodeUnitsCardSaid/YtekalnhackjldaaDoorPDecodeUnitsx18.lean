-- Laid by a program of ours (the kit's print with words and contracts of our own beside it).
import Derived.Test.YtekalnhackjldaaDoorPDecodeUnitsx0
import Derived.Test.YtekalnhackjldaaDoorPDecodeUnitsx6
import Derived.Test.YtekalnhackjldaaDoorPDecodeUnitsx7
import Derived.Test.YtekalnhackjldaaDoorPDecodeUnitsx13
import Derived.Test.YtekalnhackjldaaDoorPDecodeUnitsx14
import Derived.Test.YtekalnhackjldaaDoorPDecodeUnitsx15
import Derived.Test.YtekalnhackjldaaDoorPDecodeUnitsx16
import Derived.Test.YtekalnhackjldaaDoorPDecodeUnitsx17
namespace Go.Proofs.YtekalnhackjldaaDoor.PDecodeUnits
open Go.RowKit Go.Proofs.YtekalnhackjldaaDoor.X Go.Proofs.YtekalnhackjldaaDoorW.PrintWords Go.Proofs.YtekalnhackjldaaDoorW.PrintLast Go.Proofs.YtekalnhackjldaaDoorW.PrintMore
attribute [local go_sem] max2_int min2_int max_two min_two max_three min_three max_four min_four   -- for this text's walks alone
set_option linter.unusedVariables false
set_option linter.unusedSimpArgs false

/-! ### redpenlaw15_DecodeUnits: function 5 -/
mutual
def redpenlaw15_DecodeUnits.j0 : Nat → Int → Int → List Int → Int → Int → Option (Bool)
 | 0, _, _, _, _, _ => none
 | k + 1, x0, x1, x13, x328000, x328001 => (some (([x0, Int.tmod x0 9] : List Int) : List Int)).bind fun y335 => (redpenlaw15_DecodeUnits.l0 k x1 x13 y335 (y335.length : Int) 0 x328000 x328001)
def redpenlaw15_DecodeUnits.l0 : Nat → Int → List Int → List Int → Int → Int → Int → Int → Option (Bool)
 | 0, _, _, _, _, _, _, _ => none
 | k + 1, x1, x13, x60, x61, x62, x328000, x328001 => if x62 < x61 then (if 0 ≤ x62 then (if x62 < (x60.length : Int) then ((some (([x1, (1 + (Int.tmod x1 7)) % 256, 1, 5] : List Int) : List Int)).bind fun y339 => (redpenlaw15_DecodeUnits.l1 k x1 x13 (rd x60 x62) x60 x61 x62 y339 (y339.length : Int) 0 x328000 x328001)) else (none)) else (none)) else (some true)
def redpenlaw15_DecodeUnits.l1 : Nat → Int → List Int → Int → List Int → Int → Int → List Int → Int → Int → Int → Int → Option (Bool)
 | 0, _, _, _, _, _, _, _, _, _, _, _ => none
 | k + 1, x1, x13, x15, x60, x61, x62, x70, x71, x72, x328000, x328001 => if x72 < x71 then (if 0 ≤ x72 then (if x72 < (x70.length : Int) then ((decode_Units.f k x15 x13 (rd x70 x72) x328000 x328001).bind fun bt344 => ((redpenref15_Units.f k x15 x13 (rd x70 x72) x328000 x328001).bind fun bt348 => (if ((bt344.2 == 0) != bt348.2) = true then (some false) else (if bt348.2 = true then ((redpenref01_SameUnits.f k bt344.1 bt348.1).bind fun t352 => (if t352 = true then ((decode_Text.f k bt344.1).bind fun t353 => ((redpenref15_Text.f k bt348.1).bind fun t354 => (if t353.toList = t354.toList then ((decode_Literal.f k x13 bt344.1).bind fun t355 => ((redpenref15_Literal.f k x13 bt344.1).bind fun t356 => (if (t355 != t356) = true then (some false) else (redpenlaw15_DecodeUnits.l1 k x1 x13 x15 x60 x61 x62 x70 x71 (wrap64 (x72 + 1)) x328000 x328001)))) else (some false)))) else (some false))) else (if bt344.2 = 2 then ((redpenref01_SameUnits.f k bt344.1 bt348.1).bind fun t357 => (if t357 = true then ((decode_Text.f k bt344.1).bind fun t358 => ((redpenref15_Text.f k bt348.1).bind fun t359 => (if t358.toList = t359.toList then ((decode_Literal.f k x13 bt344.1).bind fun t360 => ((redpenref15_Literal.f k x13 bt344.1).bind fun t361 => (if (t360 != t361) = true then (some false) else (redpenlaw15_DecodeUnits.l1 k x1 x13 x15 x60 x61 x62 x70 x71 (wrap64 (x72 + 1)) x328000 x328001)))) else (some false)))) else (some false))) else (some false)))))) else (none)) else (none)) else (redpenlaw15_DecodeUnits.l0 k x1 x13 x60 x61 (wrap64 (x62 + 1)) x328000 x328001)
end
def redpenlaw15_DecodeUnits.f (k : Nat) (a0 : Int) (a1 : Int) (l2 : List Int) (l3 : List Int) (a4_0 : Int) (a4_1 : Int) (a5 : Bool) : Option (Bool) := (redpenlaw15_Awake.f k).bind fun t328 => (if t328 = true then (if (l2.length : Int) > 500 then (some true) else ((redpenlaw15_pieces.f).bind fun t329 => ((redpenlaw11_Bits.f k t329 l3 l2).bind fun t332 => (if a5 = true then (redpenlaw15_DecodeUnits.j0 k a0 a1 t332 a4_0 a4_1) else (if (IntKind.u64.wrap (wrap64 ((t332.length : Int) + 1))) = 0 then (none) else (if (IntKind.u64.wrap (wrap64 ((wrap64 ((t332.length : Int) - (wrap64 (Int.tmod (IntKind.u64.wrap (a4_0)) (IntKind.u64.wrap (wrap64 ((t332.length : Int) + 1))))))) + 1))) = 0 then (none) else (redpenlaw15_DecodeUnits.j0 k a0 a1 t332 (wrap64 (Int.tmod (IntKind.u64.wrap (a4_0)) (IntKind.u64.wrap (wrap64 ((t332.length : Int) + 1))))) (wrap64 (Int.tmod (IntKind.u64.wrap (a4_1)) (IntKind.u64.wrap (wrap64 ((wrap64 ((t332.length : Int) - (wrap64 (Int.tmod (IntKind.u64.wrap (a4_0)) (IntKind.u64.wrap (wrap64 ((t332.length : Int) + 1))))))) + 1)))))))))))) else (some false))
theorem redpenlaw15_DecodeUnits.mono_l : ∀ k, (∀ y0 y1 y2 y3 y4, LeO (redpenlaw15_DecodeUnits.j0 k y0 y1 y2 y3 y4) (redpenlaw15_DecodeUnits.j0 (k + 1) y0 y1 y2 y3 y4)) ∧ (∀ y0 y1 y2 y3 y4 y5 y6, LeO (redpenlaw15_DecodeUnits.l0 k y0 y1 y2 y3 y4 y5 y6) (redpenlaw15_DecodeUnits.l0 (k + 1) y0 y1 y2 y3 y4 y5 y6)) ∧ (∀ y0 y1 y2 y3 y4 y5 y6 y7 y8 y9 y10, LeO (redpenlaw15_DecodeUnits.l1 k y0 y1 y2 y3 y4 y5 y6 y7 y8 y9 y10) (redpenlaw15_DecodeUnits.l1 (k + 1) y0 y1 y2 y3 y4 y5 y6 y7 y8 y9 y10))
 | 0 => ⟨fun _ _ _ _ _ r h => by simp [redpenlaw15_DecodeUnits.j0] at h, fun _ _ _ _ _ _ _ r h => by simp [redpenlaw15_DecodeUnits.l0] at h, fun _ _ _ _ _ _ _ _ _ _ _ r h => by simp [redpenlaw15_DecodeUnits.l1] at h⟩
 | k + 1 => by
  obtain ⟨ih0, ih1, ih2⟩ := redpenlaw15_DecodeUnits.mono_l k
  refine ⟨?_, ?_, ?_⟩
  ·intro y0 y1 y2 y3 y4
   unfold redpenlaw15_DecodeUnits.j0
   repeat' first
   | (with_reducible exact ih0 _ _ _ _ _)
   | (with_reducible exact ih1 _ _ _ _ _ _ _)
   | (with_reducible exact ih2 _ _ _ _ _ _ _ _ _ _ _)
   | (with_reducible exact decode_Literal.mono _ _ _)
   | (with_reducible exact decode_Text.mono _ _)
   | (with_reducible exact decode_Units.mono _ _ _ _ _ _)
   | (with_reducible exact redpenlaw11_Bits.mono _ _ _ _)
   | (with_reducible exact redpenlaw15_Awake.mono _)
   | (with_reducible exact redpenref01_SameUnits.mono _ _ _)
   | (with_reducible exact redpenref15_Literal.mono _ _ _)
   | (with_reducible exact redpenref15_Text.mono _ _)
   | (with_reducible exact redpenref15_Units.mono _ _ _ _ _ _)
   | (with_reducible exact LeO.refl _)
   | (with_reducible exact LeO.none _)
   | (with_reducible refine LeO.ite ?_ ?_)
   | (with_reducible refine LeO.bind ?_ (fun _ => ?_))
   | exact ih0 _ _ _ _ _
   | exact ih1 _ _ _ _ _ _ _
   | exact ih2 _ _ _ _ _ _ _ _ _ _ _
   | exact decode_Literal.mono _ _ _
   | exact decode_Text.mono _ _
   | exact decode_Units.mono _ _ _ _ _ _
   | exact redpenlaw11_Bits.mono _ _ _ _
   | exact redpenlaw15_Awake.mono _
   | exact redpenref01_SameUnits.mono _ _ _
   | exact redpenref15_Literal.mono _ _ _
   | exact redpenref15_Text.mono _ _
   | exact redpenref15_Units.mono _ _ _ _ _ _
   | exact LeO.none _
   | refine LeO.ite ?_ ?_
   | refine LeO.bind ?_ (fun _ => ?_)
  ·intro y0 y1 y2 y3 y4 y5 y6
   unfold redpenlaw15_DecodeUnits.l0
   repeat' first
   | (with_reducible exact ih0 _ _ _ _ _)
   | (with_reducible exact ih1 _ _ _ _ _ _ _)
   | (with_reducible exact ih2 _ _ _ _ _ _ _ _ _ _ _)
   | (with_reducible exact decode_Literal.mono _ _ _)
   | (with_reducible exact decode_Text.mono _ _)
   | (with_reducible exact decode_Units.mono _ _ _ _ _ _)
   | (with_reducible exact redpenlaw11_Bits.mono _ _ _ _)
   | (with_reducible exact redpenlaw15_Awake.mono _)
   | (with_reducible exact redpenref01_SameUnits.mono _ _ _)
   | (with_reducible exact redpenref15_Literal.mono _ _ _)
   | (with_reducible exact redpenref15_Text.mono _ _)
   | (with_reducible exact redpenref15_Units.mono _ _ _ _ _ _)
   | (with_reducible exact LeO.refl _)
   | (with_reducible exact LeO.none _)
   | (with_reducible refine LeO.ite ?_ ?_)
   | (with_reducible refine LeO.bind ?_ (fun _ => ?_))
   | exact ih0 _ _ _ _ _
   | exact ih1 _ _ _ _ _ _ _
   | exact ih2 _ _ _ _ _ _ _ _ _ _ _
   | exact decode_Literal.mono _ _ _
   | exact decode_Text.mono _ _
   | exact decode_Units.mono _ _ _ _ _ _
   | exact redpenlaw11_Bits.mono _ _ _ _
   | exact redpenlaw15_Awake.mono _
   | exact redpenref01_SameUnits.mono _ _ _
   | exact redpenref15_Literal.mono _ _ _
   | exact redpenref15_Text.mono _ _
   | exact redpenref15_Units.mono _ _ _ _ _ _
   | exact LeO.none _
   | refine LeO.ite ?_ ?_
   | refine LeO.bind ?_ (fun _ => ?_)
  ·intro y0 y1 y2 y3 y4 y5 y6 y7 y8 y9 y10
   unfold redpenlaw15_DecodeUnits.l1
   repeat' first
   | (with_reducible exact ih0 _ _ _ _ _)
   | (with_reducible exact ih1 _ _ _ _ _ _ _)
   | (with_reducible exact ih2 _ _ _ _ _ _ _ _ _ _ _)
   | (with_reducible exact decode_Literal.mono _ _ _)
   | (with_reducible exact decode_Text.mono _ _)
   | (with_reducible exact decode_Units.mono _ _ _ _ _ _)
   | (with_reducible exact redpenlaw11_Bits.mono _ _ _ _)
   | (with_reducible exact redpenlaw15_Awake.mono _)
   | (with_reducible exact redpenref01_SameUnits.mono _ _ _)
   | (with_reducible exact redpenref15_Literal.mono _ _ _)
   | (with_reducible exact redpenref15_Text.mono _ _)
   | (with_reducible exact redpenref15_Units.mono _ _ _ _ _ _)
   | (with_reducible exact LeO.refl _)
   | (with_reducible exact LeO.none _)
   | (with_reducible refine LeO.ite ?_ ?_)
   | (with_reducible refine LeO.bind ?_ (fun _ => ?_))
   | exact ih0 _ _ _ _ _
   | exact ih1 _ _ _ _ _ _ _
   | exact ih2 _ _ _ _ _ _ _ _ _ _ _
   | exact decode_Literal.mono _ _ _
   | exact decode_Text.mono _ _
   | exact decode_Units.mono _ _ _ _ _ _
   | exact redpenlaw11_Bits.mono _ _ _ _
   | exact redpenlaw15_Awake.mono _
   | exact redpenref01_SameUnits.mono _ _ _
   | exact redpenref15_Literal.mono _ _ _
   | exact redpenref15_Text.mono _ _
   | exact redpenref15_Units.mono _ _ _ _ _ _
   | exact LeO.none _
   | refine LeO.ite ?_ ?_
   | refine LeO.bind ?_ (fun _ => ?_)
theorem redpenlaw15_DecodeUnits.mono : ∀ a0 a1 a2 a3 a4 a5 a6 k, LeO (redpenlaw15_DecodeUnits.f k a0 a1 a2 a3 a4 a5 a6) (redpenlaw15_DecodeUnits.f (k + 1) a0 a1 a2 a3 a4 a5 a6) := by
 intro a0 a1 a2 a3 a4 a5 a6 k
 obtain ⟨ih0, ih1, ih2⟩ := redpenlaw15_DecodeUnits.mono_l k
 unfold redpenlaw15_DecodeUnits.f
 repeat' first
   | (with_reducible exact ih0 _ _ _ _ _)
   | (with_reducible exact ih1 _ _ _ _ _ _ _)
   | (with_reducible exact ih2 _ _ _ _ _ _ _ _ _ _ _)
   | (with_reducible exact decode_Literal.mono _ _ _)
   | (with_reducible exact decode_Text.mono _ _)
   | (with_reducible exact decode_Units.mono _ _ _ _ _ _)
   | (with_reducible exact redpenlaw11_Bits.mono _ _ _ _)
   | (with_reducible exact redpenlaw15_Awake.mono _)
   | (with_reducible exact redpenref01_SameUnits.mono _ _ _)
   | (with_reducible exact redpenref15_Literal.mono _ _ _)
   | (with_reducible exact redpenref15_Text.mono _ _)
   | (with_reducible exact redpenref15_Units.mono _ _ _ _ _ _)
   | (with_reducible exact LeO.refl _)
   | (with_reducible exact LeO.none _)
   | (with_reducible refine LeO.ite ?_ ?_)
   | (with_reducible refine LeO.bind ?_ (fun _ => ?_))
   | exact ih0 _ _ _ _ _
   | exact ih1 _ _ _ _ _ _ _
   | exact ih2 _ _ _ _ _ _ _ _ _ _ _
   | exact decode_Literal.mono _ _ _
   | exact decode_Text.mono _ _
   | exact decode_Units.mono _ _ _ _ _ _
   | exact redpenlaw11_Bits.mono _ _ _ _
   | exact redpenlaw15_Awake.mono _
   | exact redpenref01_SameUnits.mono _ _ _
   | exact redpenref15_Literal.mono _ _ _
   | exact redpenref15_Text.mono _ _
   | exact redpenref15_Units.mono _ _ _ _ _ _
   | exact LeO.none _
   | refine LeO.ite ?_ ?_
   | refine LeO.bind ?_ (fun _ => ?_)
set_option maxHeartbeats 8000000 in
set_option maxRecDepth 100000 in
theorem redpenlaw15_DecodeUnits.calls (k : Nat) (a0 : Int) (a1 : Int) (A2 : Option Addr) (c2 : Nat) (l2 : List Int) (A3 : Option Addr) (c3 : Nat) (l3 : List Int) (a4_0 : Int) (a4_1 : Int) (a5 : Bool) (r : Bool) (w : World) (hr2 : Kd.C (Kd.int .u8) w A2 l2.length l2) (hc2 : l2.length ≤ c2) (hr3 : Kd.C (Kd.int .u8) w A3 l3.length l3) (hc3 : l3.length ≤ c3) (h : redpenlaw15_DecodeUnits.f k a0 a1 l2 l3 a4_0 a4_1 a5 = some r) (hr_ : r = true) (hL : Go.Proofs.YtekalnhackjldaaDoor.H.Laid w) :
  Calls Tryd.prog 5 #[.int .u8 a0, .int .u8 a1, .slice A2 l2.length c2, .slice A3 l3.length c3, .agg #[.int .i64 a4_0, .int .i64 a4_1], .bool a5] w fun e w' => e = .returned (.bool r) ∧ Below w.heap.size w w' := by
 have HL := Aside0.mk hL
 clear hL
 have hu40 := Tryd.underlying40
 have hu42 := Tryd.underlying42
 have HR2 := Aside0.mk hr2
 have HC2 := Aside0.mk hc2
 clear hr2 hc2
 have HR3 := Aside0.mk hr3
 have HC3 := Aside0.mk hc3
 clear hr3 hc3
 have HB := Aside0.mk (Below.refl w.heap.size w)
 have H : ((redpenlaw15_Awake.f k).bind fun t328 => (if t328 = true then (if (l2.length : Int) > 500 then (some true) else ((redpenlaw15_pieces.f).bind fun t329 => ((redpenlaw11_Bits.f k t329 l3 l2).bind fun t332 => (if a5 = true then (redpenlaw15_DecodeUnits.j0 k a0 a1 t332 a4_0 a4_1) else (if (IntKind.u64.wrap (wrap64 ((t332.length : Int) + 1))) = 0 then (none) else (if (IntKind.u64.wrap (wrap64 ((wrap64 ((t332.length : Int) - (wrap64 (Int.tmod (IntKind.u64.wrap (a4_0)) (IntKind.u64.wrap (wrap64 ((t332.length : Int) + 1))))))) + 1))) = 0 then (none) else (redpenlaw15_DecodeUnits.j0 k a0 a1 t332 (wrap64 (Int.tmod (IntKind.u64.wrap (a4_0)) (IntKind.u64.wrap (wrap64 ((t332.length : Int) + 1))))) (wrap64 (Int.tmod (IntKind.u64.wrap (a4_1)) (IntKind.u64.wrap (wrap64 ((wrap64 ((t332.length : Int) - (wrap64 (Int.tmod (IntKind.u64.wrap (a4_0)) (IntKind.u64.wrap (wrap64 ((t332.length : Int) + 1))))))) + 1)))))))))))) else (some false))) = some r := h
 clear h
 replace H := Option.bind_eq_some_iff.mp H
 obtain ⟨t328, A70, H⟩ := H
 replace H : (if t328 = true then (if (l2.length : Int) > 500 then (some true) else ((redpenlaw15_pieces.f).bind fun t329 => ((redpenlaw11_Bits.f k t329 l3 l2).bind fun t332 => (if a5 = true then (redpenlaw15_DecodeUnits.j0 k a0 a1 t332 a4_0 a4_1) else (if (IntKind.u64.wrap (wrap64 ((t332.length : Int) + 1))) = 0 then (none) else (if (IntKind.u64.wrap (wrap64 ((wrap64 ((t332.length : Int) - (wrap64 (Int.tmod (IntKind.u64.wrap (a4_0)) (IntKind.u64.wrap (wrap64 ((t332.length : Int) + 1))))))) + 1))) = 0 then (none) else (redpenlaw15_DecodeUnits.j0 k a0 a1 t332 (wrap64 (Int.tmod (IntKind.u64.wrap (a4_0)) (IntKind.u64.wrap (wrap64 ((t332.length : Int) + 1))))) (wrap64 (Int.tmod (IntKind.u64.wrap (a4_1)) (IntKind.u64.wrap (wrap64 ((wrap64 ((t332.length : Int) - (wrap64 (Int.tmod (IntKind.u64.wrap (a4_0)) (IntKind.u64.wrap (wrap64 ((t332.length : Int) + 1))))))) + 1)))))))))))) else (some false)) = some r := H
 have A7 := Aside0.mk A70
 clear A70
 by_cases c8 : t328 = true
 ·subst c8
  have H1 : (if (l2.length : Int) > 500 then (some true) else ((redpenlaw15_pieces.f).bind fun t329 => ((redpenlaw11_Bits.f k t329 l3 l2).bind fun t332 => (if a5 = true then (redpenlaw15_DecodeUnits.j0 k a0 a1 t332 a4_0 a4_1) else (if (IntKind.u64.wrap (wrap64 ((t332.length : Int) + 1))) = 0 then (none) else (if (IntKind.u64.wrap (wrap64 ((wrap64 ((t332.length : Int) - (wrap64 (Int.tmod (IntKind.u64.wrap (a4_0)) (IntKind.u64.wrap (wrap64 ((t332.length : Int) + 1))))))) + 1))) = 0 then (none) else (redpenlaw15_DecodeUnits.j0 k a0 a1 t332 (wrap64 (Int.tmod (IntKind.u64.wrap (a4_0)) (IntKind.u64.wrap (wrap64 ((t332.length : Int) + 1))))) (wrap64 (Int.tmod (IntKind.u64.wrap (a4_1)) (IntKind.u64.wrap (wrap64 ((wrap64 ((t332.length : Int) - (wrap64 (Int.tmod (IntKind.u64.wrap (a4_0)) (IntKind.u64.wrap (wrap64 ((t332.length : Int) + 1))))))) + 1)))))))))))) = some r := by rw [if_pos rfl] at H; exact H
  clear H
  have H := H1
  clear H1
  by_cases c9 : (l2.length : Int) > 500
  ·rw [if_pos c9] at H
   have c9b0 : decide (500 < (l2.length : Int)) = true := decide_eq_true c9
   have c9b1 : decide (500 < l2.length) = true := decide_eq_true (by omega)
   clear c9
   obtain rfl := Option.some.inj H
   go_enter Tryd.func5, Tryd.ntmps5
   go_wp2_with (first | ((with_reducible refine gate_dst (N := 10) rfl ?_); refine box_event ?hg (N := 10) ?hd (cs := #[.int .i64 a4_0, .int .i64 a4_1]) (t := 40) ?hr ?_; (case hd => rfl); (case hg => rfl); (case hr => first | (go_simp; done) | (go_simp; rfl)); intro gb327 hg w10 hbox hb; have n0_ := Aside0.mk (below_step (by repeat (first | (with_reducible first | exact HB.out | apply below_alloc | apply pw_below_drewN | apply below_drew1) | exact HB.out)) hb); have n1_ := Aside0.mk (hbox); have n2_ := Aside0.mk ((by rw [hg]; exact (below_size (by repeat (first | (with_reducible first | exact HB.out | apply below_alloc | apply pw_below_drewN | apply below_drew1) | exact HB.out))) : w.heap.size ≤ gb327)); have n3_ := Aside0.mk ((by rw [hg]; exact (below_size (by repeat (first | (with_reducible first | exact HB.out | apply below_alloc | apply pw_below_drewN | apply below_drew1) | exact HB.out))) : w.heap.size ≤ gb327)); clear HB; have HB := n0_; have BK327 := n1_; have GW327 := n2_; have GE327 := n3_; clear n0_ n1_ n2_ n3_; clear hb hbox hg) | ((with_reducible refine gate_callee (f := 9) rfl ?_); refine goesL_ (some 23) rfl rfl Tryd.func9 (by kernel_rfl) rfl #[] rfl (by (try simp only [List.map_toArray, List.map_cons, List.map_nil]); first | done | rfl | (simp only [List.length_drop, List.length_take]; rfl)) ?_; (with_reducible refine (redpenlaw15_Awake.calls k  true _ A7.out ?sideL).mono ?_); (case sideL => first | exact HL.out | exact HL.out.below HB.out | exact HL.out.below (by repeat (first | (with_reducible first | exact HB.out | apply below_alloc | apply pw_below_drewN | apply below_drew1 | refine below_set ?_ (Aside0.out (by assumption))) | exact HB.out))); rintro e w11 ⟨rfl, hb⟩; refine ⟨_, rfl, ?_⟩; have n0_ := Aside0.mk (blk_below (g := gb327) (o := .cells #[.int .i64 a4_0, .int .i64 a4_1] 40 (0, 0)) (by (with_reducible repeat (first | refine blk_drewN ?_ _ | refine blk_drew ?_ | refine blk_alloc ?_ _)); exact BK327.out) hb); have n1_ := Aside0.mk (below_step (by repeat (first | (with_reducible first | exact HB.out | apply below_alloc | apply pw_below_drewN | apply below_drew1 | refine below_set ?_ GE327.out) | exact HB.out)) hb); clear BK327; clear HB; have BK327 := n0_; have HB := n1_; clear n0_ n1_; (try clear hb); (try clear hb2); (try clear hk); (try clear hi)))
   go_ret
   exact ⟨by first | rfl | (simp [errW_none, errW_some] <;> rfl) | (simp [*, errW_none, errW_some] <;> rfl), by repeat (first | (with_reducible first | exact HB.out | apply below_alloc | apply pw_below_drewN | apply below_drew1 | refine below_set ?_ GE327.out) | exact HB.out)⟩
  ·rw [if_neg c9] at H
   have c9b0 : decide (500 < (l2.length : Int)) = false := decide_eq_false c9
   have c9b1 : decide (500 < l2.length) = false := decide_eq_false (by omega)
   clear c9
   replace H := Option.bind_eq_some_iff.mp H
   obtain ⟨t329, A120, H⟩ := H
   replace H : ((redpenlaw11_Bits.f k t329 l3 l2).bind fun t332 => (if a5 = true then (redpenlaw15_DecodeUnits.j0 k a0 a1 t332 a4_0 a4_1) else (if (IntKind.u64.wrap (wrap64 ((t332.length : Int) + 1))) = 0 then (none) else (if (IntKind.u64.wrap (wrap64 ((wrap64 ((t332.length : Int) - (wrap64 (Int.tmod (IntKind.u64.wrap (a4_0)) (IntKind.u64.wrap (wrap64 ((t332.length : Int) + 1))))))) + 1))) = 0 then (none) else (redpenlaw15_DecodeUnits.j0 k a0 a1 t332 (wrap64 (Int.tmod (IntKind.u64.wrap (a4_0)) (IntKind.u64.wrap (wrap64 ((t332.length : Int) + 1))))) (wrap64 (Int.tmod (IntKind.u64.wrap (a4_1)) (IntKind.u64.wrap (wrap64 ((wrap64 ((t332.length : Int) - (wrap64 (Int.tmod (IntKind.u64.wrap (a4_0)) (IntKind.u64.wrap (wrap64 ((t332.length : Int) + 1))))))) + 1)))))))))) = some r := H
   have A12 := Aside0.mk A120
   clear A120
   replace H := Option.bind_eq_some_iff.mp H
   obtain ⟨t332, A130, H⟩ := H
   replace H : (if a5 = true then (redpenlaw15_DecodeUnits.j0 k a0 a1 t332 a4_0 a4_1) else (if (IntKind.u64.wrap (wrap64 ((t332.length : Int) + 1))) = 0 then (none) else (if (IntKind.u64.wrap (wrap64 ((wrap64 ((t332.length : Int) - (wrap64 (Int.tmod (IntKind.u64.wrap (a4_0)) (IntKind.u64.wrap (wrap64 ((t332.length : Int) + 1))))))) + 1))) = 0 then (none) else (redpenlaw15_DecodeUnits.j0 k a0 a1 t332 (wrap64 (Int.tmod (IntKind.u64.wrap (a4_0)) (IntKind.u64.wrap (wrap64 ((t332.length : Int) + 1))))) (wrap64 (Int.tmod (IntKind.u64.wrap (a4_1)) (IntKind.u64.wrap (wrap64 ((wrap64 ((t332.length : Int) - (wrap64 (Int.tmod (IntKind.u64.wrap (a4_0)) (IntKind.u64.wrap (wrap64 ((t332.length : Int) + 1))))))) + 1))))))))) = some r := H
   have A13 := Aside0.mk A130
   clear A130
   have HC14 := Aside0.mk H
   clear H
   go_enter Tryd.func5, Tryd.ntmps5
   go_upto_if 33 with (first | ((with_reducible refine gate_dst (N := 10) rfl ?_); refine box_event ?hg (N := 10) ?hd (cs := #[.int .i64 a4_0, .int .i64 a4_1]) (t := 40) ?hr ?_; (case hd => rfl); (case hg => rfl); (case hr => first | (go_simp; done) | (go_simp; rfl)); intro gb327 hg w15 hbox hb; have n0_ := Aside0.mk (below_step (by repeat (first | (with_reducible first | exact HB.out | apply below_alloc | apply pw_below_drewN | apply below_drew1) | exact HB.out)) hb); have n1_ := Aside0.mk (hbox); have n2_ := Aside0.mk ((by rw [hg]; exact (below_size (by repeat (first | (with_reducible first | exact HB.out | apply below_alloc | apply pw_below_drewN | apply below_drew1) | exact HB.out))) : w.heap.size ≤ gb327)); have n3_ := Aside0.mk ((by rw [hg]; exact (below_size (by repeat (first | (with_reducible first | exact HB.out | apply below_alloc | apply pw_below_drewN | apply below_drew1) | exact HB.out))) : w.heap.size ≤ gb327)); clear HB; have HB := n0_; have BK327 := n1_; have GW327 := n2_; have GE327 := n3_; clear n0_ n1_ n2_ n3_; clear hb hbox hg) | ((with_reducible refine gate_callee (f := 9) rfl ?_); refine goesL_ (some 23) rfl rfl Tryd.func9 (by kernel_rfl) rfl #[] rfl (by (try simp only [List.map_toArray, List.map_cons, List.map_nil]); first | done | rfl | (simp only [List.length_drop, List.length_take]; rfl)) ?_; (with_reducible refine (redpenlaw15_Awake.calls k  true _ A7.out ?sideL).mono ?_); (case sideL => first | exact HL.out | exact HL.out.below HB.out | exact HL.out.below (by repeat (first | (with_reducible first | exact HB.out | apply below_alloc | apply pw_below_drewN | apply below_drew1 | refine below_set ?_ (Aside0.out (by assumption))) | exact HB.out))); rintro e w16 ⟨rfl, hb⟩; refine ⟨_, rfl, ?_⟩; have n0_ := Aside0.mk (blk_below (g := gb327) (o := .cells #[.int .i64 a4_0, .int .i64 a4_1] 40 (0, 0)) (by (with_reducible repeat (first | refine blk_drewN ?_ _ | refine blk_drew ?_ | refine blk_alloc ?_ _)); exact BK327.out) hb); have n1_ := Aside0.mk (below_step (by repeat (first | (with_reducible first | exact HB.out | apply below_alloc | apply pw_below_drewN | apply below_drew1 | refine below_set ?_ GE327.out) | exact HB.out)) hb); clear BK327; clear HB; have BK327 := n0_; have HB := n1_; clear n0_ n1_; (try clear hb); (try clear hb2); (try clear hk); (try clear hi)) | ((with_reducible refine gate_callee (f := 11) rfl ?_); refine goesL_ (some 28) rfl rfl Tryd.func11 (by kernel_rfl) rfl #[] rfl (by (try simp only [List.map_toArray, List.map_cons, List.map_nil]); first | done | rfl | (simp only [List.length_drop, List.length_take]; rfl)) ?_; (with_reducible refine (redpenlaw15_pieces.calls  t329 _ A12.out).mono ?_); rintro e w17 ⟨v330, rfl, ho0, hb⟩; refine ⟨_, rfl, ?_⟩; have n0_ := Aside0.mk (Kd.R_lower ho0 (below_size (by repeat (first | (with_reducible first | exact HB.out | apply below_alloc | apply pw_below_drewN | apply below_drew1 | refine below_set ?_ GE327.out) | exact HB.out)))); have n1_ := Aside0.mk (blk_below (g := gb327) (o := .cells #[.int .i64 a4_0, .int .i64 a4_1] 40 (0, 0)) (by (with_reducible repeat (first | refine blk_drewN ?_ _ | refine blk_drew ?_ | refine blk_alloc ?_ _)); exact BK327.out) hb); have n2_ := Aside0.mk (below_step (by repeat (first | (with_reducible first | exact HB.out | apply below_alloc | apply pw_below_drewN | apply below_drew1 | refine below_set ?_ GE327.out) | exact HB.out)) hb); clear BK327; clear HB; have HO331 := n0_; have BK327 := n1_; have HB := n2_; clear n0_ n1_ n2_; (try clear hb); (try clear hb2); (try clear hk); (try clear hi); (try clear ho0); obtain ⟨Ao18, co18, eo18⟩ := Kd.R_slice HO331.out; subst eo18) | ((with_reducible refine gate_callee (f := 10) rfl ?_); refine goesL_ (some 31) rfl rfl Tryd.func10 (by kernel_rfl) rfl #[.slice Ao18 t329.length co18, .slice A3 l3.length c3, .slice A2 l2.length c2] rfl (by (try simp only [List.map_toArray, List.map_cons, List.map_nil]); first | done | rfl | (simp only [List.length_drop, List.length_take]; rfl)) ?_; (with_reducible refine (redpenlaw11_Bits.calls k _ _ t329 _ _ l3 _ _ l2 t332 _ ?side1 ?side2 ?side3 ?side4 ?side5 ?side6 A13.out).mono ?_); (case side1 => repeat (first | exact (Kd.R_reads' HO331.out).2.2 | (with_reducible refine Kd.C_alloc ?_ _) | (with_reducible refine Kd.C_drewN ?_ _) | (with_reducible refine Kd.C_drew ?_))); (case side2 => exact (Kd.R_reads' HO331.out).2.1); (case side3 => repeat (first | exact (Kd.C_below HR3.out HB.out) | (with_reducible refine Kd.C_alloc ?_ _) | (with_reducible refine Kd.C_drewN ?_ _) | (with_reducible refine Kd.C_drew ?_))); (case side4 => exact HC3.out); (case side5 => repeat (first | exact (Kd.C_below HR2.out HB.out) | (with_reducible refine Kd.C_alloc ?_ _) | (with_reducible refine Kd.C_drewN ?_ _) | (with_reducible refine Kd.C_drew ?_))); (case side6 => exact HC2.out); rintro e w19 ⟨v333, rfl, ho0, hb⟩; refine ⟨_, rfl, ?_⟩; have n0_ := Aside0.mk (Kd.R_below (by (with_reducible repeat (first | apply Kd.R_alloc | apply Kd.R_drewN | apply Kd.R_drew)); exact HO331.out) hb); have n1_ := Aside0.mk (Kd.R_lower ho0 (below_size (by repeat (first | (with_reducible first | exact HB.out | apply below_alloc | apply pw_below_drewN | apply below_drew1 | refine below_set ?_ GE327.out) | exact HB.out)))); have n2_ := Aside0.mk (blk_below (g := gb327) (o := .cells #[.int .i64 a4_0, .int .i64 a4_1] 40 (0, 0)) (by (with_reducible repeat (first | refine blk_drewN ?_ _ | refine blk_drew ?_ | refine blk_alloc ?_ _)); exact BK327.out) hb); have n3_ := Aside0.mk (below_step (by repeat (first | (with_reducible first | exact HB.out | apply below_alloc | apply pw_below_drewN | apply below_drew1 | refine below_set ?_ GE327.out) | exact HB.out)) hb); clear HO331; clear BK327; clear HB; have HO331 := n0_; have HO334 := n1_; have BK327 := n2_; have HB := n3_; clear n0_ n1_ n2_ n3_; (try clear hb); (try clear hb2); (try clear hk); (try clear hi); (try clear ho0)))
   (try simp only [Act.put, List.setIfInBounds_toArray, List.set_cons_zero, List.set_cons_succ])
   go_cut [] (fun wc => ∃ (kq : Nat) (x328000_13 : Int) (x328001_13 : Int), Aside0 (redpenlaw15_DecodeUnits.j0 kq a0 a1 t332 x328000_13 x328001_13 = some r) ∧ Aside0 (kq ≤ k) ∧ Aside0 (Kd.R (Kd.int .u8) 5 wc w.heap.size (fun _ => True) v333 t332) ∧ Aside0 (wc.heap[gb327]? = some (.cells #[.int .i64 x328000_13, .int .i64 x328001_13] 40 (0, 0))) ∧ Aside0 (Below w.heap.size w wc))
   case first =>
    have H := HC14.out
    clear HC14
    by_cases c20 : a5 = true
    ·subst c20
     have H1 : (redpenlaw15_DecodeUnits.j0 k a0 a1 t332 a4_0 a4_1) = some r := by rw [if_pos rfl] at H; exact H
     clear H
     have H := H1
     clear H1
     have H' := Aside0.mk H
     clear H
     go_wp2
     go_meet
     case rel => exact ⟨_, (a4_0), (a4_1), H', ⟨by first | omega | exact Nat.le_refl _⟩, ⟨by (with_reducible repeat (first | apply Kd.R_alloc | apply Kd.R_drewN | apply Kd.R_drew)); exact HO334.out⟩, ⟨by (with_reducible repeat (first | refine blk_drewN ?_ _ | refine blk_drew ?_ | refine blk_alloc ?_ _)); exact BK327.out⟩, ⟨by repeat (first | (with_reducible first | exact HB.out | apply below_alloc | apply pw_below_drewN | apply below_drew1 | refine below_set ?_ GE327.out) | exact HB.out)⟩⟩
    ·replace c20 := Bool.eq_false_iff.mpr c20
     subst c20
     have H1 : (if (IntKind.u64.wrap (wrap64 ((t332.length : Int) + 1))) = 0 then (none) else (if (IntKind.u64.wrap (wrap64 ((wrap64 ((t332.length : Int) - (wrap64 (Int.tmod (IntKind.u64.wrap (a4_0)) (IntKind.u64.wrap (wrap64 ((t332.length : Int) + 1))))))) + 1))) = 0 then (none) else (redpenlaw15_DecodeUnits.j0 k a0 a1 t332 (wrap64 (Int.tmod (IntKind.u64.wrap (a4_0)) (IntKind.u64.wrap (wrap64 ((t332.length : Int) + 1))))) (wrap64 (Int.tmod (IntKind.u64.wrap (a4_1)) (IntKind.u64.wrap (wrap64 ((wrap64 ((t332.length : Int) - (wrap64 (Int.tmod (IntKind.u64.wrap (a4_0)) (IntKind.u64.wrap (wrap64 ((t332.length : Int) + 1))))))) + 1)))))))) = some r := by rw [if_neg (show ¬ (false = true) by decide)] at H; exact H
     clear H
     have H := H1
     clear H1
     by_cases c21 : (IntKind.u64.wrap (wrap64 ((t332.length : Int) + 1))) = 0
     ·rw [if_pos c21] at H
      exact absurd H (by simp)
     ·rw [if_neg c21] at H
      have c21b0 : ((IntKind.u64.wrap (wrap64 ((t332.length : Int) + 1))) == 0) = false := beq_eq_false_iff_ne.mpr c21
      have c21b1 : ((IntKind.u64.wrap (wrap64 ((t332.length : Int) + 1))) != 0) = true := bne_iff_ne.mpr c21
      (first | rw [c21b0] | (simp only [i64_w, i32_w]; rw [c21b0]) | skip)
      by_cases c22 : (IntKind.u64.wrap (wrap64 ((wrap64 ((t332.length : Int) - (wrap64 (Int.tmod (IntKind.u64.wrap (a4_0)) (IntKind.u64.wrap (wrap64 ((t332.length : Int) + 1))))))) + 1))) = 0
      ·rw [if_pos c22] at H
       exact absurd H (by simp)
      ·rw [if_neg c22] at H
       have c22b0 : ((IntKind.u64.wrap (wrap64 ((wrap64 ((t332.length : Int) - (wrap64 (Int.tmod (IntKind.u64.wrap (a4_0)) (IntKind.u64.wrap (wrap64 ((t332.length : Int) + 1))))))) + 1))) == 0) = false := beq_eq_false_iff_ne.mpr c22
       have c22b1 : ((IntKind.u64.wrap (wrap64 ((wrap64 ((t332.length : Int) - (wrap64 (Int.tmod (IntKind.u64.wrap (a4_0)) (IntKind.u64.wrap (wrap64 ((t332.length : Int) + 1))))))) + 1))) != 0) = true := bne_iff_ne.mpr c22
       have H' := Aside0.mk H
       clear H
       have hcz23_0 : w19.cell? ⟨gb327, 0, none⟩ = some (.int .i64 a4_0) := (blk_cell BK327.out 0).trans rfl
       have hcz23_1 : w19.cell? ⟨gb327, 1, none⟩ = some (.int .i64 a4_1) := (blk_cell BK327.out 1).trans rfl
       have hfz23_0 := blk_frozen BK327.out 0
       have hfz23_1 := blk_frozen BK327.out 1
       obtain ⟨Ao24, co24, eo24⟩ := Kd.R_slice HO334.out
       subst eo24
       go_wp2
       go_meet
       case rel => exact ⟨_, (wrap64 (Int.tmod (IntKind.u64.wrap (a4_0)) (IntKind.u64.wrap (wrap64 ((t332.length : Int) + 1))))), (wrap64 (Int.tmod (IntKind.u64.wrap (a4_1)) (IntKind.u64.wrap (wrap64 ((wrap64 ((t332.length : Int) - (wrap64 (Int.tmod (IntKind.u64.wrap (a4_0)) (IntKind.u64.wrap (wrap64 ((t332.length : Int) + 1))))))) + 1))))), H', ⟨by first | omega | exact Nat.le_refl _⟩, ⟨by (with_reducible repeat (first | apply Kd.R_alloc | apply Kd.R_drewN | apply Kd.R_drew)); exact Kd.R_mono (Kd.R_far (p := ⟨gb327, 1, none⟩) (Kd.R_far (p := ⟨gb327, 0, none⟩) (Kd.R_types HO334.out BK327.out (by decide)) (fun _ hk => hk.2) (.int .i64 (wrap64 (Int.tmod (IntKind.u64.wrap (a4_0)) (IntKind.u64.wrap (wrap64 ((t332.length : Int) + 1))))))) (fun _ hk => hk.2) (.int .i64 (wrap64 (Int.tmod (IntKind.u64.wrap (a4_1)) (IntKind.u64.wrap (wrap64 ((wrap64 ((t332.length : Int) - (wrap64 (Int.tmod (IntKind.u64.wrap (a4_0)) (IntKind.u64.wrap (wrap64 ((t332.length : Int) + 1))))))) + 1))))))) (fun _ hk => trivial)⟩, ⟨by (with_reducible repeat (first | refine blk_drewN ?_ _ | refine blk_drew ?_ | refine blk_alloc ?_ _)); refine blk_put (cs := #[.int .i64 (wrap64 (Int.tmod (IntKind.u64.wrap (a4_0)) (IntKind.u64.wrap (wrap64 ((t332.length : Int) + 1))))), .int .i64 a4_1]) ?_ 1 _ rfl; (with_reducible repeat (first | refine blk_drewN ?_ _ | refine blk_drew ?_ | refine blk_alloc ?_ _)); refine blk_put (cs := #[.int .i64 a4_0, .int .i64 a4_1]) ?_ 0 _ rfl; (with_reducible repeat (first | refine blk_drewN ?_ _ | refine blk_drew ?_ | refine blk_alloc ?_ _)); exact BK327.out⟩, ⟨by repeat (first | (with_reducible first | exact HB.out | apply below_alloc | apply pw_below_drewN | apply below_drew1 | refine below_set ?_ GE327.out) | exact HB.out)⟩⟩
   case rest =>
    clear HC14
    (try clear c1); (try clear c2); (try clear p2); (try clear c3); (try clear c5); (try clear p6); (try clear c8); (try clear c9); (try clear c9b0); (try clear c9b1); (try clear c10); (try clear c11); (try clear c20); (try clear c21); (try clear c21b0); (try clear c21b1); (try clear c22); (try clear c22b0); (try clear c22b1); (try clear hcz23_0); (try clear hcz23_1); (try clear hfz23_0); (try clear hfz23_1)
    obtain ⟨kq, x328000_13, x328001_13, HA, HJ13, HO_13, BK327, HB⟩ := hcut
    cases kq with
    | zero => exact absurd HA.out (by simp [redpenlaw15_DecodeUnits.j0])
    | succ kj13 =>
     have H := HA.out
     clear HA
     simp only [redpenlaw15_DecodeUnits.j0] at H
     obtain ⟨y335, hy335⟩ : ∃ y_ : List Int, y_ = (([a0, Int.tmod a0 9] : List Int)) := ⟨_, rfl⟩
     replace H : (redpenlaw15_DecodeUnits.l0 kj13 a1 t332 y335 (y335.length : Int) 0 x328000_13 x328001_13) = some r := by first | (rw [hy335]; with_reducible exact H) | (have H2_ := (Option.bind_some _ _).symm.trans H; rw [hy335]; with_reducible exact H2_) | (have H2_ := (Option.bind_some _ _).symm.trans H; with_reducible exact H2_) | with_reducible exact H | (rw [hy335]; exact H) | exact H
     have Ny335 := Aside0.mk hy335
     clear hy335
     have H' := Aside0.mk H
     clear H
     go_wp2_with (first | ((with_reducible refine gate_dst (N := 60) rfl ?_); refine Kd.R_lit (Kd.int .u8) _ 30 ?hg (N := 60) ?hd (xs := ([a0, Int.tmod a0 9] : List Int)) (inner := [.int .u8 a0, .int .u8 (Int.tmod a0 9)]) (ok := fun _ => True) (okp := fun _ => True) ?hr ?hp (fun _ hk => hk) trivial (Below.refl _ _) (Nat.le_refl _) (by simp) ?_; (case hd => rfl); (case hg => rfl); (case hr => first | (go_simp; done) | (go_simp; rfl)); (case hp => exact (Reps.one (show Kd.M (Kd.int .u8) _ _ _ a0 [.int .u8 a0] from rfl) (Reps.one (show Kd.M (Kd.int .u8) _ _ _ (Int.tmod a0 9) [.int .u8 (Int.tmod a0 9)] from rfl) (Reps.none _ _)))); intro v336 w25 ho26 hb hg_ hnew_; clear hg_ hnew_; (first | rw [← Ny335.out] at ho26 | (simp only [Int.reduceToNat] at ho26; rw [← Ny335.out] at ho26)); have n0_ := Aside0.mk (Kd.R_below (by (with_reducible repeat (first | apply Kd.R_alloc | apply Kd.R_drewN | apply Kd.R_drew)); exact HO_13.out) hb); have n1_ := Aside0.mk (Kd.R_lower ho26 (below_size (by repeat (first | (with_reducible first | exact HB.out | apply below_alloc | apply pw_below_drewN | apply below_drew1 | refine below_set ?_ GE327.out) | exact HB.out)))); have n2_ := Aside0.mk (blk_below (g := gb327) (o := .cells #[.int .i64 x328000_13, .int .i64 x328001_13] 40 (0, 0)) (by (with_reducible repeat (first | refine blk_drewN ?_ _ | refine blk_drew ?_ | refine blk_alloc ?_ _)); exact BK327.out) hb); have n3_ := Aside0.mk (below_step (by repeat (first | (with_reducible first | exact HB.out | apply below_alloc | apply pw_below_drewN | apply below_drew1 | refine below_set ?_ GE327.out) | exact HB.out)) hb); clear HO_13; clear BK327; clear HB; have HO_13 := n0_; have HO337 := n1_; have BK327 := n2_; have HB := n3_; clear n0_ n1_ n2_ n3_; clear hb ho26; obtain ⟨Ao27, co27, eo27⟩ := Kd.R_slice HO337.out; subst eo27))
     go_loopg [62] kj13 (fun kq v62 w' => ∃ (x62_2 : Int), v62 = .int .i64 x62_2 ∧ Aside0 (redpenlaw15_DecodeUnits.l0 kq a1 t332 y335 (y335.length : Int) x62_2 x328000_13 x328001_13 = some r) ∧ Aside0 (kq ≤ kj13) ∧ Aside0 (Kd.R (Kd.int .u8) 5 w' w.heap.size (fun _ => True) v333 t332) ∧ Aside0 (Kd.R (Kd.int .u8) 30 w' w.heap.size (fun _ => True) (.slice Ao27 y335.length co27) y335) ∧ Aside0 (w'.heap[gb327]? = some (.cells #[.int .i64 x328000_13, .int .i64 x328001_13] 40 (0, 0))) ∧ Aside0 (Below w.heap.size w w'))
     case atStart => exact ⟨(0), (by first | rfl | (simp; done) | (simp [*]; done) | (simp [wrap64, wrap32]; done)), H', ⟨Nat.le_refl _⟩, ⟨by (with_reducible repeat (first | apply Kd.R_alloc | apply Kd.R_drewN | apply Kd.R_drew)); exact HO_13.out⟩, ⟨by (with_reducible repeat (first | apply Kd.R_alloc | apply Kd.R_drewN | apply Kd.R_drew)); exact HO337.out⟩, ⟨by (with_reducible repeat (first | refine blk_drewN ?_ _ | refine blk_drew ?_ | refine blk_alloc ?_ _)); exact BK327.out⟩, ⟨by repeat (first | (with_reducible first | exact HB.out | apply below_alloc | apply pw_below_drewN | apply below_drew1 | refine below_set ?_ GE327.out) | exact HB.out)⟩⟩
     case round =>
      clear H'
      (try clear c1); (try clear c2); (try clear p2); (try clear c3); (try clear c5); (try clear p6); (try clear c8); (try clear c9); (try clear c9b0); (try clear c9b1); (try clear c10); (try clear c11); (try clear c20); (try clear c21); (try clear c21b0); (try clear c21b1); (try clear c22); (try clear c22b0); (try clear c22b1); (try clear hcz23_0); (try clear hcz23_1); (try clear hfz23_0); (try clear hfz23_1); (try clear p2); (try clear p6)
      obtain ⟨x62_2, rfl, HA, HK2, HO_13, HO_60, BK327, HB⟩ := hrel
      cases gk with
      | zero => exact absurd HA.out (by simp [redpenlaw15_DecodeUnits.l0])
      | succ k2 =>
       have H := HA.out
       clear HA
       simp only [redpenlaw15_DecodeUnits.l0] at H
       by_cases c28 : x62_2 < (y335.length : Int)
       ·rw [if_pos c28] at H
        have c28b0 : decide (x62_2 < (y335.length : Int)) = true := decide_eq_true c28
        clear c28
        by_cases c29 : 0 ≤ x62_2
        ·rw [if_pos c29] at H
         have c29b0 : decide (0 ≤ x62_2) = true := decide_eq_true c29
         clear c29
         by_cases c30 : x62_2 < (y335.length : Int)
         ·rw [if_pos c30] at H
          have c30b0 : decide (x62_2 < (y335.length : Int)) = true := decide_eq_true c30
          clear c30
          obtain ⟨y339, hy339⟩ : ∃ y_ : List Int, y_ = (([a1, (1 + (Int.tmod a1 7)) % 256, 1, 5] : List Int)) := ⟨_, rfl⟩
          replace H : (redpenlaw15_DecodeUnits.l1 k2 a1 t332 (rd y335 x62_2) y335 (y335.length : Int) x62_2 y339 (y339.length : Int) 0 x328000_13 x328001_13) = some r := by first | (rw [hy339]; with_reducible exact H) | (have H2_ := (Option.bind_some _ _).symm.trans H; rw [hy339]; with_reducible exact H2_) | (have H2_ := (Option.bind_some _ _).symm.trans H; with_reducible exact H2_) | with_reducible exact H | (rw [hy339]; exact H) | exact H
          have Ny339 := Aside0.mk hy339
          clear hy339
          have H' := Aside0.mk H
          clear H
          have p338 : 0 ≤ (x62_2 : Int) := of_decide_eq_true (by first | (with_reducible assumption) | assumption)
          have q338 : x62_2 < (y335.length : Int) := of_decide_eq_true (by first | (with_reducible assumption) | assumption)
          obtain ⟨ad338, e338, hx338_0⟩ := Kd.at_int (Kd.R_reads' HO_60.out).2.2 x62_2 p338 q338
          cases e338
          replace p338 := eq_true p338
          replace q338 := eq_true q338
          go_wp2_with (first | ((with_reducible refine gate_dst (N := 70) rfl ?_); refine Kd.R_lit (Kd.int .u8) _ 38 ?hg (N := 70) ?hd (xs := ([a1, (1 + (Int.tmod a1 7)) % 256, 1, 5] : List Int)) (inner := [.int .u8 a1, .int .u8 ((1 + (Int.tmod a1 7)) % 256), .int .u8 1, .int .u8 5]) (ok := fun _ => True) (okp := fun _ => True) ?hr ?hp (fun _ hk => hk) trivial (Below.refl _ _) (Nat.le_refl _) (by simp) ?_; (case hd => rfl); (case hg => rfl); (case hr => first | (go_simp; done) | (go_simp; rfl)); (case hp => exact (Reps.one (show Kd.M (Kd.int .u8) _ _ _ a1 [.int .u8 a1] from rfl) (Reps.one (show Kd.M (Kd.int .u8) _ _ _ ((1 + (Int.tmod a1 7)) % 256) [.int .u8 ((1 + (Int.tmod a1 7)) % 256)] from rfl) (Reps.one (show Kd.M (Kd.int .u8) _ _ _ 1 [.int .u8 1] from rfl) (Reps.one (show Kd.M (Kd.int .u8) _ _ _ 5 [.int .u8 5] from rfl) (Reps.none _ _)))))); intro v340 w31 ho32 hb hg_ hnew_; clear hg_ hnew_; (first | rw [← Ny339.out] at ho32 | (simp only [Int.reduceToNat] at ho32; rw [← Ny339.out] at ho32)); have n0_ := Aside0.mk (Kd.R_below (by (with_reducible repeat (first | apply Kd.R_alloc | apply Kd.R_drewN | apply Kd.R_drew)); exact HO_13.out) hb); have n1_ := Aside0.mk (Kd.R_below (by (with_reducible repeat (first | apply Kd.R_alloc | apply Kd.R_drewN | apply Kd.R_drew)); exact HO_60.out) hb); have n2_ := Aside0.mk (Kd.R_lower ho32 (below_size (by repeat (first | (with_reducible first | exact HB.out | apply below_alloc | apply pw_below_drewN | apply below_drew1 | refine below_set ?_ GE327.out) | exact HB.out)))); have n3_ := Aside0.mk (blk_below (g := gb327) (o := .cells #[.int .i64 x328000_13, .int .i64 x328001_13] 40 (0, 0)) (by (with_reducible repeat (first | refine blk_drewN ?_ _ | refine blk_drew ?_ | refine blk_alloc ?_ _)); exact BK327.out) hb); have n4_ := Aside0.mk (below_step (by repeat (first | (with_reducible first | exact HB.out | apply below_alloc | apply pw_below_drewN | apply below_drew1 | refine below_set ?_ GE327.out) | exact HB.out)) hb); clear HO_13; clear HO_60; clear BK327; clear HB; have HO_13 := n0_; have HO_60 := n1_; have HO341 := n2_; have BK327 := n3_; have HB := n4_; clear n0_ n1_ n2_ n3_ n4_; clear hb ho32; obtain ⟨Ao33, co33, eo33⟩ := Kd.R_slice HO341.out; subst eo33))
          go_loopg [72] k2 (fun kq v72 w' => ∃ (x72_3 : Int), v72 = .int .i64 x72_3 ∧ Aside0 (redpenlaw15_DecodeUnits.l1 kq a1 t332 (rd y335 x62_2) y335 (y335.length : Int) x62_2 y339 (y339.length : Int) x72_3 x328000_13 x328001_13 = some r) ∧ Aside0 (kq ≤ k2) ∧ Aside0 (Kd.R (Kd.int .u8) 5 w' w.heap.size (fun _ => True) v333 t332) ∧ Aside0 (Kd.R (Kd.int .u8) 30 w' w.heap.size (fun _ => True) (.slice (some ad338) y335.length co27) y335) ∧ Aside0 (Kd.R (Kd.int .u8) 38 w' w.heap.size (fun _ => True) (.slice Ao33 y339.length co33) y339) ∧ Aside0 (w'.heap[gb327]? = some (.cells #[.int .i64 x328000_13, .int .i64 x328001_13] 40 (0, 0))) ∧ Aside0 (Below w.heap.size w w'))
          case atStart => exact ⟨(0), (by first | rfl | (simp; done) | (simp [*]; done) | (simp [wrap64, wrap32]; done)), H', ⟨Nat.le_refl _⟩, ⟨by (with_reducible repeat (first | apply Kd.R_alloc | apply Kd.R_drewN | apply Kd.R_drew)); exact HO_13.out⟩, ⟨by (with_reducible repeat (first | apply Kd.R_alloc | apply Kd.R_drewN | apply Kd.R_drew)); exact HO_60.out⟩, ⟨by (with_reducible repeat (first | apply Kd.R_alloc | apply Kd.R_drewN | apply Kd.R_drew)); exact HO341.out⟩, ⟨by (with_reducible repeat (first | refine blk_drewN ?_ _ | refine blk_drew ?_ | refine blk_alloc ?_ _)); exact BK327.out⟩, ⟨by repeat (first | (with_reducible first | exact HB.out | apply below_alloc | apply pw_below_drewN | apply below_drew1 | refine below_set ?_ GE327.out) | exact HB.out)⟩⟩
          case round =>
           clear H'
           (try clear c1); (try clear c2); (try clear p2); (try clear c3); (try clear p3); (try clear q3); (try clear hx3); (try clear c5); (try clear p6); (try clear c8); (try clear c9); (try clear c9b0); (try clear c9b1); (try clear c10); (try clear c11); (try clear c20); (try clear c21); (try clear c21b0); (try clear c21b1); (try clear c22); (try clear c22b0); (try clear c22b1); (try clear c28); (try clear c28b0); (try clear c29); (try clear c29b0); (try clear c30); (try clear c30b0); (try clear p33); (try clear q33); (try clear hx33); (try clear hcz23_0); (try clear hcz23_1); (try clear hfz23_0); (try clear hfz23_1); (try clear hx338_0); (try clear p2); (try clear p338); (try clear p6); (try clear q338)
           obtain ⟨x72_3, rfl, HA, HK3, HO_13, HO_60, HO_70, BK327, HB⟩ := hrel
           cases gk with
           | zero => exact absurd HA.out (by simp [redpenlaw15_DecodeUnits.l1])
           | succ k3 =>
            have H := HA.out
            clear HA
            simp only [redpenlaw15_DecodeUnits.l1] at H
            by_cases c34 : x72_3 < (y339.length : Int)
            ·rw [if_pos c34] at H
             have c34b0 : decide (x72_3 < (y339.length : Int)) = true := decide_eq_true c34
             clear c34
             by_cases c35 : 0 ≤ x72_3
             ·rw [if_pos c35] at H
              have c35b0 : decide (0 ≤ x72_3) = true := decide_eq_true c35
              clear c35
              by_cases c36 : x72_3 < (y339.length : Int)
              ·rw [if_pos c36] at H
               have c36b0 : decide (x72_3 < (y339.length : Int)) = true := decide_eq_true c36
               clear c36
               replace H := Option.bind_eq_some_iff.mp H
               obtain ⟨⟨t344, t347⟩, A370, H⟩ := H
               replace H : ((redpenref15_Units.f k3 (rd y335 x62_2) t332 (rd y339 x72_3) x328000_13 x328001_13).bind fun bt348 => (if ((t347 == 0) != bt348.2) = true then (some false) else (if bt348.2 = true then ((redpenref01_SameUnits.f k3 t344 bt348.1).bind fun t352 => (if t352 = true then ((decode_Text.f k3 t344).bind fun t353 => ((redpenref15_Text.f k3 bt348.1).bind fun t354 => (if t353.toList = t354.toList then ((decode_Literal.f k3 t332 t344).bind fun t355 => ((redpenref15_Literal.f k3 t332 t344).bind fun t356 => (if (t355 != t356) = true then (some false) else (redpenlaw15_DecodeUnits.l1 k3 a1 t332 (rd y335 x62_2) y335 (y335.length : Int) x62_2 y339 (y339.length : Int) (wrap64 (x72_3 + 1)) x328000_13 x328001_13)))) else (some false)))) else (some false))) else (if t347 = 2 then ((redpenref01_SameUnits.f k3 t344 bt348.1).bind fun t357 => (if t357 = true then ((decode_Text.f k3 t344).bind fun t358 => ((redpenref15_Text.f k3 bt348.1).bind fun t359 => (if t358.toList = t359.toList then ((decode_Literal.f k3 t332 t344).bind fun t360 => ((redpenref15_Literal.f k3 t332 t344).bind fun t361 => (if (t360 != t361) = true then (some false) else (redpenlaw15_DecodeUnits.l1 k3 a1 t332 (rd y335 x62_2) y335 (y335.length : Int) x62_2 y339 (y339.length : Int) (wrap64 (x72_3 + 1)) x328000_13 x328001_13)))) else (some false)))) else (some false))) else (some false))))) = some r := H
               have A37 := Aside0.mk A370
               clear A370
               replace H := Option.bind_eq_some_iff.mp H
               obtain ⟨⟨t348, t351⟩, A380, H⟩ := H
               replace H : (if ((t347 == 0) != t351) = true then (some false) else (if t351 = true then ((redpenref01_SameUnits.f k3 t344 t348).bind fun t352 => (if t352 = true then ((decode_Text.f k3 t344).bind fun t353 => ((redpenref15_Text.f k3 t348).bind fun t354 => (if t353.toList = t354.toList then ((decode_Literal.f k3 t332 t344).bind fun t355 => ((redpenref15_Literal.f k3 t332 t344).bind fun t356 => (if (t355 != t356) = true then (some false) else (redpenlaw15_DecodeUnits.l1 k3 a1 t332 (rd y335 x62_2) y335 (y335.length : Int) x62_2 y339 (y339.length : Int) (wrap64 (x72_3 + 1)) x328000_13 x328001_13)))) else (some false)))) else (some false))) else (if t347 = 2 then ((redpenref01_SameUnits.f k3 t344 t348).bind fun t357 => (if t357 = true then ((decode_Text.f k3 t344).bind fun t358 => ((redpenref15_Text.f k3 t348).bind fun t359 => (if t358.toList = t359.toList then ((decode_Literal.f k3 t332 t344).bind fun t360 => ((redpenref15_Literal.f k3 t332 t344).bind fun t361 => (if (t360 != t361) = true then (some false) else (redpenlaw15_DecodeUnits.l1 k3 a1 t332 (rd y335 x62_2) y335 (y335.length : Int) x62_2 y339 (y339.length : Int) (wrap64 (x72_3 + 1)) x328000_13 x328001_13)))) else (some false)))) else (some false))) else (some false)))) = some r := H
               have A38 := Aside0.mk A380
               clear A380
               by_cases c39 : ((t347 == 0) != t351) = true
               ·rw [if_pos c39] at H
                have c39b0 : ((t347 == 0) != t351) = true := c39
                (try (have c39b1 : decide ((t347 == 0) = t351) = false := by simpa using c39))
                (try (have c39b2 : ((t347 == 0) == t351) = false := by simpa using c39))
                (try (have c39b3 : ¬ ((t347 == 0) = t351) := by simpa using c39))
                clear c39
                have hf_ := Option.some.inj H
                rw [hr_] at hf_
                cases hf_
               ·rw [if_neg c39] at H
                have c39b0 : ((t347 == 0) != t351) = false := by simpa using c39
                (try (have c39b1 : decide ((t347 == 0) = t351) = true := by simpa using c39))
                (try (have c39b2 : ((t347 == 0) == t351) = true := by simpa using c39))
                clear c39
                by_cases c40 : t351 = true
                ·subst c40
                 have H1 : ((redpenref01_SameUnits.f k3 t344 t348).bind fun t352 => (if t352 = true then ((decode_Text.f k3 t344).bind fun t353 => ((redpenref15_Text.f k3 t348).bind fun t354 => (if t353.toList = t354.toList then ((decode_Literal.f k3 t332 t344).bind fun t355 => ((redpenref15_Literal.f k3 t332 t344).bind fun t356 => (if (t355 != t356) = true then (some false) else (redpenlaw15_DecodeUnits.l1 k3 a1 t332 (rd y335 x62_2) y335 (y335.length : Int) x62_2 y339 (y339.length : Int) (wrap64 (x72_3 + 1)) x328000_13 x328001_13)))) else (some false)))) else (some false))) = some r := by rw [if_pos rfl] at H; exact H
                 clear H
                 have H := H1
                 clear H1
                 replace H := Option.bind_eq_some_iff.mp H
                 obtain ⟨t352, A410, H⟩ := H
                 replace H : (if t352 = true then ((decode_Text.f k3 t344).bind fun t353 => ((redpenref15_Text.f k3 t348).bind fun t354 => (if t353.toList = t354.toList then ((decode_Literal.f k3 t332 t344).bind fun t355 => ((redpenref15_Literal.f k3 t332 t344).bind fun t356 => (if (t355 != t356) = true then (some false) else (redpenlaw15_DecodeUnits.l1 k3 a1 t332 (rd y335 x62_2) y335 (y335.length : Int) x62_2 y339 (y339.length : Int) (wrap64 (x72_3 + 1)) x328000_13 x328001_13)))) else (some false)))) else (some false)) = some r := H
                 have A41 := Aside0.mk A410
                 clear A410
                 by_cases c42 : t352 = true
                 ·subst c42
                  have H1 : ((decode_Text.f k3 t344).bind fun t353 => ((redpenref15_Text.f k3 t348).bind fun t354 => (if t353.toList = t354.toList then ((decode_Literal.f k3 t332 t344).bind fun t355 => ((redpenref15_Literal.f k3 t332 t344).bind fun t356 => (if (t355 != t356) = true then (some false) else (redpenlaw15_DecodeUnits.l1 k3 a1 t332 (rd y335 x62_2) y335 (y335.length : Int) x62_2 y339 (y339.length : Int) (wrap64 (x72_3 + 1)) x328000_13 x328001_13)))) else (some false)))) = some r := by rw [if_pos rfl] at H; exact H
                  clear H
                  have H := H1
                  clear H1
                  replace H := Option.bind_eq_some_iff.mp H
                  obtain ⟨t353, A430, H⟩ := H
                  replace H : ((redpenref15_Text.f k3 t348).bind fun t354 => (if t353.toList = t354.toList then ((decode_Literal.f k3 t332 t344).bind fun t355 => ((redpenref15_Literal.f k3 t332 t344).bind fun t356 => (if (t355 != t356) = true then (some false) else (redpenlaw15_DecodeUnits.l1 k3 a1 t332 (rd y335 x62_2) y335 (y335.length : Int) x62_2 y339 (y339.length : Int) (wrap64 (x72_3 + 1)) x328000_13 x328001_13)))) else (some false))) = some r := H
                  have A43 := Aside0.mk A430
                  clear A430
                  replace H := Option.bind_eq_some_iff.mp H
                  obtain ⟨t354, A440, H⟩ := H
                  replace H : (if t353.toList = t354.toList then ((decode_Literal.f k3 t332 t344).bind fun t355 => ((redpenref15_Literal.f k3 t332 t344).bind fun t356 => (if (t355 != t356) = true then (some false) else (redpenlaw15_DecodeUnits.l1 k3 a1 t332 (rd y335 x62_2) y335 (y335.length : Int) x62_2 y339 (y339.length : Int) (wrap64 (x72_3 + 1)) x328000_13 x328001_13)))) else (some false)) = some r := H
                  have A44 := Aside0.mk A440
                  clear A440
                  by_cases c45 : t353.toList = t354.toList
                  ·rw [if_pos c45] at H
                   have c45b0 : (t353.toList == t354.toList) = true := beq_iff_eq.mpr c45
                   have c45b1 : (t353.toList != t354.toList) = false := bne_eq_false_iff_eq.mpr c45
                   clear c45
                   replace H := Option.bind_eq_some_iff.mp H
                   obtain ⟨t355, A460, H⟩ := H
                   replace H : ((redpenref15_Literal.f k3 t332 t344).bind fun t356 => (if (t355 != t356) = true then (some false) else (redpenlaw15_DecodeUnits.l1 k3 a1 t332 (rd y335 x62_2) y335 (y335.length : Int) x62_2 y339 (y339.length : Int) (wrap64 (x72_3 + 1)) x328000_13 x328001_13))) = some r := H
                   have A46 := Aside0.mk A460
                   clear A460
                   replace H := Option.bind_eq_some_iff.mp H
                   obtain ⟨t356, A470, H⟩ := H
                   replace H : (if (t355 != t356) = true then (some false) else (redpenlaw15_DecodeUnits.l1 k3 a1 t332 (rd y335 x62_2) y335 (y335.length : Int) x62_2 y339 (y339.length : Int) (wrap64 (x72_3 + 1)) x328000_13 x328001_13)) = some r := H
                   have A47 := Aside0.mk A470
                   clear A470
                   by_cases c48 : (t355 != t356) = true
                   ·rw [if_pos c48] at H
                    have c48b0 : (t355 != t356) = true := c48
                    (try (have c48b1 : decide (t355 = t356) = false := by simpa using c48))
                    (try (have c48b2 : (t355 == t356) = false := by simpa using c48))
                    (try (have c48b3 : ¬ (t355 = t356) := by simpa using c48))
                    clear c48
                    have hf_ := Option.some.inj H
                    rw [hr_] at hf_
                    cases hf_
                   ·rw [if_neg c48] at H
                    have c48b0 : (t355 != t356) = false := by simpa using c48
                    (try (have c48b1 : decide (t355 = t356) = true := by simpa using c48))
                    (try (have c48b2 : (t355 == t356) = true := by simpa using c48))
                    clear c48
                    have H' := Aside0.mk H
                    clear H
                    have p342 : 0 ≤ (x72_3 : Int) := of_decide_eq_true (by first | (with_reducible assumption) | assumption)
                    have q342 : x72_3 < (y339.length : Int) := of_decide_eq_true (by first | (with_reducible assumption) | assumption)
                    obtain ⟨ad342, e342, hx342_0⟩ := Kd.at_int (Kd.R_reads' HO_70.out).2.2 x72_3 p342 q342
                    cases e342
                    replace p342 := eq_true p342
                    replace q342 := eq_true q342
                    have hcz49_0 : wr.cell? ⟨gb327, 0, none⟩ = some (.int .i64 x328000_13) := (blk_cell BK327.out 0).trans rfl
                    have hcz49_1 : wr.cell? ⟨gb327, 1, none⟩ = some (.int .i64 x328001_13) := (blk_cell BK327.out 1).trans rfl
                    have hfz49_0 := blk_frozen BK327.out 0
                    have hfz49_1 := blk_frozen BK327.out 1
                    go_wp2_with (first | ((with_reducible refine gate_dst (N := 18) rfl ?_); refine box_event ?hg (N := 18) ?hd (cs := #[.int .u8 0, .int .i64 0, .int .i64 0]) (t := 42) ?hr ?_; (case hd => rfl); (case hg => rfl); (case hr => first | (go_simp; done) | (go_simp; rfl)); intro gb343 hg w50 hbox hb; have n0_ := Aside0.mk (Kd.R_below (by (with_reducible repeat (first | apply Kd.R_alloc | apply Kd.R_drewN | apply Kd.R_drew)); exact HO_13.out) hb); have n1_ := Aside0.mk (Kd.R_below (by (with_reducible repeat (first | apply Kd.R_alloc | apply Kd.R_drewN | apply Kd.R_drew)); exact HO_60.out) hb); have n2_ := Aside0.mk (Kd.R_below (by (with_reducible repeat (first | apply Kd.R_alloc | apply Kd.R_drewN | apply Kd.R_drew)); exact HO_70.out) hb); have n3_ := Aside0.mk (blk_below (g := gb327) (o := .cells #[.int .i64 x328000_13, .int .i64 x328001_13] 40 (0, 0)) (by (with_reducible repeat (first | refine blk_drewN ?_ _ | refine blk_drew ?_ | refine blk_alloc ?_ _)); exact BK327.out) hb); have n4_ := Aside0.mk (below_step (by repeat (first | (with_reducible first | exact HB.out | apply below_alloc | apply pw_below_drewN | apply below_drew1 | refine below_set ?_ GE327.out) | exact HB.out)) hb); have n5_ := Aside0.mk (hbox); have n6_ := Aside0.mk ((by rw [hg]; exact (below_size (by repeat (first | (with_reducible first | exact HB.out | apply below_alloc | apply pw_below_drewN | apply below_drew1 | refine below_set ?_ GE327.out) | exact HB.out))) : w.heap.size ≤ gb343)); have n7_ := Aside0.mk ((by rw [hg]; exact (below_size (by repeat (first | (with_reducible first | exact HB.out | apply below_alloc | apply pw_below_drewN | apply below_drew1 | refine below_set ?_ GE327.out) | exact HB.out))) : w.heap.size ≤ gb343)); have n8_ := Aside0.mk ((by rw [hg]; exact Nat.ne_of_lt (blk_lt (g := gb327) (o := .cells #[.int .i64 x328000_13, .int .i64 x328001_13] 40 (0, 0)) (by (with_reducible repeat (first | refine blk_drewN ?_ _ | refine blk_drew ?_ | refine blk_alloc ?_ _)); exact BK327.out)) : gb327 ≠ gb343)); have n9_ := Aside0.mk ((by rw [hg]; exact Nat.ne_of_gt (blk_lt (g := gb327) (o := .cells #[.int .i64 x328000_13, .int .i64 x328001_13] 40 (0, 0)) (by (with_reducible repeat (first | refine blk_drewN ?_ _ | refine blk_drew ?_ | refine blk_alloc ?_ _)); exact BK327.out)) : gb343 ≠ gb327)); clear HO_13; clear HO_60; clear HO_70; clear BK327; clear HB; have HO_13 := n0_; have HO_60 := n1_; have HO_70 := n2_; have BK327 := n3_; have HB := n4_; have BK343 := n5_; have GW343 := n6_; have GE343 := n7_; have NB327_343 := n8_; have NB343_327 := n9_; clear n0_ n1_ n2_ n3_ n4_ n5_ n6_ n7_ n8_ n9_; clear hb hbox hg; have hnb51 := NB343_327.out; have hnc51 := NB327_343.out; have hcz52_0 : w50.cell? ⟨gb343, 0, none⟩ = some (.int .u8 0) := (blk_cell BK343.out 0).trans rfl; have hcz52_1 : w50.cell? ⟨gb343, 1, none⟩ = some (.int .i64 0) := (blk_cell BK343.out 1).trans rfl; have hcz52_2 : w50.cell? ⟨gb343, 2, none⟩ = some (.int .i64 0) := (blk_cell BK343.out 2).trans rfl; have hfz52_0 := blk_frozen BK343.out 0; have hfz52_1 := blk_frozen BK343.out 1; have hfz52_2 := blk_frozen BK343.out 2; obtain ⟨Ao53, co53, eo53⟩ := Kd.R_slice HO_13.out; subst eo53) | ((with_reducible refine gate_callee (f := 16) rfl ?_); refine goesL_ (some 83) rfl rfl Tryd.func16 (by kernel_rfl) rfl #[.int .u8 (rd y335 x62_2), .slice Ao53 t332.length co53, .agg #[.int .u8 (rd y339 x72_3), .int .i64 x328000_13, .int .i64 x328001_13]] rfl (by (try simp only [List.map_toArray, List.map_cons, List.map_nil]); first | done | rfl | (simp only [List.length_drop, List.length_take]; rfl)) ?_; (with_reducible refine (decode_Units.calls k3 (rd y335 x62_2) _ _ t332 (rd y339 x72_3) x328000_13 x328001_13 t344 t347 _ ?side1 ?side2 A37.out ?sideL).mono ?_); (case sideL => first | exact HL.out | exact HL.out.below HB.out | exact HL.out.below (by repeat (first | (with_reducible first | exact HB.out | apply below_alloc | apply pw_below_drewN | apply below_drew1 | refine below_set ?_ (Aside0.out (by assumption))) | exact HB.out))); (case side1 => refine (Kd.R_reads' (e := 5) (base := w.heap.size) (ok := fun k_ => True) (n := t332.length) (c := co53) ?_).2.2; exact (by (with_reducible repeat (first | apply Kd.R_alloc | apply Kd.R_drewN | apply Kd.R_drew)); exact (Kd.R_mono (Kd.R_far (p := ⟨gb343, 2, none⟩) (Kd.R_far (p := ⟨gb343, 1, none⟩) (Kd.R_far (p := ⟨gb343, 0, none⟩) (Kd.R_types HO_13.out BK343.out (by decide)) (fun _ hk => hk.2) (.int .u8 (rd y339 x72_3))) (fun _ hk => hk.2) (.int .i64 x328000_13)) (fun _ hk => hk.2) (.int .i64 x328001_13)) (fun _ h_ => h_.1)))); (case side2 => exact (Kd.R_reads' HO_13.out).2.1); rintro e w54 ⟨v345, rfl, ho0, hb⟩; refine ⟨_, rfl, ?_⟩; have n0_ := Aside0.mk (Kd.R_below (by (with_reducible repeat (first | apply Kd.R_alloc | apply Kd.R_drewN | apply Kd.R_drew)); exact (Kd.R_mono (Kd.R_far (p := ⟨gb343, 2, none⟩) (Kd.R_far (p := ⟨gb343, 1, none⟩) (Kd.R_far (p := ⟨gb343, 0, none⟩) (Kd.R_types HO_13.out BK343.out (by decide)) (fun _ hk => hk.2) (.int .u8 (rd y339 x72_3))) (fun _ hk => hk.2) (.int .i64 x328000_13)) (fun _ hk => hk.2) (.int .i64 x328001_13)) (fun _ h_ => h_.1))) hb); have n1_ := Aside0.mk (Kd.R_below (by (with_reducible repeat (first | apply Kd.R_alloc | apply Kd.R_drewN | apply Kd.R_drew)); exact (Kd.R_mono (Kd.R_far (p := ⟨gb343, 2, none⟩) (Kd.R_far (p := ⟨gb343, 1, none⟩) (Kd.R_far (p := ⟨gb343, 0, none⟩) (Kd.R_types HO_60.out BK343.out (by decide)) (fun _ hk => hk.2) (.int .u8 (rd y339 x72_3))) (fun _ hk => hk.2) (.int .i64 x328000_13)) (fun _ hk => hk.2) (.int .i64 x328001_13)) (fun _ h_ => h_.1))) hb); have n2_ := Aside0.mk (Kd.R_below (by (with_reducible repeat (first | apply Kd.R_alloc | apply Kd.R_drewN | apply Kd.R_drew)); exact (Kd.R_mono (Kd.R_far (p := ⟨gb343, 2, none⟩) (Kd.R_far (p := ⟨gb343, 1, none⟩) (Kd.R_far (p := ⟨gb343, 0, none⟩) (Kd.R_types HO_70.out BK343.out (by decide)) (fun _ hk => hk.2) (.int .u8 (rd y339 x72_3))) (fun _ hk => hk.2) (.int .i64 x328000_13)) (fun _ hk => hk.2) (.int .i64 x328001_13)) (fun _ h_ => h_.1))) hb); have n3_ := Aside0.mk (Kd.R_lower ho0 (below_size (by repeat (first | (with_reducible first | exact HB.out | apply below_alloc | apply pw_below_drewN | apply below_drew1 | refine below_set ?_ GE327.out | refine below_set ?_ GE343.out) | exact HB.out)))); have n4_ := Aside0.mk (blk_below (g := gb327) (o := .cells #[.int .i64 x328000_13, .int .i64 x328001_13] 40 (0, 0)) (by (with_reducible repeat (first | refine blk_drewN ?_ _ | refine blk_drew ?_ | refine blk_alloc ?_ _)); refine blk_far ?_ NB327_343.out _; (with_reducible repeat (first | refine blk_drewN ?_ _ | refine blk_drew ?_ | refine blk_alloc ?_ _)); refine blk_far ?_ NB327_343.out _; (with_reducible repeat (first | refine blk_drewN ?_ _ | refine blk_drew ?_ | refine blk_alloc ?_ _)); refine blk_far ?_ NB327_343.out _; (with_reducible repeat (first | refine blk_drewN ?_ _ | refine blk_drew ?_ | refine blk_alloc ?_ _)); exact BK327.out) hb); have n5_ := Aside0.mk (blk_below (g := gb343) (o := .cells #[.int .u8 (rd y339 x72_3), .int .i64 x328000_13, .int .i64 x328001_13] 42 (0, 0)) (by (with_reducible repeat (first | refine blk_drewN ?_ _ | refine blk_drew ?_ | refine blk_alloc ?_ _)); refine blk_put (cs := #[.int .u8 (rd y339 x72_3), .int .i64 x328000_13, .int .i64 0]) ?_ 2 _ rfl; (with_reducible repeat (first | refine blk_drewN ?_ _ | refine blk_drew ?_ | refine blk_alloc ?_ _)); refine blk_put (cs := #[.int .u8 (rd y339 x72_3), .int .i64 0, .int .i64 0]) ?_ 1 _ rfl; (with_reducible repeat (first | refine blk_drewN ?_ _ | refine blk_drew ?_ | refine blk_alloc ?_ _)); refine blk_put (cs := #[.int .u8 0, .int .i64 0, .int .i64 0]) ?_ 0 _ rfl; (with_reducible repeat (first | refine blk_drewN ?_ _ | refine blk_drew ?_ | refine blk_alloc ?_ _)); exact BK343.out) hb); have n6_ := Aside0.mk (below_step (by repeat (first | (with_reducible first | exact HB.out | apply below_alloc | apply pw_below_drewN | apply below_drew1 | refine below_set ?_ GE327.out | refine below_set ?_ GE343.out) | exact HB.out)) hb); clear HO_13; clear HO_60; clear HO_70; clear BK327; clear BK343; clear HB; have HO_13 := n0_; have HO_60 := n1_; have HO_70 := n2_; have HO346 := n3_; have BK327 := n4_; have BK343 := n5_; have HB := n6_; clear n0_ n1_ n2_ n3_ n4_ n5_ n6_; (try clear hb); (try clear hb2); (try clear hk); (try clear hi); (try clear ho0); have hcz55_0 : w54.cell? ⟨gb343, 0, none⟩ = some (.int .u8 (rd y339 x72_3)) := (blk_cell BK343.out 0).trans rfl; have hcz55_1 : w54.cell? ⟨gb343, 1, none⟩ = some (.int .i64 x328000_13) := (blk_cell BK343.out 1).trans rfl; have hcz55_2 : w54.cell? ⟨gb343, 2, none⟩ = some (.int .i64 x328001_13) := (blk_cell BK343.out 2).trans rfl; have hfz55_0 := blk_frozen BK343.out 0; have hfz55_1 := blk_frozen BK343.out 1; have hfz55_2 := blk_frozen BK343.out 2) | ((with_reducible refine gate_callee (f := 20) rfl ?_); refine goesL_ (some 90) rfl rfl Tryd.func20 (by kernel_rfl) rfl #[.int .u8 (rd y335 x62_2), .slice Ao53 t332.length co53, .agg #[.int .u8 (rd y339 x72_3), .int .i64 x328000_13, .int .i64 x328001_13]] rfl (by (try simp only [List.map_toArray, List.map_cons, List.map_nil]); first | done | rfl | (simp only [List.length_drop, List.length_take]; rfl)) ?_; (with_reducible refine (redpenref15_Units.calls k3 (rd y335 x62_2) _ _ t332 (rd y339 x72_3) x328000_13 x328001_13 t348 true _ ?side1 ?side2 A38.out).mono ?_); (case side1 => repeat (first | exact (Kd.R_reads' HO_13.out).2.2 | (with_reducible refine Kd.C_alloc ?_ _) | (with_reducible refine Kd.C_drewN ?_ _) | (with_reducible refine Kd.C_drew ?_))); (case side2 => exact (Kd.R_reads' HO_13.out).2.1); rintro e w56 ⟨v349, rfl, ho0, hb⟩; refine ⟨_, rfl, ?_⟩; have n0_ := Aside0.mk (Kd.R_below (by (with_reducible repeat (first | apply Kd.R_alloc | apply Kd.R_drewN | apply Kd.R_drew)); exact HO_13.out) hb); have n1_ := Aside0.mk (Kd.R_below (by (with_reducible repeat (first | apply Kd.R_alloc | apply Kd.R_drewN | apply Kd.R_drew)); exact HO_60.out) hb); have n2_ := Aside0.mk (Kd.R_below (by (with_reducible repeat (first | apply Kd.R_alloc | apply Kd.R_drewN | apply Kd.R_drew)); exact HO_70.out) hb); have n3_ := Aside0.mk (Kd.R_elder' (by (with_reducible repeat (first | apply Kd.R_alloc | apply Kd.R_drewN | apply Kd.R_drew)); exact HO346.out) (Kd.R_base ho0) hb); have n4_ := Aside0.mk (Kd.R_lower (Kd.R_new' ho0 (Kd.R_lt (by (with_reducible repeat (first | apply Kd.R_alloc | apply Kd.R_drewN | apply Kd.R_drew)); exact HO346.out))) (below_size (by repeat (first | (with_reducible first | exact HB.out | apply below_alloc | apply pw_below_drewN | apply below_drew1 | refine below_set ?_ GE327.out | refine below_set ?_ GE343.out) | exact HB.out)))); have n5_ := Aside0.mk (blk_below (g := gb327) (o := .cells #[.int .i64 x328000_13, .int .i64 x328001_13] 40 (0, 0)) (by (with_reducible repeat (first | refine blk_drewN ?_ _ | refine blk_drew ?_ | refine blk_alloc ?_ _)); exact BK327.out) hb); have n6_ := Aside0.mk (blk_below (g := gb343) (o := .cells #[.int .u8 (rd y339 x72_3), .int .i64 x328000_13, .int .i64 x328001_13] 42 (0, 0)) (by (with_reducible repeat (first | refine blk_drewN ?_ _ | refine blk_drew ?_ | refine blk_alloc ?_ _)); exact BK343.out) hb); have n7_ := Aside0.mk (below_step (by repeat (first | (with_reducible first | exact HB.out | apply below_alloc | apply pw_below_drewN | apply below_drew1 | refine below_set ?_ GE327.out | refine below_set ?_ GE343.out) | exact HB.out)) hb); clear HO_13; clear HO_60; clear HO_70; clear HO346; clear BK327; clear BK343; clear HB; have HO_13 := n0_; have HO_60 := n1_; have HO_70 := n2_; have HO346 := n3_; have HO350 := n4_; have BK327 := n5_; have BK343 := n6_; have HB := n7_; clear n0_ n1_ n2_ n3_ n4_ n5_ n6_ n7_; (try clear hb); (try clear hb2); (try clear hk); (try clear hi); (try clear ho0); obtain ⟨Ao57, co57, eo57⟩ := Kd.R_slice HO346.out; subst eo57; obtain ⟨Ao58, co58, eo58⟩ := Kd.R_slice HO350.out; subst eo58) | (go_at_call 18; (with_reducible refine (redpenref01_SameUnits.calls k3 _ _ t344 _ _ t348 true _ ?side1 ?side2 ?side3 ?side4 A41.out).mono ?_); (case side1 => repeat (first | exact (Kd.R_reads' HO346.out).2.2 | (with_reducible refine Kd.C_alloc ?_ _) | (with_reducible refine Kd.C_drewN ?_ _) | (with_reducible refine Kd.C_drew ?_))); (case side2 => exact (Kd.R_reads' HO346.out).2.1); (case side3 => repeat (first | exact (Kd.R_reads' HO350.out).2.2 | (with_reducible refine Kd.C_alloc ?_ _) | (with_reducible refine Kd.C_drewN ?_ _) | (with_reducible refine Kd.C_drew ?_))); (case side4 => exact (Kd.R_reads' HO350.out).2.1); rintro e w' ⟨rfl, ⟨nd, rfl⟩⟩) | (go_at_call 21; (with_reducible refine (decode_Text.calls k3 _ _ t344 t353 _ ?side1 ?side2 A43.out).mono ?_); (case side1 => repeat (first | exact (Kd.R_reads' HO346.out).2.2 | (with_reducible refine Kd.C_alloc ?_ _) | (with_reducible refine Kd.C_drewN ?_ _) | (with_reducible refine Kd.C_drew ?_))); (case side2 => exact (Kd.R_reads' HO346.out).2.1); rintro e w59 ⟨rfl, hb⟩; have n0_ := Aside0.mk (Kd.R_below (by (with_reducible repeat (first | apply Kd.R_alloc | apply Kd.R_drewN | apply Kd.R_drew)); exact HO_13.out) hb); have n1_ := Aside0.mk (Kd.R_below (by (with_reducible repeat (first | apply Kd.R_alloc | apply Kd.R_drewN | apply Kd.R_drew)); exact HO_60.out) hb); have n2_ := Aside0.mk (Kd.R_below (by (with_reducible repeat (first | apply Kd.R_alloc | apply Kd.R_drewN | apply Kd.R_drew)); exact HO_70.out) hb); have n3_ := Aside0.mk (Kd.R_below (by (with_reducible repeat (first | apply Kd.R_alloc | apply Kd.R_drewN | apply Kd.R_drew)); exact HO346.out) hb); have n4_ := Aside0.mk (Kd.R_below (by (with_reducible repeat (first | apply Kd.R_alloc | apply Kd.R_drewN | apply Kd.R_drew)); exact HO350.out) hb); have n5_ := Aside0.mk (blk_below (g := gb327) (o := .cells #[.int .i64 x328000_13, .int .i64 x328001_13] 40 (0, 0)) (by (with_reducible repeat (first | refine blk_drewN ?_ _ | refine blk_drew ?_ | refine blk_alloc ?_ _)); exact BK327.out) hb); have n6_ := Aside0.mk (blk_below (g := gb343) (o := .cells #[.int .u8 (rd y339 x72_3), .int .i64 x328000_13, .int .i64 x328001_13] 42 (0, 0)) (by (with_reducible repeat (first | refine blk_drewN ?_ _ | refine blk_drew ?_ | refine blk_alloc ?_ _)); exact BK343.out) hb); have n7_ := Aside0.mk (below_step (by repeat (first | (with_reducible first | exact HB.out | apply below_alloc | apply pw_below_drewN | apply below_drew1 | refine below_set ?_ GE327.out | refine below_set ?_ GE343.out) | exact HB.out)) hb); clear HO_13; clear HO_60; clear HO_70; clear HO346; clear HO350; clear BK327; clear BK343; clear HB; have HO_13 := n0_; have HO_60 := n1_; have HO_70 := n2_; have HO346 := n3_; have HO350 := n4_; have BK327 := n5_; have BK343 := n6_; have HB := n7_; clear n0_ n1_ n2_ n3_ n4_ n5_ n6_ n7_; (try clear hb); (try clear hb2); (try clear hk); (try clear hi)) | (go_at_call 22; (with_reducible refine (redpenref15_Text.calls k3 _ _ t348 t354 _ ?side1 ?side2 A44.out).mono ?_); (case side1 => repeat (first | exact (Kd.R_reads' HO350.out).2.2 | (with_reducible refine Kd.C_alloc ?_ _) | (with_reducible refine Kd.C_drewN ?_ _) | (with_reducible refine Kd.C_drew ?_))); (case side2 => exact (Kd.R_reads' HO350.out).2.1); rintro e w60 ⟨rfl, hb⟩; have n0_ := Aside0.mk (Kd.R_below (by (with_reducible repeat (first | apply Kd.R_alloc | apply Kd.R_drewN | apply Kd.R_drew)); exact HO_13.out) hb); have n1_ := Aside0.mk (Kd.R_below (by (with_reducible repeat (first | apply Kd.R_alloc | apply Kd.R_drewN | apply Kd.R_drew)); exact HO_60.out) hb); have n2_ := Aside0.mk (Kd.R_below (by (with_reducible repeat (first | apply Kd.R_alloc | apply Kd.R_drewN | apply Kd.R_drew)); exact HO_70.out) hb); have n3_ := Aside0.mk (Kd.R_below (by (with_reducible repeat (first | apply Kd.R_alloc | apply Kd.R_drewN | apply Kd.R_drew)); exact HO346.out) hb); have n4_ := Aside0.mk (Kd.R_below (by (with_reducible repeat (first | apply Kd.R_alloc | apply Kd.R_drewN | apply Kd.R_drew)); exact HO350.out) hb); have n5_ := Aside0.mk (blk_below (g := gb327) (o := .cells #[.int .i64 x328000_13, .int .i64 x328001_13] 40 (0, 0)) (by (with_reducible repeat (first | refine blk_drewN ?_ _ | refine blk_drew ?_ | refine blk_alloc ?_ _)); exact BK327.out) hb); have n6_ := Aside0.mk (blk_below (g := gb343) (o := .cells #[.int .u8 (rd y339 x72_3), .int .i64 x328000_13, .int .i64 x328001_13] 42 (0, 0)) (by (with_reducible repeat (first | refine blk_drewN ?_ _ | refine blk_drew ?_ | refine blk_alloc ?_ _)); exact BK343.out) hb); have n7_ := Aside0.mk (below_step (by repeat (first | (with_reducible first | exact HB.out | apply below_alloc | apply pw_below_drewN | apply below_drew1 | refine below_set ?_ GE327.out | refine below_set ?_ GE343.out) | exact HB.out)) hb); clear HO_13; clear HO_60; clear HO_70; clear HO346; clear HO350; clear BK327; clear BK343; clear HB; have HO_13 := n0_; have HO_60 := n1_; have HO_70 := n2_; have HO346 := n3_; have HO350 := n4_; have BK327 := n5_; have BK343 := n6_; have HB := n7_; clear n0_ n1_ n2_ n3_ n4_ n5_ n6_ n7_; (try clear hb); (try clear hb2); (try clear hk); (try clear hi)) | (go_at_call 23; (with_reducible refine (decode_Literal.calls k3 _ _ t332 _ _ t344 t355 _ ?side1 ?side2 ?side3 ?side4 A46.out).mono ?_); (case side1 => repeat (first | exact (Kd.R_reads' HO_13.out).2.2 | (with_reducible refine Kd.C_alloc ?_ _) | (with_reducible refine Kd.C_drewN ?_ _) | (with_reducible refine Kd.C_drew ?_))); (case side2 => exact (Kd.R_reads' HO_13.out).2.1); (case side3 => repeat (first | exact (Kd.R_reads' HO346.out).2.2 | (with_reducible refine Kd.C_alloc ?_ _) | (with_reducible refine Kd.C_drewN ?_ _) | (with_reducible refine Kd.C_drew ?_))); (case side4 => exact (Kd.R_reads' HO346.out).2.1); rintro e w61 ⟨rfl, hb⟩; have n0_ := Aside0.mk (Kd.R_below (by (with_reducible repeat (first | apply Kd.R_alloc | apply Kd.R_drewN | apply Kd.R_drew)); exact HO_13.out) hb); have n1_ := Aside0.mk (Kd.R_below (by (with_reducible repeat (first | apply Kd.R_alloc | apply Kd.R_drewN | apply Kd.R_drew)); exact HO_60.out) hb); have n2_ := Aside0.mk (Kd.R_below (by (with_reducible repeat (first | apply Kd.R_alloc | apply Kd.R_drewN | apply Kd.R_drew)); exact HO_70.out) hb); have n3_ := Aside0.mk (Kd.R_below (by (with_reducible repeat (first | apply Kd.R_alloc | apply Kd.R_drewN | apply Kd.R_drew)); exact HO346.out) hb); have n4_ := Aside0.mk (Kd.R_below (by (with_reducible repeat (first | apply Kd.R_alloc | apply Kd.R_drewN | apply Kd.R_drew)); exact HO350.out) hb); have n5_ := Aside0.mk (blk_below (g := gb327) (o := .cells #[.int .i64 x328000_13, .int .i64 x328001_13] 40 (0, 0)) (by (with_reducible repeat (first | refine blk_drewN ?_ _ | refine blk_drew ?_ | refine blk_alloc ?_ _)); exact BK327.out) hb); have n6_ := Aside0.mk (blk_below (g := gb343) (o := .cells #[.int .u8 (rd y339 x72_3), .int .i64 x328000_13, .int .i64 x328001_13] 42 (0, 0)) (by (with_reducible repeat (first | refine blk_drewN ?_ _ | refine blk_drew ?_ | refine blk_alloc ?_ _)); exact BK343.out) hb); have n7_ := Aside0.mk (below_step (by repeat (first | (with_reducible first | exact HB.out | apply below_alloc | apply pw_below_drewN | apply below_drew1 | refine below_set ?_ GE327.out | refine below_set ?_ GE343.out) | exact HB.out)) hb); clear HO_13; clear HO_60; clear HO_70; clear HO346; clear HO350; clear BK327; clear BK343; clear HB; have HO_13 := n0_; have HO_60 := n1_; have HO_70 := n2_; have HO346 := n3_; have HO350 := n4_; have BK327 := n5_; have BK343 := n6_; have HB := n7_; clear n0_ n1_ n2_ n3_ n4_ n5_ n6_ n7_; (try clear hb); (try clear hb2); (try clear hk); (try clear hi)) | (go_at_call 24; (with_reducible refine (redpenref15_Literal.calls k3 _ _ t332 _ _ t344 t356 _ ?side1 ?side2 ?side3 ?side4 A47.out).mono ?_); (case side1 => repeat (first | exact (Kd.R_reads' HO_13.out).2.2 | (with_reducible refine Kd.C_alloc ?_ _) | (with_reducible refine Kd.C_drewN ?_ _) | (with_reducible refine Kd.C_drew ?_))); (case side2 => exact (Kd.R_reads' HO_13.out).2.1); (case side3 => repeat (first | exact (Kd.R_reads' HO346.out).2.2 | (with_reducible refine Kd.C_alloc ?_ _) | (with_reducible refine Kd.C_drewN ?_ _) | (with_reducible refine Kd.C_drew ?_))); (case side4 => exact (Kd.R_reads' HO346.out).2.1); rintro e w62 ⟨rfl, hb⟩; have n0_ := Aside0.mk (Kd.R_below (by (with_reducible repeat (first | apply Kd.R_alloc | apply Kd.R_drewN | apply Kd.R_drew)); exact HO_13.out) hb); have n1_ := Aside0.mk (Kd.R_below (by (with_reducible repeat (first | apply Kd.R_alloc | apply Kd.R_drewN | apply Kd.R_drew)); exact HO_60.out) hb); have n2_ := Aside0.mk (Kd.R_below (by (with_reducible repeat (first | apply Kd.R_alloc | apply Kd.R_drewN | apply Kd.R_drew)); exact HO_70.out) hb); have n3_ := Aside0.mk (Kd.R_below (by (with_reducible repeat (first | apply Kd.R_alloc | apply Kd.R_drewN | apply Kd.R_drew)); exact HO346.out) hb); have n4_ := Aside0.mk (Kd.R_below (by (with_reducible repeat (first | apply Kd.R_alloc | apply Kd.R_drewN | apply Kd.R_drew)); exact HO350.out) hb); have n5_ := Aside0.mk (blk_below (g := gb327) (o := .cells #[.int .i64 x328000_13, .int .i64 x328001_13] 40 (0, 0)) (by (with_reducible repeat (first | refine blk_drewN ?_ _ | refine blk_drew ?_ | refine blk_alloc ?_ _)); exact BK327.out) hb); have n6_ := Aside0.mk (blk_below (g := gb343) (o := .cells #[.int .u8 (rd y339 x72_3), .int .i64 x328000_13, .int .i64 x328001_13] 42 (0, 0)) (by (with_reducible repeat (first | refine blk_drewN ?_ _ | refine blk_drew ?_ | refine blk_alloc ?_ _)); exact BK343.out) hb); have n7_ := Aside0.mk (below_step (by repeat (first | (with_reducible first | exact HB.out | apply below_alloc | apply pw_below_drewN | apply below_drew1 | refine below_set ?_ GE327.out | refine below_set ?_ GE343.out) | exact HB.out)) hb); clear HO_13; clear HO_60; clear HO_70; clear HO346; clear HO350; clear BK327; clear BK343; clear HB; have HO_13 := n0_; have HO_60 := n1_; have HO_70 := n2_; have HO346 := n3_; have HO350 := n4_; have BK327 := n5_; have BK343 := n6_; have HB := n7_; clear n0_ n1_ n2_ n3_ n4_ n5_ n6_ n7_; (try clear hb); (try clear hb2); (try clear hk); (try clear hi)))
                    go_roundg k3
                    case measure => have := HJ13.out; have := HK2.out; have := HK3.out; omega
                    case rel => exact ⟨(wrap64 (x72_3 + 1)), (by first | rfl | (simp; done) | (simp [*]; done) | (simp [wrap64, wrap32]; done)), H', ⟨by have := HJ13.out; have := HK2.out; have := HK3.out; omega⟩, ⟨by (with_reducible repeat (first | apply Kd.R_alloc | apply Kd.R_drewN | apply Kd.R_drew)); exact HO_13.out⟩, ⟨by (with_reducible repeat (first | apply Kd.R_alloc | apply Kd.R_drewN | apply Kd.R_drew)); exact HO_60.out⟩, ⟨by (with_reducible repeat (first | apply Kd.R_alloc | apply Kd.R_drewN | apply Kd.R_drew)); exact HO_70.out⟩, ⟨by (with_reducible repeat (first | refine blk_drewN ?_ _ | refine blk_drew ?_ | refine blk_alloc ?_ _)); exact BK327.out⟩, ⟨by repeat (first | (with_reducible first | exact HB.out | apply below_alloc | apply pw_below_drewN | apply below_drew1 | refine below_set ?_ GE327.out | refine below_set ?_ GE343.out) | exact HB.out)⟩⟩
                  ·rw [if_neg c45] at H
                   have c45b0 : (t353.toList == t354.toList) = false := beq_eq_false_iff_ne.mpr c45
                   have c45b1 : (t353.toList != t354.toList) = true := bne_iff_ne.mpr c45
                   have hf_ := Option.some.inj H
                   rw [hr_] at hf_
                   cases hf_
                 ·replace c42 := Bool.eq_false_iff.mpr c42
                  subst c42
                  have H1 : (some false) = some r := by rw [if_neg (show ¬ (false = true) by decide)] at H; exact H
                  clear H
                  have H := H1
                  clear H1
                  have hf_ := Option.some.inj H
                  rw [hr_] at hf_
                  cases hf_
                ·replace c40 := Bool.eq_false_iff.mpr c40
                 subst c40
                 have H1 : (if t347 = 2 then ((redpenref01_SameUnits.f k3 t344 t348).bind fun t357 => (if t357 = true then ((decode_Text.f k3 t344).bind fun t358 => ((redpenref15_Text.f k3 t348).bind fun t359 => (if t358.toList = t359.toList then ((decode_Literal.f k3 t332 t344).bind fun t360 => ((redpenref15_Literal.f k3 t332 t344).bind fun t361 => (if (t360 != t361) = true then (some false) else (redpenlaw15_DecodeUnits.l1 k3 a1 t332 (rd y335 x62_2) y335 (y335.length : Int) x62_2 y339 (y339.length : Int) (wrap64 (x72_3 + 1)) x328000_13 x328001_13)))) else (some false)))) else (some false))) else (some false)) = some r := by rw [if_neg (show ¬ (false = true) by decide)] at H; exact H
                 clear H
                 have H := H1
                 clear H1
                 by_cases c63 : t347 = 2
                 ·rw [if_pos c63] at H
                  have c63b0 : (t347 == 2) = true := beq_iff_eq.mpr c63
                  have c63b1 : (t347 != 2) = false := bne_eq_false_iff_eq.mpr c63
                  clear c63
                  replace H := Option.bind_eq_some_iff.mp H
                  obtain ⟨t357, A640, H⟩ := H
                  replace H : (if t357 = true then ((decode_Text.f k3 t344).bind fun t358 => ((redpenref15_Text.f k3 t348).bind fun t359 => (if t358.toList = t359.toList then ((decode_Literal.f k3 t332 t344).bind fun t360 => ((redpenref15_Literal.f k3 t332 t344).bind fun t361 => (if (t360 != t361) = true then (some false) else (redpenlaw15_DecodeUnits.l1 k3 a1 t332 (rd y335 x62_2) y335 (y335.length : Int) x62_2 y339 (y339.length : Int) (wrap64 (x72_3 + 1)) x328000_13 x328001_13)))) else (some false)))) else (some false)) = some r := H
                  have A64 := Aside0.mk A640
                  clear A640
                  by_cases c65 : t357 = true
                  ·subst c65
                   have H1 : ((decode_Text.f k3 t344).bind fun t358 => ((redpenref15_Text.f k3 t348).bind fun t359 => (if t358.toList = t359.toList then ((decode_Literal.f k3 t332 t344).bind fun t360 => ((redpenref15_Literal.f k3 t332 t344).bind fun t361 => (if (t360 != t361) = true then (some false) else (redpenlaw15_DecodeUnits.l1 k3 a1 t332 (rd y335 x62_2) y335 (y335.length : Int) x62_2 y339 (y339.length : Int) (wrap64 (x72_3 + 1)) x328000_13 x328001_13)))) else (some false)))) = some r := by rw [if_pos rfl] at H; exact H
                   clear H
                   have H := H1
                   clear H1
                   replace H := Option.bind_eq_some_iff.mp H
                   obtain ⟨t358, A660, H⟩ := H
                   replace H : ((redpenref15_Text.f k3 t348).bind fun t359 => (if t358.toList = t359.toList then ((decode_Literal.f k3 t332 t344).bind fun t360 => ((redpenref15_Literal.f k3 t332 t344).bind fun t361 => (if (t360 != t361) = true then (some false) else (redpenlaw15_DecodeUnits.l1 k3 a1 t332 (rd y335 x62_2) y335 (y335.length : Int) x62_2 y339 (y339.length : Int) (wrap64 (x72_3 + 1)) x328000_13 x328001_13)))) else (some false))) = some r := H
                   have A66 := Aside0.mk A660
                   clear A660
                   replace H := Option.bind_eq_some_iff.mp H
                   obtain ⟨t359, A670, H⟩ := H
                   replace H : (if t358.toList = t359.toList then ((decode_Literal.f k3 t332 t344).bind fun t360 => ((redpenref15_Literal.f k3 t332 t344).bind fun t361 => (if (t360 != t361) = true then (some false) else (redpenlaw15_DecodeUnits.l1 k3 a1 t332 (rd y335 x62_2) y335 (y335.length : Int) x62_2 y339 (y339.length : Int) (wrap64 (x72_3 + 1)) x328000_13 x328001_13)))) else (some false)) = some r := H
                   have A67 := Aside0.mk A670
                   clear A670
                   by_cases c68 : t358.toList = t359.toList
                   ·rw [if_pos c68] at H
                    have c68b0 : (t358.toList == t359.toList) = true := beq_iff_eq.mpr c68
                    have c68b1 : (t358.toList != t359.toList) = false := bne_eq_false_iff_eq.mpr c68
                    clear c68
                    replace H := Option.bind_eq_some_iff.mp H
                    obtain ⟨t360, A690, H⟩ := H
                    replace H : ((redpenref15_Literal.f k3 t332 t344).bind fun t361 => (if (t360 != t361) = true then (some false) else (redpenlaw15_DecodeUnits.l1 k3 a1 t332 (rd y335 x62_2) y335 (y335.length : Int) x62_2 y339 (y339.length : Int) (wrap64 (x72_3 + 1)) x328000_13 x328001_13))) = some r := H
                    have A69 := Aside0.mk A690
                    clear A690
                    replace H := Option.bind_eq_some_iff.mp H
                    obtain ⟨t361, A700, H⟩ := H
                    replace H : (if (t360 != t361) = true then (some false) else (redpenlaw15_DecodeUnits.l1 k3 a1 t332 (rd y335 x62_2) y335 (y335.length : Int) x62_2 y339 (y339.length : Int) (wrap64 (x72_3 + 1)) x328000_13 x328001_13)) = some r := H
                    have A70 := Aside0.mk A700
                    clear A700
                    by_cases c71 : (t360 != t361) = true
                    ·rw [if_pos c71] at H
                     have c71b0 : (t360 != t361) = true := c71
                     (try (have c71b1 : decide (t360 = t361) = false := by simpa using c71))
                     (try (have c71b2 : (t360 == t361) = false := by simpa using c71))
                     (try (have c71b3 : ¬ (t360 = t361) := by simpa using c71))
                     clear c71
                     have hf_ := Option.some.inj H
                     rw [hr_] at hf_
                     cases hf_
                    ·rw [if_neg c71] at H
                     have c71b0 : (t360 != t361) = false := by simpa using c71
                     (try (have c71b1 : decide (t360 = t361) = true := by simpa using c71))
                     (try (have c71b2 : (t360 == t361) = true := by simpa using c71))
                     clear c71
                     have H' := Aside0.mk H
                     clear H
                     have p342 : 0 ≤ (x72_3 : Int) := of_decide_eq_true (by first | (with_reducible assumption) | assumption)
                     have q342 : x72_3 < (y339.length : Int) := of_decide_eq_true (by first | (with_reducible assumption) | assumption)
                     obtain ⟨ad342, e342, hx342_0⟩ := Kd.at_int (Kd.R_reads' HO_70.out).2.2 x72_3 p342 q342
                     cases e342
                     replace p342 := eq_true p342
                     replace q342 := eq_true q342
                     have hcz72_0 : wr.cell? ⟨gb327, 0, none⟩ = some (.int .i64 x328000_13) := (blk_cell BK327.out 0).trans rfl
                     have hcz72_1 : wr.cell? ⟨gb327, 1, none⟩ = some (.int .i64 x328001_13) := (blk_cell BK327.out 1).trans rfl
                     have hfz72_0 := blk_frozen BK327.out 0
                     have hfz72_1 := blk_frozen BK327.out 1
                     go_wp2_with (first | ((with_reducible refine gate_dst (N := 18) rfl ?_); refine box_event ?hg (N := 18) ?hd (cs := #[.int .u8 0, .int .i64 0, .int .i64 0]) (t := 42) ?hr ?_; (case hd => rfl); (case hg => rfl); (case hr => first | (go_simp; done) | (go_simp; rfl)); intro gb343 hg w73 hbox hb; have n0_ := Aside0.mk (Kd.R_below (by (with_reducible repeat (first | apply Kd.R_alloc | apply Kd.R_drewN | apply Kd.R_drew)); exact HO_13.out) hb); have n1_ := Aside0.mk (Kd.R_below (by (with_reducible repeat (first | apply Kd.R_alloc | apply Kd.R_drewN | apply Kd.R_drew)); exact HO_60.out) hb); have n2_ := Aside0.mk (Kd.R_below (by (with_reducible repeat (first | apply Kd.R_alloc | apply Kd.R_drewN | apply Kd.R_drew)); exact HO_70.out) hb); have n3_ := Aside0.mk (blk_below (g := gb327) (o := .cells #[.int .i64 x328000_13, .int .i64 x328001_13] 40 (0, 0)) (by (with_reducible repeat (first | refine blk_drewN ?_ _ | refine blk_drew ?_ | refine blk_alloc ?_ _)); exact BK327.out) hb); have n4_ := Aside0.mk (below_step (by repeat (first | (with_reducible first | exact HB.out | apply below_alloc | apply pw_below_drewN | apply below_drew1 | refine below_set ?_ GE327.out) | exact HB.out)) hb); have n5_ := Aside0.mk (hbox); have n6_ := Aside0.mk ((by rw [hg]; exact (below_size (by repeat (first | (with_reducible first | exact HB.out | apply below_alloc | apply pw_below_drewN | apply below_drew1 | refine below_set ?_ GE327.out) | exact HB.out))) : w.heap.size ≤ gb343)); have n7_ := Aside0.mk ((by rw [hg]; exact (below_size (by repeat (first | (with_reducible first | exact HB.out | apply below_alloc | apply pw_below_drewN | apply below_drew1 | refine below_set ?_ GE327.out) | exact HB.out))) : w.heap.size ≤ gb343)); have n8_ := Aside0.mk ((by rw [hg]; exact Nat.ne_of_lt (blk_lt (g := gb327) (o := .cells #[.int .i64 x328000_13, .int .i64 x328001_13] 40 (0, 0)) (by (with_reducible repeat (first | refine blk_drewN ?_ _ | refine blk_drew ?_ | refine blk_alloc ?_ _)); exact BK327.out)) : gb327 ≠ gb343)); have n9_ := Aside0.mk ((by rw [hg]; exact Nat.ne_of_gt (blk_lt (g := gb327) (o := .cells #[.int .i64 x328000_13, .int .i64 x328001_13] 40 (0, 0)) (by (with_reducible repeat (first | refine blk_drewN ?_ _ | refine blk_drew ?_ | refine blk_alloc ?_ _)); exact BK327.out)) : gb343 ≠ gb327)); clear HO_13; clear HO_60; clear HO_70; clear BK327; clear HB; have HO_13 := n0_; have HO_60 := n1_; have HO_70 := n2_; have BK327 := n3_; have HB := n4_; have BK343 := n5_; have GW343 := n6_; have GE343 := n7_; have NB327_343 := n8_; have NB343_327 := n9_; clear n0_ n1_ n2_ n3_ n4_ n5_ n6_ n7_ n8_ n9_; clear hb hbox hg; have hnb74 := NB343_327.out; have hnc74 := NB327_343.out; have hcz75_0 : w73.cell? ⟨gb343, 0, none⟩ = some (.int .u8 0) := (blk_cell BK343.out 0).trans rfl; have hcz75_1 : w73.cell? ⟨gb343, 1, none⟩ = some (.int .i64 0) := (blk_cell BK343.out 1).trans rfl; have hcz75_2 : w73.cell? ⟨gb343, 2, none⟩ = some (.int .i64 0) := (blk_cell BK343.out 2).trans rfl; have hfz75_0 := blk_frozen BK343.out 0; have hfz75_1 := blk_frozen BK343.out 1; have hfz75_2 := blk_frozen BK343.out 2; obtain ⟨Ao76, co76, eo76⟩ := Kd.R_slice HO_13.out; subst eo76) | ((with_reducible refine gate_callee (f := 16) rfl ?_); refine goesL_ (some 83) rfl rfl Tryd.func16 (by kernel_rfl) rfl #[.int .u8 (rd y335 x62_2), .slice Ao76 t332.length co76, .agg #[.int .u8 (rd y339 x72_3), .int .i64 x328000_13, .int .i64 x328001_13]] rfl (by (try simp only [List.map_toArray, List.map_cons, List.map_nil]); first | done | rfl | (simp only [List.length_drop, List.length_take]; rfl)) ?_; (with_reducible refine (decode_Units.calls k3 (rd y335 x62_2) _ _ t332 (rd y339 x72_3) x328000_13 x328001_13 t344 t347 _ ?side1 ?side2 A37.out ?sideL).mono ?_); (case sideL => first | exact HL.out | exact HL.out.below HB.out | exact HL.out.below (by repeat (first | (with_reducible first | exact HB.out | apply below_alloc | apply pw_below_drewN | apply below_drew1 | refine below_set ?_ (Aside0.out (by assumption))) | exact HB.out))); (case side1 => refine (Kd.R_reads' (e := 5) (base := w.heap.size) (ok := fun k_ => True) (n := t332.length) (c := co76) ?_).2.2; exact (by (with_reducible repeat (first | apply Kd.R_alloc | apply Kd.R_drewN | apply Kd.R_drew)); exact (Kd.R_mono (Kd.R_far (p := ⟨gb343, 2, none⟩) (Kd.R_far (p := ⟨gb343, 1, none⟩) (Kd.R_far (p := ⟨gb343, 0, none⟩) (Kd.R_types HO_13.out BK343.out (by decide)) (fun _ hk => hk.2) (.int .u8 (rd y339 x72_3))) (fun _ hk => hk.2) (.int .i64 x328000_13)) (fun _ hk => hk.2) (.int .i64 x328001_13)) (fun _ h_ => h_.1)))); (case side2 => exact (Kd.R_reads' HO_13.out).2.1); rintro e w77 ⟨v345, rfl, ho0, hb⟩; refine ⟨_, rfl, ?_⟩; have n0_ := Aside0.mk (Kd.R_below (by (with_reducible repeat (first | apply Kd.R_alloc | apply Kd.R_drewN | apply Kd.R_drew)); exact (Kd.R_mono (Kd.R_far (p := ⟨gb343, 2, none⟩) (Kd.R_far (p := ⟨gb343, 1, none⟩) (Kd.R_far (p := ⟨gb343, 0, none⟩) (Kd.R_types HO_13.out BK343.out (by decide)) (fun _ hk => hk.2) (.int .u8 (rd y339 x72_3))) (fun _ hk => hk.2) (.int .i64 x328000_13)) (fun _ hk => hk.2) (.int .i64 x328001_13)) (fun _ h_ => h_.1))) hb); have n1_ := Aside0.mk (Kd.R_below (by (with_reducible repeat (first | apply Kd.R_alloc | apply Kd.R_drewN | apply Kd.R_drew)); exact (Kd.R_mono (Kd.R_far (p := ⟨gb343, 2, none⟩) (Kd.R_far (p := ⟨gb343, 1, none⟩) (Kd.R_far (p := ⟨gb343, 0, none⟩) (Kd.R_types HO_60.out BK343.out (by decide)) (fun _ hk => hk.2) (.int .u8 (rd y339 x72_3))) (fun _ hk => hk.2) (.int .i64 x328000_13)) (fun _ hk => hk.2) (.int .i64 x328001_13)) (fun _ h_ => h_.1))) hb); have n2_ := Aside0.mk (Kd.R_below (by (with_reducible repeat (first | apply Kd.R_alloc | apply Kd.R_drewN | apply Kd.R_drew)); exact (Kd.R_mono (Kd.R_far (p := ⟨gb343, 2, none⟩) (Kd.R_far (p := ⟨gb343, 1, none⟩) (Kd.R_far (p := ⟨gb343, 0, none⟩) (Kd.R_types HO_70.out BK343.out (by decide)) (fun _ hk => hk.2) (.int .u8 (rd y339 x72_3))) (fun _ hk => hk.2) (.int .i64 x328000_13)) (fun _ hk => hk.2) (.int .i64 x328001_13)) (fun _ h_ => h_.1))) hb); have n3_ := Aside0.mk (Kd.R_lower ho0 (below_size (by repeat (first | (with_reducible first | exact HB.out | apply below_alloc | apply pw_below_drewN | apply below_drew1 | refine below_set ?_ GE327.out | refine below_set ?_ GE343.out) | exact HB.out)))); have n4_ := Aside0.mk (blk_below (g := gb327) (o := .cells #[.int .i64 x328000_13, .int .i64 x328001_13] 40 (0, 0)) (by (with_reducible repeat (first | refine blk_drewN ?_ _ | refine blk_drew ?_ | refine blk_alloc ?_ _)); refine blk_far ?_ NB327_343.out _; (with_reducible repeat (first | refine blk_drewN ?_ _ | refine blk_drew ?_ | refine blk_alloc ?_ _)); refine blk_far ?_ NB327_343.out _; (with_reducible repeat (first | refine blk_drewN ?_ _ | refine blk_drew ?_ | refine blk_alloc ?_ _)); refine blk_far ?_ NB327_343.out _; (with_reducible repeat (first | refine blk_drewN ?_ _ | refine blk_drew ?_ | refine blk_alloc ?_ _)); exact BK327.out) hb); have n5_ := Aside0.mk (blk_below (g := gb343) (o := .cells #[.int .u8 (rd y339 x72_3), .int .i64 x328000_13, .int .i64 x328001_13] 42 (0, 0)) (by (with_reducible repeat (first | refine blk_drewN ?_ _ | refine blk_drew ?_ | refine blk_alloc ?_ _)); refine blk_put (cs := #[.int .u8 (rd y339 x72_3), .int .i64 x328000_13, .int .i64 0]) ?_ 2 _ rfl; (with_reducible repeat (first | refine blk_drewN ?_ _ | refine blk_drew ?_ | refine blk_alloc ?_ _)); refine blk_put (cs := #[.int .u8 (rd y339 x72_3), .int .i64 0, .int .i64 0]) ?_ 1 _ rfl; (with_reducible repeat (first | refine blk_drewN ?_ _ | refine blk_drew ?_ | refine blk_alloc ?_ _)); refine blk_put (cs := #[.int .u8 0, .int .i64 0, .int .i64 0]) ?_ 0 _ rfl; (with_reducible repeat (first | refine blk_drewN ?_ _ | refine blk_drew ?_ | refine blk_alloc ?_ _)); exact BK343.out) hb); have n6_ := Aside0.mk (below_step (by repeat (first | (with_reducible first | exact HB.out | apply below_alloc | apply pw_below_drewN | apply below_drew1 | refine below_set ?_ GE327.out | refine below_set ?_ GE343.out) | exact HB.out)) hb); clear HO_13; clear HO_60; clear HO_70; clear BK327; clear BK343; clear HB; have HO_13 := n0_; have HO_60 := n1_; have HO_70 := n2_; have HO346 := n3_; have BK327 := n4_; have BK343 := n5_; have HB := n6_; clear n0_ n1_ n2_ n3_ n4_ n5_ n6_; (try clear hb); (try clear hb2); (try clear hk); (try clear hi); (try clear ho0); have hcz78_0 : w77.cell? ⟨gb343, 0, none⟩ = some (.int .u8 (rd y339 x72_3)) := (blk_cell BK343.out 0).trans rfl; have hcz78_1 : w77.cell? ⟨gb343, 1, none⟩ = some (.int .i64 x328000_13) := (blk_cell BK343.out 1).trans rfl; have hcz78_2 : w77.cell? ⟨gb343, 2, none⟩ = some (.int .i64 x328001_13) := (blk_cell BK343.out 2).trans rfl; have hfz78_0 := blk_frozen BK343.out 0; have hfz78_1 := blk_frozen BK343.out 1; have hfz78_2 := blk_frozen BK343.out 2) | ((with_reducible refine gate_callee (f := 20) rfl ?_); refine goesL_ (some 90) rfl rfl Tryd.func20 (by kernel_rfl) rfl #[.int .u8 (rd y335 x62_2), .slice Ao76 t332.length co76, .agg #[.int .u8 (rd y339 x72_3), .int .i64 x328000_13, .int .i64 x328001_13]] rfl (by (try simp only [List.map_toArray, List.map_cons, List.map_nil]); first | done | rfl | (simp only [List.length_drop, List.length_take]; rfl)) ?_; (with_reducible refine (redpenref15_Units.calls k3 (rd y335 x62_2) _ _ t332 (rd y339 x72_3) x328000_13 x328001_13 t348 false _ ?side1 ?side2 A38.out).mono ?_); (case side1 => repeat (first | exact (Kd.R_reads' HO_13.out).2.2 | (with_reducible refine Kd.C_alloc ?_ _) | (with_reducible refine Kd.C_drewN ?_ _) | (with_reducible refine Kd.C_drew ?_))); (case side2 => exact (Kd.R_reads' HO_13.out).2.1); rintro e w79 ⟨v349, rfl, ho0, hb⟩; refine ⟨_, rfl, ?_⟩; have n0_ := Aside0.mk (Kd.R_below (by (with_reducible repeat (first | apply Kd.R_alloc | apply Kd.R_drewN | apply Kd.R_drew)); exact HO_13.out) hb); have n1_ := Aside0.mk (Kd.R_below (by (with_reducible repeat (first | apply Kd.R_alloc | apply Kd.R_drewN | apply Kd.R_drew)); exact HO_60.out) hb); have n2_ := Aside0.mk (Kd.R_below (by (with_reducible repeat (first | apply Kd.R_alloc | apply Kd.R_drewN | apply Kd.R_drew)); exact HO_70.out) hb); have n3_ := Aside0.mk (Kd.R_elder' (by (with_reducible repeat (first | apply Kd.R_alloc | apply Kd.R_drewN | apply Kd.R_drew)); exact HO346.out) (Kd.R_base ho0) hb); have n4_ := Aside0.mk (Kd.R_lower (Kd.R_new' ho0 (Kd.R_lt (by (with_reducible repeat (first | apply Kd.R_alloc | apply Kd.R_drewN | apply Kd.R_drew)); exact HO346.out))) (below_size (by repeat (first | (with_reducible first | exact HB.out | apply below_alloc | apply pw_below_drewN | apply below_drew1 | refine below_set ?_ GE327.out | refine below_set ?_ GE343.out) | exact HB.out)))); have n5_ := Aside0.mk (blk_below (g := gb327) (o := .cells #[.int .i64 x328000_13, .int .i64 x328001_13] 40 (0, 0)) (by (with_reducible repeat (first | refine blk_drewN ?_ _ | refine blk_drew ?_ | refine blk_alloc ?_ _)); exact BK327.out) hb); have n6_ := Aside0.mk (blk_below (g := gb343) (o := .cells #[.int .u8 (rd y339 x72_3), .int .i64 x328000_13, .int .i64 x328001_13] 42 (0, 0)) (by (with_reducible repeat (first | refine blk_drewN ?_ _ | refine blk_drew ?_ | refine blk_alloc ?_ _)); exact BK343.out) hb); have n7_ := Aside0.mk (below_step (by repeat (first | (with_reducible first | exact HB.out | apply below_alloc | apply pw_below_drewN | apply below_drew1 | refine below_set ?_ GE327.out | refine below_set ?_ GE343.out) | exact HB.out)) hb); clear HO_13; clear HO_60; clear HO_70; clear HO346; clear BK327; clear BK343; clear HB; have HO_13 := n0_; have HO_60 := n1_; have HO_70 := n2_; have HO346 := n3_; have HO350 := n4_; have BK327 := n5_; have BK343 := n6_; have HB := n7_; clear n0_ n1_ n2_ n3_ n4_ n5_ n6_ n7_; (try clear hb); (try clear hb2); (try clear hk); (try clear hi); (try clear ho0); obtain ⟨Ao80, co80, eo80⟩ := Kd.R_slice HO346.out; subst eo80; obtain ⟨Ao81, co81, eo81⟩ := Kd.R_slice HO350.out; subst eo81) | (go_at_call 18; (with_reducible refine (redpenref01_SameUnits.calls k3 _ _ t344 _ _ t348 true _ ?side1 ?side2 ?side3 ?side4 A64.out).mono ?_); (case side1 => repeat (first | exact (Kd.R_reads' HO346.out).2.2 | (with_reducible refine Kd.C_alloc ?_ _) | (with_reducible refine Kd.C_drewN ?_ _) | (with_reducible refine Kd.C_drew ?_))); (case side2 => exact (Kd.R_reads' HO346.out).2.1); (case side3 => repeat (first | exact (Kd.R_reads' HO350.out).2.2 | (with_reducible refine Kd.C_alloc ?_ _) | (with_reducible refine Kd.C_drewN ?_ _) | (with_reducible refine Kd.C_drew ?_))); (case side4 => exact (Kd.R_reads' HO350.out).2.1); rintro e w' ⟨rfl, ⟨nd, rfl⟩⟩) | (go_at_call 21; (with_reducible refine (decode_Text.calls k3 _ _ t344 t358 _ ?side1 ?side2 A66.out).mono ?_); (case side1 => repeat (first | exact (Kd.R_reads' HO346.out).2.2 | (with_reducible refine Kd.C_alloc ?_ _) | (with_reducible refine Kd.C_drewN ?_ _) | (with_reducible refine Kd.C_drew ?_))); (case side2 => exact (Kd.R_reads' HO346.out).2.1); rintro e w82 ⟨rfl, hb⟩; have n0_ := Aside0.mk (Kd.R_below (by (with_reducible repeat (first | apply Kd.R_alloc | apply Kd.R_drewN | apply Kd.R_drew)); exact HO_13.out) hb); have n1_ := Aside0.mk (Kd.R_below (by (with_reducible repeat (first | apply Kd.R_alloc | apply Kd.R_drewN | apply Kd.R_drew)); exact HO_60.out) hb); have n2_ := Aside0.mk (Kd.R_below (by (with_reducible repeat (first | apply Kd.R_alloc | apply Kd.R_drewN | apply Kd.R_drew)); exact HO_70.out) hb); have n3_ := Aside0.mk (Kd.R_below (by (with_reducible repeat (first | apply Kd.R_alloc | apply Kd.R_drewN | apply Kd.R_drew)); exact HO346.out) hb); have n4_ := Aside0.mk (Kd.R_below (by (with_reducible repeat (first | apply Kd.R_alloc | apply Kd.R_drewN | apply Kd.R_drew)); exact HO350.out) hb); have n5_ := Aside0.mk (blk_below (g := gb327) (o := .cells #[.int .i64 x328000_13, .int .i64 x328001_13] 40 (0, 0)) (by (with_reducible repeat (first | refine blk_drewN ?_ _ | refine blk_drew ?_ | refine blk_alloc ?_ _)); exact BK327.out) hb); have n6_ := Aside0.mk (blk_below (g := gb343) (o := .cells #[.int .u8 (rd y339 x72_3), .int .i64 x328000_13, .int .i64 x328001_13] 42 (0, 0)) (by (with_reducible repeat (first | refine blk_drewN ?_ _ | refine blk_drew ?_ | refine blk_alloc ?_ _)); exact BK343.out) hb); have n7_ := Aside0.mk (below_step (by repeat (first | (with_reducible first | exact HB.out | apply below_alloc | apply pw_below_drewN | apply below_drew1 | refine below_set ?_ GE327.out | refine below_set ?_ GE343.out) | exact HB.out)) hb); clear HO_13; clear HO_60; clear HO_70; clear HO346; clear HO350; clear BK327; clear BK343; clear HB; have HO_13 := n0_; have HO_60 := n1_; have HO_70 := n2_; have HO346 := n3_; have HO350 := n4_; have BK327 := n5_; have BK343 := n6_; have HB := n7_; clear n0_ n1_ n2_ n3_ n4_ n5_ n6_ n7_; (try clear hb); (try clear hb2); (try clear hk); (try clear hi)) | (go_at_call 22; (with_reducible refine (redpenref15_Text.calls k3 _ _ t348 t359 _ ?side1 ?side2 A67.out).mono ?_); (case side1 => repeat (first | exact (Kd.R_reads' HO350.out).2.2 | (with_reducible refine Kd.C_alloc ?_ _) | (with_reducible refine Kd.C_drewN ?_ _) | (with_reducible refine Kd.C_drew ?_))); (case side2 => exact (Kd.R_reads' HO350.out).2.1); rintro e w83 ⟨rfl, hb⟩; have n0_ := Aside0.mk (Kd.R_below (by (with_reducible repeat (first | apply Kd.R_alloc | apply Kd.R_drewN | apply Kd.R_drew)); exact HO_13.out) hb); have n1_ := Aside0.mk (Kd.R_below (by (with_reducible repeat (first | apply Kd.R_alloc | apply Kd.R_drewN | apply Kd.R_drew)); exact HO_60.out) hb); have n2_ := Aside0.mk (Kd.R_below (by (with_reducible repeat (first | apply Kd.R_alloc | apply Kd.R_drewN | apply Kd.R_drew)); exact HO_70.out) hb); have n3_ := Aside0.mk (Kd.R_below (by (with_reducible repeat (first | apply Kd.R_alloc | apply Kd.R_drewN | apply Kd.R_drew)); exact HO346.out) hb); have n4_ := Aside0.mk (Kd.R_below (by (with_reducible repeat (first | apply Kd.R_alloc | apply Kd.R_drewN | apply Kd.R_drew)); exact HO350.out) hb); have n5_ := Aside0.mk (blk_below (g := gb327) (o := .cells #[.int .i64 x328000_13, .int .i64 x328001_13] 40 (0, 0)) (by (with_reducible repeat (first | refine blk_drewN ?_ _ | refine blk_drew ?_ | refine blk_alloc ?_ _)); exact BK327.out) hb); have n6_ := Aside0.mk (blk_below (g := gb343) (o := .cells #[.int .u8 (rd y339 x72_3), .int .i64 x328000_13, .int .i64 x328001_13] 42 (0, 0)) (by (with_reducible repeat (first | refine blk_drewN ?_ _ | refine blk_drew ?_ | refine blk_alloc ?_ _)); exact BK343.out) hb); have n7_ := Aside0.mk (below_step (by repeat (first | (with_reducible first | exact HB.out | apply below_alloc | apply pw_below_drewN | apply below_drew1 | refine below_set ?_ GE327.out | refine below_set ?_ GE343.out) | exact HB.out)) hb); clear HO_13; clear HO_60; clear HO_70; clear HO346; clear HO350; clear BK327; clear BK343; clear HB; have HO_13 := n0_; have HO_60 := n1_; have HO_70 := n2_; have HO346 := n3_; have HO350 := n4_; have BK327 := n5_; have BK343 := n6_; have HB := n7_; clear n0_ n1_ n2_ n3_ n4_ n5_ n6_ n7_; (try clear hb); (try clear hb2); (try clear hk); (try clear hi)) | (go_at_call 23; (with_reducible refine (decode_Literal.calls k3 _ _ t332 _ _ t344 t360 _ ?side1 ?side2 ?side3 ?side4 A69.out).mono ?_); (case side1 => repeat (first | exact (Kd.R_reads' HO_13.out).2.2 | (with_reducible refine Kd.C_alloc ?_ _) | (with_reducible refine Kd.C_drewN ?_ _) | (with_reducible refine Kd.C_drew ?_))); (case side2 => exact (Kd.R_reads' HO_13.out).2.1); (case side3 => repeat (first | exact (Kd.R_reads' HO346.out).2.2 | (with_reducible refine Kd.C_alloc ?_ _) | (with_reducible refine Kd.C_drewN ?_ _) | (with_reducible refine Kd.C_drew ?_))); (case side4 => exact (Kd.R_reads' HO346.out).2.1); rintro e w84 ⟨rfl, hb⟩; have n0_ := Aside0.mk (Kd.R_below (by (with_reducible repeat (first | apply Kd.R_alloc | apply Kd.R_drewN | apply Kd.R_drew)); exact HO_13.out) hb); have n1_ := Aside0.mk (Kd.R_below (by (with_reducible repeat (first | apply Kd.R_alloc | apply Kd.R_drewN | apply Kd.R_drew)); exact HO_60.out) hb); have n2_ := Aside0.mk (Kd.R_below (by (with_reducible repeat (first | apply Kd.R_alloc | apply Kd.R_drewN | apply Kd.R_drew)); exact HO_70.out) hb); have n3_ := Aside0.mk (Kd.R_below (by (with_reducible repeat (first | apply Kd.R_alloc | apply Kd.R_drewN | apply Kd.R_drew)); exact HO346.out) hb); have n4_ := Aside0.mk (Kd.R_below (by (with_reducible repeat (first | apply Kd.R_alloc | apply Kd.R_drewN | apply Kd.R_drew)); exact HO350.out) hb); have n5_ := Aside0.mk (blk_below (g := gb327) (o := .cells #[.int .i64 x328000_13, .int .i64 x328001_13] 40 (0, 0)) (by (with_reducible repeat (first | refine blk_drewN ?_ _ | refine blk_drew ?_ | refine blk_alloc ?_ _)); exact BK327.out) hb); have n6_ := Aside0.mk (blk_below (g := gb343) (o := .cells #[.int .u8 (rd y339 x72_3), .int .i64 x328000_13, .int .i64 x328001_13] 42 (0, 0)) (by (with_reducible repeat (first | refine blk_drewN ?_ _ | refine blk_drew ?_ | refine blk_alloc ?_ _)); exact BK343.out) hb); have n7_ := Aside0.mk (below_step (by repeat (first | (with_reducible first | exact HB.out | apply below_alloc | apply pw_below_drewN | apply below_drew1 | refine below_set ?_ GE327.out | refine below_set ?_ GE343.out) | exact HB.out)) hb); clear HO_13; clear HO_60; clear HO_70; clear HO346; clear HO350; clear BK327; clear BK343; clear HB; have HO_13 := n0_; have HO_60 := n1_; have HO_70 := n2_; have HO346 := n3_; have HO350 := n4_; have BK327 := n5_; have BK343 := n6_; have HB := n7_; clear n0_ n1_ n2_ n3_ n4_ n5_ n6_ n7_; (try clear hb); (try clear hb2); (try clear hk); (try clear hi)) | (go_at_call 24; (with_reducible refine (redpenref15_Literal.calls k3 _ _ t332 _ _ t344 t361 _ ?side1 ?side2 ?side3 ?side4 A70.out).mono ?_); (case side1 => repeat (first | exact (Kd.R_reads' HO_13.out).2.2 | (with_reducible refine Kd.C_alloc ?_ _) | (with_reducible refine Kd.C_drewN ?_ _) | (with_reducible refine Kd.C_drew ?_))); (case side2 => exact (Kd.R_reads' HO_13.out).2.1); (case side3 => repeat (first | exact (Kd.R_reads' HO346.out).2.2 | (with_reducible refine Kd.C_alloc ?_ _) | (with_reducible refine Kd.C_drewN ?_ _) | (with_reducible refine Kd.C_drew ?_))); (case side4 => exact (Kd.R_reads' HO346.out).2.1); rintro e w85 ⟨rfl, hb⟩; have n0_ := Aside0.mk (Kd.R_below (by (with_reducible repeat (first | apply Kd.R_alloc | apply Kd.R_drewN | apply Kd.R_drew)); exact HO_13.out) hb); have n1_ := Aside0.mk (Kd.R_below (by (with_reducible repeat (first | apply Kd.R_alloc | apply Kd.R_drewN | apply Kd.R_drew)); exact HO_60.out) hb); have n2_ := Aside0.mk (Kd.R_below (by (with_reducible repeat (first | apply Kd.R_alloc | apply Kd.R_drewN | apply Kd.R_drew)); exact HO_70.out) hb); have n3_ := Aside0.mk (Kd.R_below (by (with_reducible repeat (first | apply Kd.R_alloc | apply Kd.R_drewN | apply Kd.R_drew)); exact HO346.out) hb); have n4_ := Aside0.mk (Kd.R_below (by (with_reducible repeat (first | apply Kd.R_alloc | apply Kd.R_drewN | apply Kd.R_drew)); exact HO350.out) hb); have n5_ := Aside0.mk (blk_below (g := gb327) (o := .cells #[.int .i64 x328000_13, .int .i64 x328001_13] 40 (0, 0)) (by (with_reducible repeat (first | refine blk_drewN ?_ _ | refine blk_drew ?_ | refine blk_alloc ?_ _)); exact BK327.out) hb); have n6_ := Aside0.mk (blk_below (g := gb343) (o := .cells #[.int .u8 (rd y339 x72_3), .int .i64 x328000_13, .int .i64 x328001_13] 42 (0, 0)) (by (with_reducible repeat (first | refine blk_drewN ?_ _ | refine blk_drew ?_ | refine blk_alloc ?_ _)); exact BK343.out) hb); have n7_ := Aside0.mk (below_step (by repeat (first | (with_reducible first | exact HB.out | apply below_alloc | apply pw_below_drewN | apply below_drew1 | refine below_set ?_ GE327.out | refine below_set ?_ GE343.out) | exact HB.out)) hb); clear HO_13; clear HO_60; clear HO_70; clear HO346; clear HO350; clear BK327; clear BK343; clear HB; have HO_13 := n0_; have HO_60 := n1_; have HO_70 := n2_; have HO346 := n3_; have HO350 := n4_; have BK327 := n5_; have BK343 := n6_; have HB := n7_; clear n0_ n1_ n2_ n3_ n4_ n5_ n6_ n7_; (try clear hb); (try clear hb2); (try clear hk); (try clear hi)))
                     go_roundg k3
                     case measure => have := HJ13.out; have := HK2.out; have := HK3.out; omega
                     case rel => exact ⟨(wrap64 (x72_3 + 1)), (by first | rfl | (simp; done) | (simp [*]; done) | (simp [wrap64, wrap32]; done)), H', ⟨by have := HJ13.out; have := HK2.out; have := HK3.out; omega⟩, ⟨by (with_reducible repeat (first | apply Kd.R_alloc | apply Kd.R_drewN | apply Kd.R_drew)); exact HO_13.out⟩, ⟨by (with_reducible repeat (first | apply Kd.R_alloc | apply Kd.R_drewN | apply Kd.R_drew)); exact HO_60.out⟩, ⟨by (with_reducible repeat (first | apply Kd.R_alloc | apply Kd.R_drewN | apply Kd.R_drew)); exact HO_70.out⟩, ⟨by (with_reducible repeat (first | refine blk_drewN ?_ _ | refine blk_drew ?_ | refine blk_alloc ?_ _)); exact BK327.out⟩, ⟨by repeat (first | (with_reducible first | exact HB.out | apply below_alloc | apply pw_below_drewN | apply below_drew1 | refine below_set ?_ GE327.out | refine below_set ?_ GE343.out) | exact HB.out)⟩⟩
                   ·rw [if_neg c68] at H
                    have c68b0 : (t358.toList == t359.toList) = false := beq_eq_false_iff_ne.mpr c68
                    have c68b1 : (t358.toList != t359.toList) = true := bne_iff_ne.mpr c68
                    have hf_ := Option.some.inj H
                    rw [hr_] at hf_
                    cases hf_
                  ·replace c65 := Bool.eq_false_iff.mpr c65
                   subst c65
                   have H1 : (some false) = some r := by rw [if_neg (show ¬ (false = true) by decide)] at H; exact H
                   clear H
                   have H := H1
                   clear H1
                   have hf_ := Option.some.inj H
                   rw [hr_] at hf_
                   cases hf_
                 ·rw [if_neg c63] at H
                  have c63b0 : (t347 == 2) = false := beq_eq_false_iff_ne.mpr c63
                  have c63b1 : (t347 != 2) = true := bne_iff_ne.mpr c63
                  have hf_ := Option.some.inj H
                  rw [hr_] at hf_
                  cases hf_
              ·rw [if_neg c36] at H
               exact absurd H (by simp)
             ·rw [if_neg c35] at H
              exact absurd H (by simp)
            ·rw [if_neg c34] at H
             have c34b0 : decide (x72_3 < (y339.length : Int)) = false := decide_eq_false c34
             clear c34
             have H' := Aside0.mk H
             clear H
             go_wp2
             go_roundg k3
             case measure => have := HJ13.out; have := HK2.out; have := HK3.out; omega
             case rel => exact ⟨(wrap64 (x62_2 + 1)), (by first | rfl | (simp; done) | (simp [*]; done) | (simp [wrap64, wrap32]; done)), H', ⟨by have := HJ13.out; have := HK2.out; have := HK3.out; omega⟩, ⟨by (with_reducible repeat (first | apply Kd.R_alloc | apply Kd.R_drewN | apply Kd.R_drew)); exact HO_13.out⟩, ⟨by (with_reducible repeat (first | apply Kd.R_alloc | apply Kd.R_drewN | apply Kd.R_drew)); exact HO_60.out⟩, ⟨by (with_reducible repeat (first | refine blk_drewN ?_ _ | refine blk_drew ?_ | refine blk_alloc ?_ _)); exact BK327.out⟩, ⟨by repeat (first | (with_reducible first | exact HB.out | apply below_alloc | apply pw_below_drewN | apply below_drew1 | refine below_set ?_ GE327.out) | exact HB.out)⟩⟩
         ·rw [if_neg c30] at H
          exact absurd H (by simp)
        ·rw [if_neg c29] at H
         exact absurd H (by simp)
       ·rw [if_neg c28] at H
        have c28b0 : decide (x62_2 < (y335.length : Int)) = false := decide_eq_false c28
        clear c28
        obtain rfl := Option.some.inj H
        go_wp2
        go_ret
        exact ⟨by first | rfl | (simp [errW_none, errW_some] <;> rfl) | (simp [*, errW_none, errW_some] <;> rfl), by repeat (first | (with_reducible first | exact HB.out | apply below_alloc | apply pw_below_drewN | apply below_drew1 | refine below_set ?_ GE327.out) | exact HB.out)⟩
 ·replace c8 := Bool.eq_false_iff.mpr c8
  subst c8
  have H1 : (some false) = some r := by rw [if_neg (show ¬ (false = true) by decide)] at H; exact H
  clear H
  have H := H1
  clear H1
  have hf_ := Option.some.inj H
  rw [hr_] at hf_
  cases hf_

end Go.Proofs.YtekalnhackjldaaDoor.PDecodeUnits
