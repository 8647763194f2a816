-- Laid by a program of ours (the kit's print with words and contracts of our own beside it).
import Derived.Test.YtekalnhackjldaaDoorPTokenWordsx0
import Derived.Test.YtekalnhackjldaaDoorPTokenWordsx2
import Derived.Test.YtekalnhackjldaaDoorPTokenWordsx6
import Derived.Test.YtekalnhackjldaaDoorPTokenWordsx11
import Derived.Test.YtekalnhackjldaaDoorPTokenWordsx12
import Derived.Test.YtekalnhackjldaaDoorPTokenWordsx16
namespace Go.Proofs.YtekalnhackjldaaDoor.PTokenWords
open Go.RowKit Go.Proofs.YtekalnhackjldaaDoor.X Go.Proofs.YtekalnhackjldaaDoorW.PrintWords Go.Proofs.YtekalnhackjldaaDoorW.PrintLast Go.Proofs.YtekalnhackjldaaDoorW.PrintMore
attribute [local go_sem] max2_int min2_int max_two min_two max_three min_three max_four min_four   -- for this text's walks alone
set_option linter.unusedVariables false
set_option linter.unusedSimpArgs false

/-! ### redpenlaw16_TokenWords: function 8 -/
def redpenlaw16_TokenWords.j0 : Nat → Int → List Int → List Int → Int → Int → Option (Bool)
 | 0, _, _, _, _, _ => none
 | k + 1, x0, x1, x2, x3, x4 => (redpenlaw16_pieces.f).bind fun t372 => ((redpenlaw11_Bits.f k t372 x2 x1).bind fun t375 => ((decode_Units.f k (Int.tmod x0 9) t375 1 0 (t375.length : Int)).bind fun bt378 => (if bt378.2 = 0 then ((token_Words.f k t375 bt378.1 x3 x4).bind fun t382 => ((redpenref15_Words.f k t375 bt378.1 x3 x4).bind fun t385 => ((redpenref15_SameWords.f k t382 t385).bind fun t388 => (some t388)))) else (some false))))
def redpenlaw16_TokenWords.f (k : Nat) (a0 : Int) (l1 : List Int) (l2 : List Int) (a3 : Int) (a4 : Int) (a5 : Bool) : Option (Bool) := (redpenlaw16_Awake.f k).bind fun t371 => (if t371 = true then (if (l1.length : Int) > 500 then (some true) else (if a5 = true then (redpenlaw16_TokenWords.j0 k a0 l1 l2 a3 a4) else (redpenlaw16_TokenWords.j0 k a0 l1 l2 (wrap64 (Int.tmod (IntKind.u64.wrap (a3)) 5)) (wrap64 (Int.tmod (IntKind.u64.wrap (a4)) 12))))) else (some false))
theorem redpenlaw16_TokenWords.mono_l : ∀ k, (∀ y0 y1 y2 y3 y4, LeO (redpenlaw16_TokenWords.j0 k y0 y1 y2 y3 y4) (redpenlaw16_TokenWords.j0 (k + 1) y0 y1 y2 y3 y4))
 | 0 => fun _ _ _ _ _ r h => by simp [redpenlaw16_TokenWords.j0] at h
 | k + 1 => by
  have ih0 := redpenlaw16_TokenWords.mono_l k
  ·intro y0 y1 y2 y3 y4
   unfold redpenlaw16_TokenWords.j0
   repeat' first
   | (with_reducible exact ih0 _ _ _ _ _)
   | (with_reducible exact decode_Units.mono _ _ _ _ _ _)
   | (with_reducible exact redpenlaw11_Bits.mono _ _ _ _)
   | (with_reducible exact redpenlaw16_Awake.mono _)
   | (with_reducible exact redpenref15_SameWords.mono _ _ _)
   | (with_reducible exact redpenref15_Words.mono _ _ _ _ _)
   | (with_reducible exact token_Words.mono _ _ _ _ _)
   | (with_reducible exact LeO.refl _)
   | (with_reducible exact LeO.none _)
   | (with_reducible refine LeO.ite ?_ ?_)
   | (with_reducible refine LeO.bind ?_ (fun _ => ?_))
theorem redpenlaw16_TokenWords.mono : ∀ a0 a1 a2 a3 a4 a5 k, LeO (redpenlaw16_TokenWords.f k a0 a1 a2 a3 a4 a5) (redpenlaw16_TokenWords.f (k + 1) a0 a1 a2 a3 a4 a5) := by
 intro a0 a1 a2 a3 a4 a5 k
 have ih0 := redpenlaw16_TokenWords.mono_l k
 unfold redpenlaw16_TokenWords.f
 repeat' first
   | (with_reducible exact ih0 _ _ _ _ _)
   | (with_reducible exact decode_Units.mono _ _ _ _ _ _)
   | (with_reducible exact redpenlaw11_Bits.mono _ _ _ _)
   | (with_reducible exact redpenlaw16_Awake.mono _)
   | (with_reducible exact redpenref15_SameWords.mono _ _ _)
   | (with_reducible exact redpenref15_Words.mono _ _ _ _ _)
   | (with_reducible exact token_Words.mono _ _ _ _ _)
   | (with_reducible exact LeO.refl _)
   | (with_reducible exact LeO.none _)
   | (with_reducible refine LeO.ite ?_ ?_)
   | (with_reducible refine LeO.bind ?_ (fun _ => ?_))
set_option maxHeartbeats 8000000 in
set_option maxRecDepth 100000 in
theorem redpenlaw16_TokenWords.calls (k : Nat) (a0 : Int) (A1 : Option Addr) (c1 : Nat) (l1 : List Int) (A2 : Option Addr) (c2 : Nat) (l2 : List Int) (a3 : Int) (a4 : Int) (a5 : Bool) (r : Bool) (w : World) (hr1 : Kd.C (Kd.int .u8) w A1 l1.length l1) (hc1 : l1.length ≤ c1) (hr2 : Kd.C (Kd.int .u8) w A2 l2.length l2) (hc2 : l2.length ≤ c2) (h : redpenlaw16_TokenWords.f k a0 l1 l2 a3 a4 a5 = some r) (hr_ : r = true) (hL : Go.Proofs.YtekalnhackjldaaDoor.H.Laid w) :
  Calls Tryd.prog 8 #[.int .u8 a0, .slice A1 l1.length c1, .slice A2 l2.length c2, .int .i64 a3, .int .i64 a4, .bool a5] w fun e w' => e = .returned (.bool r) ∧ Below w.heap.size w w' := by
 have HL := Aside0.mk hL
 clear hL
 have hu40 := Tryd.underlying40
 have hu42 := Tryd.underlying42
 have HR1 := Aside0.mk hr1
 have HC1 := Aside0.mk hc1
 clear hr1 hc1
 have HR2 := Aside0.mk hr2
 have HC2 := Aside0.mk hc2
 clear hr2 hc2
 have HB := Aside0.mk (Below.refl w.heap.size w)
 have H : ((redpenlaw16_Awake.f k).bind fun t371 => (if t371 = true then (if (l1.length : Int) > 500 then (some true) else (if a5 = true then (redpenlaw16_TokenWords.j0 k a0 l1 l2 a3 a4) else (redpenlaw16_TokenWords.j0 k a0 l1 l2 (wrap64 (Int.tmod (IntKind.u64.wrap (a3)) 5)) (wrap64 (Int.tmod (IntKind.u64.wrap (a4)) 12))))) else (some false))) = some r := h
 clear h
 replace H := Option.bind_eq_some_iff.mp H
 obtain ⟨t371, A70, H⟩ := H
 replace H : (if t371 = true then (if (l1.length : Int) > 500 then (some true) else (if a5 = true then (redpenlaw16_TokenWords.j0 k a0 l1 l2 a3 a4) else (redpenlaw16_TokenWords.j0 k a0 l1 l2 (wrap64 (Int.tmod (IntKind.u64.wrap (a3)) 5)) (wrap64 (Int.tmod (IntKind.u64.wrap (a4)) 12))))) else (some false)) = some r := H
 have A7 := Aside0.mk A70
 clear A70
 by_cases c8 : t371 = true
 ·subst c8
  have H1 : (if (l1.length : Int) > 500 then (some true) else (if a5 = true then (redpenlaw16_TokenWords.j0 k a0 l1 l2 a3 a4) else (redpenlaw16_TokenWords.j0 k a0 l1 l2 (wrap64 (Int.tmod (IntKind.u64.wrap (a3)) 5)) (wrap64 (Int.tmod (IntKind.u64.wrap (a4)) 12))))) = some r := by rw [if_pos rfl] at H; exact H
  clear H
  have H := H1
  clear H1
  by_cases c9 : (l1.length : Int) > 500
  ·rw [if_pos c9] at H
   have c9b0 : decide (500 < (l1.length : Int)) = true := decide_eq_true c9
   have c9b1 : decide (500 < l1.length) = true := decide_eq_true (by omega)
   clear c9
   obtain rfl := Option.some.inj H
   go_enter Tryd.func8, Tryd.ntmps8
   go_wp2_with (first | ((with_reducible refine gate_callee (f := 28) rfl ?_); refine goesL_ (some 16) rfl rfl Tryd.func28 (by kernel_rfl) rfl #[] rfl (by (try simp only [List.map_toArray, List.map_cons, List.map_nil]); first | done | rfl | (simp only [List.length_drop, List.length_take]; rfl)) ?_; (with_reducible refine (redpenlaw16_Awake.calls k  true _ A7.out).mono ?_); rintro e w10 ⟨rfl, hb⟩; refine ⟨_, rfl, ?_⟩; have n0_ := Aside0.mk (below_step (by repeat (first | (with_reducible first | exact HB.out | apply below_alloc | apply pw_below_drewN | apply below_drew1) | exact HB.out)) hb); clear HB; have HB := n0_; clear n0_; (try clear hb); (try clear hb2); (try clear hk); (try clear hi)))
   go_ret
   exact ⟨by first | rfl | (simp [errW_none, errW_some] <;> rfl) | (simp [*, errW_none, errW_some] <;> rfl), by repeat (first | (with_reducible first | exact HB.out | apply below_alloc | apply pw_below_drewN | apply below_drew1) | exact HB.out)⟩
  ·rw [if_neg c9] at H
   have c9b0 : decide (500 < (l1.length : Int)) = false := decide_eq_false c9
   have c9b1 : decide (500 < l1.length) = false := decide_eq_false (by omega)
   clear c9
   have HC11 := Aside0.mk H
   clear H
   go_enter Tryd.func8, Tryd.ntmps8
   go_upto_if 22 with (first | ((with_reducible refine gate_callee (f := 28) rfl ?_); refine goesL_ (some 16) rfl rfl Tryd.func28 (by kernel_rfl) rfl #[] rfl (by (try simp only [List.map_toArray, List.map_cons, List.map_nil]); first | done | rfl | (simp only [List.length_drop, List.length_take]; rfl)) ?_; (with_reducible refine (redpenlaw16_Awake.calls k  true _ A7.out).mono ?_); rintro e w12 ⟨rfl, hb⟩; refine ⟨_, rfl, ?_⟩; have n0_ := Aside0.mk (below_step (by repeat (first | (with_reducible first | exact HB.out | apply below_alloc | apply pw_below_drewN | apply below_drew1) | exact HB.out)) hb); clear HB; have HB := n0_; clear n0_; (try clear hb); (try clear hb2); (try clear hk); (try clear hi)))
   (try simp only [Act.put, List.setIfInBounds_toArray, List.set_cons_zero, List.set_cons_succ])
   go_cut [3, 4] (fun v3 v4 wc => ∃ (kq : Nat) (x3_10 : Int) (x4_10 : Int), v3 = .int .i64 x3_10 ∧ v4 = .int .i64 x4_10 ∧ Aside0 (redpenlaw16_TokenWords.j0 kq a0 l1 l2 x3_10 x4_10 = some r) ∧ Aside0 (kq ≤ k) ∧ Aside0 (Below w.heap.size w wc))
   case first =>
    have H := HC11.out
    clear HC11
    by_cases c13 : a5 = true
    ·subst c13
     have H1 : (redpenlaw16_TokenWords.j0 k a0 l1 l2 a3 a4) = some r := by rw [if_pos rfl] at H; exact H
     clear H
     have H := H1
     clear H1
     have H' := Aside0.mk H
     clear H
     go_wp2
     go_meet
     case rel => exact ⟨_, (a3), (a4), (by first | rfl | (simp; done) | (simp [*]; done) | (simp [wrap64, wrap32]; done)), (by first | rfl | (simp; done) | (simp [*]; done) | (simp [wrap64, wrap32]; done)), H', ⟨by first | omega | exact Nat.le_refl _⟩, ⟨by repeat (first | (with_reducible first | exact HB.out | apply below_alloc | apply pw_below_drewN | apply below_drew1) | exact HB.out)⟩⟩
    ·replace c13 := Bool.eq_false_iff.mpr c13
     subst c13
     have H1 : (redpenlaw16_TokenWords.j0 k a0 l1 l2 (wrap64 (Int.tmod (IntKind.u64.wrap (a3)) 5)) (wrap64 (Int.tmod (IntKind.u64.wrap (a4)) 12))) = some r := by rw [if_neg (show ¬ (false = true) by decide)] at H; exact H
     clear H
     have H := H1
     clear H1
     have H' := Aside0.mk H
     clear H
     go_wp2
     go_meet
     case rel => exact ⟨_, (wrap64 (Int.tmod (IntKind.u64.wrap (a3)) 5)), (wrap64 (Int.tmod (IntKind.u64.wrap (a4)) 12)), (by first | rfl | (simp; done) | (simp [*]; done) | (simp [wrap64, wrap32]; done)), (by first | rfl | (simp; done) | (simp [*]; done) | (simp [wrap64, wrap32]; done)), H', ⟨by first | omega | exact Nat.le_refl _⟩, ⟨by repeat (first | (with_reducible first | exact HB.out | apply below_alloc | apply pw_below_drewN | apply below_drew1) | exact HB.out)⟩⟩
   case rest =>
    clear HC11
    (try clear c1); (try clear c2); (try clear p2); (try clear p6); (try clear c8); (try clear c9); (try clear c9b0); (try clear c9b1); (try clear c13)
    obtain ⟨kq, x3_10, x4_10, rfl, rfl, HA, HJ10, HB⟩ := hcut
    cases kq with
    | zero => exact absurd HA.out (by simp [redpenlaw16_TokenWords.j0])
    | succ kj10 =>
     have H := HA.out
     clear HA
     simp only [redpenlaw16_TokenWords.j0] at H
     replace H := Option.bind_eq_some_iff.mp H
     obtain ⟨t372, A140, H⟩ := H
     replace H : ((redpenlaw11_Bits.f kj10 t372 l2 l1).bind fun t375 => ((decode_Units.f kj10 (Int.tmod a0 9) t375 1 0 (t375.length : Int)).bind fun bt378 => (if bt378.2 = 0 then ((token_Words.f kj10 t375 bt378.1 x3_10 x4_10).bind fun t382 => ((redpenref15_Words.f kj10 t375 bt378.1 x3_10 x4_10).bind fun t385 => ((redpenref15_SameWords.f kj10 t382 t385).bind fun t388 => (some t388)))) else (some false)))) = some r := H
     have A14 := Aside0.mk A140
     clear A140
     replace H := Option.bind_eq_some_iff.mp H
     obtain ⟨t375, A150, H⟩ := H
     replace H : ((decode_Units.f kj10 (Int.tmod a0 9) t375 1 0 (t375.length : Int)).bind fun bt378 => (if bt378.2 = 0 then ((token_Words.f kj10 t375 bt378.1 x3_10 x4_10).bind fun t382 => ((redpenref15_Words.f kj10 t375 bt378.1 x3_10 x4_10).bind fun t385 => ((redpenref15_SameWords.f kj10 t382 t385).bind fun t388 => (some t388)))) else (some false))) = some r := H
     have A15 := Aside0.mk A150
     clear A150
     replace H := Option.bind_eq_some_iff.mp H
     obtain ⟨⟨t378, t381⟩, A160, H⟩ := H
     replace H : (if t381 = 0 then ((token_Words.f kj10 t375 t378 x3_10 x4_10).bind fun t382 => ((redpenref15_Words.f kj10 t375 t378 x3_10 x4_10).bind fun t385 => ((redpenref15_SameWords.f kj10 t382 t385).bind fun t388 => (some t388)))) else (some false)) = some r := H
     have A16 := Aside0.mk A160
     clear A160
     by_cases c17 : t381 = 0
     ·rw [if_pos c17] at H
      have c17b0 : (t381 == 0) = true := beq_iff_eq.mpr c17
      have c17b1 : (t381 != 0) = false := bne_eq_false_iff_eq.mpr c17
      clear c17
      replace H := Option.bind_eq_some_iff.mp H
      obtain ⟨t382, A180, H⟩ := H
      replace H : ((redpenref15_Words.f kj10 t375 t378 x3_10 x4_10).bind fun t385 => ((redpenref15_SameWords.f kj10 t382 t385).bind fun t388 => (some t388))) = some r := H
      have A18 := Aside0.mk A180
      clear A180
      replace H := Option.bind_eq_some_iff.mp H
      obtain ⟨t385, A190, H⟩ := H
      replace H : ((redpenref15_SameWords.f kj10 t382 t385).bind fun t388 => (some t388)) = some r := H
      have A19 := Aside0.mk A190
      clear A190
      replace H := Option.bind_eq_some_iff.mp H
      obtain ⟨t388, A200, H⟩ := H
      replace H : (some t388) = some r := H
      have A20 := Aside0.mk A200
      clear A200
      obtain rfl := Option.some.inj H
      go_wp2_with (first | ((with_reducible refine gate_callee (f := 29) rfl ?_); refine goesL_ (some 31) rfl rfl Tryd.func29 (by kernel_rfl) rfl #[] rfl (by (try simp only [List.map_toArray, List.map_cons, List.map_nil]); first | done | rfl | (simp only [List.length_drop, List.length_take]; rfl)) ?_; (with_reducible refine (redpenlaw16_pieces.calls  t372 _ A14.out).mono ?_); rintro e w21 ⟨v373, rfl, ho0, hb⟩; refine ⟨_, rfl, ?_⟩; have n0_ := Aside0.mk (Kd.R_lower ho0 (below_size (by repeat (first | (with_reducible first | exact HB.out | apply below_alloc | apply pw_below_drewN | apply below_drew1) | exact HB.out)))); have n1_ := Aside0.mk (below_step (by repeat (first | (with_reducible first | exact HB.out | apply below_alloc | apply pw_below_drewN | apply below_drew1) | exact HB.out)) hb); clear HB; have HO374 := n0_; have HB := n1_; clear n0_ n1_; (try clear hb); (try clear hb2); (try clear hk); (try clear hi); (try clear ho0); obtain ⟨Ao22, co22, eo22⟩ := Kd.R_slice HO374.out; subst eo22) | ((with_reducible refine gate_callee (f := 10) rfl ?_); refine goesL_ (some 34) rfl rfl Tryd.func10 (by kernel_rfl) rfl #[.slice Ao22 t372.length co22, .slice A2 l2.length c2, .slice A1 l1.length c1] rfl (by (try simp only [List.map_toArray, List.map_cons, List.map_nil]); first | done | rfl | (simp only [List.length_drop, List.length_take]; rfl)) ?_; (with_reducible refine (redpenlaw11_Bits.calls kj10 _ _ t372 _ _ l2 _ _ l1 t375 _ ?side1 ?side2 ?side3 ?side4 ?side5 ?side6 A15.out).mono ?_); (case side1 => repeat (first | exact (Kd.R_reads' HO374.out).2.2 | (with_reducible refine Kd.C_alloc ?_ _) | (with_reducible refine Kd.C_drewN ?_ _) | (with_reducible refine Kd.C_drew ?_))); (case side2 => exact (Kd.R_reads' HO374.out).2.1); (case side3 => repeat (first | exact (Kd.C_below HR2.out HB.out) | (with_reducible refine Kd.C_alloc ?_ _) | (with_reducible refine Kd.C_drewN ?_ _) | (with_reducible refine Kd.C_drew ?_))); (case side4 => exact HC2.out); (case side5 => repeat (first | exact (Kd.C_below HR1.out HB.out) | (with_reducible refine Kd.C_alloc ?_ _) | (with_reducible refine Kd.C_drewN ?_ _) | (with_reducible refine Kd.C_drew ?_))); (case side6 => exact HC1.out); rintro e w23 ⟨v376, rfl, ho0, hb⟩; refine ⟨_, rfl, ?_⟩; have n0_ := Aside0.mk (Kd.R_below (by (with_reducible repeat (first | apply Kd.R_alloc | apply Kd.R_drewN | apply Kd.R_drew)); exact HO374.out) hb); have n1_ := Aside0.mk (Kd.R_lower ho0 (below_size (by repeat (first | (with_reducible first | exact HB.out | apply below_alloc | apply pw_below_drewN | apply below_drew1) | exact HB.out)))); have n2_ := Aside0.mk (below_step (by repeat (first | (with_reducible first | exact HB.out | apply below_alloc | apply pw_below_drewN | apply below_drew1) | exact HB.out)) hb); clear HO374; clear HB; have HO374 := n0_; have HO377 := n1_; have HB := n2_; clear n0_ n1_ n2_; (try clear hb); (try clear hb2); (try clear hk); (try clear hi); (try clear ho0); obtain ⟨Ao24, co24, eo24⟩ := Kd.R_slice HO377.out; subst eo24) | ((with_reducible refine gate_callee (f := 16) rfl ?_); refine goesL_ (some 43) rfl rfl Tryd.func16 (by kernel_rfl) rfl #[.int .u8 (Int.tmod a0 9), .slice Ao24 t375.length co24, .agg #[.int .u8 1, .int .i64 0, .int .i64 (t375.length : Int)]] rfl (by (try simp only [List.map_toArray, List.map_cons, List.map_nil]); first | done | rfl | (simp only [List.length_drop, List.length_take]; rfl)) ?_; (with_reducible refine (decode_Units.calls kj10 (Int.tmod a0 9) _ _ t375 1 0 (t375.length : Int) t378 t381 _ ?side1 ?side2 A16.out ?sideL).mono ?_); (case sideL => first | exact HL.out | exact HL.out.below HB.out | exact HL.out.below (by repeat (first | (with_reducible first | exact HB.out | apply below_alloc | apply pw_below_drewN | apply below_drew1 | refine below_set ?_ (Aside0.out (by assumption))) | exact HB.out))); (case side1 => repeat (first | exact (Kd.R_reads' HO377.out).2.2 | (with_reducible refine Kd.C_alloc ?_ _) | (with_reducible refine Kd.C_drewN ?_ _) | (with_reducible refine Kd.C_drew ?_))); (case side2 => exact (Kd.R_reads' HO377.out).2.1); rintro e w25 ⟨v379, rfl, ho0, hb⟩; refine ⟨_, rfl, ?_⟩; have n0_ := Aside0.mk (Kd.R_below (by (with_reducible repeat (first | apply Kd.R_alloc | apply Kd.R_drewN | apply Kd.R_drew)); exact HO374.out) hb); have n1_ := Aside0.mk (Kd.R_below (by (with_reducible repeat (first | apply Kd.R_alloc | apply Kd.R_drewN | apply Kd.R_drew)); exact HO377.out) hb); have n2_ := Aside0.mk (Kd.R_lower ho0 (below_size (by repeat (first | (with_reducible first | exact HB.out | apply below_alloc | apply pw_below_drewN | apply below_drew1) | exact HB.out)))); have n3_ := Aside0.mk (below_step (by repeat (first | (with_reducible first | exact HB.out | apply below_alloc | apply pw_below_drewN | apply below_drew1) | exact HB.out)) hb); clear HO374; clear HO377; clear HB; have HO374 := n0_; have HO377 := n1_; have HO380 := n2_; have HB := n3_; clear n0_ n1_ n2_ n3_; (try clear hb); (try clear hb2); (try clear hk); (try clear hi); (try clear ho0); obtain ⟨Ao26, co26, eo26⟩ := Kd.R_slice HO380.out; subst eo26) | (go_at_call 31; (with_reducible refine (token_Words.calls kj10 _ _ t375 _ _ t378 x3_10 x4_10 t382 _ ?side1 ?side2 ?side3 ?side4 A18.out).mono ?_); (case side1 => repeat (first | exact (Kd.R_reads' HO377.out).2.2 | (with_reducible refine Kd.C_alloc ?_ _) | (with_reducible refine Kd.C_drewN ?_ _) | (with_reducible refine Kd.C_drew ?_))); (case side2 => exact (Kd.R_reads' HO377.out).2.1); (case side3 => repeat (first | exact (Kd.R_reads' HO380.out).2.2 | (with_reducible refine Kd.C_alloc ?_ _) | (with_reducible refine Kd.C_drewN ?_ _) | (with_reducible refine Kd.C_drew ?_))); (case side4 => exact (Kd.R_reads' HO380.out).2.1); rintro e w27 ⟨v383, rfl, ho0, hb⟩; have n0_ := Aside0.mk (Kd.R_below (by (with_reducible repeat (first | apply Kd.R_alloc | apply Kd.R_drewN | apply Kd.R_drew)); exact HO374.out) hb); have n1_ := Aside0.mk (Kd.R_below (by (with_reducible repeat (first | apply Kd.R_alloc | apply Kd.R_drewN | apply Kd.R_drew)); exact HO377.out) hb); have n2_ := Aside0.mk (Kd.R_below (by (with_reducible repeat (first | apply Kd.R_alloc | apply Kd.R_drewN | apply Kd.R_drew)); exact HO380.out) hb); have n3_ := Aside0.mk (Kd.R_lower ho0 (below_size (by repeat (first | (with_reducible first | exact HB.out | apply below_alloc | apply pw_below_drewN | apply below_drew1) | exact HB.out)))); have n4_ := Aside0.mk (below_step (by repeat (first | (with_reducible first | exact HB.out | apply below_alloc | apply pw_below_drewN | apply below_drew1) | exact HB.out)) hb); clear HO374; clear HO377; clear HO380; clear HB; have HO374 := n0_; have HO377 := n1_; have HO380 := n2_; have HO384 := n3_; have HB := n4_; clear n0_ n1_ n2_ n3_ n4_; (try clear hb); (try clear hb2); (try clear hk); (try clear hi); (try clear ho0)) | (go_at_call 32; (with_reducible refine (redpenref15_Words.calls kj10 _ _ t375 _ _ t378 x3_10 x4_10 t385 _ ?side1 ?side2 ?side3 ?side4 A19.out).mono ?_); (case side1 => repeat (first | exact (Kd.R_reads' HO377.out).2.2 | (with_reducible refine Kd.C_alloc ?_ _) | (with_reducible refine Kd.C_drewN ?_ _) | (with_reducible refine Kd.C_drew ?_))); (case side2 => exact (Kd.R_reads' HO377.out).2.1); (case side3 => repeat (first | exact (Kd.R_reads' HO380.out).2.2 | (with_reducible refine Kd.C_alloc ?_ _) | (with_reducible refine Kd.C_drewN ?_ _) | (with_reducible refine Kd.C_drew ?_))); (case side4 => exact (Kd.R_reads' HO380.out).2.1); rintro e w28 ⟨v386, rfl, ho0, hb⟩; have n0_ := Aside0.mk (Kd.R_below (by (with_reducible repeat (first | apply Kd.R_alloc | apply Kd.R_drewN | apply Kd.R_drew)); exact HO374.out) hb); have n1_ := Aside0.mk (Kd.R_below (by (with_reducible repeat (first | apply Kd.R_alloc | apply Kd.R_drewN | apply Kd.R_drew)); exact HO377.out) hb); have n2_ := Aside0.mk (Kd.R_below (by (with_reducible repeat (first | apply Kd.R_alloc | apply Kd.R_drewN | apply Kd.R_drew)); exact HO380.out) hb); have n3_ := Aside0.mk (Kd.R_elder' (by (with_reducible repeat (first | apply Kd.R_alloc | apply Kd.R_drewN | apply Kd.R_drew)); exact HO384.out) (Kd.R_base ho0) hb); have n4_ := Aside0.mk (Kd.R_lower (Kd.R_new' ho0 (Kd.R_lt (by (with_reducible repeat (first | apply Kd.R_alloc | apply Kd.R_drewN | apply Kd.R_drew)); exact HO384.out))) (below_size (by repeat (first | (with_reducible first | exact HB.out | apply below_alloc | apply pw_below_drewN | apply below_drew1) | exact HB.out)))); have n5_ := Aside0.mk (below_step (by repeat (first | (with_reducible first | exact HB.out | apply below_alloc | apply pw_below_drewN | apply below_drew1) | exact HB.out)) hb); clear HO374; clear HO377; clear HO380; clear HO384; clear HB; have HO374 := n0_; have HO377 := n1_; have HO380 := n2_; have HO384 := n3_; have HO387 := n4_; have HB := n5_; clear n0_ n1_ n2_ n3_ n4_ n5_; (try clear hb); (try clear hb2); (try clear hk); (try clear hi); (try clear ho0); obtain ⟨Ao29, co29, eo29⟩ := Kd.R_slice HO384.out; subst eo29; obtain ⟨Ao30, co30, eo30⟩ := Kd.R_slice HO387.out; subst eo30) | (go_at_call 30; (with_reducible refine (redpenref15_SameWords.calls kj10 _ _ t382 _ _ t385 t388 _ ?side1 ?side2 ?side3 ?side4 A20.out).mono ?_); (case side1 => repeat (first | exact (Kd.R_reads' HO384.out).2.2 | (with_reducible refine Kd.C_alloc ?_ _) | (with_reducible refine Kd.C_drewN ?_ _) | (with_reducible refine Kd.C_drew ?_))); (case side2 => exact (Kd.R_reads' HO384.out).2.1); (case side3 => repeat (first | exact (Kd.R_reads' HO387.out).2.2 | (with_reducible refine Kd.C_alloc ?_ _) | (with_reducible refine Kd.C_drewN ?_ _) | (with_reducible refine Kd.C_drew ?_))); (case side4 => exact (Kd.R_reads' HO387.out).2.1); rintro e w' ⟨rfl, ⟨nd, rfl⟩⟩))
      go_ret
      exact ⟨by first | rfl | (simp [errW_none, errW_some] <;> rfl) | (simp [*, errW_none, errW_some] <;> rfl), by repeat (first | (with_reducible first | exact HB.out | apply below_alloc | apply pw_below_drewN | apply below_drew1) | exact HB.out)⟩
     ·rw [if_neg c17] at H
      have c17b0 : (t381 == 0) = false := beq_eq_false_iff_ne.mpr c17
      have c17b1 : (t381 != 0) = true := bne_iff_ne.mpr c17
      have hf_ := Option.some.inj H
      rw [hr_] at hf_
      cases hf_
 ·replace c8 := Bool.eq_false_iff.mpr c8
  subst c8
  have H1 : (some false) = some r := by rw [if_neg (show ¬ (false = true) by decide)] at H; exact H
  clear H
  have H := H1
  clear H1
  have hf_ := Option.some.inj H
  rw [hr_] at hf_
  cases hf_

end Go.Proofs.YtekalnhackjldaaDoor.PTokenWords
