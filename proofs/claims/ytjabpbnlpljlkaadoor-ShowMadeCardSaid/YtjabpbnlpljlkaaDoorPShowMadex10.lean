-- x
import Derived.Test.YtjabpbnlpljlkaaDoorPShowMadex0
import Derived.Test.YtjabpbnlpljlkaaDoorPShowMadex1
import Derived.Test.YtjabpbnlpljlkaaDoorPShowMadex2
import Derived.Test.YtjabpbnlpljlkaaDoorPShowMadex3
import Derived.Test.YtjabpbnlpljlkaaDoorPShowMadex9
import Derived.Test.YtjabpbnlpljlkaaDoorHMade
namespace Go.Proofs.YtjabpbnlpljlkaaDoor.PShowMade
open Go.RowKit Go.Proofs.YtjabpbnlpljlkaaDoor.X Go.Proofs.YtjabpbnlpljlkaaDoorW.PrintWords Go.Proofs.YtjabpbnlpljlkaaDoorW.PrintLast Go.Proofs.YtjabpbnlpljlkaaDoorW.PrintMore
attribute [local go_sem] max2_int min2_int max_two min_two max_three min_three max_four min_four   -- for this text's walks alone
set_option linter.unusedVariables false
set_option linter.unusedSimpArgs false

/-! ### redpenlaw20_ShowMade: function 6 -/
mutual
def redpenlaw20_ShowMade.l0 : Nat → List (S26) → Int → List (S26) → Int → Int → Option (Bool)
 | 0, _, _, _, _, _ => none
 | k + 1, x11, x12, x37, x38, x39 => if x39 < x38 then (if 0 ≤ x39 then (if x39 < (x37.length : Int) then ((show_Check.f k ((rd_T26 x37 x39).f0) ((rd_T26 x37 x39).f1) ((rd_T26 x37 x39).f2) ((rd_T26 x37 x39).f3) ((rd_T26 x37 x39).f4)).bind fun t344 => (if t344 = 0 then (redpenlaw20_ShowMade.l0 k x11 x12 x37 x38 (wrap64 (x39 + 1))) else (some false))) else (none)) else (none)) else ((show_Print.f k (⟨#[102]⟩ : ByteArray) x11).bind fun bt345 => (redpenlaw20_ShowMade.l1 k x11 x12 bt345.1 bt345.2 0 x11 (x11.length : Int) 0))
def redpenlaw20_ShowMade.l1 : Nat → List (S26) → Int → ByteArray → Int → Int → List (S26) → Int → Int → Option (Bool)
 | 0, _, _, _, _, _, _, _, _ => none
 | k + 1, x11, x12, x15, x16, x17, x52, x53, x54 => if x54 < x53 then (if 0 ≤ x54 then (if x54 < (x52.length : Int) then (redpenlaw20_ShowMade.l1 k x11 x12 x15 x16 (wrap64 (x17 + (wrap64 (1 + (((rd_T26 x52 x54).f4).length : Int))))) x52 x53 (wrap64 (x54 + 1))) else (none)) else (none)) else ((Go.Proofs.YtjabpbnlpljlkaaDoor.H.nlF x15).bind fun t349 => (if x12 = 0 then (if x16 = 0 then (if ((x15.toList == ([] : List UInt8)) == ((x11.length : Int) == 0)) = true then (if (x11.length : Int) = 0 then (some true) else (if t349 ≥ (wrap64 (x17 + 2)) then (some (decide (t349 ≤ (wrap64 (x17 + 4))))) else (some false))) else (some false)) else (some false)) else (some false)))
end
def redpenlaw20_ShowMade.f (k : Nat) (l0 : List Int) (l1 : List Int) (a2 : Bool) (a3 : Bool) (a4 : Int) : Option (Bool) := (redpenlaw20_Awake.f).bind fun t331 => (if t331 = true then ((redpenlaw19_Text.f k l0 a2).bind fun t332 => ((redpenlaw19_Text.f k l1 a3).bind fun t335 => ((hunks_Make.f k t332 t335 (wrap64 (Int.tmod a4 17))).bind fun bt338 => (redpenlaw20_ShowMade.l0 k bt338.1 bt338.2 bt338.1 (bt338.1.length : Int) 0)))) else (some false))
theorem redpenlaw20_ShowMade.mono_l : ∀ k, (∀ y0 y1 y2 y3 y4, LeO (redpenlaw20_ShowMade.l0 k y0 y1 y2 y3 y4) (redpenlaw20_ShowMade.l0 (k + 1) y0 y1 y2 y3 y4)) ∧ (∀ y0 y1 y2 y3 y4 y5 y6 y7, LeO (redpenlaw20_ShowMade.l1 k y0 y1 y2 y3 y4 y5 y6 y7) (redpenlaw20_ShowMade.l1 (k + 1) y0 y1 y2 y3 y4 y5 y6 y7))
 | 0 => ⟨fun _ _ _ _ _ r h => by simp [redpenlaw20_ShowMade.l0] at h, fun _ _ _ _ _ _ _ _ r h => by simp [redpenlaw20_ShowMade.l1] at h⟩
 | k + 1 => by
  obtain ⟨ih0, ih1⟩ := redpenlaw20_ShowMade.mono_l k
  refine ⟨?_, ?_⟩
  ·intro y0 y1 y2 y3 y4
   unfold redpenlaw20_ShowMade.l0
   repeat' first
   | (with_reducible exact ih0 _ _ _ _ _)
   | (with_reducible exact ih1 _ _ _ _ _ _ _ _)
   | (with_reducible exact hunks_Make.mono _ _ _ _)
   | (with_reducible exact redpenlaw19_Text.mono _ _ _)
   | (with_reducible exact show_Check.mono _ _ _ _ _ _)
   | (with_reducible exact show_Print.mono _ _ _)
   | (with_reducible exact LeO.refl _)
   | (with_reducible exact LeO.none _)
   | (with_reducible refine LeO.ite ?_ ?_)
   | (with_reducible refine LeO.bind ?_ (fun _ => ?_))
  ·intro y0 y1 y2 y3 y4 y5 y6 y7
   unfold redpenlaw20_ShowMade.l1
   repeat' first
   | (with_reducible exact ih0 _ _ _ _ _)
   | (with_reducible exact ih1 _ _ _ _ _ _ _ _)
   | (with_reducible exact hunks_Make.mono _ _ _ _)
   | (with_reducible exact redpenlaw19_Text.mono _ _ _)
   | (with_reducible exact show_Check.mono _ _ _ _ _ _)
   | (with_reducible exact show_Print.mono _ _ _)
   | (with_reducible exact LeO.refl _)
   | (with_reducible exact LeO.none _)
   | (with_reducible refine LeO.ite ?_ ?_)
   | (with_reducible refine LeO.bind ?_ (fun _ => ?_))
theorem redpenlaw20_ShowMade.mono : ∀ a0 a1 a2 a3 a4 k, LeO (redpenlaw20_ShowMade.f k a0 a1 a2 a3 a4) (redpenlaw20_ShowMade.f (k + 1) a0 a1 a2 a3 a4) := by
 intro a0 a1 a2 a3 a4 k
 obtain ⟨ih0, ih1⟩ := redpenlaw20_ShowMade.mono_l k
 unfold redpenlaw20_ShowMade.f
 repeat' first
   | (with_reducible exact ih0 _ _ _ _ _)
   | (with_reducible exact ih1 _ _ _ _ _ _ _ _)
   | (with_reducible exact hunks_Make.mono _ _ _ _)
   | (with_reducible exact redpenlaw19_Text.mono _ _ _)
   | (with_reducible exact show_Check.mono _ _ _ _ _ _)
   | (with_reducible exact show_Print.mono _ _ _)
   | (with_reducible exact LeO.refl _)
   | (with_reducible exact LeO.none _)
   | (with_reducible refine LeO.ite ?_ ?_)
   | (with_reducible refine LeO.bind ?_ (fun _ => ?_))
set_option maxHeartbeats 8000000 in
set_option maxRecDepth 100000 in
theorem redpenlaw20_ShowMade.calls (k : Nat) (A0 : Option Addr) (c0 : Nat) (l0 : List Int) (A1 : Option Addr) (c1 : Nat) (l1 : List Int) (a2 : Bool) (a3 : Bool) (a4 : Int) (r : Bool) (w : World) (hr0 : Kd.C (Kd.int .u8) w A0 l0.length l0) (hc0 : l0.length ≤ c0) (hr1 : Kd.C (Kd.int .u8) w A1 l1.length l1) (hc1 : l1.length ≤ c1) (h : redpenlaw20_ShowMade.f k l0 l1 a2 a3 a4 = some r) (hr_ : r = true) (hL : Go.Proofs.YtjabpbnlpljlkaaDoor.H.Laid w) :
  Calls Tryd.prog 6 #[.slice A0 l0.length c0, .slice A1 l1.length c1, .bool a2, .bool a3, .int .u8 a4] w fun e w' => e = .returned (.bool r) ∧ Below w.heap.size w w' := by
 have HL := Aside0.mk hL
 clear hL
 have hu26 := Tryd.underlying26
 have HR0 := Aside0.mk hr0
 have HC0 := Aside0.mk hc0
 clear hr0 hc0
 have HR1 := Aside0.mk hr1
 have HC1 := Aside0.mk hc1
 clear hr1 hc1
 have HB := Aside0.mk (Below.refl w.heap.size w)
 have H : ((redpenlaw20_Awake.f).bind fun t331 => (if t331 = true then ((redpenlaw19_Text.f k l0 a2).bind fun t332 => ((redpenlaw19_Text.f k l1 a3).bind fun t335 => ((hunks_Make.f k t332 t335 (wrap64 (Int.tmod a4 17))).bind fun bt338 => (redpenlaw20_ShowMade.l0 k bt338.1 bt338.2 bt338.1 (bt338.1.length : Int) 0)))) else (some false))) = some r := h
 clear h
 replace H := Option.bind_eq_some_iff.mp H
 obtain ⟨t331, A60, H⟩ := H
 replace H : (if t331 = true then ((redpenlaw19_Text.f k l0 a2).bind fun t332 => ((redpenlaw19_Text.f k l1 a3).bind fun t335 => ((hunks_Make.f k t332 t335 (wrap64 (Int.tmod a4 17))).bind fun bt338 => (redpenlaw20_ShowMade.l0 k bt338.1 bt338.2 bt338.1 (bt338.1.length : Int) 0)))) else (some false)) = some r := H
 have A6 := Aside0.mk A60
 clear A60
 by_cases c7 : t331 = true
 ·subst c7
  have H1 : ((redpenlaw19_Text.f k l0 a2).bind fun t332 => ((redpenlaw19_Text.f k l1 a3).bind fun t335 => ((hunks_Make.f k t332 t335 (wrap64 (Int.tmod a4 17))).bind fun bt338 => (redpenlaw20_ShowMade.l0 k bt338.1 bt338.2 bt338.1 (bt338.1.length : Int) 0)))) = some r := by rw [if_pos rfl] at H; exact H
  clear H
  have H := H1
  clear H1
  replace H := Option.bind_eq_some_iff.mp H
  obtain ⟨t332, A80, H⟩ := H
  replace H : ((redpenlaw19_Text.f k l1 a3).bind fun t335 => ((hunks_Make.f k t332 t335 (wrap64 (Int.tmod a4 17))).bind fun bt338 => (redpenlaw20_ShowMade.l0 k bt338.1 bt338.2 bt338.1 (bt338.1.length : Int) 0))) = some r := H
  have A8 := Aside0.mk A80
  clear A80
  replace H := Option.bind_eq_some_iff.mp H
  obtain ⟨t335, A90, H⟩ := H
  replace H : ((hunks_Make.f k t332 t335 (wrap64 (Int.tmod a4 17))).bind fun bt338 => (redpenlaw20_ShowMade.l0 k bt338.1 bt338.2 bt338.1 (bt338.1.length : Int) 0)) = some r := H
  have A9 := Aside0.mk A90
  clear A90
  replace H := Option.bind_eq_some_iff.mp H
  obtain ⟨⟨t338, t339⟩, A100, H⟩ := H
  replace H : (redpenlaw20_ShowMade.l0 k t338 t339 t338 (t338.length : Int) 0) = some r := H
  have A10 := Aside0.mk A100
  clear A100
  have H' := Aside0.mk H
  clear H
  go_enter Tryd.func6, Tryd.ntmps6
  go_wp2_with (first | ((with_reducible refine gate_callee (f := 12) rfl ?_); refine goesL_ (some 22) rfl rfl Tryd.func12 (by kernel_rfl) rfl #[] rfl (by (try simp only [List.map_toArray, List.map_cons, List.map_nil]); first | done | rfl | (simp only [List.length_drop, List.length_take]; rfl)) ?_; (with_reducible refine (redpenlaw20_Awake.calls  true _ A6.out ?sideL).mono ?_); (case sideL => first | exact HL.out | exact HL.out.below HB.out | exact HL.out.below (by repeat (first | (with_reducible first | exact HB.out | apply below_alloc | apply pw_below_drewN | apply below_drew1 | refine below_set ?_ (Aside0.out (by assumption))) | exact HB.out))); rintro e w11 ⟨rfl, hb⟩; refine ⟨_, rfl, ?_⟩; have n0_ := Aside0.mk (below_step (by repeat (first | (with_reducible first | exact HB.out | apply below_alloc | apply pw_below_drewN | apply below_drew1) | exact HB.out)) hb); clear HB; have HB := n0_; clear n0_; (try clear hb); (try clear hb2); (try clear hk); (try clear hi)) | ((with_reducible refine gate_callee (f := 21) rfl ?_); refine goesL_ (some 27) rfl rfl Tryd.func21 (by kernel_rfl) rfl #[.slice A0 l0.length c0, .bool a2] rfl (by (try simp only [List.map_toArray, List.map_cons, List.map_nil]); first | done | rfl | (simp only [List.length_drop, List.length_take]; rfl)) ?_; (with_reducible refine (redpenlaw19_Text.calls k _ _ l0 a2 t332 _ ?side1 ?side2 A8.out).mono ?_); (case side1 => repeat (first | exact (Kd.C_below HR0.out HB.out) | (with_reducible refine Kd.C_alloc ?_ _) | (with_reducible refine Kd.C_drewN ?_ _) | (with_reducible refine Kd.C_drew ?_))); (case side2 => exact HC0.out); rintro e w12 ⟨v333, rfl, ho0, hb⟩; refine ⟨_, rfl, ?_⟩; have n0_ := Aside0.mk (Kd.R_lower ho0 (below_size (by repeat (first | (with_reducible first | exact HB.out | apply below_alloc | apply pw_below_drewN | apply below_drew1) | exact HB.out)))); have n1_ := Aside0.mk (below_step (by repeat (first | (with_reducible first | exact HB.out | apply below_alloc | apply pw_below_drewN | apply below_drew1) | exact HB.out)) hb); clear HB; have HO334 := n0_; have HB := n1_; clear n0_ n1_; (try clear hb); (try clear hb2); (try clear hk); (try clear hi); (try clear ho0)) | ((with_reducible refine gate_callee (f := 21) rfl ?_); refine goesL_ (some 30) rfl rfl Tryd.func21 (by kernel_rfl) rfl #[.slice A1 l1.length c1, .bool a3] rfl (by (try simp only [List.map_toArray, List.map_cons, List.map_nil]); first | done | rfl | (simp only [List.length_drop, List.length_take]; rfl)) ?_; (with_reducible refine (redpenlaw19_Text.calls k _ _ l1 a3 t335 _ ?side1 ?side2 A9.out).mono ?_); (case side1 => repeat (first | exact (Kd.C_below HR1.out HB.out) | (with_reducible refine Kd.C_alloc ?_ _) | (with_reducible refine Kd.C_drewN ?_ _) | (with_reducible refine Kd.C_drew ?_))); (case side2 => exact HC1.out); rintro e w13 ⟨v336, rfl, ho0, hb⟩; refine ⟨_, rfl, ?_⟩; have n0_ := Aside0.mk (Kd.R_elder' (by (with_reducible repeat (first | apply Kd.R_alloc | apply Kd.R_drewN | apply Kd.R_drew)); exact HO334.out) (Kd.R_base ho0) hb); have n1_ := Aside0.mk (Kd.R_lower (Kd.R_new' ho0 (Kd.R_lt (by (with_reducible repeat (first | apply Kd.R_alloc | apply Kd.R_drewN | apply Kd.R_drew)); exact HO334.out))) (below_size (by repeat (first | (with_reducible first | exact HB.out | apply below_alloc | apply pw_below_drewN | apply below_drew1) | exact HB.out)))); have n2_ := Aside0.mk (below_step (by repeat (first | (with_reducible first | exact HB.out | apply below_alloc | apply pw_below_drewN | apply below_drew1) | exact HB.out)) hb); clear HO334; clear HB; have HO334 := n0_; have HO337 := n1_; have HB := n2_; clear n0_ n1_ n2_; (try clear hb); (try clear hb2); (try clear hk); (try clear hi); (try clear ho0); obtain ⟨Ao14, co14, eo14⟩ := Kd.R_slice HO334.out; subst eo14; obtain ⟨Ao15, co15, eo15⟩ := Kd.R_slice HO337.out; subst eo15) | ((with_reducible refine gate_callee (f := 20) rfl ?_); refine goesL_ (some 34) rfl rfl Tryd.func20 (by kernel_rfl) rfl #[.slice Ao14 t332.length co14, .slice Ao15 t335.length co15, .int .i64 (wrap64 (Int.tmod a4 17))] rfl (by (try simp only [List.map_toArray, List.map_cons, List.map_nil]); first | done | rfl | (simp only [List.length_drop, List.length_take]; rfl)) ?_; (with_reducible refine (hunks_Make.calls k _ _ t332 _ _ t335 (wrap64 (Int.tmod a4 17)) t338 t339 _ ?side1 ?side2 ?side3 ?side4 A10.out).mono ?_); (case side1 => repeat (first | exact (Kd.R_reads' HO334.out).2.2 | (with_reducible refine Kd.C_alloc ?_ _) | (with_reducible refine Kd.C_drewN ?_ _) | (with_reducible refine Kd.C_drew ?_))); (case side2 => exact (Kd.R_reads' HO334.out).2.1); (case side3 => repeat (first | exact (Kd.R_reads' HO337.out).2.2 | (with_reducible refine Kd.C_alloc ?_ _) | (with_reducible refine Kd.C_drewN ?_ _) | (with_reducible refine Kd.C_drew ?_))); (case side4 => exact (Kd.R_reads' HO337.out).2.1); rintro e w16 ⟨v340, rfl, ho0, hb⟩; refine ⟨_, rfl, ?_⟩; have n0_ := Aside0.mk (Kd.R_below (by (with_reducible repeat (first | apply Kd.R_alloc | apply Kd.R_drewN | apply Kd.R_drew)); exact HO334.out) hb); have n1_ := Aside0.mk (Kd.R_below (by (with_reducible repeat (first | apply Kd.R_alloc | apply Kd.R_drewN | apply Kd.R_drew)); exact HO337.out) hb); have n2_ := Aside0.mk (Kd.S_lower ho0 (below_size (by repeat (first | (with_reducible first | exact HB.out | apply below_alloc | apply pw_below_drewN | apply below_drew1) | exact HB.out)))); have n3_ := Aside0.mk (below_step (by repeat (first | (with_reducible first | exact HB.out | apply below_alloc | apply pw_below_drewN | apply below_drew1) | exact HB.out)) hb); clear HO334; clear HO337; clear HB; have HO334 := n0_; have HO337 := n1_; have HO341 := n2_; have HB := n3_; clear n0_ n1_ n2_ n3_; (try clear hb); (try clear hb2); (try clear hk); (try clear hi); (try clear ho0); obtain ⟨Ao17, co17, eo17⟩ := Kd.S_slice HO341.out; subst eo17))
  go_loopg [39] k (fun kq v39 w' => ∃ (x39_1 : Int), v39 = .int .i64 x39_1 ∧ Aside0 (redpenlaw20_ShowMade.l0 kq t338 t339 t338 (t338.length : Int) x39_1 = some r) ∧ Aside0 (kq ≤ k) ∧ Aside0 (Kd.S k26 26 w' w.heap.size (fun _ => True) (.slice Ao17 t338.length co17) t338) ∧ Aside0 (Kd.S k26 26 w' w.heap.size (fun _ => True) (.slice Ao17 t338.length co17) t338) ∧ Aside0 (Below w.heap.size w w'))
  case atStart => exact ⟨(0), (by first | rfl | (simp; done) | (simp [*]; done) | (simp [wrap64, wrap32]; done)), H', ⟨Nat.le_refl _⟩, ⟨by (with_reducible repeat (first | apply Kd.S_alloc | apply Kd.S_drewN | apply Kd.S_drew)); exact HO341.out⟩, ⟨by (with_reducible repeat (first | apply Kd.S_alloc | apply Kd.S_drewN | apply Kd.S_drew)); exact HO341.out⟩, ⟨by repeat (first | (with_reducible first | exact HB.out | apply below_alloc | apply pw_below_drewN | apply below_drew1) | exact HB.out)⟩⟩
  case round =>
   clear H'
   (try clear c1); (try clear c2); (try clear p2); (try clear c6); (try clear p6); (try clear c7); (try clear c12)
   obtain ⟨x39_1, rfl, HA, HK1, HO_11, HO_37, HB⟩ := hrel
   cases gk with
   | zero => exact absurd HA.out (by simp [redpenlaw20_ShowMade.l0])
   | succ k1 =>
    have H := HA.out
    clear HA
    simp only [redpenlaw20_ShowMade.l0] at H
    by_cases c18 : x39_1 < (t338.length : Int)
    ·rw [if_pos c18] at H
     have c18b0 : decide (x39_1 < (t338.length : Int)) = true := decide_eq_true c18
     clear c18
     by_cases c19 : 0 ≤ x39_1
     ·rw [if_pos c19] at H
      have c19b0 : decide (0 ≤ x39_1) = true := decide_eq_true c19
      clear c19
      by_cases c20 : x39_1 < (t338.length : Int)
      ·rw [if_pos c20] at H
       have c20b0 : decide (x39_1 < (t338.length : Int)) = true := decide_eq_true c20
       clear c20
       replace H := Option.bind_eq_some_iff.mp H
       obtain ⟨t344, A210, H⟩ := H
       replace H : (if t344 = 0 then (redpenlaw20_ShowMade.l0 k1 t338 t339 t338 (t338.length : Int) (wrap64 (x39_1 + 1))) else (some false)) = some r := H
       have A21 := Aside0.mk A210
       clear A210
       by_cases c22 : t344 = 0
       ·rw [if_pos c22] at H
        have c22b0 : (t344 == 0) = true := beq_iff_eq.mpr c22
        have c22b1 : (t344 != 0) = false := bne_eq_false_iff_eq.mpr c22
        clear c22
        have H' := Aside0.mk H
        clear H
        have p342 : 0 ≤ (x39_1 : Int) := of_decide_eq_true (by first | (with_reducible assumption) | assumption)
        have q342 : x39_1 < (t338.length : Int) := of_decide_eq_true (by first | (with_reducible assumption) | assumption)
        obtain ⟨ad342, A342_4, c342_4, e342, hx342_0, hx342_1, hx342_2, hx342_3, hx342_4, hl342_4, hi342_4⟩ := at_T26 (Kd.S_reads' HO_37.out).2.2 x39_1 p342 q342
        cases e342
        obtain ⟨ce342, hce342, hMe342, hcc342⟩ := Kd.S_get HO_37.out z26 x39_1 p342 (by first | exact q342 | exact of_decide_eq_true (by first | (with_reducible assumption) | assumption) | (have e_ := (Kd.S_reads' HO_37.out).1; omega))
        obtain ⟨ve342_4, rfl, ge342_4⟩ := k26_openM hMe342
        have hv342_4 := hcc342 4 _ rfl
        rw [add_field _ _ 4 (by omega)] at hv342_4
        replace hv342_4 := Option.some.inj (hv342_4.symm.trans hx342_4)
        rw [hv342_4] at ge342_4
        have HL342_4 := Aside0.mk (show Kd.R k29 29 _ _ _ _ ((rd_T26 t338 x39_1).f4) from ge342_4)
        clear hv342_4 ge342_4
        clear hcc342 hce342
        have HR342_4 := Aside0.mk hi342_4
        have HC342_4 := Aside0.mk hl342_4
        clear hi342_4 hl342_4
        replace p342 := eq_true p342
        replace q342 := eq_true q342
        go_wp2_with (first | ((with_reducible refine gate_dst (N := 14) rfl ?_); (try (refine gate_guard (by rfl) ?_; dsimp only)); refine box_event ?hg (N := 14) ?hd (cs := #[.int .i64 0, .int .i64 0, .int .i64 0, .int .i64 0, .slice none 0 0]) (t := 26) ?hr ?_; (case hd => rfl); (case hg => rfl); (case hr => first | (go_simp; done) | (go_simp; rfl)); intro gb343 hg w23 hbox hb; have n0_ := Aside0.mk (Kd.S_below (Kd.S_elderB (by (with_reducible repeat (first | apply Kd.S_alloc | apply Kd.S_drewN | apply Kd.S_drew)); exact HO_11.out) gb343 (Nat.le_of_eq hg.symm)) hb); have n1_ := Aside0.mk (Kd.S_below (Kd.S_elderB (by (with_reducible repeat (first | apply Kd.S_alloc | apply Kd.S_drewN | apply Kd.S_drew)); exact HO_37.out) gb343 (Nat.le_of_eq hg.symm)) hb); have n2_ := Aside0.mk (Kd.R_below (by (with_reducible repeat (first | apply Kd.R_alloc | apply Kd.R_drewN | apply Kd.R_drew)); exact HL342_4.out) hb); have n3_ := Aside0.mk (Kd.C_below (by repeat (first | (with_reducible exact HR342_4.out) | (with_reducible refine Kd.C_alloc ?_ _) | (with_reducible refine Kd.C_drewN ?_ _) | (with_reducible refine Kd.C_drew ?_) | exact HR342_4.out)) hb); have n4_ := Aside0.mk (below_step (by repeat (first | (with_reducible first | exact HB.out | apply below_alloc | apply pw_below_drewN | apply below_drew1) | exact HB.out)) hb); have n5_ := Aside0.mk (hbox); have n6_ := Aside0.mk ((by rw [hg]; exact (below_size (by repeat (first | (with_reducible first | exact HB.out | apply below_alloc | apply pw_below_drewN | apply below_drew1) | exact HB.out))) : w.heap.size ≤ gb343)); have n7_ := Aside0.mk ((by rw [hg]; exact (below_size (by repeat (first | (with_reducible first | exact HB.out | apply below_alloc | apply pw_below_drewN | apply below_drew1) | exact HB.out))) : w.heap.size ≤ gb343)); clear HO_11; clear HO_37; clear HL342_4; clear HR342_4; clear HB; have HO_11 := n0_; have HO_37 := n1_; have HL342_4 := n2_; have HR342_4 := n3_; have HB := n4_; have BK343 := n5_; have GW343 := n6_; have GE343 := n7_; clear n0_ n1_ n2_ n3_ n4_ n5_ n6_ n7_; clear hb hbox hg; have hcz24_0 : w23.cell? ⟨gb343, 0, none⟩ = some (.int .i64 0) := (blk_cell BK343.out 0).trans rfl; have hcz24_1 : w23.cell? ⟨gb343, 1, none⟩ = some (.int .i64 0) := (blk_cell BK343.out 1).trans rfl; have hcz24_2 : w23.cell? ⟨gb343, 2, none⟩ = some (.int .i64 0) := (blk_cell BK343.out 2).trans rfl; have hcz24_3 : w23.cell? ⟨gb343, 3, none⟩ = some (.int .i64 0) := (blk_cell BK343.out 3).trans rfl; have hcz24_4 : w23.cell? ⟨gb343, 4, none⟩ = some (.slice none 0 0) := (blk_cell BK343.out 4).trans rfl; have hfz24_0 := blk_frozen BK343.out 0; have hfz24_1 := blk_frozen BK343.out 1; have hfz24_2 := blk_frozen BK343.out 2; have hfz24_3 := blk_frozen BK343.out 3; have hfz24_4 := blk_frozen BK343.out 4) | ((with_reducible refine gate_callee (f := 16) rfl ?_); refine goesL_ (some 44) rfl rfl Tryd.func16 (by kernel_rfl) rfl #[.agg #[.int .i64 ((rd_T26 t338 x39_1).f0), .int .i64 ((rd_T26 t338 x39_1).f1), .int .i64 ((rd_T26 t338 x39_1).f2), .int .i64 ((rd_T26 t338 x39_1).f3), .slice A342_4 ((rd_T26 t338 x39_1).f4).length c342_4]] rfl (by (try simp only [List.map_toArray, List.map_cons, List.map_nil]); first | done | rfl | (simp only [List.length_drop, List.length_take]; rfl)) ?_; (with_reducible refine (show_Check.calls k1 ((rd_T26 t338 x39_1).f0) ((rd_T26 t338 x39_1).f1) ((rd_T26 t338 x39_1).f2) ((rd_T26 t338 x39_1).f3) _ _ ((rd_T26 t338 x39_1).f4) t344 _ ?side1 ?side2 A21.out).mono ?_); (case side1 => repeat (first | exact ((Kd.R_reads' (by (with_reducible repeat (first | apply Kd.R_alloc | apply Kd.R_drewN | apply Kd.R_drew)); exact (Kd.R_mono (Kd.R_far (p := ⟨gb343, 4, none⟩) (Kd.R_far (p := ⟨gb343, 3, none⟩) (Kd.R_far (p := ⟨gb343, 2, none⟩) (Kd.R_far (p := ⟨gb343, 1, none⟩) (Kd.R_far (p := ⟨gb343, 0, none⟩) (Kd.R_types HL342_4.out BK343.out (by decide)) (fun _ hk => hk.2) (.int .i64 ((rd_T26 t338 x39_1).f0))) (fun _ hk => hk.2) (.int .i64 ((rd_T26 t338 x39_1).f1))) (fun _ hk => hk.2) (.int .i64 ((rd_T26 t338 x39_1).f2))) (fun _ hk => hk.2) (.int .i64 ((rd_T26 t338 x39_1).f3))) (fun _ hk => hk.2) (.slice A342_4 ((rd_T26 t338 x39_1).f4).length c342_4)) (fun _ h_ => h_.1)))).2.2) | (with_reducible refine Kd.C_alloc ?_ _) | (with_reducible refine Kd.C_drewN ?_ _) | (with_reducible refine Kd.C_drew ?_))); (case side2 => exact HC342_4.out); rintro e w25 ⟨rfl, hb⟩; refine ⟨_, rfl, ?_⟩; have n0_ := Aside0.mk (Kd.S_below (by (with_reducible repeat (first | apply Kd.S_alloc | apply Kd.S_drewN | apply Kd.S_drew)); exact (Kd.S_mono (Kd.S_far (p := ⟨gb343, 4, none⟩) (Kd.S_far (p := ⟨gb343, 3, none⟩) (Kd.S_far (p := ⟨gb343, 2, none⟩) (Kd.S_far (p := ⟨gb343, 1, none⟩) (Kd.S_far (p := ⟨gb343, 0, none⟩) (Kd.S_mono HO_11.out (fun k_ hk => (⟨hk, hk.2⟩ : _ ∧ k_ ≠ gb343))) (fun _ hk => hk.2) (.int .i64 ((rd_T26 t338 x39_1).f0))) (fun _ hk => hk.2) (.int .i64 ((rd_T26 t338 x39_1).f1))) (fun _ hk => hk.2) (.int .i64 ((rd_T26 t338 x39_1).f2))) (fun _ hk => hk.2) (.int .i64 ((rd_T26 t338 x39_1).f3))) (fun _ hk => hk.2) (.slice A342_4 ((rd_T26 t338 x39_1).f4).length c342_4)) (fun _ h_ => h_.1))) hb); have n1_ := Aside0.mk (Kd.S_below (by (with_reducible repeat (first | apply Kd.S_alloc | apply Kd.S_drewN | apply Kd.S_drew)); exact (Kd.S_mono (Kd.S_far (p := ⟨gb343, 4, none⟩) (Kd.S_far (p := ⟨gb343, 3, none⟩) (Kd.S_far (p := ⟨gb343, 2, none⟩) (Kd.S_far (p := ⟨gb343, 1, none⟩) (Kd.S_far (p := ⟨gb343, 0, none⟩) (Kd.S_mono HO_37.out (fun k_ hk => (⟨hk, hk.2⟩ : _ ∧ k_ ≠ gb343))) (fun _ hk => hk.2) (.int .i64 ((rd_T26 t338 x39_1).f0))) (fun _ hk => hk.2) (.int .i64 ((rd_T26 t338 x39_1).f1))) (fun _ hk => hk.2) (.int .i64 ((rd_T26 t338 x39_1).f2))) (fun _ hk => hk.2) (.int .i64 ((rd_T26 t338 x39_1).f3))) (fun _ hk => hk.2) (.slice A342_4 ((rd_T26 t338 x39_1).f4).length c342_4)) (fun _ h_ => h_.1))) hb); have n2_ := Aside0.mk (Kd.R_below (by (with_reducible repeat (first | apply Kd.R_alloc | apply Kd.R_drewN | apply Kd.R_drew)); exact (Kd.R_mono (Kd.R_far (p := ⟨gb343, 4, none⟩) (Kd.R_far (p := ⟨gb343, 3, none⟩) (Kd.R_far (p := ⟨gb343, 2, none⟩) (Kd.R_far (p := ⟨gb343, 1, none⟩) (Kd.R_far (p := ⟨gb343, 0, none⟩) (Kd.R_types HL342_4.out BK343.out (by decide)) (fun _ hk => hk.2) (.int .i64 ((rd_T26 t338 x39_1).f0))) (fun _ hk => hk.2) (.int .i64 ((rd_T26 t338 x39_1).f1))) (fun _ hk => hk.2) (.int .i64 ((rd_T26 t338 x39_1).f2))) (fun _ hk => hk.2) (.int .i64 ((rd_T26 t338 x39_1).f3))) (fun _ hk => hk.2) (.slice A342_4 ((rd_T26 t338 x39_1).f4).length c342_4)) (fun _ h_ => h_.1))) hb); have n3_ := Aside0.mk (Kd.C_below ((Kd.R_reads' (by (with_reducible repeat (first | apply Kd.R_alloc | apply Kd.R_drewN | apply Kd.R_drew)); exact (Kd.R_mono (Kd.R_far (p := ⟨gb343, 4, none⟩) (Kd.R_far (p := ⟨gb343, 3, none⟩) (Kd.R_far (p := ⟨gb343, 2, none⟩) (Kd.R_far (p := ⟨gb343, 1, none⟩) (Kd.R_far (p := ⟨gb343, 0, none⟩) (Kd.R_types HL342_4.out BK343.out (by decide)) (fun _ hk => hk.2) (.int .i64 ((rd_T26 t338 x39_1).f0))) (fun _ hk => hk.2) (.int .i64 ((rd_T26 t338 x39_1).f1))) (fun _ hk => hk.2) (.int .i64 ((rd_T26 t338 x39_1).f2))) (fun _ hk => hk.2) (.int .i64 ((rd_T26 t338 x39_1).f3))) (fun _ hk => hk.2) (.slice A342_4 ((rd_T26 t338 x39_1).f4).length c342_4)) (fun _ h_ => h_.1)))).2.2) hb); have n4_ := Aside0.mk (blk_below (g := gb343) (o := .cells #[.int .i64 ((rd_T26 t338 x39_1).f0), .int .i64 ((rd_T26 t338 x39_1).f1), .int .i64 ((rd_T26 t338 x39_1).f2), .int .i64 ((rd_T26 t338 x39_1).f3), .slice A342_4 ((rd_T26 t338 x39_1).f4).length c342_4] 26 (0, 0)) (by (with_reducible repeat (first | refine blk_drewN ?_ _ | refine blk_drew ?_ | refine blk_alloc ?_ _)); refine blk_put (cs := #[.int .i64 ((rd_T26 t338 x39_1).f0), .int .i64 ((rd_T26 t338 x39_1).f1), .int .i64 ((rd_T26 t338 x39_1).f2), .int .i64 ((rd_T26 t338 x39_1).f3), .slice none 0 0]) ?_ 4 _ rfl; (with_reducible repeat (first | refine blk_drewN ?_ _ | refine blk_drew ?_ | refine blk_alloc ?_ _)); refine blk_put (cs := #[.int .i64 ((rd_T26 t338 x39_1).f0), .int .i64 ((rd_T26 t338 x39_1).f1), .int .i64 ((rd_T26 t338 x39_1).f2), .int .i64 0, .slice none 0 0]) ?_ 3 _ rfl; (with_reducible repeat (first | refine blk_drewN ?_ _ | refine blk_drew ?_ | refine blk_alloc ?_ _)); refine blk_put (cs := #[.int .i64 ((rd_T26 t338 x39_1).f0), .int .i64 ((rd_T26 t338 x39_1).f1), .int .i64 0, .int .i64 0, .slice none 0 0]) ?_ 2 _ rfl; (with_reducible repeat (first | refine blk_drewN ?_ _ | refine blk_drew ?_ | refine blk_alloc ?_ _)); refine blk_put (cs := #[.int .i64 ((rd_T26 t338 x39_1).f0), .int .i64 0, .int .i64 0, .int .i64 0, .slice none 0 0]) ?_ 1 _ rfl; (with_reducible repeat (first | refine blk_drewN ?_ _ | refine blk_drew ?_ | refine blk_alloc ?_ _)); refine blk_put (cs := #[.int .i64 0, .int .i64 0, .int .i64 0, .int .i64 0, .slice none 0 0]) ?_ 0 _ rfl; (with_reducible repeat (first | refine blk_drewN ?_ _ | refine blk_drew ?_ | refine blk_alloc ?_ _)); exact BK343.out) hb); have n5_ := Aside0.mk (below_step (by repeat (first | (with_reducible first | exact HB.out | apply below_alloc | apply pw_below_drewN | apply below_drew1 | refine below_set ?_ GE343.out) | exact HB.out)) hb); clear HO_11; clear HO_37; clear HL342_4; clear HR342_4; clear BK343; clear HB; have HO_11 := n0_; have HO_37 := n1_; have HL342_4 := n2_; have HR342_4 := n3_; have BK343 := n4_; have HB := n5_; clear n0_ n1_ n2_ n3_ n4_ n5_; (try clear hb); (try clear hb2); (try clear hk); (try clear hi)))
        go_roundg k1
        case measure => have := HK1.out; omega
        case rel => exact ⟨(wrap64 (x39_1 + 1)), (by first | rfl | (simp; done) | (simp [*]; done) | (simp [wrap64, wrap32]; done)), H', ⟨by have := HK1.out; omega⟩, ⟨by (with_reducible repeat (first | apply Kd.S_alloc | apply Kd.S_drewN | apply Kd.S_drew)); exact Kd.S_mono HO_11.out (fun _ hk => trivial)⟩, ⟨by (with_reducible repeat (first | apply Kd.S_alloc | apply Kd.S_drewN | apply Kd.S_drew)); exact Kd.S_mono HO_37.out (fun _ hk => trivial)⟩, ⟨by repeat (first | (with_reducible first | exact HB.out | apply below_alloc | apply pw_below_drewN | apply below_drew1 | refine below_set ?_ GE343.out) | exact HB.out)⟩⟩
       ·rw [if_neg c22] at H
        have c22b0 : (t344 == 0) = false := beq_eq_false_iff_ne.mpr c22
        have c22b1 : (t344 != 0) = true := bne_iff_ne.mpr c22
        have hf_ := Option.some.inj H
        rw [hr_] at hf_
        cases hf_
      ·rw [if_neg c20] at H
       exact absurd H (by simp)
     ·rw [if_neg c19] at H
      exact absurd H (by simp)
    ·rw [if_neg c18] at H
     have c18b0 : decide (x39_1 < (t338.length : Int)) = false := decide_eq_false c18
     clear c18
     replace H := Option.bind_eq_some_iff.mp H
     obtain ⟨⟨t345, t346⟩, A260, H⟩ := H
     replace H : (redpenlaw20_ShowMade.l1 k1 t338 t339 t345 t346 0 t338 (t338.length : Int) 0) = some r := H
     have A26 := Aside0.mk A260
     clear A260
     have H' := Aside0.mk H
     clear H
     go_wp2_with (first | ((with_reducible refine gate_callee (f := 18) rfl ?_); refine goesL_ (some 49) rfl rfl Tryd.func18 (by kernel_rfl) rfl #[.string (⟨#[102]⟩ : ByteArray), .slice Ao17 t338.length co17] rfl (by (try simp only [List.map_toArray, List.map_cons, List.map_nil]); first | done | rfl | (simp only [List.length_drop, List.length_take]; rfl)) ?_; (with_reducible refine (show_Print.calls k1 (⟨#[102]⟩ : ByteArray) _ _ t338 t345 t346 _ ?side1 ?side2 A26.out ?sideL).mono ?_); (case sideL => first | exact HL.out | exact HL.out.below HB.out | exact HL.out.below (by repeat (first | (with_reducible first | exact HB.out | apply below_alloc | apply pw_below_drewN | apply below_drew1 | refine below_set ?_ (Aside0.out (by assumption))) | exact HB.out))); (case side1 => repeat (first | exact (Kd.S_reads' HO_11.out).2.2 | (with_reducible refine Kd.C_alloc ?_ _) | (with_reducible refine Kd.C_drewN ?_ _) | (with_reducible refine Kd.C_drew ?_))); (case side2 => exact (Kd.S_reads' HO_11.out).2.1); rintro e w27 ⟨rfl, hb⟩; refine ⟨_, rfl, ?_⟩; have n0_ := Aside0.mk (Kd.S_below (by (with_reducible repeat (first | apply Kd.S_alloc | apply Kd.S_drewN | apply Kd.S_drew)); exact HO_11.out) hb); have n1_ := Aside0.mk (Kd.S_below (by (with_reducible repeat (first | apply Kd.S_alloc | apply Kd.S_drewN | apply Kd.S_drew)); exact HO_37.out) hb); have n2_ := Aside0.mk (below_step (by repeat (first | (with_reducible first | exact HB.out | apply below_alloc | apply pw_below_drewN | apply below_drew1) | exact HB.out)) hb); clear HO_11; clear HO_37; clear HB; have HO_11 := n0_; have HO_37 := n1_; have HB := n2_; clear n0_ n1_ n2_; (try clear hb); (try clear hb2); (try clear hk); (try clear hi)))
     go_loopg [17, 54] k1 (fun kq v17 v54 w' => ∃ (x17_2 : Int) (x54_2 : Int), v17 = .int .i64 x17_2 ∧ v54 = .int .i64 x54_2 ∧ Aside0 (redpenlaw20_ShowMade.l1 kq t338 t339 t345 t346 x17_2 t338 (t338.length : Int) x54_2 = some r) ∧ Aside0 (kq ≤ k1) ∧ Aside0 (Kd.S k26 26 w' w.heap.size (fun _ => True) (.slice Ao17 t338.length co17) t338) ∧ Aside0 (Kd.S k26 26 w' w.heap.size (fun _ => True) (.slice Ao17 t338.length co17) t338) ∧ Aside0 (Below w.heap.size w w'))
     case atStart => exact ⟨(0), (0), (by first | rfl | (simp; done) | (simp [*]; done) | (simp [wrap64, wrap32]; done)), (by first | rfl | (simp; done) | (simp [*]; done) | (simp [wrap64, wrap32]; done)), H', ⟨Nat.le_refl _⟩, ⟨by (with_reducible repeat (first | apply Kd.S_alloc | apply Kd.S_drewN | apply Kd.S_drew)); exact HO_11.out⟩, ⟨by (with_reducible repeat (first | apply Kd.S_alloc | apply Kd.S_drewN | apply Kd.S_drew)); exact HO_11.out⟩, ⟨by repeat (first | (with_reducible first | exact HB.out | apply below_alloc | apply pw_below_drewN | apply below_drew1) | exact HB.out)⟩⟩
     case round =>
      clear H'
      (try clear c1); (try clear c2); (try clear p2); (try clear c3); (try clear p3); (try clear q3); (try clear hx3); (try clear c6); (try clear p6); (try clear c7); (try clear c12); (try clear c16); (try clear c18); (try clear c18b0); (try clear c19); (try clear c19b0); (try clear c20); (try clear c20b0); (try clear c21); (try clear c22); (try clear c22b0); (try clear c22b1); (try clear hcz24_0); (try clear hcz24_1); (try clear hcz24_2); (try clear hcz24_3); (try clear hcz24_4); (try clear hfz24_0); (try clear hfz24_1); (try clear hfz24_2); (try clear hfz24_3); (try clear hfz24_4); (try clear hx342_0); (try clear hx342_1); (try clear hx342_2); (try clear hx342_3); (try clear hx342_4); (try clear p2); (try clear p342); (try clear p6); (try clear q342)
      obtain ⟨x17_2, x54_2, rfl, rfl, HA, HK2, HO_11, HO_52, HB⟩ := hrel
      cases gk with
      | zero => exact absurd HA.out (by simp [redpenlaw20_ShowMade.l1])
      | succ k2 =>
       have H := HA.out
       clear HA
       simp only [redpenlaw20_ShowMade.l1] at H
       by_cases c28 : x54_2 < (t338.length : Int)
       ·rw [if_pos c28] at H
        have c28b0 : decide (x54_2 < (t338.length : Int)) = true := decide_eq_true c28
        clear c28
        by_cases c29 : 0 ≤ x54_2
        ·rw [if_pos c29] at H
         have c29b0 : decide (0 ≤ x54_2) = true := decide_eq_true c29
         clear c29
         by_cases c30 : x54_2 < (t338.length : Int)
         ·rw [if_pos c30] at H
          have c30b0 : decide (x54_2 < (t338.length : Int)) = true := decide_eq_true c30
          clear c30
          have H' := Aside0.mk H
          clear H
          have p347 : 0 ≤ (x54_2 : Int) := of_decide_eq_true (by first | (with_reducible assumption) | assumption)
          have q347 : x54_2 < (t338.length : Int) := of_decide_eq_true (by first | (with_reducible assumption) | assumption)
          obtain ⟨ad347, A347_4, c347_4, e347, hx347_0, hx347_1, hx347_2, hx347_3, hx347_4, hl347_4, hi347_4⟩ := at_T26 (Kd.S_reads' HO_52.out).2.2 x54_2 p347 q347
          cases e347
          obtain ⟨ce347, hce347, hMe347, hcc347⟩ := Kd.S_get HO_52.out z26 x54_2 p347 (by first | exact q347 | exact of_decide_eq_true (by first | (with_reducible assumption) | assumption) | (have e_ := (Kd.S_reads' HO_52.out).1; omega))
          obtain ⟨ve347_4, rfl, ge347_4⟩ := k26_openM hMe347
          have hv347_4 := hcc347 4 _ rfl
          rw [add_field _ _ 4 (by omega)] at hv347_4
          replace hv347_4 := Option.some.inj (hv347_4.symm.trans hx347_4)
          rw [hv347_4] at ge347_4
          have HL347_4 := Aside0.mk (show Kd.R k29 29 _ _ _ _ ((rd_T26 t338 x54_2).f4) from ge347_4)
          clear hv347_4 ge347_4
          clear hcc347 hce347
          have HR347_4 := Aside0.mk hi347_4
          have HC347_4 := Aside0.mk hl347_4
          clear hi347_4 hl347_4
          replace p347 := eq_true p347
          replace q347 := eq_true q347
          go_wp2_with (first | ((with_reducible refine gate_dst (N := 19) rfl ?_); (try (refine gate_guard (by rfl) ?_; dsimp only)); refine box_event ?hg (N := 19) ?hd (cs := #[.int .i64 0, .int .i64 0, .int .i64 0, .int .i64 0, .slice none 0 0]) (t := 26) ?hr ?_; (case hd => rfl); (case hg => rfl); (case hr => first | (go_simp; done) | (go_simp; rfl)); intro gb348 hg w31 hbox hb; have n0_ := Aside0.mk (Kd.S_below (Kd.S_elderB (by (with_reducible repeat (first | apply Kd.S_alloc | apply Kd.S_drewN | apply Kd.S_drew)); exact HO_11.out) gb348 (Nat.le_of_eq hg.symm)) hb); have n1_ := Aside0.mk (Kd.S_below (Kd.S_elderB (by (with_reducible repeat (first | apply Kd.S_alloc | apply Kd.S_drewN | apply Kd.S_drew)); exact HO_52.out) gb348 (Nat.le_of_eq hg.symm)) hb); have n2_ := Aside0.mk (Kd.R_below (by (with_reducible repeat (first | apply Kd.R_alloc | apply Kd.R_drewN | apply Kd.R_drew)); exact HL347_4.out) hb); have n3_ := Aside0.mk (Kd.C_below (by repeat (first | (with_reducible exact HR347_4.out) | (with_reducible refine Kd.C_alloc ?_ _) | (with_reducible refine Kd.C_drewN ?_ _) | (with_reducible refine Kd.C_drew ?_) | exact HR347_4.out)) hb); have n4_ := Aside0.mk (below_step (by repeat (first | (with_reducible first | exact HB.out | apply below_alloc | apply pw_below_drewN | apply below_drew1) | exact HB.out)) hb); have n5_ := Aside0.mk (hbox); have n6_ := Aside0.mk ((by rw [hg]; exact (below_size (by repeat (first | (with_reducible first | exact HB.out | apply below_alloc | apply pw_below_drewN | apply below_drew1) | exact HB.out))) : w.heap.size ≤ gb348)); have n7_ := Aside0.mk ((by rw [hg]; exact (below_size (by repeat (first | (with_reducible first | exact HB.out | apply below_alloc | apply pw_below_drewN | apply below_drew1) | exact HB.out))) : w.heap.size ≤ gb348)); clear HO_11; clear HO_52; clear HL347_4; clear HR347_4; clear HB; have HO_11 := n0_; have HO_52 := n1_; have HL347_4 := n2_; have HR347_4 := n3_; have HB := n4_; have BK348 := n5_; have GW348 := n6_; have GE348 := n7_; clear n0_ n1_ n2_ n3_ n4_ n5_ n6_ n7_; clear hb hbox hg; have hcz32_0 : w31.cell? ⟨gb348, 0, none⟩ = some (.int .i64 0) := (blk_cell BK348.out 0).trans rfl; have hcz32_1 : w31.cell? ⟨gb348, 1, none⟩ = some (.int .i64 0) := (blk_cell BK348.out 1).trans rfl; have hcz32_2 : w31.cell? ⟨gb348, 2, none⟩ = some (.int .i64 0) := (blk_cell BK348.out 2).trans rfl; have hcz32_3 : w31.cell? ⟨gb348, 3, none⟩ = some (.int .i64 0) := (blk_cell BK348.out 3).trans rfl; have hcz32_4 : w31.cell? ⟨gb348, 4, none⟩ = some (.slice none 0 0) := (blk_cell BK348.out 4).trans rfl; have hfz32_0 := blk_frozen BK348.out 0; have hfz32_1 := blk_frozen BK348.out 1; have hfz32_2 := blk_frozen BK348.out 2; have hfz32_3 := blk_frozen BK348.out 3; have hfz32_4 := blk_frozen BK348.out 4))
          go_roundg k2
          case measure => have := HK1.out; have := HK2.out; omega
          case rel => exact ⟨(wrap64 (x17_2 + (wrap64 (1 + (((rd_T26 t338 x54_2).f4).length : Int))))), (wrap64 (x54_2 + 1)), (by first | rfl | (simp; done) | (simp [*]; done) | (simp [wrap64, wrap32]; done)), (by first | rfl | (simp; done) | (simp [*]; done) | (simp [wrap64, wrap32]; done)), H', ⟨by have := HK1.out; have := HK2.out; omega⟩, ⟨by (with_reducible repeat (first | apply Kd.S_alloc | apply Kd.S_drewN | apply Kd.S_drew)); exact Kd.S_mono (Kd.S_far (p := ⟨gb348, 4, none⟩) (Kd.S_far (p := ⟨gb348, 3, none⟩) (Kd.S_far (p := ⟨gb348, 2, none⟩) (Kd.S_far (p := ⟨gb348, 1, none⟩) (Kd.S_far (p := ⟨gb348, 0, none⟩) (Kd.S_mono HO_11.out (fun k_ hk => (⟨hk, hk.2⟩ : _ ∧ k_ ≠ gb348))) (fun _ hk => hk.2) (.int .i64 ((rd_T26 t338 x54_2).f0))) (fun _ hk => hk.2) (.int .i64 ((rd_T26 t338 x54_2).f1))) (fun _ hk => hk.2) (.int .i64 ((rd_T26 t338 x54_2).f2))) (fun _ hk => hk.2) (.int .i64 ((rd_T26 t338 x54_2).f3))) (fun _ hk => hk.2) (.slice A347_4 ((rd_T26 t338 x54_2).f4).length c347_4)) (fun _ hk => trivial)⟩, ⟨by (with_reducible repeat (first | apply Kd.S_alloc | apply Kd.S_drewN | apply Kd.S_drew)); exact Kd.S_mono (Kd.S_far (p := ⟨gb348, 4, none⟩) (Kd.S_far (p := ⟨gb348, 3, none⟩) (Kd.S_far (p := ⟨gb348, 2, none⟩) (Kd.S_far (p := ⟨gb348, 1, none⟩) (Kd.S_far (p := ⟨gb348, 0, none⟩) (Kd.S_mono HO_52.out (fun k_ hk => (⟨hk, hk.2⟩ : _ ∧ k_ ≠ gb348))) (fun _ hk => hk.2) (.int .i64 ((rd_T26 t338 x54_2).f0))) (fun _ hk => hk.2) (.int .i64 ((rd_T26 t338 x54_2).f1))) (fun _ hk => hk.2) (.int .i64 ((rd_T26 t338 x54_2).f2))) (fun _ hk => hk.2) (.int .i64 ((rd_T26 t338 x54_2).f3))) (fun _ hk => hk.2) (.slice A347_4 ((rd_T26 t338 x54_2).f4).length c347_4)) (fun _ hk => trivial)⟩, ⟨by repeat (first | (with_reducible first | exact HB.out | apply below_alloc | apply pw_below_drewN | apply below_drew1 | refine below_set ?_ GE348.out) | exact HB.out)⟩⟩
         ·rw [if_neg c30] at H
          exact absurd H (by simp)
        ·rw [if_neg c29] at H
         exact absurd H (by simp)
       ·rw [if_neg c28] at H
        have c28b0 : decide (x54_2 < (t338.length : Int)) = false := decide_eq_false c28
        clear c28
        replace H := Option.bind_eq_some_iff.mp H
        obtain ⟨t349, A330, H⟩ := H
        replace H : (if t339 = 0 then (if t346 = 0 then (if ((t345.toList == ([] : List UInt8)) == ((t338.length : Int) == 0)) = true then (if (t338.length : Int) = 0 then (some true) else (if t349 ≥ (wrap64 (x17_2 + 2)) then (some (decide (t349 ≤ (wrap64 (x17_2 + 4))))) else (some false))) else (some false)) else (some false)) else (some false)) = some r := H
        have A33 := Aside0.mk A330
        clear A330
        by_cases c34 : t339 = 0
        ·rw [if_pos c34] at H
         have c34b0 : (t339 == 0) = true := beq_iff_eq.mpr c34
         have c34b1 : (t339 != 0) = false := bne_eq_false_iff_eq.mpr c34
         clear c34
         by_cases c35 : t346 = 0
         ·rw [if_pos c35] at H
          have c35b0 : (t346 == 0) = true := beq_iff_eq.mpr c35
          have c35b1 : (t346 != 0) = false := bne_eq_false_iff_eq.mpr c35
          clear c35
          by_cases c36 : ((t345.toList == ([] : List UInt8)) == ((t338.length : Int) == 0)) = true
          ·rw [if_pos c36] at H
           have c36b0 : ((t345.toList == ([] : List UInt8)) == ((t338.length : Int) == 0)) = true := c36
           (try (have c36b1 : decide ((t345.toList == ([] : List UInt8)) = ((t338.length : Int) == 0)) = true := by simpa using c36))
           (try (have c36b2 : ((t345.toList == ([] : List UInt8)) == ((t338.length : Int) == 0)) = true := by simpa using c36))
           clear c36
           by_cases c37 : (t338.length : Int) = 0
           ·rw [if_pos c37] at H
            have c37b0 : ((t338.length : Int) == 0) = true := beq_iff_eq.mpr c37
            have c37b1 : ((t338.length : Int) != 0) = false := bne_eq_false_iff_eq.mpr c37
            clear c37
            obtain rfl := Option.some.inj H
            obtain ⟨hsz_, rfl⟩ := Go.Proofs.YtjabpbnlpljlkaaDoor.H.nlF_some A33.out
            go_wp2
            go_loopw [20] (fun v_ w' => ∃ (pos : Nat), w' = wr.iter t345 pos ∧ pos ≤ t345.size ∧ v_ = .int .i64 (Go.Proofs.YtjabpbnlpljlkaaDoor.H.nlTo t345 pos : Int)) (fun _ w' => t345.size - w'.iterPos wr.heap.size)
            case atStart => exact ⟨0, rfl, Nat.zero_le _, rfl⟩
            case round =>
              obtain ⟨pos, rfl, hle, rfl⟩ := hrel
              by_cases hp : pos < t345.size
              · have hnx : ∀ ty, (Instr.next (.pointer (some ⟨wr.heap.size, 0, none⟩)) true ty).run Tryd.prog (wr.iter t345 pos) = _ := fun ty => run_next_any wr t345 pos ty hp
                obtain ⟨d1, d2, d3, d4, d5⟩ := Go.Proofs.YtjabpbnlpljlkaaDoor.H.decode_spec t345 pos hp
                have hst := Go.Proofs.YtjabpbnlpljlkaaDoor.H.nlTo_step t345 pos hp
                have hat_ := Go.Proofs.YtjabpbnlpljlkaaDoor.H.at_get t345 pos hp
                have hle_ := Go.Proofs.YtjabpbnlpljlkaaDoor.H.nlTo_le t345 pos
                go_wp2
                all_goals (rename_i hq_; refine ⟨⟨pos + (Utf8.decode t345 pos).2, rfl, d4, ?_⟩, ?_⟩)
                all_goals first | (rw [hst, if_pos (show Go.Proofs.YtjabpbnlpljlkaaDoor.H.at_ t345 pos = 10 by have := beq_iff_eq.1 hq_; omega)]; exact congrArg (Value.int .i64) (by omega)) | (rw [hst, if_neg (show ¬ Go.Proofs.YtjabpbnlpljlkaaDoor.H.at_ t345 pos = 10 by have := beq_eq_false_iff_ne.1 hq_; omega)]; rfl) | (simp; omega)
              · have hnx : ∀ ty, (Instr.next (.pointer (some ⟨wr.heap.size, 0, none⟩)) true ty).run Tryd.prog (wr.iter t345 pos) = _ := fun ty => run_next_end wr t345 pos ty hp
                obtain rfl : pos = t345.size := by omega
                have n0_ := Aside0.mk (below_alloc HB.out _ : Below w.heap.size w (wr.iter t345 t345.size)); clear HB; have HB := n0_; clear n0_
                first | (have htl_ : t345.toList = [] := by have e_ := c36b0; rw [c37b0] at e_; simpa using e_) | (have htl_ : ¬ t345.toList = [] := by have e_ := c36b0; rw [c37b0] at e_; simpa using e_)
                go_wp2
                all_goals first | contradiction | skip
                go_ret
                exact ⟨by first | rfl | (simp [errW_none, errW_some] <;> rfl) | (simp [*, errW_none, errW_some] <;> rfl), by repeat (first | (with_reducible first | exact HB.out | apply below_alloc | apply pw_below_drewN | apply below_drew1) | exact HB.out)⟩
           ·rw [if_neg c37] at H
            have c37b0 : ((t338.length : Int) == 0) = false := beq_eq_false_iff_ne.mpr c37
            have c37b1 : ((t338.length : Int) != 0) = true := bne_iff_ne.mpr c37
            have c37b2 : ¬ (t338 = []) := fun h_ => c37 (by rw [h_]; rfl)
            by_cases c38 : t349 ≥ (wrap64 (x17_2 + 2))
            ·rw [if_pos c38] at H
             have c38b0 : decide ((wrap64 (x17_2 + 2)) ≤ t349) = true := decide_eq_true c38
             clear c38
             obtain rfl := Option.some.inj H
             obtain ⟨hsz_, rfl⟩ := Go.Proofs.YtjabpbnlpljlkaaDoor.H.nlF_some A33.out
             go_wp2
             go_loopw [20] (fun v_ w' => ∃ (pos : Nat), w' = wr.iter t345 pos ∧ pos ≤ t345.size ∧ v_ = .int .i64 (Go.Proofs.YtjabpbnlpljlkaaDoor.H.nlTo t345 pos : Int)) (fun _ w' => t345.size - w'.iterPos wr.heap.size)
             case atStart => exact ⟨0, rfl, Nat.zero_le _, rfl⟩
             case round =>
               obtain ⟨pos, rfl, hle, rfl⟩ := hrel
               by_cases hp : pos < t345.size
               · have hnx : ∀ ty, (Instr.next (.pointer (some ⟨wr.heap.size, 0, none⟩)) true ty).run Tryd.prog (wr.iter t345 pos) = _ := fun ty => run_next_any wr t345 pos ty hp
                 obtain ⟨d1, d2, d3, d4, d5⟩ := Go.Proofs.YtjabpbnlpljlkaaDoor.H.decode_spec t345 pos hp
                 have hst := Go.Proofs.YtjabpbnlpljlkaaDoor.H.nlTo_step t345 pos hp
                 have hat_ := Go.Proofs.YtjabpbnlpljlkaaDoor.H.at_get t345 pos hp
                 have hle_ := Go.Proofs.YtjabpbnlpljlkaaDoor.H.nlTo_le t345 pos
                 go_wp2
                 all_goals (rename_i hq_; refine ⟨⟨pos + (Utf8.decode t345 pos).2, rfl, d4, ?_⟩, ?_⟩)
                 all_goals first | (rw [hst, if_pos (show Go.Proofs.YtjabpbnlpljlkaaDoor.H.at_ t345 pos = 10 by have := beq_iff_eq.1 hq_; omega)]; exact congrArg (Value.int .i64) (by omega)) | (rw [hst, if_neg (show ¬ Go.Proofs.YtjabpbnlpljlkaaDoor.H.at_ t345 pos = 10 by have := beq_eq_false_iff_ne.1 hq_; omega)]; rfl) | (simp; omega)
               · have hnx : ∀ ty, (Instr.next (.pointer (some ⟨wr.heap.size, 0, none⟩)) true ty).run Tryd.prog (wr.iter t345 pos) = _ := fun ty => run_next_end wr t345 pos ty hp
                 obtain rfl : pos = t345.size := by omega
                 have n0_ := Aside0.mk (below_alloc HB.out _ : Below w.heap.size w (wr.iter t345 t345.size)); clear HB; have HB := n0_; clear n0_
                 first | (have htl_ : t345.toList = [] := by have e_ := c36b0; rw [c37b0] at e_; simpa using e_) | (have htl_ : ¬ t345.toList = [] := by have e_ := c36b0; rw [c37b0] at e_; simpa using e_)
                 go_wp2
                 all_goals first | contradiction | skip
                 go_ret
                 exact ⟨by first | rfl | (simp [errW_none, errW_some] <;> rfl) | (simp [*, errW_none, errW_some] <;> rfl), by repeat (first | (with_reducible first | exact HB.out | apply below_alloc | apply pw_below_drewN | apply below_drew1) | exact HB.out)⟩
            ·rw [if_neg c38] at H
             have c38b0 : decide ((wrap64 (x17_2 + 2)) ≤ t349) = false := decide_eq_false c38
             clear c38
             have hf_ := Option.some.inj H
             rw [hr_] at hf_
             cases hf_
          ·rw [if_neg c36] at H
           have c36b0 : ((t345.toList == ([] : List UInt8)) == ((t338.length : Int) == 0)) = false := by simpa using c36
           (try (have c36b1 : decide ((t345.toList == ([] : List UInt8)) = ((t338.length : Int) == 0)) = false := by simpa using c36))
           (try (have c36b2 : ((t345.toList == ([] : List UInt8)) == ((t338.length : Int) == 0)) = false := by simpa using c36))
           (try (have c36b3 : ¬ ((t345.toList == ([] : List UInt8)) = ((t338.length : Int) == 0)) := by simpa using c36))
           clear c36
           have hf_ := Option.some.inj H
           rw [hr_] at hf_
           cases hf_
         ·rw [if_neg c35] at H
          have c35b0 : (t346 == 0) = false := beq_eq_false_iff_ne.mpr c35
          have c35b1 : (t346 != 0) = true := bne_iff_ne.mpr c35
          have hf_ := Option.some.inj H
          rw [hr_] at hf_
          cases hf_
        ·rw [if_neg c34] at H
         have c34b0 : (t339 == 0) = false := beq_eq_false_iff_ne.mpr c34
         have c34b1 : (t339 != 0) = true := bne_iff_ne.mpr c34
         have hf_ := Option.some.inj H
         rw [hr_] at hf_
         cases hf_
 ·replace c7 := Bool.eq_false_iff.mpr c7
  subst c7
  have H1 : (some false) = some r := by rw [if_neg (show ¬ (false = true) by decide)] at H; exact H
  clear H
  have H := H1
  clear H1
  have hf_ := Option.some.inj H
  rw [hr_] at hf_
  cases hf_

end Go.Proofs.YtjabpbnlpljlkaaDoor.PShowMade
