-- x
import Derived.Test.YtkflgnhcfhmkdaaDoorPPragmaWordsx0
import Derived.Test.YtkflgnhcfhmkdaaDoorHSet
import Derived.Test.YtkflgnhcfhmkdaaDoorPPragmaWordsx3
import Derived.Test.YtkflgnhcfhmkdaaDoorPPragmaWordsx5
namespace Go.Proofs.YtkflgnhcfhmkdaaDoor.PPragmaWords
open Go.RowKit Go.Proofs.YtkflgnhcfhmkdaaDoor.X Go.Proofs.YtkflgnhcfhmkdaaDoorW.PrintWords Go.Proofs.YtkflgnhcfhmkdaaDoorW.PrintLast Go.Proofs.YtkflgnhcfhmkdaaDoorW.PrintMore
attribute [local go_sem] max2_int min2_int max_two min_two max_three min_three max_four min_four   -- for this text's walks alone
set_option linter.unusedVariables false
set_option linter.unusedSimpArgs false

/-! ### redpenlaw17_Awake: function 8 -/
def redpenlaw17_Awake.f (k : Nat)  : Option (Bool) := (const_bytes.f ([97, 32, 115, 112, 101, 108, 108, 58, 111, 102, 102, 10, 98, 10, 99, 32, 115, 112, 101, 108, 108, 58, 111, 110, 10, 100] : List Int)).bind fun t204 => ((pragma_Read.f k t204).bind fun t207 => ((pragma_Rules_Spans.f t207).bind fun t210 => (if (t210.length : Int) = 3 then ((pragma_Rules_Off.f t207 0).bind fun t213 => (if t213 = true then ((pragma_Rules_Off.f t207 15).bind fun t214 => (if t214 = true then ((pragma_Rules_Off.f t207 26).bind fun t215 => (some (!t215))) else (some false))) else (some false))) else (some false))))
theorem redpenlaw17_Awake.mono : ∀ k, LeO (redpenlaw17_Awake.f k ) (redpenlaw17_Awake.f (k + 1) ) := by
 intro  k
 unfold redpenlaw17_Awake.f
 repeat' first
   | (with_reducible exact pragma_Read.mono _ _)
   | (with_reducible exact LeO.refl _)
   | (with_reducible exact LeO.none _)
   | (with_reducible refine LeO.ite ?_ ?_)
   | (with_reducible refine LeO.bind ?_ (fun _ => ?_))
   | exact pragma_Read.mono _ _
   | exact LeO.none _
   | refine LeO.ite ?_ ?_
   | refine LeO.bind ?_ (fun _ => ?_)
set_option maxHeartbeats 8000000 in
set_option maxRecDepth 100000 in
theorem redpenlaw17_Awake.calls (k : Nat)  (r : Bool) (w : World) (h : redpenlaw17_Awake.f k  = some r) (hL : Go.Proofs.YtkflgnhcfhmkdaaDoor.H.Laid w) :
  Calls Tryd.prog 8 #[] w fun e w' => e = .returned (.bool r) ∧ Below w.heap.size w w' := by
 have HL := Aside0.mk hL
 clear hL
 have HB := Aside0.mk (Below.refl w.heap.size w)
 have H : ((const_bytes.f ([97, 32, 115, 112, 101, 108, 108, 58, 111, 102, 102, 10, 98, 10, 99, 32, 115, 112, 101, 108, 108, 58, 111, 110, 10, 100] : List Int)).bind fun t204 => ((pragma_Read.f k t204).bind fun t207 => ((pragma_Rules_Spans.f t207).bind fun t210 => (if (t210.length : Int) = 3 then ((pragma_Rules_Off.f t207 0).bind fun t213 => (if t213 = true then ((pragma_Rules_Off.f t207 15).bind fun t214 => (if t214 = true then ((pragma_Rules_Off.f t207 26).bind fun t215 => (some (!t215))) else (some false))) else (some false))) else (some false))))) = some r := h
 clear h
 replace H := Option.bind_eq_some_iff.mp H
 obtain ⟨t204, A10, H⟩ := H
 replace H : ((pragma_Read.f k t204).bind fun t207 => ((pragma_Rules_Spans.f t207).bind fun t210 => (if (t210.length : Int) = 3 then ((pragma_Rules_Off.f t207 0).bind fun t213 => (if t213 = true then ((pragma_Rules_Off.f t207 15).bind fun t214 => (if t214 = true then ((pragma_Rules_Off.f t207 26).bind fun t215 => (some (!t215))) else (some false))) else (some false))) else (some false)))) = some r := H
 have A1 := Aside0.mk A10
 clear A10
 replace H := Option.bind_eq_some_iff.mp H
 obtain ⟨t207, A20, H⟩ := H
 replace H : ((pragma_Rules_Spans.f t207).bind fun t210 => (if (t210.length : Int) = 3 then ((pragma_Rules_Off.f t207 0).bind fun t213 => (if t213 = true then ((pragma_Rules_Off.f t207 15).bind fun t214 => (if t214 = true then ((pragma_Rules_Off.f t207 26).bind fun t215 => (some (!t215))) else (some false))) else (some false))) else (some false))) = some r := H
 have A2 := Aside0.mk A20
 clear A20
 replace H := Option.bind_eq_some_iff.mp H
 obtain ⟨t210, A30, H⟩ := H
 replace H : (if (t210.length : Int) = 3 then ((pragma_Rules_Off.f t207 0).bind fun t213 => (if t213 = true then ((pragma_Rules_Off.f t207 15).bind fun t214 => (if t214 = true then ((pragma_Rules_Off.f t207 26).bind fun t215 => (some (!t215))) else (some false))) else (some false))) else (some false)) = some r := H
 have A3 := Aside0.mk A30
 clear A30
 by_cases c4 : (t210.length : Int) = 3
 ·rw [if_pos c4] at H
  have c4b0 : ((t210.length : Int) == 3) = true := beq_iff_eq.mpr c4
  have c4b1 : ((t210.length : Int) != 3) = false := bne_eq_false_iff_eq.mpr c4
  clear c4
  replace H := Option.bind_eq_some_iff.mp H
  obtain ⟨t213, A50, H⟩ := H
  replace H : (if t213 = true then ((pragma_Rules_Off.f t207 15).bind fun t214 => (if t214 = true then ((pragma_Rules_Off.f t207 26).bind fun t215 => (some (!t215))) else (some false))) else (some false)) = some r := H
  have A5 := Aside0.mk A50
  clear A50
  by_cases c6 : t213 = true
  ·subst c6
   have H1 : ((pragma_Rules_Off.f t207 15).bind fun t214 => (if t214 = true then ((pragma_Rules_Off.f t207 26).bind fun t215 => (some (!t215))) else (some false))) = some r := by rw [if_pos rfl] at H; exact H
   clear H
   have H := H1
   clear H1
   replace H := Option.bind_eq_some_iff.mp H
   obtain ⟨t214, A70, H⟩ := H
   replace H : (if t214 = true then ((pragma_Rules_Off.f t207 26).bind fun t215 => (some (!t215))) else (some false)) = some r := H
   have A7 := Aside0.mk A70
   clear A70
   by_cases c8 : t214 = true
   ·subst c8
    have H1 : ((pragma_Rules_Off.f t207 26).bind fun t215 => (some (!t215))) = some r := by rw [if_pos rfl] at H; exact H
    clear H
    have H := H1
    clear H1
    replace H := Option.bind_eq_some_iff.mp H
    obtain ⟨t215, A90, H⟩ := H
    replace H : (some (!t215)) = some r := H
    have A9 := Aside0.mk A90
    clear A90
    obtain rfl := Option.some.inj H
    go_enter Tryd.func8, Tryd.ntmps8
    go_wp2_with (first | ((with_reducible refine gate_dst (N := 4) rfl ?_); refine const_goes (N := some 4) rfl rfl (a0 := ([97, 32, 115, 112, 101, 108, 108, 58, 111, 102, 102, 10, 98, 10, 99, 32, 115, 112, 101, 108, 108, 58, 111, 110, 10, 100] : List Int)) rfl (by first | rfl | (simp; done)) (by first | rfl | (simp; done)) (by first | rfl | (simp; done)) Tryd.underlying22 Tryd.underlying5 ?_; (with_reducible refine (const_bytes.calls ([97, 32, 115, 112, 101, 108, 108, 58, 111, 102, 102, 10, 98, 10, 99, 32, 115, 112, 101, 108, 108, 58, 111, 110, 10, 100] : List Int) t204 _ A1.out).mono ?_); rintro e w10 ⟨v205, rfl, ho0, hb⟩; refine ⟨_, rfl, ?_⟩; have n0_ := Aside0.mk (Kd.V_lower (Kd.V_mono (ok' := fun k_ => True) ho0 (fun k_ hk_ => trivial)) (below_size (by repeat (first | (with_reducible first | exact HB.out | apply below_alloc | apply pw_below_drewN | apply below_drew1) | exact HB.out)))); have n1_ := Aside0.mk (below_step (by repeat (first | (with_reducible first | exact HB.out | apply below_alloc | apply pw_below_drewN | apply below_drew1) | exact HB.out)) hb); clear HB; have HO206 := n0_; have HB := n1_; clear n0_ n1_; (try clear hb); (try clear hb2); (try clear hk); (try clear hi); (try clear ho0); obtain ⟨Ao11, co11, eo11⟩ := Kd.V_slice HO206.out; subst eo11) | ((with_reducible refine gate_callee (f := 9) rfl ?_); refine goesL_ (some 5) rfl rfl Tryd.func9 (by kernel_rfl) rfl #[.slice Ao11 t204.length co11] rfl (by (try simp only [List.map_toArray, List.map_cons, List.map_nil]); first | done | rfl | (simp only [List.length_drop, List.length_take]; rfl)) ?_; (with_reducible refine (pragma_Read.calls k _ _ t204 t207 _ ?side1 ?side2 A2.out ?sideL).mono ?_); (case sideL => first | exact HL.out | exact HL.out.below HB.out | exact HL.out.below (by repeat (first | (with_reducible first | exact HB.out | apply below_alloc | apply pw_below_drewN | apply below_drew1 | refine below_set ?_ (Aside0.out (by assumption))) | exact HB.out))); (case side1 => repeat (first | exact (Kd.V_reads' HO206.out).2.2 | (with_reducible refine Kd.C_alloc ?_ _) | (with_reducible refine Kd.C_drewN ?_ _) | (with_reducible refine Kd.C_drew ?_))); (case side2 => exact (Kd.V_reads' HO206.out).2.1); rintro e w12 ⟨v208, rfl, ho0, hb⟩; refine ⟨_, rfl, ?_⟩; have n0_ := Aside0.mk (Kd.V_below (by (with_reducible repeat (first | apply Kd.V_alloc | apply Kd.V_drewN | apply Kd.V_drew)); exact HO206.out) hb); have n1_ := Aside0.mk (Kd.P_lower (Kd.P_mono (ok' := fun k_ => True) ho0 (fun k_ hk_ => trivial)) (below_size (by repeat (first | (with_reducible first | exact HB.out | apply below_alloc | apply pw_below_drewN | apply below_drew1) | exact HB.out)))); have n2_ := Aside0.mk (below_step (by repeat (first | (with_reducible first | exact HB.out | apply below_alloc | apply pw_below_drewN | apply below_drew1) | exact HB.out)) hb); clear HO206; clear HB; have HO206 := n0_; have HO209 := n1_; have HB := n2_; clear n0_ n1_ n2_; (try clear hb); (try clear hb2); (try clear hk); (try clear hi); (try clear ho0)) | ((with_reducible refine gate_callee (f := 11) rfl ?_); refine goesL_ (some 7) rfl rfl Tryd.func11 (by kernel_rfl) rfl #[v208] rfl (by (try simp only [List.map_toArray, List.map_cons, List.map_nil]); first | done | rfl | (simp only [List.length_drop, List.length_take]; rfl)) ?_; (with_reducible refine (pragma_Rules_Spans.calls _ t207 t210 _ ?side1 A3.out).mono ?_); (case side1 => exact Kd.P_now (by (with_reducible repeat (first | apply Kd.P_alloc | apply Kd.P_drewN | apply Kd.P_drew)); exact HO209.out)); rintro e w13 ⟨v211, rfl, ho0, hb⟩; refine ⟨_, rfl, ?_⟩; have n0_ := Aside0.mk (Kd.V_elder' (by (with_reducible repeat (first | apply Kd.V_alloc | apply Kd.V_drewN | apply Kd.V_drew)); exact HO206.out) (Kd.R_base ho0) hb); have n1_ := Aside0.mk (Kd.P_elder' (by (with_reducible repeat (first | apply Kd.P_alloc | apply Kd.P_drewN | apply Kd.P_drew)); exact HO209.out) (Kd.R_base ho0) hb); have n2_ := Aside0.mk (Kd.R_lower ho0 (below_size (by repeat (first | (with_reducible first | exact HB.out | apply below_alloc | apply pw_below_drewN | apply below_drew1) | exact HB.out)))); have n3_ := Aside0.mk (below_step (by repeat (first | (with_reducible first | exact HB.out | apply below_alloc | apply pw_below_drewN | apply below_drew1) | exact HB.out)) hb); clear HO206; clear HO209; clear HB; have HO206 := n0_; have HO209 := n1_; have HO212 := n2_; have HB := n3_; clear n0_ n1_ n2_ n3_; (try clear hb); (try clear hb2); (try clear hk); (try clear hi); (try clear ho0); obtain ⟨Ao14, co14, eo14⟩ := Kd.R_slice HO212.out; subst eo14) | (go_at_call 10; (with_reducible refine (pragma_Rules_Off.calls _ t207 0 true _ ?side1 A5.out).mono ?_); (case side1 => exact Kd.P_now (by (with_reducible repeat (first | apply Kd.P_alloc | apply Kd.P_drewN | apply Kd.P_drew)); exact HO209.out)); rintro e w15 ⟨rfl, hb⟩; have n0_ := Aside0.mk (Kd.V_below (by (with_reducible repeat (first | apply Kd.V_alloc | apply Kd.V_drewN | apply Kd.V_drew)); exact HO206.out) hb); have n1_ := Aside0.mk (Kd.P_below (by (with_reducible repeat (first | apply Kd.P_alloc | apply Kd.P_drewN | apply Kd.P_drew)); exact HO209.out) hb); have n2_ := Aside0.mk (Kd.R_below (by (with_reducible repeat (first | apply Kd.R_alloc | apply Kd.R_drewN | apply Kd.R_drew)); exact HO212.out) hb); have n3_ := Aside0.mk (below_step (by repeat (first | (with_reducible first | exact HB.out | apply below_alloc | apply pw_below_drewN | apply below_drew1) | exact HB.out)) hb); clear HO206; clear HO209; clear HO212; clear HB; have HO206 := n0_; have HO209 := n1_; have HO212 := n2_; have HB := n3_; clear n0_ n1_ n2_ n3_; (try clear hb); (try clear hb2); (try clear hk); (try clear hi)) | (go_at_call 10; (with_reducible refine (pragma_Rules_Off.calls _ t207 15 true _ ?side1 A7.out).mono ?_); (case side1 => exact Kd.P_now (by (with_reducible repeat (first | apply Kd.P_alloc | apply Kd.P_drewN | apply Kd.P_drew)); exact HO209.out)); rintro e w16 ⟨rfl, hb⟩; have n0_ := Aside0.mk (Kd.V_below (by (with_reducible repeat (first | apply Kd.V_alloc | apply Kd.V_drewN | apply Kd.V_drew)); exact HO206.out) hb); have n1_ := Aside0.mk (Kd.P_below (by (with_reducible repeat (first | apply Kd.P_alloc | apply Kd.P_drewN | apply Kd.P_drew)); exact HO209.out) hb); have n2_ := Aside0.mk (Kd.R_below (by (with_reducible repeat (first | apply Kd.R_alloc | apply Kd.R_drewN | apply Kd.R_drew)); exact HO212.out) hb); have n3_ := Aside0.mk (below_step (by repeat (first | (with_reducible first | exact HB.out | apply below_alloc | apply pw_below_drewN | apply below_drew1) | exact HB.out)) hb); clear HO206; clear HO209; clear HO212; clear HB; have HO206 := n0_; have HO209 := n1_; have HO212 := n2_; have HB := n3_; clear n0_ n1_ n2_ n3_; (try clear hb); (try clear hb2); (try clear hk); (try clear hi)) | (go_at_call 10; (with_reducible refine (pragma_Rules_Off.calls _ t207 26 t215 _ ?side1 A9.out).mono ?_); (case side1 => exact Kd.P_now (by (with_reducible repeat (first | apply Kd.P_alloc | apply Kd.P_drewN | apply Kd.P_drew)); exact HO209.out)); rintro e w17 ⟨rfl, hb⟩; have n0_ := Aside0.mk (Kd.V_below (by (with_reducible repeat (first | apply Kd.V_alloc | apply Kd.V_drewN | apply Kd.V_drew)); exact HO206.out) hb); have n1_ := Aside0.mk (Kd.P_below (by (with_reducible repeat (first | apply Kd.P_alloc | apply Kd.P_drewN | apply Kd.P_drew)); exact HO209.out) hb); have n2_ := Aside0.mk (Kd.R_below (by (with_reducible repeat (first | apply Kd.R_alloc | apply Kd.R_drewN | apply Kd.R_drew)); exact HO212.out) hb); have n3_ := Aside0.mk (below_step (by repeat (first | (with_reducible first | exact HB.out | apply below_alloc | apply pw_below_drewN | apply below_drew1) | exact HB.out)) hb); clear HO206; clear HO209; clear HO212; clear HB; have HO206 := n0_; have HO209 := n1_; have HO212 := n2_; have HB := n3_; clear n0_ n1_ n2_ n3_; (try clear hb); (try clear hb2); (try clear hk); (try clear hi)))
    go_ret
    exact ⟨by first | rfl | (simp [errW_none, errW_some] <;> rfl) | (simp [*, errW_none, errW_some] <;> rfl), by repeat (first | (with_reducible first | exact HB.out | apply below_alloc | apply pw_below_drewN | apply below_drew1) | exact HB.out)⟩
   ·replace c8 := Bool.eq_false_iff.mpr c8
    subst c8
    have H1 : (some false) = some r := by rw [if_neg (show ¬ (false = true) by decide)] at H; exact H
    clear H
    have H := H1
    clear H1
    obtain rfl := Option.some.inj H
    go_enter Tryd.func8, Tryd.ntmps8
    go_wp2_with (first | ((with_reducible refine gate_dst (N := 4) rfl ?_); refine const_goes (N := some 4) rfl rfl (a0 := ([97, 32, 115, 112, 101, 108, 108, 58, 111, 102, 102, 10, 98, 10, 99, 32, 115, 112, 101, 108, 108, 58, 111, 110, 10, 100] : List Int)) rfl (by first | rfl | (simp; done)) (by first | rfl | (simp; done)) (by first | rfl | (simp; done)) Tryd.underlying22 Tryd.underlying5 ?_; (with_reducible refine (const_bytes.calls ([97, 32, 115, 112, 101, 108, 108, 58, 111, 102, 102, 10, 98, 10, 99, 32, 115, 112, 101, 108, 108, 58, 111, 110, 10, 100] : List Int) t204 _ A1.out).mono ?_); rintro e w18 ⟨v205, rfl, ho0, hb⟩; refine ⟨_, rfl, ?_⟩; have n0_ := Aside0.mk (Kd.V_lower (Kd.V_mono (ok' := fun k_ => True) ho0 (fun k_ hk_ => trivial)) (below_size (by repeat (first | (with_reducible first | exact HB.out | apply below_alloc | apply pw_below_drewN | apply below_drew1) | exact HB.out)))); have n1_ := Aside0.mk (below_step (by repeat (first | (with_reducible first | exact HB.out | apply below_alloc | apply pw_below_drewN | apply below_drew1) | exact HB.out)) hb); clear HB; have HO206 := n0_; have HB := n1_; clear n0_ n1_; (try clear hb); (try clear hb2); (try clear hk); (try clear hi); (try clear ho0); obtain ⟨Ao19, co19, eo19⟩ := Kd.V_slice HO206.out; subst eo19) | ((with_reducible refine gate_callee (f := 9) rfl ?_); refine goesL_ (some 5) rfl rfl Tryd.func9 (by kernel_rfl) rfl #[.slice Ao19 t204.length co19] rfl (by (try simp only [List.map_toArray, List.map_cons, List.map_nil]); first | done | rfl | (simp only [List.length_drop, List.length_take]; rfl)) ?_; (with_reducible refine (pragma_Read.calls k _ _ t204 t207 _ ?side1 ?side2 A2.out ?sideL).mono ?_); (case sideL => first | exact HL.out | exact HL.out.below HB.out | exact HL.out.below (by repeat (first | (with_reducible first | exact HB.out | apply below_alloc | apply pw_below_drewN | apply below_drew1 | refine below_set ?_ (Aside0.out (by assumption))) | exact HB.out))); (case side1 => repeat (first | exact (Kd.V_reads' HO206.out).2.2 | (with_reducible refine Kd.C_alloc ?_ _) | (with_reducible refine Kd.C_drewN ?_ _) | (with_reducible refine Kd.C_drew ?_))); (case side2 => exact (Kd.V_reads' HO206.out).2.1); rintro e w20 ⟨v208, rfl, ho0, hb⟩; refine ⟨_, rfl, ?_⟩; have n0_ := Aside0.mk (Kd.V_below (by (with_reducible repeat (first | apply Kd.V_alloc | apply Kd.V_drewN | apply Kd.V_drew)); exact HO206.out) hb); have n1_ := Aside0.mk (Kd.P_lower (Kd.P_mono (ok' := fun k_ => True) ho0 (fun k_ hk_ => trivial)) (below_size (by repeat (first | (with_reducible first | exact HB.out | apply below_alloc | apply pw_below_drewN | apply below_drew1) | exact HB.out)))); have n2_ := Aside0.mk (below_step (by repeat (first | (with_reducible first | exact HB.out | apply below_alloc | apply pw_below_drewN | apply below_drew1) | exact HB.out)) hb); clear HO206; clear HB; have HO206 := n0_; have HO209 := n1_; have HB := n2_; clear n0_ n1_ n2_; (try clear hb); (try clear hb2); (try clear hk); (try clear hi); (try clear ho0)) | ((with_reducible refine gate_callee (f := 11) rfl ?_); refine goesL_ (some 7) rfl rfl Tryd.func11 (by kernel_rfl) rfl #[v208] rfl (by (try simp only [List.map_toArray, List.map_cons, List.map_nil]); first | done | rfl | (simp only [List.length_drop, List.length_take]; rfl)) ?_; (with_reducible refine (pragma_Rules_Spans.calls _ t207 t210 _ ?side1 A3.out).mono ?_); (case side1 => exact Kd.P_now (by (with_reducible repeat (first | apply Kd.P_alloc | apply Kd.P_drewN | apply Kd.P_drew)); exact HO209.out)); rintro e w21 ⟨v211, rfl, ho0, hb⟩; refine ⟨_, rfl, ?_⟩; have n0_ := Aside0.mk (Kd.V_elder' (by (with_reducible repeat (first | apply Kd.V_alloc | apply Kd.V_drewN | apply Kd.V_drew)); exact HO206.out) (Kd.R_base ho0) hb); have n1_ := Aside0.mk (Kd.P_elder' (by (with_reducible repeat (first | apply Kd.P_alloc | apply Kd.P_drewN | apply Kd.P_drew)); exact HO209.out) (Kd.R_base ho0) hb); have n2_ := Aside0.mk (Kd.R_lower ho0 (below_size (by repeat (first | (with_reducible first | exact HB.out | apply below_alloc | apply pw_below_drewN | apply below_drew1) | exact HB.out)))); have n3_ := Aside0.mk (below_step (by repeat (first | (with_reducible first | exact HB.out | apply below_alloc | apply pw_below_drewN | apply below_drew1) | exact HB.out)) hb); clear HO206; clear HO209; clear HB; have HO206 := n0_; have HO209 := n1_; have HO212 := n2_; have HB := n3_; clear n0_ n1_ n2_ n3_; (try clear hb); (try clear hb2); (try clear hk); (try clear hi); (try clear ho0); obtain ⟨Ao22, co22, eo22⟩ := Kd.R_slice HO212.out; subst eo22) | (go_at_call 10; (with_reducible refine (pragma_Rules_Off.calls _ t207 0 true _ ?side1 A5.out).mono ?_); (case side1 => exact Kd.P_now (by (with_reducible repeat (first | apply Kd.P_alloc | apply Kd.P_drewN | apply Kd.P_drew)); exact HO209.out)); rintro e w23 ⟨rfl, hb⟩; have n0_ := Aside0.mk (Kd.V_below (by (with_reducible repeat (first | apply Kd.V_alloc | apply Kd.V_drewN | apply Kd.V_drew)); exact HO206.out) hb); have n1_ := Aside0.mk (Kd.P_below (by (with_reducible repeat (first | apply Kd.P_alloc | apply Kd.P_drewN | apply Kd.P_drew)); exact HO209.out) hb); have n2_ := Aside0.mk (Kd.R_below (by (with_reducible repeat (first | apply Kd.R_alloc | apply Kd.R_drewN | apply Kd.R_drew)); exact HO212.out) hb); have n3_ := Aside0.mk (below_step (by repeat (first | (with_reducible first | exact HB.out | apply below_alloc | apply pw_below_drewN | apply below_drew1) | exact HB.out)) hb); clear HO206; clear HO209; clear HO212; clear HB; have HO206 := n0_; have HO209 := n1_; have HO212 := n2_; have HB := n3_; clear n0_ n1_ n2_ n3_; (try clear hb); (try clear hb2); (try clear hk); (try clear hi)) | (go_at_call 10; (with_reducible refine (pragma_Rules_Off.calls _ t207 15 false _ ?side1 A7.out).mono ?_); (case side1 => exact Kd.P_now (by (with_reducible repeat (first | apply Kd.P_alloc | apply Kd.P_drewN | apply Kd.P_drew)); exact HO209.out)); rintro e w24 ⟨rfl, hb⟩; have n0_ := Aside0.mk (Kd.V_below (by (with_reducible repeat (first | apply Kd.V_alloc | apply Kd.V_drewN | apply Kd.V_drew)); exact HO206.out) hb); have n1_ := Aside0.mk (Kd.P_below (by (with_reducible repeat (first | apply Kd.P_alloc | apply Kd.P_drewN | apply Kd.P_drew)); exact HO209.out) hb); have n2_ := Aside0.mk (Kd.R_below (by (with_reducible repeat (first | apply Kd.R_alloc | apply Kd.R_drewN | apply Kd.R_drew)); exact HO212.out) hb); have n3_ := Aside0.mk (below_step (by repeat (first | (with_reducible first | exact HB.out | apply below_alloc | apply pw_below_drewN | apply below_drew1) | exact HB.out)) hb); clear HO206; clear HO209; clear HO212; clear HB; have HO206 := n0_; have HO209 := n1_; have HO212 := n2_; have HB := n3_; clear n0_ n1_ n2_ n3_; (try clear hb); (try clear hb2); (try clear hk); (try clear hi)))
    go_ret
    exact ⟨by first | rfl | (simp [errW_none, errW_some] <;> rfl) | (simp [*, errW_none, errW_some] <;> rfl), by repeat (first | (with_reducible first | exact HB.out | apply below_alloc | apply pw_below_drewN | apply below_drew1) | exact HB.out)⟩
  ·replace c6 := Bool.eq_false_iff.mpr c6
   subst c6
   have H1 : (some false) = some r := by rw [if_neg (show ¬ (false = true) by decide)] at H; exact H
   clear H
   have H := H1
   clear H1
   obtain rfl := Option.some.inj H
   go_enter Tryd.func8, Tryd.ntmps8
   go_wp2_with (first | ((with_reducible refine gate_dst (N := 4) rfl ?_); refine const_goes (N := some 4) rfl rfl (a0 := ([97, 32, 115, 112, 101, 108, 108, 58, 111, 102, 102, 10, 98, 10, 99, 32, 115, 112, 101, 108, 108, 58, 111, 110, 10, 100] : List Int)) rfl (by first | rfl | (simp; done)) (by first | rfl | (simp; done)) (by first | rfl | (simp; done)) Tryd.underlying22 Tryd.underlying5 ?_; (with_reducible refine (const_bytes.calls ([97, 32, 115, 112, 101, 108, 108, 58, 111, 102, 102, 10, 98, 10, 99, 32, 115, 112, 101, 108, 108, 58, 111, 110, 10, 100] : List Int) t204 _ A1.out).mono ?_); rintro e w25 ⟨v205, rfl, ho0, hb⟩; refine ⟨_, rfl, ?_⟩; have n0_ := Aside0.mk (Kd.V_lower (Kd.V_mono (ok' := fun k_ => True) ho0 (fun k_ hk_ => trivial)) (below_size (by repeat (first | (with_reducible first | exact HB.out | apply below_alloc | apply pw_below_drewN | apply below_drew1) | exact HB.out)))); have n1_ := Aside0.mk (below_step (by repeat (first | (with_reducible first | exact HB.out | apply below_alloc | apply pw_below_drewN | apply below_drew1) | exact HB.out)) hb); clear HB; have HO206 := n0_; have HB := n1_; clear n0_ n1_; (try clear hb); (try clear hb2); (try clear hk); (try clear hi); (try clear ho0); obtain ⟨Ao26, co26, eo26⟩ := Kd.V_slice HO206.out; subst eo26) | ((with_reducible refine gate_callee (f := 9) rfl ?_); refine goesL_ (some 5) rfl rfl Tryd.func9 (by kernel_rfl) rfl #[.slice Ao26 t204.length co26] rfl (by (try simp only [List.map_toArray, List.map_cons, List.map_nil]); first | done | rfl | (simp only [List.length_drop, List.length_take]; rfl)) ?_; (with_reducible refine (pragma_Read.calls k _ _ t204 t207 _ ?side1 ?side2 A2.out ?sideL).mono ?_); (case sideL => first | exact HL.out | exact HL.out.below HB.out | exact HL.out.below (by repeat (first | (with_reducible first | exact HB.out | apply below_alloc | apply pw_below_drewN | apply below_drew1 | refine below_set ?_ (Aside0.out (by assumption))) | exact HB.out))); (case side1 => repeat (first | exact (Kd.V_reads' HO206.out).2.2 | (with_reducible refine Kd.C_alloc ?_ _) | (with_reducible refine Kd.C_drewN ?_ _) | (with_reducible refine Kd.C_drew ?_))); (case side2 => exact (Kd.V_reads' HO206.out).2.1); rintro e w27 ⟨v208, rfl, ho0, hb⟩; refine ⟨_, rfl, ?_⟩; have n0_ := Aside0.mk (Kd.V_below (by (with_reducible repeat (first | apply Kd.V_alloc | apply Kd.V_drewN | apply Kd.V_drew)); exact HO206.out) hb); have n1_ := Aside0.mk (Kd.P_lower (Kd.P_mono (ok' := fun k_ => True) ho0 (fun k_ hk_ => trivial)) (below_size (by repeat (first | (with_reducible first | exact HB.out | apply below_alloc | apply pw_below_drewN | apply below_drew1) | exact HB.out)))); have n2_ := Aside0.mk (below_step (by repeat (first | (with_reducible first | exact HB.out | apply below_alloc | apply pw_below_drewN | apply below_drew1) | exact HB.out)) hb); clear HO206; clear HB; have HO206 := n0_; have HO209 := n1_; have HB := n2_; clear n0_ n1_ n2_; (try clear hb); (try clear hb2); (try clear hk); (try clear hi); (try clear ho0)) | ((with_reducible refine gate_callee (f := 11) rfl ?_); refine goesL_ (some 7) rfl rfl Tryd.func11 (by kernel_rfl) rfl #[v208] rfl (by (try simp only [List.map_toArray, List.map_cons, List.map_nil]); first | done | rfl | (simp only [List.length_drop, List.length_take]; rfl)) ?_; (with_reducible refine (pragma_Rules_Spans.calls _ t207 t210 _ ?side1 A3.out).mono ?_); (case side1 => exact Kd.P_now (by (with_reducible repeat (first | apply Kd.P_alloc | apply Kd.P_drewN | apply Kd.P_drew)); exact HO209.out)); rintro e w28 ⟨v211, rfl, ho0, hb⟩; refine ⟨_, rfl, ?_⟩; have n0_ := Aside0.mk (Kd.V_elder' (by (with_reducible repeat (first | apply Kd.V_alloc | apply Kd.V_drewN | apply Kd.V_drew)); exact HO206.out) (Kd.R_base ho0) hb); have n1_ := Aside0.mk (Kd.P_elder' (by (with_reducible repeat (first | apply Kd.P_alloc | apply Kd.P_drewN | apply Kd.P_drew)); exact HO209.out) (Kd.R_base ho0) hb); have n2_ := Aside0.mk (Kd.R_lower ho0 (below_size (by repeat (first | (with_reducible first | exact HB.out | apply below_alloc | apply pw_below_drewN | apply below_drew1) | exact HB.out)))); have n3_ := Aside0.mk (below_step (by repeat (first | (with_reducible first | exact HB.out | apply below_alloc | apply pw_below_drewN | apply below_drew1) | exact HB.out)) hb); clear HO206; clear HO209; clear HB; have HO206 := n0_; have HO209 := n1_; have HO212 := n2_; have HB := n3_; clear n0_ n1_ n2_ n3_; (try clear hb); (try clear hb2); (try clear hk); (try clear hi); (try clear ho0); obtain ⟨Ao29, co29, eo29⟩ := Kd.R_slice HO212.out; subst eo29) | (go_at_call 10; (with_reducible refine (pragma_Rules_Off.calls _ t207 0 false _ ?side1 A5.out).mono ?_); (case side1 => exact Kd.P_now (by (with_reducible repeat (first | apply Kd.P_alloc | apply Kd.P_drewN | apply Kd.P_drew)); exact HO209.out)); rintro e w30 ⟨rfl, hb⟩; have n0_ := Aside0.mk (Kd.V_below (by (with_reducible repeat (first | apply Kd.V_alloc | apply Kd.V_drewN | apply Kd.V_drew)); exact HO206.out) hb); have n1_ := Aside0.mk (Kd.P_below (by (with_reducible repeat (first | apply Kd.P_alloc | apply Kd.P_drewN | apply Kd.P_drew)); exact HO209.out) hb); have n2_ := Aside0.mk (Kd.R_below (by (with_reducible repeat (first | apply Kd.R_alloc | apply Kd.R_drewN | apply Kd.R_drew)); exact HO212.out) hb); have n3_ := Aside0.mk (below_step (by repeat (first | (with_reducible first | exact HB.out | apply below_alloc | apply pw_below_drewN | apply below_drew1) | exact HB.out)) hb); clear HO206; clear HO209; clear HO212; clear HB; have HO206 := n0_; have HO209 := n1_; have HO212 := n2_; have HB := n3_; clear n0_ n1_ n2_ n3_; (try clear hb); (try clear hb2); (try clear hk); (try clear hi)))
   go_ret
   exact ⟨by first | rfl | (simp [errW_none, errW_some] <;> rfl) | (simp [*, errW_none, errW_some] <;> rfl), by repeat (first | (with_reducible first | exact HB.out | apply below_alloc | apply pw_below_drewN | apply below_drew1) | exact HB.out)⟩
 ·rw [if_neg c4] at H
  have c4b0 : ((t210.length : Int) == 3) = false := beq_eq_false_iff_ne.mpr c4
  have c4b1 : ((t210.length : Int) != 3) = true := bne_iff_ne.mpr c4
  obtain rfl := Option.some.inj H
  go_enter Tryd.func8, Tryd.ntmps8
  go_wp2_with (first | ((with_reducible refine gate_dst (N := 4) rfl ?_); refine const_goes (N := some 4) rfl rfl (a0 := ([97, 32, 115, 112, 101, 108, 108, 58, 111, 102, 102, 10, 98, 10, 99, 32, 115, 112, 101, 108, 108, 58, 111, 110, 10, 100] : List Int)) rfl (by first | rfl | (simp; done)) (by first | rfl | (simp; done)) (by first | rfl | (simp; done)) Tryd.underlying22 Tryd.underlying5 ?_; (with_reducible refine (const_bytes.calls ([97, 32, 115, 112, 101, 108, 108, 58, 111, 102, 102, 10, 98, 10, 99, 32, 115, 112, 101, 108, 108, 58, 111, 110, 10, 100] : List Int) t204 _ A1.out).mono ?_); rintro e w31 ⟨v205, rfl, ho0, hb⟩; refine ⟨_, rfl, ?_⟩; have n0_ := Aside0.mk (Kd.V_lower (Kd.V_mono (ok' := fun k_ => True) ho0 (fun k_ hk_ => trivial)) (below_size (by repeat (first | (with_reducible first | exact HB.out | apply below_alloc | apply pw_below_drewN | apply below_drew1) | exact HB.out)))); have n1_ := Aside0.mk (below_step (by repeat (first | (with_reducible first | exact HB.out | apply below_alloc | apply pw_below_drewN | apply below_drew1) | exact HB.out)) hb); clear HB; have HO206 := n0_; have HB := n1_; clear n0_ n1_; (try clear hb); (try clear hb2); (try clear hk); (try clear hi); (try clear ho0); obtain ⟨Ao32, co32, eo32⟩ := Kd.V_slice HO206.out; subst eo32) | ((with_reducible refine gate_callee (f := 9) rfl ?_); refine goesL_ (some 5) rfl rfl Tryd.func9 (by kernel_rfl) rfl #[.slice Ao32 t204.length co32] rfl (by (try simp only [List.map_toArray, List.map_cons, List.map_nil]); first | done | rfl | (simp only [List.length_drop, List.length_take]; rfl)) ?_; (with_reducible refine (pragma_Read.calls k _ _ t204 t207 _ ?side1 ?side2 A2.out ?sideL).mono ?_); (case sideL => first | exact HL.out | exact HL.out.below HB.out | exact HL.out.below (by repeat (first | (with_reducible first | exact HB.out | apply below_alloc | apply pw_below_drewN | apply below_drew1 | refine below_set ?_ (Aside0.out (by assumption))) | exact HB.out))); (case side1 => repeat (first | exact (Kd.V_reads' HO206.out).2.2 | (with_reducible refine Kd.C_alloc ?_ _) | (with_reducible refine Kd.C_drewN ?_ _) | (with_reducible refine Kd.C_drew ?_))); (case side2 => exact (Kd.V_reads' HO206.out).2.1); rintro e w33 ⟨v208, rfl, ho0, hb⟩; refine ⟨_, rfl, ?_⟩; have n0_ := Aside0.mk (Kd.V_below (by (with_reducible repeat (first | apply Kd.V_alloc | apply Kd.V_drewN | apply Kd.V_drew)); exact HO206.out) hb); have n1_ := Aside0.mk (Kd.P_lower (Kd.P_mono (ok' := fun k_ => True) ho0 (fun k_ hk_ => trivial)) (below_size (by repeat (first | (with_reducible first | exact HB.out | apply below_alloc | apply pw_below_drewN | apply below_drew1) | exact HB.out)))); have n2_ := Aside0.mk (below_step (by repeat (first | (with_reducible first | exact HB.out | apply below_alloc | apply pw_below_drewN | apply below_drew1) | exact HB.out)) hb); clear HO206; clear HB; have HO206 := n0_; have HO209 := n1_; have HB := n2_; clear n0_ n1_ n2_; (try clear hb); (try clear hb2); (try clear hk); (try clear hi); (try clear ho0)) | ((with_reducible refine gate_callee (f := 11) rfl ?_); refine goesL_ (some 7) rfl rfl Tryd.func11 (by kernel_rfl) rfl #[v208] rfl (by (try simp only [List.map_toArray, List.map_cons, List.map_nil]); first | done | rfl | (simp only [List.length_drop, List.length_take]; rfl)) ?_; (with_reducible refine (pragma_Rules_Spans.calls _ t207 t210 _ ?side1 A3.out).mono ?_); (case side1 => exact Kd.P_now (by (with_reducible repeat (first | apply Kd.P_alloc | apply Kd.P_drewN | apply Kd.P_drew)); exact HO209.out)); rintro e w34 ⟨v211, rfl, ho0, hb⟩; refine ⟨_, rfl, ?_⟩; have n0_ := Aside0.mk (Kd.V_elder' (by (with_reducible repeat (first | apply Kd.V_alloc | apply Kd.V_drewN | apply Kd.V_drew)); exact HO206.out) (Kd.R_base ho0) hb); have n1_ := Aside0.mk (Kd.P_elder' (by (with_reducible repeat (first | apply Kd.P_alloc | apply Kd.P_drewN | apply Kd.P_drew)); exact HO209.out) (Kd.R_base ho0) hb); have n2_ := Aside0.mk (Kd.R_lower ho0 (below_size (by repeat (first | (with_reducible first | exact HB.out | apply below_alloc | apply pw_below_drewN | apply below_drew1) | exact HB.out)))); have n3_ := Aside0.mk (below_step (by repeat (first | (with_reducible first | exact HB.out | apply below_alloc | apply pw_below_drewN | apply below_drew1) | exact HB.out)) hb); clear HO206; clear HO209; clear HB; have HO206 := n0_; have HO209 := n1_; have HO212 := n2_; have HB := n3_; clear n0_ n1_ n2_ n3_; (try clear hb); (try clear hb2); (try clear hk); (try clear hi); (try clear ho0); obtain ⟨Ao35, co35, eo35⟩ := Kd.R_slice HO212.out; subst eo35))
  go_ret
  exact ⟨by first | rfl | (simp [errW_none, errW_some] <;> rfl) | (simp [*, errW_none, errW_some] <;> rfl), by repeat (first | (with_reducible first | exact HB.out | apply below_alloc | apply pw_below_drewN | apply below_drew1) | exact HB.out)⟩

/-! ### pragma_Rules_Knows: function 16 -/
section
open Go.Proofs.YtkflgnhcfhmkdaaDoor.H
def pragma_Rules_Knows.f (k : Nat) (l0 : List RlT) (a1 : ByteArray) : Option Bool := match l0 with
  | [] => some false
  | x :: _ => (fold_Fold.f k a1).bind fun s => if s.size ≤ 140737488351232 then some (hasW x.words s) else none
theorem pragma_Rules_Knows.mono : ∀ a0 a1 k, LeO (pragma_Rules_Knows.f k a0 a1) (pragma_Rules_Knows.f (k + 1) a0 a1) := by
  intro a0 a1 k
  unfold pragma_Rules_Knows.f
  cases a0 with
  | nil => exact LeO.refl _
  | cons x t => exact LeO.bind (fold_Fold.mono _ _) (fun _ => LeO.refl _)
set_option maxHeartbeats 4000000 in
set_option maxRecDepth 100000 in
theorem pragma_Rules_Knows.calls (k : Nat) (V0 : Value) (l0 : List RlT) (a1 : ByteArray) (r : Bool) (w : World) (hs0 : RlP w V0 l0) (h : pragma_Rules_Knows.f k l0 a1 = some r) :
    Calls Tryd.prog 16 #[V0, .string a1] w fun e w' => e = .returned (.bool r) ∧ Below w.heap.size w w' := by
  rcases hs0 with ⟨rfl, rfl⟩ | ⟨x, g, m, A, c, rfl, rfl, hg, hl, hC, hS⟩
  · obtain rfl : false = r := by simpa [pragma_Rules_Knows.f] using h
    go_enter Tryd.func16, Tryd.ntmps16
    go_upto_region 1 with fail
    refine start_ (n := 12) (S := fun w' => True) (ds := []) #[false, false, false, false, false, false, false, false, false, false, false, false] (by kernel_rfl) rfl rfl trivial (fun hHeld => ?_)
    refine pure_ (i := 0) (N := some 5) (v := ?_) (a' := ?_) #[true, false, false, false, false, false, false, false, false, false, false, false] rfl rfl (by kernel_rfl) (fun _ _ _ h => h) (Or.inl ⟨by rfl, ?_⟩) ?_ ?_
    rotate_left
    · intro w'
      go_simp
      with_reducible rfl
    rotate_left
    · simp only [Act.put, List.setIfInBounds_toArray, List.set_cons_zero, List.set_cons_succ, i64_w, i32_w]
      rfl
    refine pure_ (i := 1) (N := some 6) (v := ?_) (a' := ?_) #[true, true, false, false, false, false, false, false, false, false, false, false] rfl rfl (by kernel_rfl) (fun _ _ _ h => h) (Or.inl ⟨by rfl, ?_⟩) ?_ ?_
    rotate_left
    · intro w'
      go_simp
      with_reducible rfl
    rotate_left
    · simp only [Act.put, List.setIfInBounds_toArray, List.set_cons_zero, List.set_cons_succ, i64_w, i32_w]
      rfl
    refine pure_ (i := 2) (N := some 7) (v := ?_) (a' := ?_) #[true, true, true, false, false, false, false, false, false, false, false, false] rfl rfl (by kernel_rfl) (fun _ _ _ h => h) (Or.inl ⟨by rfl, ?_⟩) ?_ ?_
    rotate_left
    · intro w'
      go_simp
      with_reducible rfl
    rotate_left
    · simp only [Act.put, List.setIfInBounds_toArray, List.set_cons_zero, List.set_cons_succ, i64_w, i32_w]
      rfl
    refine pure_ (i := 3) (N := some 8) (v := undef) (a' := ?_) #[true, true, true, true, false, false, false, false, false, false, false, false] rfl rfl (by kernel_rfl) (fun _ _ _ h => h) (Or.inr ⟨by rfl, rfl⟩) ?_ ?_
    rotate_left
    · simp only [Act.put, List.setIfInBounds_toArray, List.set_cons_zero, List.set_cons_succ, i64_w, i32_w]
      rfl
    refine pure_ (i := 4) (N := some 9) (v := undef) (a' := ?_) #[true, true, true, true, true, false, false, false, false, false, false, false] rfl rfl (by kernel_rfl) (fun _ _ _ h => h) (Or.inr ⟨by rfl, rfl⟩) ?_ ?_
    rotate_left
    · simp only [Act.put, List.setIfInBounds_toArray, List.set_cons_zero, List.set_cons_succ, i64_w, i32_w]
      rfl
    refine pure_ (i := 5) (N := some 10) (v := undef) (a' := ?_) #[true, true, true, true, true, true, false, false, false, false, false, false] rfl rfl (by kernel_rfl) (fun _ _ _ h => h) (Or.inr ⟨by rfl, rfl⟩) ?_ ?_
    rotate_left
    · simp only [Act.put, List.setIfInBounds_toArray, List.set_cons_zero, List.set_cons_succ, i64_w, i32_w]
      rfl
    refine pure_ (i := 6) (N := some 11) (v := undef) (a' := ?_) #[true, true, true, true, true, true, true, false, false, false, false, false] rfl rfl (by kernel_rfl) (fun _ _ _ h => h) (Or.inr ⟨by rfl, rfl⟩) ?_ ?_
    rotate_left
    · simp only [Act.put, List.setIfInBounds_toArray, List.set_cons_zero, List.set_cons_succ, i64_w, i32_w]
      rfl
    refine pure_ (i := 7) (N := some 12) (v := undef) (a' := ?_) #[true, true, true, true, true, true, true, true, false, false, false, false] rfl rfl (by kernel_rfl) (fun _ _ _ h => h) (Or.inr ⟨by rfl, rfl⟩) ?_ ?_
    rotate_left
    · simp only [Act.put, List.setIfInBounds_toArray, List.set_cons_zero, List.set_cons_succ, i64_w, i32_w]
      rfl
    refine pure_ (i := 8) (N := some 13) (v := undef) (a' := ?_) #[true, true, true, true, true, true, true, true, true, false, false, false] rfl rfl (by kernel_rfl) (fun _ _ _ h => h) (Or.inr ⟨by rfl, rfl⟩) ?_ ?_
    rotate_left
    · simp only [Act.put, List.setIfInBounds_toArray, List.set_cons_zero, List.set_cons_succ, i64_w, i32_w]
      rfl
    refine pure_ (i := 9) (N := some 14) (v := undef) (a' := ?_) #[true, true, true, true, true, true, true, true, true, true, false, false] rfl rfl (by kernel_rfl) (fun _ _ _ h => h) (Or.inr ⟨by rfl, rfl⟩) ?_ ?_
    rotate_left
    · simp only [Act.put, List.setIfInBounds_toArray, List.set_cons_zero, List.set_cons_succ, i64_w, i32_w]
      rfl
    refine pure_ (i := 10) (N := some 15) (v := ?_) (a' := ?_) #[true, true, true, true, true, true, true, true, true, true, true, false] rfl rfl (by kernel_rfl) (fun _ _ _ h => h) (Or.inl ⟨by rfl, ?_⟩) ?_ ?_
    rotate_left
    · intro w'
      go_simp
      with_reducible rfl
    rotate_left
    · simp only [Act.put, List.setIfInBounds_toArray, List.set_cons_zero, List.set_cons_succ, i64_w, i32_w]
      rfl
    refine pure_ (i := 11) (N := some 4) (v := ?_) (a' := ?_) #[true, true, true, true, true, true, true, true, true, true, true, true] rfl rfl (by kernel_rfl) (fun _ _ _ h => h) (Or.inl ⟨by rfl, ?_⟩) ?_ ?_
    rotate_left
    · intro w'
      go_simp
      with_reducible rfl
    rotate_left
    · simp only [Act.put, List.setIfInBounds_toArray, List.set_cons_zero, List.set_cons_succ, i64_w, i32_w]
      rfl
    refine done_ (by kernel_rfl) ?_

    clear hHeld
    go_wp2
    go_ret
    exact ⟨rfl, below_drew (Below.refl _ _)⟩
  · have h : ((fold_Fold.f k a1).bind fun s => if s.size ≤ 140737488351232 then some (hasW x.words s) else none) = some r := h
    obtain ⟨s, hf, h⟩ := Option.bind_eq_some_iff.mp h
    split at h
    case isFalse => cases h
    case isTrue hsz =>
    obtain rfl := Option.some.inj h
    obtain ⟨ws, hws⟩ : ∃ ws, x.words = ws := ⟨_, rfl⟩
    rw [hws] at hS ⊢
    have HSZ := Aside0.mk (show s.size ≤ maxLen by unfold maxLen; omega)
    have HF := Aside0.mk hf
    have HG := Aside0.mk hg
    have HS := Aside0.mk hS
    have HLT := Aside0.mk hS.lt
    clear h hC hg hl hS hsz hf hws
    go_enter Tryd.func16, Tryd.ntmps16
    go_upto_region 1 with fail
    refine start_ (n := 12) (S := fun w' => w'.cell? ⟨g, 1, none⟩ = some (.map (some m)) ∧ (Instr.lookup 43 (.map (some m)) (.string s) false).run Tryd.prog w' = .ok (.bool (hasW ws s)) w') (ds := []) #[false, false, false, false, false, false, false, false, false, false, false, false] (by kernel_rfl) rfl rfl ⟨(blk_cell (blk_drew HG.out) 1).trans rfl, (HS.out.kept (w' := w.drew) rfl).look s HSZ.out⟩ (fun hHeld => ?_)
    refine pure_ (i := 0) (N := some 5) (v := ?_) (a' := ?_) #[true, false, false, false, false, false, false, false, false, false, false, false] rfl rfl (by kernel_rfl) (fun _ _ _ h => h) (Or.inl ⟨by rfl, ?_⟩) ?_ ?_
    rotate_left
    · intro w'
      go_simp
      with_reducible rfl
    rotate_left
    · simp only [Act.put, List.setIfInBounds_toArray, List.set_cons_zero, List.set_cons_succ, i64_w, i32_w]
      rfl
    refine pure_ (i := 1) (N := some 6) (v := ?_) (a' := ?_) #[true, true, false, false, false, false, false, false, false, false, false, false] rfl rfl (by kernel_rfl) (fun _ _ _ h => h) (Or.inl ⟨by rfl, ?_⟩) ?_ ?_
    rotate_left
    · intro w'
      go_simp
      with_reducible rfl
    rotate_left
    · simp only [Act.put, List.setIfInBounds_toArray, List.set_cons_zero, List.set_cons_succ, i64_w, i32_w]
      rfl
    refine pure_ (i := 2) (N := some 7) (v := ?_) (a' := ?_) #[true, true, true, false, false, false, false, false, false, false, false, false] rfl rfl (by kernel_rfl) (fun _ _ _ h => h) (Or.inl ⟨by rfl, ?_⟩) ?_ ?_
    rotate_left
    · intro w'
      go_simp
      with_reducible rfl
    rotate_left
    · simp only [Act.put, List.setIfInBounds_toArray, List.set_cons_zero, List.set_cons_succ, i64_w, i32_w]
      rfl
    refine pure_ (i := 3) (N := some 8) (v := ?_) (a' := ?_) #[true, true, true, true, false, false, false, false, false, false, false, false] rfl rfl (by kernel_rfl) (fun _ _ _ h => h) (Or.inl ⟨by rfl, ?_⟩) ?_ ?_
    rotate_left
    · intro w'
      go_simp
      with_reducible rfl
    rotate_left
    · simp only [Act.put, List.setIfInBounds_toArray, List.set_cons_zero, List.set_cons_succ, i64_w, i32_w]
      rfl
    refine pure_ (i := 4) (N := some 9) (v := ?_) (a' := ?_) #[true, true, true, true, true, false, false, false, false, false, false, false] rfl rfl (by kernel_rfl) (fun _ _ _ h => h) (Or.inl ⟨by rfl, ?_⟩) ?_ ?_
    rotate_left
    · intro w'
      go_simp
      with_reducible rfl
    rotate_left
    · simp only [Act.put, List.setIfInBounds_toArray, List.set_cons_zero, List.set_cons_succ, i64_w, i32_w]
      rfl
    refine pure_ (i := 5) (N := some 10) (v := ?_) (a' := ?_) #[true, true, true, true, true, true, false, false, false, false, false, false] rfl rfl (by kernel_rfl) (fun _ _ _ h => h) (Or.inl ⟨by rfl, ?_⟩) ?_ ?_
    rotate_left
    · intro w'
      go_simp
      with_reducible rfl
    rotate_left
    · simp only [Act.put, List.setIfInBounds_toArray, List.set_cons_zero, List.set_cons_succ, i64_w, i32_w]
      rfl
    refine pure_ (i := 7) (N := some 12) (v := ?_) (a' := ?_) #[true, true, true, true, true, true, false, true, false, false, false, false] rfl rfl (by kernel_rfl) (fun _ _ _ h => h) (Or.inl ⟨by rfl, ?_⟩) ?_ ?_
    rotate_left
    · intro w'
      go_simp
      with_reducible rfl
    rotate_left
    · simp only [Act.put, List.setIfInBounds_toArray, List.set_cons_zero, List.set_cons_succ, i64_w, i32_w]
      rfl
    refine take_ (i := 6) (N := some 11) (v := ?_) (a' := ?_) #[true, true, true, true, true, true, true, true, false, false, false, false] rfl rfl (by kernel_rfl) (fun _ _ _ h => h) (Or.inl ⟨by rfl, ?_⟩) hHeld ?_ ?_
    rotate_left
    · rintro w' ⟨s0, s1⟩
      go_simp
      with_reducible rfl
    rotate_left
    · simp only [Act.put, List.setIfInBounds_toArray, List.set_cons_zero, List.set_cons_succ, i64_w, i32_w]
      rfl
    refine one_ (i := 8) (N := some 13) #[true, true, true, true, true, true, true, true, true, false, false, false] rfl rfl (by kernel_rfl) (by decide) (fun K hK => ?_)
    refine goes_ Tryd.func25 (by kernel_rfl) rfl #[.string a1] (by rfl) rfl rfl (by simp only [List.map_toArray, List.map_cons, List.map_nil]; rfl) ?_
    with_reducible refine (fold_Fold.calls k a1 s _ HF.out).mono ?_
    rintro e w3 ⟨rfl, hb⟩
    have HB3 := Aside0.mk (below_step (below_drew (Below.refl w.heap.size w)) hb)
    have hg3 := blk_below (blk_drew HG.out) hb
    have hs3 := HS.out.kept (hb.block m HLT.out)
    clear hb
    refine ⟨_, rfl, ?_⟩
    refine hK.out _ _ ⟨(blk_cell hg3 1).trans rfl, hs3.look s HSZ.out⟩ (fun hHeld => ?_)
    clear hK K
    refine norm_ (a' := ?_) ?_ ?_
    rotate_left
    · show Act.put _ (some 13) _ = _
      simp only [Act.put, List.setIfInBounds_toArray, List.set_cons_zero, List.set_cons_succ, i64_w, i32_w]
      rfl
    refine take_ (i := 9) (N := some 14) (v := ?_) (a' := ?_) #[true, true, true, true, true, true, true, true, true, true, false, false] rfl rfl (by kernel_rfl) (fun _ _ _ h => h) (Or.inl ⟨by rfl, ?_⟩) hHeld ?_ ?_
    rotate_left
    · rintro w' ⟨s0, s1⟩
      go_simp
      with_reducible rfl
    rotate_left
    · simp only [Act.put, List.setIfInBounds_toArray, List.set_cons_zero, List.set_cons_succ, i64_w, i32_w]
      rfl
    refine pure_ (i := 10) (N := some 15) (v := ?_) (a' := ?_) #[true, true, true, true, true, true, true, true, true, true, true, false] rfl rfl (by kernel_rfl) (fun _ _ _ h => h) (Or.inl ⟨by rfl, ?_⟩) ?_ ?_
    rotate_left
    · intro w'
      go_simp
      with_reducible rfl
    rotate_left
    · simp only [Act.put, List.setIfInBounds_toArray, List.set_cons_zero, List.set_cons_succ, i64_w, i32_w]
      rfl
    refine pure_ (i := 11) (N := some 4) (v := ?_) (a' := ?_) #[true, true, true, true, true, true, true, true, true, true, true, true] rfl rfl (by kernel_rfl) (fun _ _ _ h => h) (Or.inl ⟨by rfl, ?_⟩) ?_ ?_
    rotate_left
    · intro w'
      go_simp
      with_reducible rfl
    rotate_left
    · simp only [Act.put, List.setIfInBounds_toArray, List.set_cons_zero, List.set_cons_succ, i64_w, i32_w]
      rfl
    refine done_ (by kernel_rfl) ?_

    clear hHeld
    go_wp2
    go_ret
    exact ⟨rfl, HB3.out⟩
end

/-! ### redpenlaw17_PragmaWords: function 5 -/
/-- The words that are listed ahead of the stop. -/
def redpenlaw17_PragmaWords.ks (stop : Int) : Nat → List ByteArray → List ByteArray → List ByteArray
 | _, [], acc => acc
 | i, s :: t, acc => redpenlaw17_PragmaWords.ks stop (i + 1) t (if (i : Int) < stop then acc ++ [s] else acc)
/-- Each word is known just if it is among ks, with a great letter, too. -/
def redpenlaw17_PragmaWords.tw (k : Nat) (rl : List Go.Proofs.YtkflgnhcfhmkdaaDoor.H.RlT) (ks : List ByteArray) : List ByteArray → Option Bool
 | [] => some true
 | s :: t => if 0 < s.size then (if s.size ≤ 140737488351232 then (pragma_Rules_Knows.f k rl s).bind fun a => if a = Go.Proofs.YtkflgnhcfhmkdaaDoor.H.hasW ks s then (pragma_Rules_Knows.f k rl (Go.Proofs.YtkflgnhcfhmkdaaDoor.H.qB s)).bind fun b => if b = Go.Proofs.YtkflgnhcfhmkdaaDoor.H.hasW ks s then redpenlaw17_PragmaWords.tw k rl ks t else none else none else none) else none
def redpenlaw17_PragmaWords.te (k : Nat) (rl : List Go.Proofs.YtkflgnhcfhmkdaaDoor.H.RlT) (x5 : ByteArray) : Option Bool := (pragma_Rules_Knows.f k rl ⟨#[111, 116, 104, 101, 114]⟩).bind fun a => if a = false then (pragma_Rules_Off.f rl 0).bind fun b => if b = false then pragma_Rules_Off.f rl ((x5.size : Int) + 1) else none else none
/-- The law's end: the map, the words, the last three questions. -/
def redpenlaw17_PragmaWords_tail.f (k : Nat) (ws : List ByteArray) (stop : Int) (rl : List Go.Proofs.YtkflgnhcfhmkdaaDoor.H.RlT) (x5 : ByteArray) : Option Bool :=
  if ws.length < 1000000000000 then (redpenlaw17_PragmaWords.tw k rl (redpenlaw17_PragmaWords.ks stop 0 ws []) ws).bind fun _ => redpenlaw17_PragmaWords.te k rl x5 else none
theorem redpenlaw17_PragmaWords.mono_w (k : Nat) (rl ks) : ∀ l, LeO (redpenlaw17_PragmaWords.tw k rl ks l) (redpenlaw17_PragmaWords.tw (k + 1) rl ks l)
 | [] => LeO.refl _
 | s :: t => LeO.ite (LeO.ite (LeO.bind (pragma_Rules_Knows.mono _ _ _) (fun _ => LeO.ite (LeO.bind (pragma_Rules_Knows.mono _ _ _) (fun _ => LeO.ite (redpenlaw17_PragmaWords.mono_w k rl ks t) (LeO.refl _))) (LeO.refl _))) (LeO.refl _)) (LeO.refl _)
theorem redpenlaw17_PragmaWords.tw_sz (k : Nat) (rl ks) : ∀ l b, redpenlaw17_PragmaWords.tw k rl ks l = some b → ∀ i, (l.getD i ByteArray.empty).size ≤ maxLen
 | [], b, _, i => by simp [maxLen]
 | s :: t, b, h, i => by
  unfold redpenlaw17_PragmaWords.tw at h
  split at h
  case isFalse => cases h
  case isTrue h0 =>
  split at h
  case isFalse => cases h
  case isTrue h1 =>
  obtain ⟨q1, _, h⟩ := Option.bind_eq_some_iff.mp h
  split at h
  case isFalse => cases h
  case isTrue _ =>
  obtain ⟨q2, _, h⟩ := Option.bind_eq_some_iff.mp h
  split at h
  case isFalse => cases h
  case isTrue _ =>
  cases i with
  | zero => rw [List.getD_cons_zero]; unfold maxLen; omega
  | succ i => rw [List.getD_cons_succ]; exact redpenlaw17_PragmaWords.tw_sz k rl ks t b h i
theorem redpenlaw17_PragmaWords_tail.mono : ∀ a0 a1 a2 a3 k, LeO (redpenlaw17_PragmaWords_tail.f k a0 a1 a2 a3) (redpenlaw17_PragmaWords_tail.f (k + 1) a0 a1 a2 a3) := by
  intro a0 a1 a2 a3 k
  unfold redpenlaw17_PragmaWords_tail.f redpenlaw17_PragmaWords.te
  exact LeO.ite (LeO.bind (redpenlaw17_PragmaWords.mono_w _ _ _ _) (fun _ => LeO.bind (pragma_Rules_Knows.mono _ _ _) (fun _ => LeO.refl _))) (LeO.refl _)
mutual
def redpenlaw17_PragmaWords.l0 : Nat → Int → ByteArray → List ByteArray → Int → List (List Int) → Int → Int → Option (Bool)
 | 0, _, _, _, _, _, _, _ => none
 | k + 1, x1, x5, x6, x7, x24, x25, x26 => if x26 < x25 then (if 0 ≤ x26 then (if x26 < (x24.length : Int) then (redpenlaw17_PragmaWords.l1 k x1 x5 x6 x7 x26 (⟨#[113]⟩ : ByteArray) x24 x25 x26 (rd_L1 x24 x26) ((rd_L1 x24 x26).length : Int) 0) else (none)) else (none)) else (if x5.size + 11 ≤ 9223372036854775807 then ((conv_bytes.f (x5 ++ (⟨#[10, 115, 112, 101, 108, 108, 58, 108, 105, 110, 101]⟩ : ByteArray))).bind fun t217 => ((pragma_Read.f k t217).bind fun t220 => ((redpenlaw17_PragmaWords_tail.f k x6 x7 t220 x5).bind fun t223 => (some t223)))) else (none))
def redpenlaw17_PragmaWords.l1 : Nat → Int → ByteArray → List ByteArray → Int → Int → ByteArray → List (List Int) → Int → Int → List Int → Int → Int → Option (Bool)
 | 0, _, _, _, _, _, _, _, _, _, _, _, _ => none
 | k + 1, x1, x5, x6, x7, x8, x10, x24, x25, x26, x31, x32, x33 => if x33 < x32 then (if 0 ≤ x33 then (if x33 < (x31.length : Int) then (if x33 < 5 then ((some (([(97 + (Int.tmod (rd x31 x33) 5)) % 256] : List Int) : List Int)).bind fun y226 => (if x10.size + (strOfNums y226).size ≤ 9223372036854775807 then (redpenlaw17_PragmaWords.l1 k x1 x5 x6 x7 x8 (x10 ++ (strOfNums y226)) x24 x25 x26 x31 x32 (wrap64 (x33 + 1))) else (none))) else (redpenlaw17_PragmaWords.l1 k x1 x5 x6 x7 x8 x10 x24 x25 x26 x31 x32 (wrap64 (x33 + 1)))) else (none)) else (none)) else (if x8 > 12 then (if x5.size + 11 ≤ 9223372036854775807 then ((conv_bytes.f (x5 ++ (⟨#[10, 115, 112, 101, 108, 108, 58, 108, 105, 110, 101]⟩ : ByteArray))).bind fun t229 => ((pragma_Read.f k t229).bind fun t232 => ((redpenlaw17_PragmaWords_tail.f k x6 x7 t232 x5).bind fun t235 => (some t235)))) else (none)) else (if x8 = (wrap64 (x1)) then (if x5.size + 3 ≤ 9223372036854775807 then ((some (([(⟨#[32]⟩ : ByteArray), (⟨#[44]⟩ : ByteArray), (⟨#[44, 32]⟩ : ByteArray), (⟨#[9]⟩ : ByteArray)] : List ByteArray) : List ByteArray)).bind fun y236 => (if 0 ≤ (Int.tmod x8 4) then (if (Int.tmod x8 4) < (y236.length : Int) then (if (rdOf ByteArray.empty y236 (Int.tmod x8 4)).size + x10.size ≤ 9223372036854775807 then (if (x5 ++ (⟨#[32, 61, 39]⟩ : ByteArray)).size + ((rdOf ByteArray.empty y236 (Int.tmod x8 4)) ++ x10).size ≤ 9223372036854775807 then (if x6.length < 8796093022208 then (redpenlaw17_PragmaWords.l0 k x1 ((x5 ++ (⟨#[32, 61, 39]⟩ : ByteArray)) ++ ((rdOf ByteArray.empty y236 (Int.tmod x8 4)) ++ x10)) (x6 ++ [x10]) x8 x24 x25 (wrap64 (x26 + 1))) else (none)) else (none)) else (none)) else (none)) else (none))) else (none)) else ((some (([(⟨#[32]⟩ : ByteArray), (⟨#[44]⟩ : ByteArray), (⟨#[44, 32]⟩ : ByteArray), (⟨#[9]⟩ : ByteArray)] : List ByteArray) : List ByteArray)).bind fun y243 => (if 0 ≤ (Int.tmod x8 4) then (if (Int.tmod x8 4) < (y243.length : Int) then (if (rdOf ByteArray.empty y243 (Int.tmod x8 4)).size + x10.size ≤ 9223372036854775807 then (if x5.size + ((rdOf ByteArray.empty y243 (Int.tmod x8 4)) ++ x10).size ≤ 9223372036854775807 then (if x6.length < 8796093022208 then (redpenlaw17_PragmaWords.l0 k x1 (x5 ++ ((rdOf ByteArray.empty y243 (Int.tmod x8 4)) ++ x10)) (x6 ++ [x10]) x7 x24 x25 (wrap64 (x26 + 1))) else (none)) else (none)) else (none)) else (none)) else (none)))))
end
def redpenlaw17_PragmaWords.f (k : Nat) (l0 : List (List Int)) (a1 : Int) : Option (Bool) := (redpenlaw17_Awake.f k).bind fun t216 => (if t216 = true then (redpenlaw17_PragmaWords.l0 k a1 (⟨#[115, 112, 101, 108, 108, 58, 119, 111, 114, 100, 115]⟩ : ByteArray) ([] : List ByteArray) (l0.length : Int) l0 (l0.length : Int) 0) else (some false))
theorem redpenlaw17_PragmaWords.mono_l : ∀ k, (∀ y0 y1 y2 y3 y4 y5 y6, LeO (redpenlaw17_PragmaWords.l0 k y0 y1 y2 y3 y4 y5 y6) (redpenlaw17_PragmaWords.l0 (k + 1) y0 y1 y2 y3 y4 y5 y6)) ∧ (∀ y0 y1 y2 y3 y4 y5 y6 y7 y8 y9 y10 y11, LeO (redpenlaw17_PragmaWords.l1 k y0 y1 y2 y3 y4 y5 y6 y7 y8 y9 y10 y11) (redpenlaw17_PragmaWords.l1 (k + 1) y0 y1 y2 y3 y4 y5 y6 y7 y8 y9 y10 y11))
 | 0 => ⟨fun _ _ _ _ _ _ _ r h => by simp [redpenlaw17_PragmaWords.l0] at h, fun _ _ _ _ _ _ _ _ _ _ _ _ r h => by simp [redpenlaw17_PragmaWords.l1] at h⟩
 | k + 1 => by
  obtain ⟨ih0, ih1⟩ := redpenlaw17_PragmaWords.mono_l k
  refine ⟨?_, ?_⟩
  ·intro y0 y1 y2 y3 y4 y5 y6
   unfold redpenlaw17_PragmaWords.l0
   repeat' first
   | (with_reducible exact ih0 _ _ _ _ _ _ _)
   | (with_reducible exact ih1 _ _ _ _ _ _ _ _ _ _ _ _)
   | (with_reducible exact pragma_Read.mono _ _)
   | (with_reducible exact redpenlaw17_Awake.mono _)
   | (with_reducible exact redpenlaw17_PragmaWords_tail.mono _ _ _ _ _)
   | (with_reducible exact LeO.refl _)
   | (with_reducible exact LeO.none _)
   | (with_reducible refine LeO.ite ?_ ?_)
   | (with_reducible refine LeO.bind ?_ (fun _ => ?_))
   | exact ih0 _ _ _ _ _ _ _
   | exact ih1 _ _ _ _ _ _ _ _ _ _ _ _
   | exact pragma_Read.mono _ _
   | exact redpenlaw17_Awake.mono _
   | exact redpenlaw17_PragmaWords_tail.mono _ _ _ _ _
   | exact LeO.none _
   | refine LeO.ite ?_ ?_
   | refine LeO.bind ?_ (fun _ => ?_)
  ·intro y0 y1 y2 y3 y4 y5 y6 y7 y8 y9 y10 y11
   unfold redpenlaw17_PragmaWords.l1
   repeat' first
   | (with_reducible exact ih0 _ _ _ _ _ _ _)
   | (with_reducible exact ih1 _ _ _ _ _ _ _ _ _ _ _ _)
   | (with_reducible exact pragma_Read.mono _ _)
   | (with_reducible exact redpenlaw17_Awake.mono _)
   | (with_reducible exact redpenlaw17_PragmaWords_tail.mono _ _ _ _ _)
   | (with_reducible exact LeO.refl _)
   | (with_reducible exact LeO.none _)
   | (with_reducible refine LeO.ite ?_ ?_)
   | (with_reducible refine LeO.bind ?_ (fun _ => ?_))
   | exact ih0 _ _ _ _ _ _ _
   | exact ih1 _ _ _ _ _ _ _ _ _ _ _ _
   | exact pragma_Read.mono _ _
   | exact redpenlaw17_Awake.mono _
   | exact redpenlaw17_PragmaWords_tail.mono _ _ _ _ _
   | exact LeO.none _
   | refine LeO.ite ?_ ?_
   | refine LeO.bind ?_ (fun _ => ?_)
theorem redpenlaw17_PragmaWords.mono : ∀ a0 a1 k, LeO (redpenlaw17_PragmaWords.f k a0 a1) (redpenlaw17_PragmaWords.f (k + 1) a0 a1) := by
 intro a0 a1 k
 obtain ⟨ih0, ih1⟩ := redpenlaw17_PragmaWords.mono_l k
 unfold redpenlaw17_PragmaWords.f
 repeat' first
   | (with_reducible exact ih0 _ _ _ _ _ _ _)
   | (with_reducible exact ih1 _ _ _ _ _ _ _ _ _ _ _ _)
   | (with_reducible exact pragma_Read.mono _ _)
   | (with_reducible exact redpenlaw17_Awake.mono _)
   | (with_reducible exact redpenlaw17_PragmaWords_tail.mono _ _ _ _ _)
   | (with_reducible exact LeO.refl _)
   | (with_reducible exact LeO.none _)
   | (with_reducible refine LeO.ite ?_ ?_)
   | (with_reducible refine LeO.bind ?_ (fun _ => ?_))
   | exact ih0 _ _ _ _ _ _ _
   | exact ih1 _ _ _ _ _ _ _ _ _ _ _ _
   | exact pragma_Read.mono _ _
   | exact redpenlaw17_Awake.mono _
   | exact redpenlaw17_PragmaWords_tail.mono _ _ _ _ _
   | exact LeO.none _
   | refine LeO.ite ?_ ?_
   | refine LeO.bind ?_ (fun _ => ?_)
set_option maxHeartbeats 8000000 in
set_option maxRecDepth 100000 in
theorem redpenlaw17_PragmaWords.calls (k : Nat) (A0 : Option Addr) (c0 : Nat) (l0 : List (List Int)) (a1 : Int) (r : Bool) (w : World) (hr0 : Kd.C (Kd.slice 5 (Kd.int .u8)) w A0 l0.length l0) (hc0 : l0.length ≤ c0) (h : redpenlaw17_PragmaWords.f k l0 a1 = some r) (hr_ : r = true) (hL : Go.Proofs.YtkflgnhcfhmkdaaDoor.H.Laid w) :
  Calls Tryd.prog 5 #[.slice A0 l0.length c0, .int .u8 a1] w fun e w' => e = .returned (.bool r) ∧ Below w.heap.size w w' := by
 have HL := Aside0.mk hL
 clear hL
 have HR0 := Aside0.mk hr0
 have HC0 := Aside0.mk hc0
 clear hr0 hc0
 have HB := Aside0.mk (Below.refl w.heap.size w)
 have H : ((redpenlaw17_Awake.f k).bind fun t216 => (if t216 = true then (redpenlaw17_PragmaWords.l0 k a1 (⟨#[115, 112, 101, 108, 108, 58, 119, 111, 114, 100, 115]⟩ : ByteArray) ([] : List ByteArray) (l0.length : Int) l0 (l0.length : Int) 0) else (some false))) = some r := h
 clear h
 replace H := Option.bind_eq_some_iff.mp H
 obtain ⟨t216, A30, H⟩ := H
 replace H : (if t216 = true then (redpenlaw17_PragmaWords.l0 k a1 (⟨#[115, 112, 101, 108, 108, 58, 119, 111, 114, 100, 115]⟩ : ByteArray) ([] : List ByteArray) (l0.length : Int) l0 (l0.length : Int) 0) else (some false)) = some r := H
 have A3 := Aside0.mk A30
 clear A30
 by_cases c4 : t216 = true
 ·subst c4
  have H1 : (redpenlaw17_PragmaWords.l0 k a1 (⟨#[115, 112, 101, 108, 108, 58, 119, 111, 114, 100, 115]⟩ : ByteArray) ([] : List ByteArray) (l0.length : Int) l0 (l0.length : Int) 0) = some r := by rw [if_pos rfl] at H; exact H
  clear H
  have H := H1
  clear H1
  have H' := Aside0.mk H
  clear H
  have hmm := @run_makeMap Tryd.prog
  go_enter Tryd.func5, Tryd.ntmps5
  go_wp2_with (first | ((with_reducible refine gate_callee (f := 8) rfl ?_); refine goesL_ (some 20) rfl rfl Tryd.func8 (by kernel_rfl) rfl #[] rfl (by (try simp only [List.map_toArray, List.map_cons, List.map_nil]); first | done | rfl | (simp only [List.length_drop, List.length_take]; rfl)) ?_; (with_reducible refine (redpenlaw17_Awake.calls k  true _ A3.out ?sideL).mono ?_); (case sideL => first | exact HL.out | exact HL.out.below HB.out | exact HL.out.below (by repeat (first | (with_reducible first | exact HB.out | apply below_alloc | apply pw_below_drewN | apply below_drew1 | refine below_set ?_ (Aside0.out (by assumption))) | exact HB.out))); rintro e w5 ⟨rfl, hb⟩; refine ⟨_, rfl, ?_⟩; have n0_ := Aside0.mk (below_step (by repeat (first | (with_reducible first | exact HB.out | apply below_alloc | apply pw_below_drewN | apply below_drew1) | exact HB.out)) hb); clear HB; have HB := n0_; clear n0_; (try clear hb); (try clear hb2); (try clear hk); (try clear hi)))
  go_loopg [5, 6, 7, 26] k (fun kq v5 v6 v7 v26 w' => ∃ (x5_1 : ByteArray) (x6_1 : List ByteArray) (x7_1 : Int) (x26_1 : Int), v5 = .string x5_1 ∧ v7 = .int .i64 x7_1 ∧ v26 = .int .i64 x26_1 ∧ Aside0 (redpenlaw17_PragmaWords.l0 kq a1 x5_1 x6_1 x7_1 l0 (l0.length : Int) x26_1 = some r) ∧ Aside0 (kq ≤ k) ∧ Aside0 (Kd.R Kd.string 9 w' w.heap.size (fun _ => True) v6 x6_1) ∧ Aside0 (Below w.heap.size w w'))
  case atStart => exact ⟨((⟨#[115, 112, 101, 108, 108, 58, 119, 111, 114, 100, 115]⟩ : ByteArray)), (([] : List ByteArray)), ((l0.length : Int)), (0), (by first | rfl | (simp; done) | (simp [*]; done) | (simp [wrap64, wrap32]; done)), (by first | rfl | (simp; done) | (simp [*]; done) | (simp [wrap64, wrap32]; done)), (by first | rfl | (simp; done) | (simp [*]; done) | (simp [wrap64, wrap32]; done)), H', ⟨Nat.le_refl _⟩, ⟨by first | exact Kd.R_nil _ _ _ _ _ | exact Kd.N_nil _ _ _ _ _ | exact Kd.V_nil _ _ _ _ _ | exact Kd.Q_nil _ _ _ _ _ | exact Kd.S_nil _ _ _ _ _⟩, ⟨by repeat (first | (with_reducible first | exact HB.out | apply below_alloc | apply pw_below_drewN | apply below_drew1) | exact HB.out)⟩⟩
  case round =>
   clear H'
   try clear p2
   try clear c4
   try clear c5
   obtain ⟨x5_1, x6_1, x7_1, x26_1, rfl, rfl, rfl, HA, HK1, HO_6, HB⟩ := hrel
   cases gk with
   | zero => exact absurd HA.out (by simp [redpenlaw17_PragmaWords.l0])
   | succ k1 =>
    have H := HA.out
    clear HA
    simp only [redpenlaw17_PragmaWords.l0] at H
    by_cases c6 : x26_1 < (l0.length : Int)
    ·rw [if_pos c6] at H
     have c6b0 : decide (x26_1 < (l0.length : Int)) = true := decide_eq_true c6
     clear c6
     by_cases c7 : 0 ≤ x26_1
     ·rw [if_pos c7] at H
      have c7b0 : decide (0 ≤ x26_1) = true := decide_eq_true c7
      clear c7
      by_cases c8 : x26_1 < (l0.length : Int)
      ·rw [if_pos c8] at H
       have c8b0 : decide (x26_1 < (l0.length : Int)) = true := decide_eq_true c8
       clear c8
       have H' := Aside0.mk H
       clear H
       have p224 : 0 ≤ (x26_1 : Int) := of_decide_eq_true (by first | (with_reducible assumption) | assumption)
       have q224 : x26_1 < (l0.length : Int) := of_decide_eq_true (by first | (with_reducible assumption) | assumption)
       obtain ⟨ad224, A224_0, c224_0, e224, hx224_0, hl224_0, hi224_0⟩ := at_L1 HR0.out x26_1 p224 q224
       cases e224
       replace hx224_0 := (HB.out.cell (World.block_lt_of_cell? w _ hx224_0)).trans hx224_0
       have HR224_0 := Aside0.mk hi224_0
       have HC224_0 := Aside0.mk hl224_0
       clear hi224_0 hl224_0
       replace p224 := eq_true p224
       replace q224 := eq_true q224
       go_wp2
       go_loopg [10, 33] k1 (fun kq v10 v33 w' => ∃ (x10_2 : ByteArray) (x33_2 : Int), v10 = .string x10_2 ∧ v33 = .int .i64 x33_2 ∧ Aside0 (redpenlaw17_PragmaWords.l1 kq a1 x5_1 x6_1 x7_1 x26_1 x10_2 l0 (l0.length : Int) x26_1 (rd_L1 l0 x26_1) ((rd_L1 l0 x26_1).length : Int) x33_2 = some r) ∧ Aside0 (kq ≤ k1) ∧ Aside0 (Kd.R Kd.string 9 w' w.heap.size (fun _ => True) u6 x6_1) ∧ Aside0 (Below w.heap.size w w'))
       case atStart => exact ⟨((⟨#[113]⟩ : ByteArray)), (0), (by first | rfl | (simp; done) | (simp [*]; done) | (simp [wrap64, wrap32]; done)), (by first | rfl | (simp; done) | (simp [*]; done) | (simp [wrap64, wrap32]; done)), H', ⟨Nat.le_refl _⟩, ⟨by (with_reducible repeat (first | apply Kd.R_alloc | apply Kd.R_drewN | apply Kd.R_drew)); exact HO_6.out⟩, ⟨by repeat (first | (with_reducible first | exact HB.out | apply below_alloc | apply pw_below_drewN | apply below_drew1) | exact HB.out)⟩⟩
       case round =>
        clear H'
        try clear c2
        try clear p2
        try clear q2
        try clear hx2
        try clear c4
        try clear c5
        try clear c6
        try clear c6b0
        try clear c7
        try clear c7b0
        try clear c8
        try clear c8b0
        try clear hx224_0
        try clear p2
        try clear p224
        try clear q224
        obtain ⟨x10_2, x33_2, rfl, rfl, HA, HK2, HO_6, HB⟩ := hrel
        cases gk with
        | zero => exact absurd HA.out (by simp [redpenlaw17_PragmaWords.l1])
        | succ k2 =>
         have H := HA.out
         clear HA
         simp only [redpenlaw17_PragmaWords.l1] at H
         by_cases c9 : x33_2 < ((rd_L1 l0 x26_1).length : Int)
         ·rw [if_pos c9] at H
          have c9b0 : decide (x33_2 < ((rd_L1 l0 x26_1).length : Int)) = true := decide_eq_true c9
          clear c9
          by_cases c10 : 0 ≤ x33_2
          ·rw [if_pos c10] at H
           have c10b0 : decide (0 ≤ x33_2) = true := decide_eq_true c10
           clear c10
           by_cases c11 : x33_2 < ((rd_L1 l0 x26_1).length : Int)
           ·rw [if_pos c11] at H
            have c11b0 : decide (x33_2 < ((rd_L1 l0 x26_1).length : Int)) = true := decide_eq_true c11
            clear c11
            by_cases c12 : x33_2 < 5
            ·rw [if_pos c12] at H
             have c12b0 : decide (x33_2 < 5) = true := decide_eq_true c12
             clear c12
             obtain ⟨y226, hy226⟩ : ∃ y_ : List Int, y_ = (([(97 + (Int.tmod (rd (rd_L1 l0 x26_1) x33_2) 5)) % 256] : List Int)) := ⟨_, rfl⟩
             replace H : (if x10_2.size + (strOfNums y226).size ≤ 9223372036854775807 then (redpenlaw17_PragmaWords.l1 k2 a1 x5_1 x6_1 x7_1 x26_1 (x10_2 ++ (strOfNums y226)) l0 (l0.length : Int) x26_1 (rd_L1 l0 x26_1) ((rd_L1 l0 x26_1).length : Int) (wrap64 (x33_2 + 1))) else (none)) = some r := by first | (rw [hy226]; with_reducible exact H) | (have H2_ := (Option.bind_some _ _).symm.trans H; rw [hy226]; with_reducible exact H2_) | (have H2_ := (Option.bind_some _ _).symm.trans H; with_reducible exact H2_) | with_reducible exact H | (rw [hy226]; exact H) | exact H
             have Ny226 := Aside0.mk hy226
             clear hy226
             by_cases c13 : x10_2.size + (strOfNums y226).size ≤ 9223372036854775807
             ·rw [if_pos c13] at H
              have c13b0 := eq_true c13
              have c13b1 : decide (x10_2.size + (strOfNums y226).size ≤ 9223372036854775807) = true := decide_eq_true c13
              try have c13b2 : (9223372036854775807 < x10_2.size + (strOfNums y226).size) = False := eq_false (Nat.not_lt.2 c13)
              have H' := Aside0.mk H
              clear H
              have p225 : 0 ≤ (x33_2 : Int) := of_decide_eq_true (by first | (with_reducible assumption) | assumption)
              have q225 : x33_2 < ((rd_L1 l0 x26_1).length : Int) := of_decide_eq_true (by first | (with_reducible assumption) | assumption)
              obtain ⟨ad225, e225, hx225_0⟩ := Kd.at_int HR224_0.out x33_2 p225 q225
              cases e225
              replace hx225_0 := (HB.out.cell (World.block_lt_of_cell? w _ hx225_0)).trans hx225_0
              replace p225 := eq_true p225
              replace q225 := eq_true q225
              go_wp2_with (first | ((with_reducible refine gate_dst (N := 44) rfl ?_); refine Kd.R_lit (Kd.int .u8) _ 5 ?hg (N := 44) ?hd (xs := ([(97 + (Int.tmod (rd (rd_L1 l0 x26_1) x33_2) 5)) % 256] : List Int)) (inner := [.int .u8 ((97 + (Int.tmod (rd (rd_L1 l0 x26_1) x33_2) 5)) % 256)]) (ok := fun _ => True) (okp := fun _ => True) ?hr ?hp (fun _ hk => hk) trivial (Below.refl _ _) (Nat.le_refl _) (by simp) ?_; (case hd => rfl); (case hg => rfl); (case hr => first | (go_simp; done) | (go_simp; rfl)); (case hp => exact (Reps.one (show Kd.M (Kd.int .u8) _ _ _ ((97 + (Int.tmod (rd (rd_L1 l0 x26_1) x33_2) 5)) % 256) [.int .u8 ((97 + (Int.tmod (rd (rd_L1 l0 x26_1) x33_2) 5)) % 256)] from rfl) (Reps.none _ _))); intro v227 w14 ho15 hb hg_ hnew_; clear hg_ hnew_; (first | rw [← Ny226.out] at ho15 | (simp only [Int.reduceToNat] at ho15; rw [← Ny226.out] at ho15)); have n0_ := Aside0.mk (Kd.R_below (by (with_reducible repeat (first | apply Kd.R_alloc | apply Kd.R_drewN | apply Kd.R_drew)); exact HO_6.out) hb); have n1_ := Aside0.mk (Kd.R_lower ho15 (below_size (by repeat (first | (with_reducible first | exact HB.out | apply below_alloc | apply pw_below_drewN | apply below_drew1) | exact HB.out)))); have n2_ := Aside0.mk (below_step (by repeat (first | (with_reducible first | exact HB.out | apply below_alloc | apply pw_below_drewN | apply below_drew1) | exact HB.out)) hb); clear HO_6; clear HB; have HO_6 := n0_; have HO228 := n1_; have HB := n2_; clear n0_ n1_ n2_; clear hb ho15; have hcv16 := own_string (P := Tryd.prog) Tryd.underlying22 Tryd.underlying5 Tryd.underlying9 (Kd.own_of_R HO228.out); have hcv16n := fun (n_ : Nat) => own_string (P := Tryd.prog) Tryd.underlying22 Tryd.underlying5 Tryd.underlying9 (Kd.own_of_R (Kd.R_drewN HO228.out n_))))
              go_roundg k2
              case measure => have := HK1.out; have := HK2.out; omega
              case rel => exact ⟨(x10_2 ++ (strOfNums y226)), (wrap64 (x33_2 + 1)), (by first | rfl | (simp; done) | (simp [*]; done) | (simp [wrap64, wrap32]; done)), (by first | rfl | (simp; done) | (simp [*]; done) | (simp [wrap64, wrap32]; done)), H', ⟨by have := HK1.out; have := HK2.out; omega⟩, ⟨by (with_reducible repeat (first | apply Kd.R_alloc | apply Kd.R_drewN | apply Kd.R_drew)); exact HO_6.out⟩, ⟨by repeat (first | (with_reducible first | exact HB.out | apply below_alloc | apply pw_below_drewN | apply below_drew1) | exact HB.out)⟩⟩
             ·rw [if_neg c13] at H
              exact absurd H (by simp)
            ·rw [if_neg c12] at H
             have c12b0 : decide (x33_2 < 5) = false := decide_eq_false c12
             clear c12
             have H' := Aside0.mk H
             clear H
             have p225 : 0 ≤ (x33_2 : Int) := of_decide_eq_true (by first | (with_reducible assumption) | assumption)
             have q225 : x33_2 < ((rd_L1 l0 x26_1).length : Int) := of_decide_eq_true (by first | (with_reducible assumption) | assumption)
             obtain ⟨ad225, e225, hx225_0⟩ := Kd.at_int HR224_0.out x33_2 p225 q225
             cases e225
             replace hx225_0 := (HB.out.cell (World.block_lt_of_cell? w _ hx225_0)).trans hx225_0
             replace p225 := eq_true p225
             replace q225 := eq_true q225
             go_wp2
             go_roundg k2
             case measure => have := HK1.out; have := HK2.out; omega
             case rel => exact ⟨(x10_2), (wrap64 (x33_2 + 1)), (by first | rfl | (simp; done) | (simp [*]; done) | (simp [wrap64, wrap32]; done)), (by first | rfl | (simp; done) | (simp [*]; done) | (simp [wrap64, wrap32]; done)), H', ⟨by have := HK1.out; have := HK2.out; omega⟩, ⟨by (with_reducible repeat (first | apply Kd.R_alloc | apply Kd.R_drewN | apply Kd.R_drew)); exact HO_6.out⟩, ⟨by repeat (first | (with_reducible first | exact HB.out | apply below_alloc | apply pw_below_drewN | apply below_drew1) | exact HB.out)⟩⟩
           ·rw [if_neg c11] at H
            exact absurd H (by simp)
          ·rw [if_neg c10] at H
           exact absurd H (by simp)
         ·rw [if_neg c9] at H
          have c9b0 : decide (x33_2 < ((rd_L1 l0 x26_1).length : Int)) = false := decide_eq_false c9
          clear c9
          by_cases c17 : x26_1 > 12
          ·rw [if_pos c17] at H
           have c17b0 : decide (12 < x26_1) = true := decide_eq_true c17
           clear c17
           by_cases c18 : x5_1.size + 11 ≤ 9223372036854775807
           ·rw [if_pos c18] at H
            have c18b0 := eq_true c18
            have c18b1 : decide (x5_1.size + 11 ≤ 9223372036854775807) = true := decide_eq_true c18
            try have c18b2 : (9223372036854775807 < x5_1.size + 11) = False := eq_false (Nat.not_lt.2 c18)
            replace H := Option.bind_eq_some_iff.mp H
            obtain ⟨t229, A190, H⟩ := H
            replace H : ((pragma_Read.f k2 t229).bind fun t232 => ((redpenlaw17_PragmaWords_tail.f k2 x6_1 x7_1 t232 x5_1).bind fun t235 => (some t235))) = some r := H
            have A19 := Aside0.mk A190
            clear A190
            replace H := Option.bind_eq_some_iff.mp H
            obtain ⟨t232, A200, H⟩ := H
            replace H : ((redpenlaw17_PragmaWords_tail.f k2 x6_1 x7_1 t232 x5_1).bind fun t235 => (some t235)) = some r := H
            have A20 := Aside0.mk A200
            clear A200
            replace H := Option.bind_eq_some_iff.mp H
            obtain ⟨t235, A210, H⟩ := H
            replace H : (some t235) = some r := H
            have A21 := Aside0.mk A210
            clear A210
            obtain rfl := Option.some.inj H
            have H := A21.out
            clear A21
            unfold redpenlaw17_PragmaWords_tail.f at H
            split at H
            case isFalse => cases H
            case isTrue hwl =>
            obtain ⟨b1, htw, H⟩ := Option.bind_eq_some_iff.mp H
            unfold redpenlaw17_PragmaWords.te at H
            obtain ⟨a0_, hko, H⟩ := Option.bind_eq_some_iff.mp H
            split at H
            case isFalse => cases H
            case isTrue ha0 =>
            subst ha0
            obtain ⟨a1_, hof, H⟩ := Option.bind_eq_some_iff.mp H
            split at H
            case isFalse => cases H
            case isTrue ha1 =>
            subst ha1
            have HWL := Aside0.mk hwl
            have HSZ := Aside0.mk (redpenlaw17_PragmaWords.tw_sz _ _ _ _ _ htw)
            have HTW := Aside0.mk htw
            have HKO := Aside0.mk hko
            have HOF := Aside0.mk hof
            have HOE := Aside0.mk H
            clear H htw hko hof hwl
            go_wp2_with (first | ((with_reducible refine gate_dst (N := 73) rfl ?_); refine cv_goes (N := some 73) rfl rfl (s := (x5_1 ++ (⟨#[10, 115, 112, 101, 108, 108, 58, 108, 105, 110, 101]⟩ : ByteArray))) rfl (by first | rfl | (simp; done)) Tryd.underlying9 Tryd.underlying22 Tryd.underlying5 ?_; (with_reducible refine (conv_bytes.calls (x5_1 ++ (⟨#[10, 115, 112, 101, 108, 108, 58, 108, 105, 110, 101]⟩ : ByteArray)) t229 _ A19.out).mono ?_); rintro e w22 ⟨v230, rfl, ho0, hb⟩; refine ⟨_, rfl, ?_⟩; have n0_ := Aside0.mk (Kd.R_below (by (with_reducible repeat (first | apply Kd.R_alloc | apply Kd.R_drewN | apply Kd.R_drew)); exact HO_6.out) hb); have n1_ := Aside0.mk (Kd.V_lower (Kd.V_mono (ok' := fun k_ => some k_ ≠ (u6 : Value).ownBlock) ho0 (fun k_ hk_ => (Kd.fresh' (Kd.R_lt (by (with_reducible repeat (first | apply Kd.R_alloc | apply Kd.R_drewN | apply Kd.R_drew)); exact HO_6.out)) k_ hk_))) (below_size (by repeat (first | (with_reducible first | exact HB.out | apply below_alloc | apply pw_below_drewN | apply below_drew1) | exact HB.out)))); have n2_ := Aside0.mk (below_step (by repeat (first | (with_reducible first | exact HB.out | apply below_alloc | apply pw_below_drewN | apply below_drew1) | exact HB.out)) hb); clear HO_6; clear HB; have HO_6 := n0_; have HO231 := n1_; have HB := n2_; clear n0_ n1_ n2_; (try clear hb); (try clear hb2); (try clear hk); (try clear hi); (try clear ho0); obtain ⟨Ao23, co23, eo23⟩ := Kd.V_slice HO231.out; subst eo23) | ((with_reducible refine gate_callee (f := 9) rfl ?_); refine goesL_ (some 74) rfl rfl Tryd.func9 (by kernel_rfl) rfl #[.slice Ao23 t229.length co23] rfl (by (try simp only [List.map_toArray, List.map_cons, List.map_nil]); first | done | rfl | (simp only [List.length_drop, List.length_take]; rfl)) ?_; (with_reducible refine (pragma_Read.calls k2 _ _ t229 t232 _ ?side1 ?side2 A20.out ?sideL).mono ?_); (case sideL => first | exact HL.out | exact HL.out.below HB.out | exact HL.out.below (by repeat (first | (with_reducible first | exact HB.out | apply below_alloc | apply pw_below_drewN | apply below_drew1 | refine below_set ?_ (Aside0.out (by assumption))) | exact HB.out))); (case side1 => repeat (first | exact (Kd.V_reads' HO231.out).2.2 | (with_reducible refine Kd.C_alloc ?_ _) | (with_reducible refine Kd.C_drewN ?_ _) | (with_reducible refine Kd.C_drew ?_))); (case side2 => exact (Kd.V_reads' HO231.out).2.1); rintro e w24 ⟨v233, rfl, ho0, hb⟩; refine ⟨_, rfl, ?_⟩; have n0_ := Aside0.mk (Kd.R_below (by (with_reducible repeat (first | apply Kd.R_alloc | apply Kd.R_drewN | apply Kd.R_drew)); exact HO_6.out) hb); have n1_ := Aside0.mk (Kd.V_below (by (with_reducible repeat (first | apply Kd.V_alloc | apply Kd.V_drewN | apply Kd.V_drew)); exact HO231.out) hb); have n2_ := Aside0.mk (Kd.P_lower (Kd.P_mono (ok' := fun k_ => some k_ ≠ (u6 : Value).ownBlock) ho0 (fun k_ hk_ => (Kd.fresh' (Kd.R_lt (by (with_reducible repeat (first | apply Kd.R_alloc | apply Kd.R_drewN | apply Kd.R_drew)); exact HO_6.out)) k_ hk_))) (below_size (by repeat (first | (with_reducible first | exact HB.out | apply below_alloc | apply pw_below_drewN | apply below_drew1) | exact HB.out)))); have n3_ := Aside0.mk (below_step (by repeat (first | (with_reducible first | exact HB.out | apply below_alloc | apply pw_below_drewN | apply below_drew1) | exact HB.out)) hb); clear HO_6; clear HO231; clear HB; have HO_6 := n0_; have HO231 := n1_; have HO234 := n2_; have HB := n3_; clear n0_ n1_ n2_ n3_; (try clear hb); (try clear hb2); (try clear hk); (try clear hi); (try clear ho0); obtain ⟨Ao25, co25, eo25⟩ := Kd.R_slice HO_6.out; subst eo25))
            have HC1 := Aside0.mk (Kd.R_reads' HO_6.out).2.2
            have HP1 := HO234
            have HB1 := HB
            have HTL := Aside0.mk (Go.Proofs.YtkflgnhcfhmkdaaDoor.H.TlS.made w24)
            obtain ⟨wT, hwT⟩ : ∃ W, W = w24 := ⟨_, rfl⟩
            rw [← hwT] at HTL HC1 HP1 HB1 ⊢
            obtain ⟨KS, hKS⟩ : ∃ K, K = redpenlaw17_PragmaWords.ks x7_1 0 x6_1 [] := ⟨_, rfl⟩
            rw [← hKS] at HTW
            have HKS := Aside0.mk hKS
            clear hKS hwT HO_6 HB
            go_loopg [78] x6_1.length (fun kq v78 w' => ∃ (i : Nat) (acc : List ByteArray), v78 = .int .i64 (i : Int) ∧ Aside0 (i + kq = x6_1.length) ∧ Aside0 (redpenlaw17_PragmaWords.ks x7_1 i (x6_1.drop i) acc = KS) ∧ Aside0 (acc.length ≤ i) ∧ Aside0 (Go.Proofs.YtkflgnhcfhmkdaaDoor.H.TlS wT wT.heap.size acc w'))
            case atStart => exact ⟨0, [], rfl, ⟨by omega⟩, ⟨HKS.out.symm⟩, ⟨Nat.le_refl _⟩, HTL⟩
            case round =>
             clear HTL HKS
             obtain ⟨i, acc, rfl, HI, HK, HA, HT⟩ := hrel
             cases gk with
             | zero =>
               have d1 := decide_eq_false (show ¬ (i : Int) < (x6_1.length : Int) by have := HI.out; omega)
               have d2 := decide_eq_false (show ¬ i < x6_1.length by have := HI.out; omega)
               have hk := HK.out
               rw [List.drop_of_length_le (by have := HI.out; omega)] at hk
               obtain rfl : acc = KS := hk
               clear HI HK HA
               go_wp2
               go_loopg [91] x6_1.length (fun kq v91 w' => ∃ (i : Nat), v91 = .int .i64 (i : Int) ∧ Aside0 (i + kq = x6_1.length) ∧ Aside0 (redpenlaw17_PragmaWords.tw k2 t232 acc (x6_1.drop i) = some b1) ∧ Aside0 (Go.Proofs.YtkflgnhcfhmkdaaDoor.H.TlS wT wT.heap.size acc w'))
               case atStart => exact ⟨0, rfl, ⟨by omega⟩, HTW, HT⟩
               case round =>
                clear HTW HT d1 d2
                obtain ⟨i, rfl, HI, HW, HT⟩ := hrel
                cases gk with
                | zero =>
                  have d1 := decide_eq_false (show ¬ (i : Int) < (x6_1.length : Int) by have := HI.out; omega)
                  have d2 := decide_eq_false (show ¬ i < x6_1.length by have := HI.out; omega)
                  go_wp2_with (first | (go_at_call 16; (with_reducible refine (pragma_Rules_Knows.calls k2 _ t232 _ _ _ ?sideP HKO.out).mono ?_); (case sideP => exact Kd.P_now (Kd.P_below HP1.out HT.out.bel)); rintro e w3 ⟨rfl, hb⟩; have HT3 := Aside0.mk (HT.out.below hb); clear hb) | (go_at_call 10; (with_reducible refine (pragma_Rules_Off.calls _ t232 0 _ _ ?sideP HOF.out).mono ?_); (case sideP => exact Kd.P_now (Kd.P_below HP1.out HT3.out.bel)); rintro e w4 ⟨rfl, hb⟩; have HT4 := Aside0.mk (HT3.out.below hb); clear hb) | (go_at_call 10; (with_reducible refine (pragma_Rules_Off.calls _ t232 _ _ _ ?sideP HOE.out).mono ?_); (case sideP => exact Kd.P_now (Kd.P_below HP1.out HT4.out.bel)); rintro e w5 ⟨rfl, hb⟩; have HT5 := Aside0.mk (HT4.out.below hb); clear hb))
                  go_ret
                  exact ⟨by rw [hr_]; rfl, below_step HB1.out HT5.out.bel⟩
                | succ k3 =>
                 have hlt : i < x6_1.length := by have := HI.out; omega
                 have hW := HW.out
                 rw [show x6_1.drop i = x6_1.getD i ByteArray.empty :: x6_1.drop (i + 1) by rw [List.drop_eq_getElem_cons hlt, List.getD_eq_getElem?_getD, List.getElem?_eq_getElem hlt]; rfl] at hW
                 obtain ⟨ad, had, hx⟩ := Go.Proofs.YtkflgnhcfhmkdaaDoor.H.str_at HC1.out i hlt
                 cases had
                 obtain ⟨s6, hs6⟩ : ∃ s, s = x6_1.getD i ByteArray.empty := ⟨_, rfl⟩
                 rw [← hs6] at hx hW
                 clear hs6
                 have HX := Aside0.mk hx
                 replace hx := pw_cell_below HT.out.bel hx
                 simp only [redpenlaw17_PragmaWords.tw] at hW
                 split at hW
                 case isFalse => cases hW
                 case isTrue hz0 =>
                 split at hW
                 case isFalse => cases hW
                 case isTrue hz1 =>
                 obtain ⟨q1, hka, hW⟩ := Option.bind_eq_some_iff.mp hW
                 split at hW
                 case isFalse => cases hW
                 case isTrue hq1 =>
                 subst hq1
                 obtain ⟨q2, hkb, hW⟩ := Option.bind_eq_some_iff.mp hW
                 split at hW
                 case isFalse => cases hW
                 case isTrue hq2 =>
                 subst hq2
                 have HW2 := Aside0.mk hW
                 obtain ⟨hh, hhh⟩ : ∃ h, h = Go.Proofs.YtkflgnhcfhmkdaaDoor.H.hasW acc s6 := ⟨_, rfl⟩
                 rw [← hhh] at hka hkb
                 have HH6 := Aside0.mk hhh.symm
                 have HKA := Aside0.mk hka
                 have HKB := Aside0.mk hkb
                 have HZ0 := Aside0.mk hz0
                 have HZ1 := Aside0.mk hz1
                 have HZ := Aside0.mk (show s6.size ≤ maxLen by unfold maxLen; omega)
                 have hew := Aside0.mk (show wrap64 ((i : Int) + 1) = ((i + 1 : Nat) : Int) by have := HWL.out; rw [Go.Proofs.YtkflgnhcfhmkdaaDoor.M.w64 (by omega) (by omega)]; omega)
                 have hne : (hh != hh) = false := by simp
                 have d1 := decide_eq_true (show (i : Int) < (x6_1.length : Int) by omega)
                 have p1 := eq_true (show (0 : Int) ≤ (i : Int) by omega)
                 have q1 := eq_true (show (i : Int) < (x6_1.length : Int) by omega)
                 have z0 := eq_true (show (0 : Int) < (s6.size : Int) by omega)
                 have z1 := eq_true HZ0.out
                 clear hW hka hkb hhh hz0 hz1 HW
                 go_upto_region 36 with ((with_reducible refine gate_dst (N := 96) rfl ?_); refine Go.Proofs.YtkflgnhcfhmkdaaDoor.H.cv_made (N := some 96) rfl rfl (s := s6) rfl (by first | rfl | (simp; done)) Tryd.underlying9 Tryd.underlying22 Tryd.underlying5 ?_; intro g5 c5 w5 hg5 hc5 hby hb5; have HG5 := Aside0.mk (show wT.heap.size < g5 by rw [hg5]; exact HT.out.set.lt); have HT5 := Aside0.mk (HT.out.below hb5); have HC6 := Aside0.mk (hby.stored HZ0.out HZ1.out); have hq0 := hby.cell HZ0.out; have hf0 := hby.frozen HZ0.out; clear hby hb5 hg5 hc5)
                 have HT6 := Aside0.mk ((HT5.out.setNew (j := 0) HG5.out (.int .u8 81)).drew1)
                 replace HC6 := Aside0.mk (Kd.C_drew HC6.out)
                 refine start_ (n := 17) (S := fun w' => (Instr.lookup 43 (.map (some wT.heap.size)) (.string s6) false).run Tryd.prog w' = .ok (.bool hh) w') (ds := []) #[false, false, false, false, false, false, false, false, false, false, false, false, false, false, false, false, false] (by kernel_rfl) rfl rfl (by have z := HT6.out.set.look s6 HZ.out; rw [HH6.out] at z; exact z) (fun hHeld => ?_)
                 refine pure_ (i := 0) (N := some 99) (v := ?_) (a' := ?_) #[true, false, false, false, false, false, false, false, false, false, false, false, false, false, false, false, false] rfl rfl (by kernel_rfl) (fun _ _ _ h => h) (Or.inl ⟨by rfl, ?_⟩) ?_ ?_
                 rotate_left
                 · intro w'
                   go_simp
                   with_reducible rfl
                 rotate_left
                 · simp only [Act.put, List.setIfInBounds_toArray, List.set_cons_zero, List.set_cons_succ, i64_w, i32_w]
                   rfl
                 refine pure_ (i := 1) (N := some 100) (v := ?_) (a' := ?_) #[true, true, false, false, false, false, false, false, false, false, false, false, false, false, false, false, false] rfl rfl (by kernel_rfl) (fun _ _ _ h => h) (Or.inl ⟨by rfl, ?_⟩) ?_ ?_
                 rotate_left
                 · intro w'
                   go_simp
                   with_reducible rfl
                 rotate_left
                 · simp only [Act.put, List.setIfInBounds_toArray, List.set_cons_zero, List.set_cons_succ, i64_w, i32_w]
                   rfl
                 refine pure_ (i := 3) (N := some 102) (v := ?_) (a' := ?_) #[true, true, false, true, false, false, false, false, false, false, false, false, false, false, false, false, false] rfl rfl (by kernel_rfl) (fun _ _ _ h => h) (Or.inl ⟨by rfl, ?_⟩) ?_ ?_
                 rotate_left
                 · intro w'
                   go_simp
                   with_reducible rfl
                 rotate_left
                 · simp only [Act.put, List.setIfInBounds_toArray, List.set_cons_zero, List.set_cons_succ, i64_w, i32_w]
                   rfl
                 refine pure_ (i := 4) (N := some 103) (v := ?_) (a' := ?_) #[true, true, false, true, true, false, false, false, false, false, false, false, false, false, false, false, false] rfl rfl (by kernel_rfl) (fun _ _ _ h => h) (Or.inl ⟨by rfl, ?_⟩) ?_ ?_
                 rotate_left
                 · intro w'
                   go_simp
                   with_reducible rfl
                 rotate_left
                 · simp only [Act.put, List.setIfInBounds_toArray, List.set_cons_zero, List.set_cons_succ, i64_w, i32_w]
                   rfl
                 refine take_ (i := 5) (N := some 104) (v := ?_) (a' := ?_) #[true, true, false, true, true, true, false, false, false, false, false, false, false, false, false, false, false] rfl rfl (by kernel_rfl) (fun _ _ _ h => h) (Or.inl ⟨by rfl, ?_⟩) hHeld ?_ ?_
                 rotate_left
                 · intro w' s0
                   go_simp
                   with_reducible rfl
                 rotate_left
                 · simp only [Act.put, List.setIfInBounds_toArray, List.set_cons_zero, List.set_cons_succ, i64_w, i32_w]
                   rfl
                 refine one_ (i := 2) (N := some 101) #[true, true, true, true, true, true, false, false, false, false, false, false, false, false, false, false, false] rfl rfl (by kernel_rfl) (by decide) (fun K hK => ?_)
                 refine goes_ Tryd.func16 (by kernel_rfl) rfl #[v233, .string s6] (by rfl) rfl rfl (by simp only [List.map_toArray, List.map_cons, List.map_nil]; rfl) ?_
                 with_reducible refine (pragma_Rules_Knows.calls k2 _ t232 s6 _ _ ?sideP HKA.out).mono ?_
                 case sideP => exact Kd.P_now (Kd.P_below HP1.out HT6.out.bel)
                 rintro e w7 ⟨rfl, hb⟩
                 have HT7 := Aside0.mk (HT6.out.below hb)
                 have HC7 := Aside0.mk (Kd.C_below HC6.out hb)
                 clear hb
                 refine ⟨_, rfl, ?_⟩
                 refine hK.out _ _ (by have z := HT7.out.set.look s6 HZ.out; rw [HH6.out] at z; exact z) (fun hHeld => ?_)
                 clear hK K
                 refine norm_ (a' := ?_) ?_ ?_
                 rotate_left
                 · show Act.put _ (some 101) _ = _
                   simp only [Act.put, List.setIfInBounds_toArray, List.set_cons_zero, List.set_cons_succ, i64_w, i32_w]
                   rfl
                 refine pure_ (i := 6) (N := some 105) (v := ?_) (a' := ?_) #[true, true, true, true, true, true, true, false, false, false, false, false, false, false, false, false, false] rfl rfl (by kernel_rfl) (fun _ _ _ h => h) (Or.inl ⟨by rfl, ?_⟩) ?_ ?_
                 rotate_left
                 · intro w'
                   go_simp
                   with_reducible rfl
                 rotate_left
                 · simp only [Act.put, List.setIfInBounds_toArray, List.set_cons_zero, List.set_cons_succ, i64_w, i32_w]
                   rfl
                 refine pure_ (i := 7) (N := some 106) (v := ?_) (a' := ?_) #[true, true, true, true, true, true, true, true, false, false, false, false, false, false, false, false, false] rfl rfl (by kernel_rfl) (fun _ _ _ h => h) (Or.inl ⟨by rfl, ?_⟩) ?_ ?_
                 rotate_left
                 · intro w'
                   go_simp
                   with_reducible rfl
                 rotate_left
                 · simp only [Act.put, List.setIfInBounds_toArray, List.set_cons_zero, List.set_cons_succ, i64_w, i32_w]
                   rfl
                 refine pure_ (i := 8) (N := some 107) (v := ?_) (a' := ?_) #[true, true, true, true, true, true, true, true, true, false, false, false, false, false, false, false, false] rfl rfl (by kernel_rfl) (fun _ _ _ h => h) (Or.inl ⟨by rfl, ?_⟩) ?_ ?_
                 rotate_left
                 · intro w'
                   go_simp
                   with_reducible rfl
                 rotate_left
                 · simp only [Act.put, List.setIfInBounds_toArray, List.set_cons_zero, List.set_cons_succ, i64_w, i32_w]
                   rfl
                 refine pure_ (i := 9) (N := some 108) (v := ?_) (a' := ?_) #[true, true, true, true, true, true, true, true, true, true, false, false, false, false, false, false, false] rfl rfl (by kernel_rfl) (fun _ _ _ h => h) (Or.inl ⟨by rfl, ?_⟩) ?_ ?_
                 rotate_left
                 · intro w'
                   go_simp
                   with_reducible rfl
                 rotate_left
                 · simp only [Act.put, List.setIfInBounds_toArray, List.set_cons_zero, List.set_cons_succ, i64_w, i32_w]
                   rfl
                 refine pure_ (i := 12) (N := some 111) (v := ?_) (a' := ?_) #[true, true, true, true, true, true, true, true, true, true, false, false, true, false, false, false, false] rfl rfl (by kernel_rfl) (fun _ _ _ h => h) (Or.inl ⟨by rfl, ?_⟩) ?_ ?_
                 rotate_left
                 · intro w'
                   go_simp
                   with_reducible rfl
                 rotate_left
                 · simp only [Act.put, List.setIfInBounds_toArray, List.set_cons_zero, List.set_cons_succ, i64_w, i32_w]
                   rfl
                 refine pure_ (i := 13) (N := some 112) (v := ?_) (a' := ?_) #[true, true, true, true, true, true, true, true, true, true, false, false, true, true, false, false, false] rfl rfl (by kernel_rfl) (fun _ _ _ h => h) (Or.inl ⟨by rfl, ?_⟩) ?_ ?_
                 rotate_left
                 · intro w'
                   go_simp
                   with_reducible rfl
                 rotate_left
                 · simp only [Act.put, List.setIfInBounds_toArray, List.set_cons_zero, List.set_cons_succ, i64_w, i32_w]
                   rfl
                 refine take_ (i := 14) (N := some 113) (v := ?_) (a' := ?_) #[true, true, true, true, true, true, true, true, true, true, false, false, true, true, true, false, false] rfl rfl (by kernel_rfl) (fun _ _ _ h => h) (Or.inl ⟨by rfl, ?_⟩) hHeld ?_ ?_
                 rotate_left
                 · intro w' s0
                   go_simp
                   with_reducible rfl
                 rotate_left
                 · simp only [Act.put, List.setIfInBounds_toArray, List.set_cons_zero, List.set_cons_succ, i64_w, i32_w]
                   rfl
                 refine one_ (i := 10) (N := some 109) #[true, true, true, true, true, true, true, true, true, true, true, false, true, true, true, false, false] rfl rfl (by kernel_rfl) (by decide) (fun K hK => ?_)
                 have hcq := Go.Proofs.YtkflgnhcfhmkdaaDoor.H.ByR.q (c := c5) Tryd.underlying22 Tryd.underlying5 Tryd.underlying9 HC7.out
                 refine value_ (w1 := ?_) (v := ?_) (by rfl) rfl ?_ ?_
                 rotate_left 2
                 · go_simp
                   constructor
                   · rfl
                   · rfl
                 clear hcq
                 refine hK.out _ _ (by have z := HT7.out.set.look s6 HZ.out; rw [HH6.out] at z; exact z) (fun hHeld => ?_)
                 clear hK K
                 refine norm_ (a' := ?_) ?_ ?_
                 rotate_left
                 · show Act.put _ (some 109) _ = _
                   simp only [Act.put, List.setIfInBounds_toArray, List.set_cons_zero, List.set_cons_succ, i64_w, i32_w]
                   rfl
                 refine one_ (i := 11) (N := some 110) #[true, true, true, true, true, true, true, true, true, true, true, true, true, true, true, false, false] rfl rfl (by kernel_rfl) (by decide) (fun K hK => ?_)
                 refine goes_ Tryd.func16 (by kernel_rfl) rfl #[v233, .string (Go.Proofs.YtkflgnhcfhmkdaaDoor.H.qB s6)] (by rfl) rfl rfl (by simp only [List.map_toArray, List.map_cons, List.map_nil]; rfl) ?_
                 with_reducible refine (pragma_Rules_Knows.calls k2 _ t232 (Go.Proofs.YtkflgnhcfhmkdaaDoor.H.qB s6) _ _ ?sideP HKB.out).mono ?_
                 case sideP => exact Kd.P_now (Kd.P_below HP1.out HT7.out.bel)
                 rintro e w9 ⟨rfl, hb⟩
                 have HT9 := Aside0.mk (HT7.out.below hb)
                 clear hb
                 refine ⟨_, rfl, ?_⟩
                 refine hK.out _ _ (by have z := HT9.out.set.look s6 HZ.out; rw [HH6.out] at z; exact z) (fun hHeld => ?_)
                 clear hK K
                 refine norm_ (a' := ?_) ?_ ?_
                 rotate_left
                 · show Act.put _ (some 110) _ = _
                   simp only [Act.put, List.setIfInBounds_toArray, List.set_cons_zero, List.set_cons_succ, i64_w, i32_w]
                   rfl
                 refine pure_ (i := 15) (N := some 114) (v := ?_) (a' := ?_) #[true, true, true, true, true, true, true, true, true, true, true, true, true, true, true, true, false] rfl rfl (by kernel_rfl) (fun _ _ _ h => h) (Or.inl ⟨by rfl, ?_⟩) ?_ ?_
                 rotate_left
                 · intro w'
                   go_simp
                   with_reducible rfl
                 rotate_left
                 · simp only [Act.put, List.setIfInBounds_toArray, List.set_cons_zero, List.set_cons_succ, i64_w, i32_w]
                   rfl
                 refine pure_ (i := 16) (N := some 115) (v := ?_) (a' := ?_) #[true, true, true, true, true, true, true, true, true, true, true, true, true, true, true, true, true] rfl rfl (by kernel_rfl) (fun _ _ _ h => h) (Or.inl ⟨by rfl, ?_⟩) ?_ ?_
                 rotate_left
                 · intro w'
                   go_simp
                   with_reducible rfl
                 rotate_left
                 · simp only [Act.put, List.setIfInBounds_toArray, List.set_cons_zero, List.set_cons_succ, i64_w, i32_w]
                   rfl
                 refine done_ (by kernel_rfl) ?_

                 clear hHeld
                 go_wp2
                 go_roundg k3
                 case measure => omega
                 case rel => exact ⟨i + 1, by rw [hew.out], ⟨by have := HI.out; omega⟩, HW2, HT9⟩
             | succ k3 =>
              have hlt : i < x6_1.length := by have := HI.out; omega
              have hK := HK.out
              rw [show x6_1.drop i = x6_1.getD i ByteArray.empty :: x6_1.drop (i + 1) by rw [List.drop_eq_getElem_cons hlt, List.getD_eq_getElem?_getD, List.getElem?_eq_getElem hlt]; rfl] at hK
              obtain ⟨ad, had, hx⟩ := Go.Proofs.YtkflgnhcfhmkdaaDoor.H.str_at HC1.out i hlt
              cases had
              have hsz : (x6_1.getD i ByteArray.empty).size ≤ maxLen := HSZ.out i
              obtain ⟨s6, hs6⟩ : ∃ s, s = x6_1.getD i ByteArray.empty := ⟨_, rfl⟩
              rw [← hs6] at hx hK hsz
              clear hs6
              replace hx := pw_cell_below HT.out.bel hx
              simp only [redpenlaw17_PragmaWords.ks] at hK
              have d1 := decide_eq_true (show (i : Int) < (x6_1.length : Int) by omega)
              have p1 := eq_true (show (0 : Int) ≤ (i : Int) by omega)
              have q1 := eq_true (show (i : Int) < (x6_1.length : Int) by omega)
              have hew := Aside0.mk (show wrap64 ((i : Int) + 1) = ((i + 1 : Nat) : Int) by have := HWL.out; rw [Go.Proofs.YtkflgnhcfhmkdaaDoor.M.w64 (by omega) (by omega)]; omega)
              by_cases g1 : (i : Int) < x7_1
              ·rw [if_pos g1] at hK
               have g1b := decide_eq_true g1
               obtain ⟨w5, hrun, ht5⟩ := HT.out.put (by have := HA.out; have := HWL.out; omega) s6 hsz
               have hrun2 := (show (Instr.mapUpdate 43 (.map (some wT.heap.size)) (.string s6) (.bool true)).run Tryd.prog _ = .ok () w5 from hrun)
               have HT5 := Aside0.mk ht5
               have HK5 := Aside0.mk hK
               clear hrun ht5 hK hsz g1 HK
               go_wp2
               go_roundg k3
               case measure => omega
               case rel => exact ⟨i + 1, acc ++ [s6], by rw [hew.out], ⟨by have := HI.out; omega⟩, HK5, ⟨by rw [List.length_append]; have := HA.out; simp; omega⟩, HT5⟩
              ·rw [if_neg g1] at hK
               have g1b := decide_eq_false g1
               have HK5 := Aside0.mk hK
               clear hK hsz g1 HK
               go_wp2
               go_roundg k3
               case measure => omega
               case rel => exact ⟨i + 1, acc, by rw [hew.out], ⟨by have := HI.out; omega⟩, HK5, ⟨by have := HA.out; omega⟩, HT⟩
           ·rw [if_neg c18] at H
            exact absurd H (by simp)
          ·rw [if_neg c17] at H
           have c17b0 : decide (12 < x26_1) = false := decide_eq_false c17
           clear c17
           by_cases c26 : x26_1 = (wrap64 (a1))
           ·rw [if_pos c26] at H
            have c26b0 : (x26_1 == (wrap64 (a1))) = true := beq_iff_eq.mpr c26
            have c26b1 : (x26_1 != (wrap64 (a1))) = false := bne_eq_false_iff_eq.mpr c26
            clear c26
            by_cases c27 : x5_1.size + 3 ≤ 9223372036854775807
            ·rw [if_pos c27] at H
             have c27b0 := eq_true c27
             have c27b1 : decide (x5_1.size + 3 ≤ 9223372036854775807) = true := decide_eq_true c27
             try have c27b2 : (9223372036854775807 < x5_1.size + 3) = False := eq_false (Nat.not_lt.2 c27)
             obtain ⟨y236, hy236⟩ : ∃ y_ : List ByteArray, y_ = (([(⟨#[32]⟩ : ByteArray), (⟨#[44]⟩ : ByteArray), (⟨#[44, 32]⟩ : ByteArray), (⟨#[9]⟩ : ByteArray)] : List ByteArray)) := ⟨_, rfl⟩
             replace H : (if 0 ≤ (Int.tmod x26_1 4) then (if (Int.tmod x26_1 4) < (y236.length : Int) then (if (rdOf ByteArray.empty y236 (Int.tmod x26_1 4)).size + x10_2.size ≤ 9223372036854775807 then (if (x5_1 ++ (⟨#[32, 61, 39]⟩ : ByteArray)).size + ((rdOf ByteArray.empty y236 (Int.tmod x26_1 4)) ++ x10_2).size ≤ 9223372036854775807 then (if x6_1.length < 8796093022208 then (redpenlaw17_PragmaWords.l0 k2 a1 ((x5_1 ++ (⟨#[32, 61, 39]⟩ : ByteArray)) ++ ((rdOf ByteArray.empty y236 (Int.tmod x26_1 4)) ++ x10_2)) (x6_1 ++ [x10_2]) x26_1 l0 (l0.length : Int) (wrap64 (x26_1 + 1))) else (none)) else (none)) else (none)) else (none)) else (none)) = some r := by first | (rw [hy236]; with_reducible exact H) | (have H2_ := (Option.bind_some _ _).symm.trans H; rw [hy236]; with_reducible exact H2_) | (have H2_ := (Option.bind_some _ _).symm.trans H; with_reducible exact H2_) | with_reducible exact H | (rw [hy236]; exact H) | exact H
             have Ny236 := Aside0.mk hy236
             clear hy236
             obtain ⟨ji28, hji28⟩ : ∃ j_ : Int, (Int.tmod x26_1 4) = j_ := ⟨_, rfl⟩
             replace H : (if 0 ≤ (ji28) then (if (ji28) < (y236.length : Int) then (if (rdOf ByteArray.empty y236 (ji28)).size + x10_2.size ≤ 9223372036854775807 then (if (x5_1 ++ (⟨#[32, 61, 39]⟩ : ByteArray)).size + ((rdOf ByteArray.empty y236 (ji28)) ++ x10_2).size ≤ 9223372036854775807 then (if x6_1.length < 8796093022208 then (redpenlaw17_PragmaWords.l0 k2 a1 ((x5_1 ++ (⟨#[32, 61, 39]⟩ : ByteArray)) ++ ((rdOf ByteArray.empty y236 (ji28)) ++ x10_2)) (x6_1 ++ [x10_2]) x26_1 l0 (l0.length : Int) (wrap64 (x26_1 + 1))) else (none)) else (none)) else (none)) else (none)) else (none)) = some r := by first | (rw [hji28] at H; exact H) | (simp only [hji28] at H ⊢; exact H)
             by_cases c29 : 0 ≤ (ji28)
             ·rw [if_pos c29] at H
              have c29b0 : decide (0 ≤ (ji28)) = true := decide_eq_true c29
              clear c29
              by_cases c30 : (ji28) < (y236.length : Int)
              ·rw [if_pos c30] at H
               have c30b0 : decide ((ji28) < (y236.length : Int)) = true := decide_eq_true c30
               clear c30
               by_cases c31 : (rdOf ByteArray.empty y236 (ji28)).size + x10_2.size ≤ 9223372036854775807
               ·rw [if_pos c31] at H
                have c31b0 := eq_true c31
                have c31b1 : decide ((rdOf ByteArray.empty y236 (ji28)).size + x10_2.size ≤ 9223372036854775807) = true := decide_eq_true c31
                try have c31b2 : (9223372036854775807 < (rdOf ByteArray.empty y236 (ji28)).size + x10_2.size) = False := eq_false (Nat.not_lt.2 c31)
                by_cases c32 : (x5_1 ++ (⟨#[32, 61, 39]⟩ : ByteArray)).size + ((rdOf ByteArray.empty y236 (ji28)) ++ x10_2).size ≤ 9223372036854775807
                ·rw [if_pos c32] at H
                 have c32b0 := eq_true c32
                 have c32b1 : decide ((x5_1 ++ (⟨#[32, 61, 39]⟩ : ByteArray)).size + ((rdOf ByteArray.empty y236 (ji28)) ++ x10_2).size ≤ 9223372036854775807) = true := decide_eq_true c32
                 try have c32b2 : (9223372036854775807 < (x5_1 ++ (⟨#[32, 61, 39]⟩ : ByteArray)).size + ((rdOf ByteArray.empty y236 (ji28)) ++ x10_2).size) = False := eq_false (Nat.not_lt.2 c32)
                 try (have c32b4 := c32b2; simp only [ByteArray.size_append, show (⟨#[32, 61, 39]⟩ : ByteArray).size = 3 from rfl] at c32b4)
                 by_cases c33 : x6_1.length < 8796093022208
                 ·rw [if_pos c33] at H
                  have LMc33 := Aside0.mk c33
                  clear c33
                  obtain ⟨y240, hy240⟩ : ∃ y_ : List ByteArray, y_ = (x6_1 ++ [x10_2]) := ⟨_, rfl⟩
                  replace H : (redpenlaw17_PragmaWords.l0 k2 a1 ((x5_1 ++ (⟨#[32, 61, 39]⟩ : ByteArray)) ++ ((rdOf ByteArray.empty y236 (ji28)) ++ x10_2)) y240 x26_1 l0 (l0.length : Int) (wrap64 (x26_1 + 1))) = some r := by first | (rw [hy240]; with_reducible exact H) | (have H2_ := (Option.bind_some _ _).symm.trans H; rw [hy240]; with_reducible exact H2_) | (have H2_ := (Option.bind_some _ _).symm.trans H; with_reducible exact H2_) | with_reducible exact H | (rw [hy240]; exact H) | exact H
                  have Ny240 := Aside0.mk hy240
                  clear hy240
                  have H' := Aside0.mk H
                  clear H
                  go_wp2_with (first | ((with_reducible refine gate_dst (N := 58) rfl ?_); refine Kd.R_lit Kd.string _ 9 ?hg (N := 58) ?hd (xs := ([(⟨#[32]⟩ : ByteArray), (⟨#[44]⟩ : ByteArray), (⟨#[44, 32]⟩ : ByteArray), (⟨#[9]⟩ : ByteArray)] : List ByteArray)) (inner := [.string (⟨#[32]⟩ : ByteArray), .string (⟨#[44]⟩ : ByteArray), .string (⟨#[44, 32]⟩ : ByteArray), .string (⟨#[9]⟩ : ByteArray)]) (ok := fun _ => True) (okp := fun _ => True) ?hr ?hp (fun _ hk => hk) trivial (Below.refl _ _) (Nat.le_refl _) (by simp) ?_; (case hd => rfl); (case hg => rfl); (case hr => first | (go_simp; done) | (go_simp; rfl)); (case hp => exact (Reps.one (show Kd.M Kd.string _ _ _ (⟨#[32]⟩ : ByteArray) [.string (⟨#[32]⟩ : ByteArray)] from rfl) (Reps.one (show Kd.M Kd.string _ _ _ (⟨#[44]⟩ : ByteArray) [.string (⟨#[44]⟩ : ByteArray)] from rfl) (Reps.one (show Kd.M Kd.string _ _ _ (⟨#[44, 32]⟩ : ByteArray) [.string (⟨#[44, 32]⟩ : ByteArray)] from rfl) (Reps.one (show Kd.M Kd.string _ _ _ (⟨#[9]⟩ : ByteArray) [.string (⟨#[9]⟩ : ByteArray)] from rfl) (Reps.none _ _)))))); intro v237 w34 ho35 hb hg_ hnew_; clear hg_ hnew_; (first | rw [← Ny236.out] at ho35 | (simp only [Int.reduceToNat] at ho35; rw [← Ny236.out] at ho35)); have n0_ := Aside0.mk (Kd.R_elder' (by (with_reducible repeat (first | apply Kd.R_alloc | apply Kd.R_drewN | apply Kd.R_drew)); exact HO_6.out) (Kd.R_base ho35) hb); have n1_ := Aside0.mk (Kd.R_lower (Kd.R_new' ho35 (Kd.R_lt (by (with_reducible repeat (first | apply Kd.R_alloc | apply Kd.R_drewN | apply Kd.R_drew)); exact HO_6.out))) (below_size (by repeat (first | (with_reducible first | exact HB.out | apply below_alloc | apply pw_below_drewN | apply below_drew1) | exact HB.out)))); have n2_ := Aside0.mk (below_step (by repeat (first | (with_reducible first | exact HB.out | apply below_alloc | apply pw_below_drewN | apply below_drew1) | exact HB.out)) hb); clear HO_6; clear HB; have HO_6 := n0_; have HO238 := n1_; have HB := n2_; clear n0_ n1_ n2_; clear hb ho35; obtain ⟨Ao36, co36, eo36⟩ := Kd.R_slice HO238.out; subst eo36; have p239 : 0 ≤ ((ji28) : Int) := of_decide_eq_true (by first | (with_reducible assumption) | assumption); have q239 : (ji28) < (y236.length : Int) := of_decide_eq_true (by first | (with_reducible assumption) | assumption); obtain ⟨ad239, e239, hx239_0⟩ := Kd.at_string (Kd.R_reads' HO238.out).2.2 (ji28) p239 q239; cases e239; replace p239 := eq_true p239; replace q239 := eq_true q239) | ((with_reducible refine gate_builtin (b := .append) (xs := #[.tmp 66, .tmp 68]) rfl ?_); at_builtin; refine Kd.R_append Kd.string (w0 := w) w.heap.size rfl (.tmp 66) (.tmp 68) 33 9 (.string ⟨#[]⟩) 16 rfl Tryd.underlying33 info9 rfl (by decide) (by omega) u6 x6_1 x10_2 [.string x10_2] (fun k_ => some k_ ≠ (.slice (some ad239) y236.length co36 : Value).ownBlock) (fun _ => False) rfl rfl ?aP (fun _ hk => hk.elim) ?aF ?aO ?aB ?aS ?aL ?_; (case aP => exact rfl); (case aB => exact (by repeat (first | (with_reducible first | exact HB.out | apply below_alloc | apply pw_below_drewN | apply below_drew1) | exact HB.out))); (case aF => exact (fun k_ hk => Kd.fresh' (Kd.R_lt (by (with_reducible repeat (first | apply Kd.R_alloc | apply Kd.R_drewN | apply Kd.R_drew)); exact HO238.out)) k_ hk)); (case aO => exact (by (with_reducible repeat (first | apply Kd.R_alloc | apply Kd.R_drewN | apply Kd.R_drew)); exact Kd.R_mono HO_6.out (fun _ hk => hk.2))); (case aS => exact (below_size (by repeat (first | (with_reducible first | exact HB.out | apply below_alloc | apply pw_below_drewN | apply below_drew1) | exact HB.out)))); (case aL => have := LMc33.out; omega); intro v241 w37 ho hb hg hat; rw [← Ny240.out] at ho; have n0_ := Aside0.mk (Kd.R_after (ok := (fun _ => True)) (by (with_reducible repeat (first | apply Kd.R_alloc | apply Kd.R_drewN | apply Kd.R_drew)); exact HO238.out) hg hat); have n1_ := Aside0.mk (hb); have n2_ := Aside0.mk (ho); clear HO238; clear HB; clear HO_6; have HO238 := n0_; have HB := n1_; have HO242 := n2_; clear n0_ n1_ n2_; clear ho hb hg hat))
                  go_roundg k2
                  case measure => have := HK1.out; have := HK2.out; omega
                  case rel => exact ⟨((x5_1 ++ (⟨#[32, 61, 39]⟩ : ByteArray)) ++ ((rdOf ByteArray.empty y236 (ji28)) ++ x10_2)), (y240), (x26_1), (wrap64 (x26_1 + 1)), (by first | rfl | (simp; done) | (simp only [← hji28] <;> (first | rfl | simp)) | (simp [*]; done)), (by first | rfl | (simp; done) | (simp [*]; done) | (simp [wrap64, wrap32]; done)), (by first | rfl | (simp; done) | (simp [*]; done) | (simp [wrap64, wrap32]; done)), (by first | exact H' | (rw [hji28]; exact H') | (simp only [hji28]; exact H')), ⟨by have := HK1.out; have := HK2.out; omega⟩, ⟨by (with_reducible repeat (first | apply Kd.R_alloc | apply Kd.R_drewN | apply Kd.R_drew)); exact Kd.R_mono HO242.out (fun _ hk => trivial)⟩, ⟨by repeat (first | (with_reducible first | exact HB.out | apply below_alloc | apply pw_below_drewN | apply below_drew1) | exact HB.out)⟩⟩
                 ·rw [if_neg c33] at H
                  exact absurd H (by simp)
                ·rw [if_neg c32] at H
                 exact absurd H (by simp)
               ·rw [if_neg c31] at H
                exact absurd H (by simp)
              ·rw [if_neg c30] at H
               exact absurd H (by simp)
             ·rw [if_neg c29] at H
              exact absurd H (by simp)
            ·rw [if_neg c27] at H
             exact absurd H (by simp)
           ·rw [if_neg c26] at H
            have c26b0 : (x26_1 == (wrap64 (a1))) = false := beq_eq_false_iff_ne.mpr c26
            have c26b1 : (x26_1 != (wrap64 (a1))) = true := bne_iff_ne.mpr c26
            obtain ⟨y243, hy243⟩ : ∃ y_ : List ByteArray, y_ = (([(⟨#[32]⟩ : ByteArray), (⟨#[44]⟩ : ByteArray), (⟨#[44, 32]⟩ : ByteArray), (⟨#[9]⟩ : ByteArray)] : List ByteArray)) := ⟨_, rfl⟩
            replace H : (if 0 ≤ (Int.tmod x26_1 4) then (if (Int.tmod x26_1 4) < (y243.length : Int) then (if (rdOf ByteArray.empty y243 (Int.tmod x26_1 4)).size + x10_2.size ≤ 9223372036854775807 then (if x5_1.size + ((rdOf ByteArray.empty y243 (Int.tmod x26_1 4)) ++ x10_2).size ≤ 9223372036854775807 then (if x6_1.length < 8796093022208 then (redpenlaw17_PragmaWords.l0 k2 a1 (x5_1 ++ ((rdOf ByteArray.empty y243 (Int.tmod x26_1 4)) ++ x10_2)) (x6_1 ++ [x10_2]) x7_1 l0 (l0.length : Int) (wrap64 (x26_1 + 1))) else (none)) else (none)) else (none)) else (none)) else (none)) = some r := by first | (rw [hy243]; with_reducible exact H) | (have H2_ := (Option.bind_some _ _).symm.trans H; rw [hy243]; with_reducible exact H2_) | (have H2_ := (Option.bind_some _ _).symm.trans H; with_reducible exact H2_) | with_reducible exact H | (rw [hy243]; exact H) | exact H
            have Ny243 := Aside0.mk hy243
            clear hy243
            obtain ⟨ji38, hji38⟩ : ∃ j_ : Int, (Int.tmod x26_1 4) = j_ := ⟨_, rfl⟩
            replace H : (if 0 ≤ (ji38) then (if (ji38) < (y243.length : Int) then (if (rdOf ByteArray.empty y243 (ji38)).size + x10_2.size ≤ 9223372036854775807 then (if x5_1.size + ((rdOf ByteArray.empty y243 (ji38)) ++ x10_2).size ≤ 9223372036854775807 then (if x6_1.length < 8796093022208 then (redpenlaw17_PragmaWords.l0 k2 a1 (x5_1 ++ ((rdOf ByteArray.empty y243 (ji38)) ++ x10_2)) (x6_1 ++ [x10_2]) x7_1 l0 (l0.length : Int) (wrap64 (x26_1 + 1))) else (none)) else (none)) else (none)) else (none)) else (none)) = some r := by first | (rw [hji38] at H; exact H) | (simp only [hji38] at H ⊢; exact H)
            by_cases c39 : 0 ≤ (ji38)
            ·rw [if_pos c39] at H
             have c39b0 : decide (0 ≤ (ji38)) = true := decide_eq_true c39
             clear c39
             by_cases c40 : (ji38) < (y243.length : Int)
             ·rw [if_pos c40] at H
              have c40b0 : decide ((ji38) < (y243.length : Int)) = true := decide_eq_true c40
              clear c40
              by_cases c41 : (rdOf ByteArray.empty y243 (ji38)).size + x10_2.size ≤ 9223372036854775807
              ·rw [if_pos c41] at H
               have c41b0 := eq_true c41
               have c41b1 : decide ((rdOf ByteArray.empty y243 (ji38)).size + x10_2.size ≤ 9223372036854775807) = true := decide_eq_true c41
               try have c41b2 : (9223372036854775807 < (rdOf ByteArray.empty y243 (ji38)).size + x10_2.size) = False := eq_false (Nat.not_lt.2 c41)
               by_cases c42 : x5_1.size + ((rdOf ByteArray.empty y243 (ji38)) ++ x10_2).size ≤ 9223372036854775807
               ·rw [if_pos c42] at H
                have c42b0 := eq_true c42
                have c42b1 : decide (x5_1.size + ((rdOf ByteArray.empty y243 (ji38)) ++ x10_2).size ≤ 9223372036854775807) = true := decide_eq_true c42
                try have c42b2 : (9223372036854775807 < x5_1.size + ((rdOf ByteArray.empty y243 (ji38)) ++ x10_2).size) = False := eq_false (Nat.not_lt.2 c42)
                try (have c42b4 := c42b2; simp only [ByteArray.size_append] at c42b4)
                by_cases c43 : x6_1.length < 8796093022208
                ·rw [if_pos c43] at H
                 have LMc43 := Aside0.mk c43
                 clear c43
                 obtain ⟨y247, hy247⟩ : ∃ y_ : List ByteArray, y_ = (x6_1 ++ [x10_2]) := ⟨_, rfl⟩
                 replace H : (redpenlaw17_PragmaWords.l0 k2 a1 (x5_1 ++ ((rdOf ByteArray.empty y243 (ji38)) ++ x10_2)) y247 x7_1 l0 (l0.length : Int) (wrap64 (x26_1 + 1))) = some r := by first | (rw [hy247]; with_reducible exact H) | (have H2_ := (Option.bind_some _ _).symm.trans H; rw [hy247]; with_reducible exact H2_) | (have H2_ := (Option.bind_some _ _).symm.trans H; with_reducible exact H2_) | with_reducible exact H | (rw [hy247]; exact H) | exact H
                 have Ny247 := Aside0.mk hy247
                 clear hy247
                 have H' := Aside0.mk H
                 clear H
                 go_wp2_with (first | ((with_reducible refine gate_dst (N := 58) rfl ?_); refine Kd.R_lit Kd.string _ 9 ?hg (N := 58) ?hd (xs := ([(⟨#[32]⟩ : ByteArray), (⟨#[44]⟩ : ByteArray), (⟨#[44, 32]⟩ : ByteArray), (⟨#[9]⟩ : ByteArray)] : List ByteArray)) (inner := [.string (⟨#[32]⟩ : ByteArray), .string (⟨#[44]⟩ : ByteArray), .string (⟨#[44, 32]⟩ : ByteArray), .string (⟨#[9]⟩ : ByteArray)]) (ok := fun _ => True) (okp := fun _ => True) ?hr ?hp (fun _ hk => hk) trivial (Below.refl _ _) (Nat.le_refl _) (by simp) ?_; (case hd => rfl); (case hg => rfl); (case hr => first | (go_simp; done) | (go_simp; rfl)); (case hp => exact (Reps.one (show Kd.M Kd.string _ _ _ (⟨#[32]⟩ : ByteArray) [.string (⟨#[32]⟩ : ByteArray)] from rfl) (Reps.one (show Kd.M Kd.string _ _ _ (⟨#[44]⟩ : ByteArray) [.string (⟨#[44]⟩ : ByteArray)] from rfl) (Reps.one (show Kd.M Kd.string _ _ _ (⟨#[44, 32]⟩ : ByteArray) [.string (⟨#[44, 32]⟩ : ByteArray)] from rfl) (Reps.one (show Kd.M Kd.string _ _ _ (⟨#[9]⟩ : ByteArray) [.string (⟨#[9]⟩ : ByteArray)] from rfl) (Reps.none _ _)))))); intro v244 w44 ho45 hb hg_ hnew_; clear hg_ hnew_; (first | rw [← Ny243.out] at ho45 | (simp only [Int.reduceToNat] at ho45; rw [← Ny243.out] at ho45)); have n0_ := Aside0.mk (Kd.R_elder' (by (with_reducible repeat (first | apply Kd.R_alloc | apply Kd.R_drewN | apply Kd.R_drew)); exact HO_6.out) (Kd.R_base ho45) hb); have n1_ := Aside0.mk (Kd.R_lower (Kd.R_new' ho45 (Kd.R_lt (by (with_reducible repeat (first | apply Kd.R_alloc | apply Kd.R_drewN | apply Kd.R_drew)); exact HO_6.out))) (below_size (by repeat (first | (with_reducible first | exact HB.out | apply below_alloc | apply pw_below_drewN | apply below_drew1) | exact HB.out)))); have n2_ := Aside0.mk (below_step (by repeat (first | (with_reducible first | exact HB.out | apply below_alloc | apply pw_below_drewN | apply below_drew1) | exact HB.out)) hb); clear HO_6; clear HB; have HO_6 := n0_; have HO245 := n1_; have HB := n2_; clear n0_ n1_ n2_; clear hb ho45; obtain ⟨Ao46, co46, eo46⟩ := Kd.R_slice HO245.out; subst eo46; have p246 : 0 ≤ ((ji38) : Int) := of_decide_eq_true (by first | (with_reducible assumption) | assumption); have q246 : (ji38) < (y243.length : Int) := of_decide_eq_true (by first | (with_reducible assumption) | assumption); obtain ⟨ad246, e246, hx246_0⟩ := Kd.at_string (Kd.R_reads' HO245.out).2.2 (ji38) p246 q246; cases e246; replace p246 := eq_true p246; replace q246 := eq_true q246) | ((with_reducible refine gate_builtin (b := .append) (xs := #[.tmp 66, .tmp 68]) rfl ?_); at_builtin; refine Kd.R_append Kd.string (w0 := w) w.heap.size rfl (.tmp 66) (.tmp 68) 33 9 (.string ⟨#[]⟩) 16 rfl Tryd.underlying33 info9 rfl (by decide) (by omega) u6 x6_1 x10_2 [.string x10_2] (fun k_ => some k_ ≠ (.slice (some ad246) y243.length co46 : Value).ownBlock) (fun _ => False) rfl rfl ?aP (fun _ hk => hk.elim) ?aF ?aO ?aB ?aS ?aL ?_; (case aP => exact rfl); (case aB => exact (by repeat (first | (with_reducible first | exact HB.out | apply below_alloc | apply pw_below_drewN | apply below_drew1) | exact HB.out))); (case aF => exact (fun k_ hk => Kd.fresh' (Kd.R_lt (by (with_reducible repeat (first | apply Kd.R_alloc | apply Kd.R_drewN | apply Kd.R_drew)); exact HO245.out)) k_ hk)); (case aO => exact (by (with_reducible repeat (first | apply Kd.R_alloc | apply Kd.R_drewN | apply Kd.R_drew)); exact Kd.R_mono HO_6.out (fun _ hk => hk.2))); (case aS => exact (below_size (by repeat (first | (with_reducible first | exact HB.out | apply below_alloc | apply pw_below_drewN | apply below_drew1) | exact HB.out)))); (case aL => have := LMc43.out; omega); intro v248 w47 ho hb hg hat; rw [← Ny247.out] at ho; have n0_ := Aside0.mk (Kd.R_after (ok := (fun _ => True)) (by (with_reducible repeat (first | apply Kd.R_alloc | apply Kd.R_drewN | apply Kd.R_drew)); exact HO245.out) hg hat); have n1_ := Aside0.mk (hb); have n2_ := Aside0.mk (ho); clear HO245; clear HB; clear HO_6; have HO245 := n0_; have HB := n1_; have HO249 := n2_; clear n0_ n1_ n2_; clear ho hb hg hat))
                 go_roundg k2
                 case measure => have := HK1.out; have := HK2.out; omega
                 case rel => exact ⟨(x5_1 ++ ((rdOf ByteArray.empty y243 (ji38)) ++ x10_2)), (y247), (x7_1), (wrap64 (x26_1 + 1)), (by first | rfl | (simp; done) | (simp only [← hji38] <;> (first | rfl | simp)) | (simp [*]; done)), (by first | rfl | (simp; done) | (simp [*]; done) | (simp [wrap64, wrap32]; done)), (by first | rfl | (simp; done) | (simp [*]; done) | (simp [wrap64, wrap32]; done)), (by first | exact H' | (rw [hji38]; exact H') | (simp only [hji38]; exact H')), ⟨by have := HK1.out; have := HK2.out; omega⟩, ⟨by (with_reducible repeat (first | apply Kd.R_alloc | apply Kd.R_drewN | apply Kd.R_drew)); exact Kd.R_mono HO249.out (fun _ hk => trivial)⟩, ⟨by repeat (first | (with_reducible first | exact HB.out | apply below_alloc | apply pw_below_drewN | apply below_drew1) | exact HB.out)⟩⟩
                ·rw [if_neg c43] at H
                 exact absurd H (by simp)
               ·rw [if_neg c42] at H
                exact absurd H (by simp)
              ·rw [if_neg c41] at H
               exact absurd H (by simp)
             ·rw [if_neg c40] at H
              exact absurd H (by simp)
            ·rw [if_neg c39] at H
             exact absurd H (by simp)
      ·rw [if_neg c8] at H
       exact absurd H (by simp)
     ·rw [if_neg c7] at H
      exact absurd H (by simp)
    ·rw [if_neg c6] at H
     have c6b0 : decide (x26_1 < (l0.length : Int)) = false := decide_eq_false c6
     clear c6
     by_cases c48 : x5_1.size + 11 ≤ 9223372036854775807
     ·rw [if_pos c48] at H
      have c48b0 := eq_true c48
      have c48b1 : decide (x5_1.size + 11 ≤ 9223372036854775807) = true := decide_eq_true c48
      try have c48b2 : (9223372036854775807 < x5_1.size + 11) = False := eq_false (Nat.not_lt.2 c48)
      replace H := Option.bind_eq_some_iff.mp H
      obtain ⟨t217, A490, H⟩ := H
      replace H : ((pragma_Read.f k1 t217).bind fun t220 => ((redpenlaw17_PragmaWords_tail.f k1 x6_1 x7_1 t220 x5_1).bind fun t223 => (some t223))) = some r := H
      have A49 := Aside0.mk A490
      clear A490
      replace H := Option.bind_eq_some_iff.mp H
      obtain ⟨t220, A500, H⟩ := H
      replace H : ((redpenlaw17_PragmaWords_tail.f k1 x6_1 x7_1 t220 x5_1).bind fun t223 => (some t223)) = some r := H
      have A50 := Aside0.mk A500
      clear A500
      replace H := Option.bind_eq_some_iff.mp H
      obtain ⟨t223, A510, H⟩ := H
      replace H : (some t223) = some r := H
      have A51 := Aside0.mk A510
      clear A510
      obtain rfl := Option.some.inj H
      have H := A51.out
      clear A51
      unfold redpenlaw17_PragmaWords_tail.f at H
      split at H
      case isFalse => cases H
      case isTrue hwl =>
      obtain ⟨b1, htw, H⟩ := Option.bind_eq_some_iff.mp H
      unfold redpenlaw17_PragmaWords.te at H
      obtain ⟨a0_, hko, H⟩ := Option.bind_eq_some_iff.mp H
      split at H
      case isFalse => cases H
      case isTrue ha0 =>
      subst ha0
      obtain ⟨a1_, hof, H⟩ := Option.bind_eq_some_iff.mp H
      split at H
      case isFalse => cases H
      case isTrue ha1 =>
      subst ha1
      have HWL := Aside0.mk hwl
      have HSZ := Aside0.mk (redpenlaw17_PragmaWords.tw_sz _ _ _ _ _ htw)
      have HTW := Aside0.mk htw
      have HKO := Aside0.mk hko
      have HOF := Aside0.mk hof
      have HOE := Aside0.mk H
      clear H htw hko hof hwl
      go_wp2_with (first | ((with_reducible refine gate_dst (N := 73) rfl ?_); refine cv_goes (N := some 73) rfl rfl (s := (x5_1 ++ (⟨#[10, 115, 112, 101, 108, 108, 58, 108, 105, 110, 101]⟩ : ByteArray))) rfl (by first | rfl | (simp; done)) Tryd.underlying9 Tryd.underlying22 Tryd.underlying5 ?_; (with_reducible refine (conv_bytes.calls (x5_1 ++ (⟨#[10, 115, 112, 101, 108, 108, 58, 108, 105, 110, 101]⟩ : ByteArray)) t217 _ A49.out).mono ?_); rintro e w52 ⟨v218, rfl, ho0, hb⟩; refine ⟨_, rfl, ?_⟩; have n0_ := Aside0.mk (Kd.R_below (by (with_reducible repeat (first | apply Kd.R_alloc | apply Kd.R_drewN | apply Kd.R_drew)); exact HO_6.out) hb); have n1_ := Aside0.mk (Kd.V_lower (Kd.V_mono (ok' := fun k_ => some k_ ≠ (u6 : Value).ownBlock) ho0 (fun k_ hk_ => (Kd.fresh' (Kd.R_lt (by (with_reducible repeat (first | apply Kd.R_alloc | apply Kd.R_drewN | apply Kd.R_drew)); exact HO_6.out)) k_ hk_))) (below_size (by repeat (first | (with_reducible first | exact HB.out | apply below_alloc | apply pw_below_drewN | apply below_drew1) | exact HB.out)))); have n2_ := Aside0.mk (below_step (by repeat (first | (with_reducible first | exact HB.out | apply below_alloc | apply pw_below_drewN | apply below_drew1) | exact HB.out)) hb); clear HO_6; clear HB; have HO_6 := n0_; have HO219 := n1_; have HB := n2_; clear n0_ n1_ n2_; (try clear hb); (try clear hb2); (try clear hk); (try clear hi); (try clear ho0); obtain ⟨Ao53, co53, eo53⟩ := Kd.V_slice HO219.out; subst eo53) | ((with_reducible refine gate_callee (f := 9) rfl ?_); refine goesL_ (some 74) rfl rfl Tryd.func9 (by kernel_rfl) rfl #[.slice Ao53 t217.length co53] rfl (by (try simp only [List.map_toArray, List.map_cons, List.map_nil]); first | done | rfl | (simp only [List.length_drop, List.length_take]; rfl)) ?_; (with_reducible refine (pragma_Read.calls k1 _ _ t217 t220 _ ?side1 ?side2 A50.out ?sideL).mono ?_); (case sideL => first | exact HL.out | exact HL.out.below HB.out | exact HL.out.below (by repeat (first | (with_reducible first | exact HB.out | apply below_alloc | apply pw_below_drewN | apply below_drew1 | refine below_set ?_ (Aside0.out (by assumption))) | exact HB.out))); (case side1 => repeat (first | exact (Kd.V_reads' HO219.out).2.2 | (with_reducible refine Kd.C_alloc ?_ _) | (with_reducible refine Kd.C_drewN ?_ _) | (with_reducible refine Kd.C_drew ?_))); (case side2 => exact (Kd.V_reads' HO219.out).2.1); rintro e w54 ⟨v221, rfl, ho0, hb⟩; refine ⟨_, rfl, ?_⟩; have n0_ := Aside0.mk (Kd.R_below (by (with_reducible repeat (first | apply Kd.R_alloc | apply Kd.R_drewN | apply Kd.R_drew)); exact HO_6.out) hb); have n1_ := Aside0.mk (Kd.V_below (by (with_reducible repeat (first | apply Kd.V_alloc | apply Kd.V_drewN | apply Kd.V_drew)); exact HO219.out) hb); have n2_ := Aside0.mk (Kd.P_lower (Kd.P_mono (ok' := fun k_ => some k_ ≠ (u6 : Value).ownBlock) ho0 (fun k_ hk_ => (Kd.fresh' (Kd.R_lt (by (with_reducible repeat (first | apply Kd.R_alloc | apply Kd.R_drewN | apply Kd.R_drew)); exact HO_6.out)) k_ hk_))) (below_size (by repeat (first | (with_reducible first | exact HB.out | apply below_alloc | apply pw_below_drewN | apply below_drew1) | exact HB.out)))); have n3_ := Aside0.mk (below_step (by repeat (first | (with_reducible first | exact HB.out | apply below_alloc | apply pw_below_drewN | apply below_drew1) | exact HB.out)) hb); clear HO_6; clear HO219; clear HB; have HO_6 := n0_; have HO219 := n1_; have HO222 := n2_; have HB := n3_; clear n0_ n1_ n2_ n3_; (try clear hb); (try clear hb2); (try clear hk); (try clear hi); (try clear ho0); obtain ⟨Ao55, co55, eo55⟩ := Kd.R_slice HO_6.out; subst eo55))
      have HC1 := Aside0.mk (Kd.R_reads' HO_6.out).2.2
      have HP1 := HO222
      have HB1 := HB
      have HTL := Aside0.mk (Go.Proofs.YtkflgnhcfhmkdaaDoor.H.TlS.made w54)
      obtain ⟨wT, hwT⟩ : ∃ W, W = w54 := ⟨_, rfl⟩
      rw [← hwT] at HTL HC1 HP1 HB1 ⊢
      obtain ⟨KS, hKS⟩ : ∃ K, K = redpenlaw17_PragmaWords.ks x7_1 0 x6_1 [] := ⟨_, rfl⟩
      rw [← hKS] at HTW
      have HKS := Aside0.mk hKS
      clear hKS hwT HO_6 HB
      go_loopg [78] x6_1.length (fun kq v78 w' => ∃ (i : Nat) (acc : List ByteArray), v78 = .int .i64 (i : Int) ∧ Aside0 (i + kq = x6_1.length) ∧ Aside0 (redpenlaw17_PragmaWords.ks x7_1 i (x6_1.drop i) acc = KS) ∧ Aside0 (acc.length ≤ i) ∧ Aside0 (Go.Proofs.YtkflgnhcfhmkdaaDoor.H.TlS wT wT.heap.size acc w'))
      case atStart => exact ⟨0, [], rfl, ⟨by omega⟩, ⟨HKS.out.symm⟩, ⟨Nat.le_refl _⟩, HTL⟩
      case round =>
       clear HTL HKS
       obtain ⟨i, acc, rfl, HI, HK, HA, HT⟩ := hrel
       cases gk with
       | zero =>
         have d1 := decide_eq_false (show ¬ (i : Int) < (x6_1.length : Int) by have := HI.out; omega)
         have d2 := decide_eq_false (show ¬ i < x6_1.length by have := HI.out; omega)
         have hk := HK.out
         rw [List.drop_of_length_le (by have := HI.out; omega)] at hk
         obtain rfl : acc = KS := hk
         clear HI HK HA
         go_wp2
         go_loopg [91] x6_1.length (fun kq v91 w' => ∃ (i : Nat), v91 = .int .i64 (i : Int) ∧ Aside0 (i + kq = x6_1.length) ∧ Aside0 (redpenlaw17_PragmaWords.tw k1 t220 acc (x6_1.drop i) = some b1) ∧ Aside0 (Go.Proofs.YtkflgnhcfhmkdaaDoor.H.TlS wT wT.heap.size acc w'))
         case atStart => exact ⟨0, rfl, ⟨by omega⟩, HTW, HT⟩
         case round =>
          clear HTW HT d1 d2
          obtain ⟨i, rfl, HI, HW, HT⟩ := hrel
          cases gk with
          | zero =>
            have d1 := decide_eq_false (show ¬ (i : Int) < (x6_1.length : Int) by have := HI.out; omega)
            have d2 := decide_eq_false (show ¬ i < x6_1.length by have := HI.out; omega)
            go_wp2_with (first | (go_at_call 16; (with_reducible refine (pragma_Rules_Knows.calls k1 _ t220 _ _ _ ?sideP HKO.out).mono ?_); (case sideP => exact Kd.P_now (Kd.P_below HP1.out HT.out.bel)); rintro e w3 ⟨rfl, hb⟩; have HT3 := Aside0.mk (HT.out.below hb); clear hb) | (go_at_call 10; (with_reducible refine (pragma_Rules_Off.calls _ t220 0 _ _ ?sideP HOF.out).mono ?_); (case sideP => exact Kd.P_now (Kd.P_below HP1.out HT3.out.bel)); rintro e w4 ⟨rfl, hb⟩; have HT4 := Aside0.mk (HT3.out.below hb); clear hb) | (go_at_call 10; (with_reducible refine (pragma_Rules_Off.calls _ t220 _ _ _ ?sideP HOE.out).mono ?_); (case sideP => exact Kd.P_now (Kd.P_below HP1.out HT4.out.bel)); rintro e w5 ⟨rfl, hb⟩; have HT5 := Aside0.mk (HT4.out.below hb); clear hb))
            go_ret
            exact ⟨by rw [hr_]; rfl, below_step HB1.out HT5.out.bel⟩
          | succ k3 =>
           have hlt : i < x6_1.length := by have := HI.out; omega
           have hW := HW.out
           rw [show x6_1.drop i = x6_1.getD i ByteArray.empty :: x6_1.drop (i + 1) by rw [List.drop_eq_getElem_cons hlt, List.getD_eq_getElem?_getD, List.getElem?_eq_getElem hlt]; rfl] at hW
           obtain ⟨ad, had, hx⟩ := Go.Proofs.YtkflgnhcfhmkdaaDoor.H.str_at HC1.out i hlt
           cases had
           obtain ⟨s6, hs6⟩ : ∃ s, s = x6_1.getD i ByteArray.empty := ⟨_, rfl⟩
           rw [← hs6] at hx hW
           clear hs6
           have HX := Aside0.mk hx
           replace hx := pw_cell_below HT.out.bel hx
           simp only [redpenlaw17_PragmaWords.tw] at hW
           split at hW
           case isFalse => cases hW
           case isTrue hz0 =>
           split at hW
           case isFalse => cases hW
           case isTrue hz1 =>
           obtain ⟨q1, hka, hW⟩ := Option.bind_eq_some_iff.mp hW
           split at hW
           case isFalse => cases hW
           case isTrue hq1 =>
           subst hq1
           obtain ⟨q2, hkb, hW⟩ := Option.bind_eq_some_iff.mp hW
           split at hW
           case isFalse => cases hW
           case isTrue hq2 =>
           subst hq2
           have HW2 := Aside0.mk hW
           obtain ⟨hh, hhh⟩ : ∃ h, h = Go.Proofs.YtkflgnhcfhmkdaaDoor.H.hasW acc s6 := ⟨_, rfl⟩
           rw [← hhh] at hka hkb
           have HH6 := Aside0.mk hhh.symm
           have HKA := Aside0.mk hka
           have HKB := Aside0.mk hkb
           have HZ0 := Aside0.mk hz0
           have HZ1 := Aside0.mk hz1
           have HZ := Aside0.mk (show s6.size ≤ maxLen by unfold maxLen; omega)
           have hew := Aside0.mk (show wrap64 ((i : Int) + 1) = ((i + 1 : Nat) : Int) by have := HWL.out; rw [Go.Proofs.YtkflgnhcfhmkdaaDoor.M.w64 (by omega) (by omega)]; omega)
           have hne : (hh != hh) = false := by simp
           have d1 := decide_eq_true (show (i : Int) < (x6_1.length : Int) by omega)
           have p1 := eq_true (show (0 : Int) ≤ (i : Int) by omega)
           have q1 := eq_true (show (i : Int) < (x6_1.length : Int) by omega)
           have z0 := eq_true (show (0 : Int) < (s6.size : Int) by omega)
           have z1 := eq_true HZ0.out
           clear hW hka hkb hhh hz0 hz1 HW
           go_upto_region 36 with ((with_reducible refine gate_dst (N := 96) rfl ?_); refine Go.Proofs.YtkflgnhcfhmkdaaDoor.H.cv_made (N := some 96) rfl rfl (s := s6) rfl (by first | rfl | (simp; done)) Tryd.underlying9 Tryd.underlying22 Tryd.underlying5 ?_; intro g5 c5 w5 hg5 hc5 hby hb5; have HG5 := Aside0.mk (show wT.heap.size < g5 by rw [hg5]; exact HT.out.set.lt); have HT5 := Aside0.mk (HT.out.below hb5); have HC6 := Aside0.mk (hby.stored HZ0.out HZ1.out); have hq0 := hby.cell HZ0.out; have hf0 := hby.frozen HZ0.out; clear hby hb5 hg5 hc5)
           have HT6 := Aside0.mk ((HT5.out.setNew (j := 0) HG5.out (.int .u8 81)).drew1)
           replace HC6 := Aside0.mk (Kd.C_drew HC6.out)
           refine start_ (n := 17) (S := fun w' => (Instr.lookup 43 (.map (some wT.heap.size)) (.string s6) false).run Tryd.prog w' = .ok (.bool hh) w') (ds := []) #[false, false, false, false, false, false, false, false, false, false, false, false, false, false, false, false, false] (by kernel_rfl) rfl rfl (by have z := HT6.out.set.look s6 HZ.out; rw [HH6.out] at z; exact z) (fun hHeld => ?_)
           refine pure_ (i := 0) (N := some 99) (v := ?_) (a' := ?_) #[true, false, false, false, false, false, false, false, false, false, false, false, false, false, false, false, false] rfl rfl (by kernel_rfl) (fun _ _ _ h => h) (Or.inl ⟨by rfl, ?_⟩) ?_ ?_
           rotate_left
           · intro w'
             go_simp
             with_reducible rfl
           rotate_left
           · simp only [Act.put, List.setIfInBounds_toArray, List.set_cons_zero, List.set_cons_succ, i64_w, i32_w]
             rfl
           refine pure_ (i := 1) (N := some 100) (v := ?_) (a' := ?_) #[true, true, false, false, false, false, false, false, false, false, false, false, false, false, false, false, false] rfl rfl (by kernel_rfl) (fun _ _ _ h => h) (Or.inl ⟨by rfl, ?_⟩) ?_ ?_
           rotate_left
           · intro w'
             go_simp
             with_reducible rfl
           rotate_left
           · simp only [Act.put, List.setIfInBounds_toArray, List.set_cons_zero, List.set_cons_succ, i64_w, i32_w]
             rfl
           refine pure_ (i := 3) (N := some 102) (v := ?_) (a' := ?_) #[true, true, false, true, false, false, false, false, false, false, false, false, false, false, false, false, false] rfl rfl (by kernel_rfl) (fun _ _ _ h => h) (Or.inl ⟨by rfl, ?_⟩) ?_ ?_
           rotate_left
           · intro w'
             go_simp
             with_reducible rfl
           rotate_left
           · simp only [Act.put, List.setIfInBounds_toArray, List.set_cons_zero, List.set_cons_succ, i64_w, i32_w]
             rfl
           refine pure_ (i := 4) (N := some 103) (v := ?_) (a' := ?_) #[true, true, false, true, true, false, false, false, false, false, false, false, false, false, false, false, false] rfl rfl (by kernel_rfl) (fun _ _ _ h => h) (Or.inl ⟨by rfl, ?_⟩) ?_ ?_
           rotate_left
           · intro w'
             go_simp
             with_reducible rfl
           rotate_left
           · simp only [Act.put, List.setIfInBounds_toArray, List.set_cons_zero, List.set_cons_succ, i64_w, i32_w]
             rfl
           refine take_ (i := 5) (N := some 104) (v := ?_) (a' := ?_) #[true, true, false, true, true, true, false, false, false, false, false, false, false, false, false, false, false] rfl rfl (by kernel_rfl) (fun _ _ _ h => h) (Or.inl ⟨by rfl, ?_⟩) hHeld ?_ ?_
           rotate_left
           · intro w' s0
             go_simp
             with_reducible rfl
           rotate_left
           · simp only [Act.put, List.setIfInBounds_toArray, List.set_cons_zero, List.set_cons_succ, i64_w, i32_w]
             rfl
           refine one_ (i := 2) (N := some 101) #[true, true, true, true, true, true, false, false, false, false, false, false, false, false, false, false, false] rfl rfl (by kernel_rfl) (by decide) (fun K hK => ?_)
           refine goes_ Tryd.func16 (by kernel_rfl) rfl #[v221, .string s6] (by rfl) rfl rfl (by simp only [List.map_toArray, List.map_cons, List.map_nil]; rfl) ?_
           with_reducible refine (pragma_Rules_Knows.calls k1 _ t220 s6 _ _ ?sideP HKA.out).mono ?_
           case sideP => exact Kd.P_now (Kd.P_below HP1.out HT6.out.bel)
           rintro e w7 ⟨rfl, hb⟩
           have HT7 := Aside0.mk (HT6.out.below hb)
           have HC7 := Aside0.mk (Kd.C_below HC6.out hb)
           clear hb
           refine ⟨_, rfl, ?_⟩
           refine hK.out _ _ (by have z := HT7.out.set.look s6 HZ.out; rw [HH6.out] at z; exact z) (fun hHeld => ?_)
           clear hK K
           refine norm_ (a' := ?_) ?_ ?_
           rotate_left
           · show Act.put _ (some 101) _ = _
             simp only [Act.put, List.setIfInBounds_toArray, List.set_cons_zero, List.set_cons_succ, i64_w, i32_w]
             rfl
           refine pure_ (i := 6) (N := some 105) (v := ?_) (a' := ?_) #[true, true, true, true, true, true, true, false, false, false, false, false, false, false, false, false, false] rfl rfl (by kernel_rfl) (fun _ _ _ h => h) (Or.inl ⟨by rfl, ?_⟩) ?_ ?_
           rotate_left
           · intro w'
             go_simp
             with_reducible rfl
           rotate_left
           · simp only [Act.put, List.setIfInBounds_toArray, List.set_cons_zero, List.set_cons_succ, i64_w, i32_w]
             rfl
           refine pure_ (i := 7) (N := some 106) (v := ?_) (a' := ?_) #[true, true, true, true, true, true, true, true, false, false, false, false, false, false, false, false, false] rfl rfl (by kernel_rfl) (fun _ _ _ h => h) (Or.inl ⟨by rfl, ?_⟩) ?_ ?_
           rotate_left
           · intro w'
             go_simp
             with_reducible rfl
           rotate_left
           · simp only [Act.put, List.setIfInBounds_toArray, List.set_cons_zero, List.set_cons_succ, i64_w, i32_w]
             rfl
           refine pure_ (i := 8) (N := some 107) (v := ?_) (a' := ?_) #[true, true, true, true, true, true, true, true, true, false, false, false, false, false, false, false, false] rfl rfl (by kernel_rfl) (fun _ _ _ h => h) (Or.inl ⟨by rfl, ?_⟩) ?_ ?_
           rotate_left
           · intro w'
             go_simp
             with_reducible rfl
           rotate_left
           · simp only [Act.put, List.setIfInBounds_toArray, List.set_cons_zero, List.set_cons_succ, i64_w, i32_w]
             rfl
           refine pure_ (i := 9) (N := some 108) (v := ?_) (a' := ?_) #[true, true, true, true, true, true, true, true, true, true, false, false, false, false, false, false, false] rfl rfl (by kernel_rfl) (fun _ _ _ h => h) (Or.inl ⟨by rfl, ?_⟩) ?_ ?_
           rotate_left
           · intro w'
             go_simp
             with_reducible rfl
           rotate_left
           · simp only [Act.put, List.setIfInBounds_toArray, List.set_cons_zero, List.set_cons_succ, i64_w, i32_w]
             rfl
           refine pure_ (i := 12) (N := some 111) (v := ?_) (a' := ?_) #[true, true, true, true, true, true, true, true, true, true, false, false, true, false, false, false, false] rfl rfl (by kernel_rfl) (fun _ _ _ h => h) (Or.inl ⟨by rfl, ?_⟩) ?_ ?_
           rotate_left
           · intro w'
             go_simp
             with_reducible rfl
           rotate_left
           · simp only [Act.put, List.setIfInBounds_toArray, List.set_cons_zero, List.set_cons_succ, i64_w, i32_w]
             rfl
           refine pure_ (i := 13) (N := some 112) (v := ?_) (a' := ?_) #[true, true, true, true, true, true, true, true, true, true, false, false, true, true, false, false, false] rfl rfl (by kernel_rfl) (fun _ _ _ h => h) (Or.inl ⟨by rfl, ?_⟩) ?_ ?_
           rotate_left
           · intro w'
             go_simp
             with_reducible rfl
           rotate_left
           · simp only [Act.put, List.setIfInBounds_toArray, List.set_cons_zero, List.set_cons_succ, i64_w, i32_w]
             rfl
           refine take_ (i := 14) (N := some 113) (v := ?_) (a' := ?_) #[true, true, true, true, true, true, true, true, true, true, false, false, true, true, true, false, false] rfl rfl (by kernel_rfl) (fun _ _ _ h => h) (Or.inl ⟨by rfl, ?_⟩) hHeld ?_ ?_
           rotate_left
           · intro w' s0
             go_simp
             with_reducible rfl
           rotate_left
           · simp only [Act.put, List.setIfInBounds_toArray, List.set_cons_zero, List.set_cons_succ, i64_w, i32_w]
             rfl
           refine one_ (i := 10) (N := some 109) #[true, true, true, true, true, true, true, true, true, true, true, false, true, true, true, false, false] rfl rfl (by kernel_rfl) (by decide) (fun K hK => ?_)
           have hcq := Go.Proofs.YtkflgnhcfhmkdaaDoor.H.ByR.q (c := c5) Tryd.underlying22 Tryd.underlying5 Tryd.underlying9 HC7.out
           refine value_ (w1 := ?_) (v := ?_) (by rfl) rfl ?_ ?_
           rotate_left 2
           · go_simp
             constructor
             · rfl
             · rfl
           clear hcq
           refine hK.out _ _ (by have z := HT7.out.set.look s6 HZ.out; rw [HH6.out] at z; exact z) (fun hHeld => ?_)
           clear hK K
           refine norm_ (a' := ?_) ?_ ?_
           rotate_left
           · show Act.put _ (some 109) _ = _
             simp only [Act.put, List.setIfInBounds_toArray, List.set_cons_zero, List.set_cons_succ, i64_w, i32_w]
             rfl
           refine one_ (i := 11) (N := some 110) #[true, true, true, true, true, true, true, true, true, true, true, true, true, true, true, false, false] rfl rfl (by kernel_rfl) (by decide) (fun K hK => ?_)
           refine goes_ Tryd.func16 (by kernel_rfl) rfl #[v221, .string (Go.Proofs.YtkflgnhcfhmkdaaDoor.H.qB s6)] (by rfl) rfl rfl (by simp only [List.map_toArray, List.map_cons, List.map_nil]; rfl) ?_
           with_reducible refine (pragma_Rules_Knows.calls k1 _ t220 (Go.Proofs.YtkflgnhcfhmkdaaDoor.H.qB s6) _ _ ?sideP HKB.out).mono ?_
           case sideP => exact Kd.P_now (Kd.P_below HP1.out HT7.out.bel)
           rintro e w9 ⟨rfl, hb⟩
           have HT9 := Aside0.mk (HT7.out.below hb)
           clear hb
           refine ⟨_, rfl, ?_⟩
           refine hK.out _ _ (by have z := HT9.out.set.look s6 HZ.out; rw [HH6.out] at z; exact z) (fun hHeld => ?_)
           clear hK K
           refine norm_ (a' := ?_) ?_ ?_
           rotate_left
           · show Act.put _ (some 110) _ = _
             simp only [Act.put, List.setIfInBounds_toArray, List.set_cons_zero, List.set_cons_succ, i64_w, i32_w]
             rfl
           refine pure_ (i := 15) (N := some 114) (v := ?_) (a' := ?_) #[true, true, true, true, true, true, true, true, true, true, true, true, true, true, true, true, false] rfl rfl (by kernel_rfl) (fun _ _ _ h => h) (Or.inl ⟨by rfl, ?_⟩) ?_ ?_
           rotate_left
           · intro w'
             go_simp
             with_reducible rfl
           rotate_left
           · simp only [Act.put, List.setIfInBounds_toArray, List.set_cons_zero, List.set_cons_succ, i64_w, i32_w]
             rfl
           refine pure_ (i := 16) (N := some 115) (v := ?_) (a' := ?_) #[true, true, true, true, true, true, true, true, true, true, true, true, true, true, true, true, true] rfl rfl (by kernel_rfl) (fun _ _ _ h => h) (Or.inl ⟨by rfl, ?_⟩) ?_ ?_
           rotate_left
           · intro w'
             go_simp
             with_reducible rfl
           rotate_left
           · simp only [Act.put, List.setIfInBounds_toArray, List.set_cons_zero, List.set_cons_succ, i64_w, i32_w]
             rfl
           refine done_ (by kernel_rfl) ?_

           clear hHeld
           go_wp2
           go_roundg k3
           case measure => omega
           case rel => exact ⟨i + 1, by rw [hew.out], ⟨by have := HI.out; omega⟩, HW2, HT9⟩
       | succ k3 =>
        have hlt : i < x6_1.length := by have := HI.out; omega
        have hK := HK.out
        rw [show x6_1.drop i = x6_1.getD i ByteArray.empty :: x6_1.drop (i + 1) by rw [List.drop_eq_getElem_cons hlt, List.getD_eq_getElem?_getD, List.getElem?_eq_getElem hlt]; rfl] at hK
        obtain ⟨ad, had, hx⟩ := Go.Proofs.YtkflgnhcfhmkdaaDoor.H.str_at HC1.out i hlt
        cases had
        have hsz : (x6_1.getD i ByteArray.empty).size ≤ maxLen := HSZ.out i
        obtain ⟨s6, hs6⟩ : ∃ s, s = x6_1.getD i ByteArray.empty := ⟨_, rfl⟩
        rw [← hs6] at hx hK hsz
        clear hs6
        replace hx := pw_cell_below HT.out.bel hx
        simp only [redpenlaw17_PragmaWords.ks] at hK
        have d1 := decide_eq_true (show (i : Int) < (x6_1.length : Int) by omega)
        have p1 := eq_true (show (0 : Int) ≤ (i : Int) by omega)
        have q1 := eq_true (show (i : Int) < (x6_1.length : Int) by omega)
        have hew := Aside0.mk (show wrap64 ((i : Int) + 1) = ((i + 1 : Nat) : Int) by have := HWL.out; rw [Go.Proofs.YtkflgnhcfhmkdaaDoor.M.w64 (by omega) (by omega)]; omega)
        by_cases g1 : (i : Int) < x7_1
        ·rw [if_pos g1] at hK
         have g1b := decide_eq_true g1
         obtain ⟨w5, hrun, ht5⟩ := HT.out.put (by have := HA.out; have := HWL.out; omega) s6 hsz
         have hrun2 := (show (Instr.mapUpdate 43 (.map (some wT.heap.size)) (.string s6) (.bool true)).run Tryd.prog _ = .ok () w5 from hrun)
         have HT5 := Aside0.mk ht5
         have HK5 := Aside0.mk hK
         clear hrun ht5 hK hsz g1 HK
         go_wp2
         go_roundg k3
         case measure => omega
         case rel => exact ⟨i + 1, acc ++ [s6], by rw [hew.out], ⟨by have := HI.out; omega⟩, HK5, ⟨by rw [List.length_append]; have := HA.out; simp; omega⟩, HT5⟩
        ·rw [if_neg g1] at hK
         have g1b := decide_eq_false g1
         have HK5 := Aside0.mk hK
         clear hK hsz g1 HK
         go_wp2
         go_roundg k3
         case measure => omega
         case rel => exact ⟨i + 1, acc, by rw [hew.out], ⟨by have := HI.out; omega⟩, HK5, ⟨by have := HA.out; omega⟩, HT⟩
     ·rw [if_neg c48] at H
      exact absurd H (by simp)
 ·replace c4 := Bool.eq_false_iff.mpr c4
  subst c4
  have H1 : (some false) = some r := by rw [if_neg (show ¬ (false = true) by decide)] at H; exact H
  clear H
  have H := H1
  clear H1
  have hf_ := Option.some.inj H
  rw [hr_] at hf_
  cases hf_

end Go.Proofs.YtkflgnhcfhmkdaaDoor.PPragmaWords
