-- x
import Derived.Test.YtnmngglfeiifaaaGreatDoorPListsLinex0
import Derived.Test.YtnmngglfeiifaaaGreatDoorPListsLinex2
import Derived.Test.YtnmngglfeiifaaaGreatDoorPListsLinex3
namespace Go.Proofs.YtnmngglfeiifaaaGreatDoor.PListsLine
open Go.RowKit Go.Proofs.YtnmngglfeiifaaaGreatDoor.X Go.Proofs.YtnmngglfeiifaaaGreatDoorW.PrintWords Go.Proofs.YtnmngglfeiifaaaGreatDoorW.PrintLast Go.Proofs.YtnmngglfeiifaaaGreatDoorW.PrintMore
attribute [local go_sem] max2_int min2_int max_two min_two max_three min_three max_four min_four   -- for this text's walks alone
set_option linter.unusedVariables false
set_option linter.unusedSimpArgs false

/-! ### lists_Words: function 10 -/
def lists_Words.l0 : Nat → List ByteArray → List ByteArray → Int → Int → Option (List ByteArray × Option Int)
 | 0, _, _, _, _ => none
 | k + 1, x6, x19, x20, x21 => if x21 < x20 then (if 0 ≤ x21 then (if x21 < (x19.length : Int) then (if (rdOf ByteArray.empty x19 x21).toList = ([] : List UInt8) then (lists_Words.l0 k x6 x19 x20 (wrap64 (x21 + 1))) else ((lists_Check.f k (rdOf ByteArray.empty x19 x21)).bind fun t229 => (if t229 = 0 then (if (x6.length : Int) = 4096 then ((fault_New.f (⟨#[119, 111, 114, 100, 115]⟩ : ByteArray) (wrap64 (x21 + 1)) (some 4)).bind fun t231 => (some (([] : List ByteArray), t231))) else ((fold_Fold.f k (rdOf ByteArray.empty x19 x21)).bind fun t232 => (if x6.length < 8796093022208 then (lists_Words.l0 k (x6 ++ [t232]) x19 x20 (wrap64 (x21 + 1))) else (none)))) else ((fault_New.f (⟨#[119, 111, 114, 100, 115]⟩ : ByteArray) (wrap64 (x21 + 1)) (some t229)).bind fun t230 => (some (([] : List ByteArray), t230)))))) else (none)) else (none)) else ((slices_Sort_string_string.f x6).bind fun t222 => ((slices_Compact_string_string.f t222).bind fun t225 => (some (t225, none))))
def lists_Words.f (k : Nat) (l0 : List Int) : Option (List ByteArray × Option Int) := (lists_rows.f k l0).bind fun bt217 => (if bt217.2.isNone = true then (lists_Words.l0 k ([] : List ByteArray) bt217.1 (bt217.1.length : Int) 0) else ((fault_New.f (⟨#[119, 111, 114, 100, 115]⟩ : ByteArray) 0 (some (bt217.2.getD 0))).bind fun t236 => (some (([] : List ByteArray), t236))))
theorem lists_Words.mono_l : ∀ k, (∀ y0 y1 y2 y3, LeO (lists_Words.l0 k y0 y1 y2 y3) (lists_Words.l0 (k + 1) y0 y1 y2 y3))
 | 0 => fun _ _ _ _ r h => by simp [lists_Words.l0] at h
 | k + 1 => by
  have ih0 := lists_Words.mono_l k
  ·intro y0 y1 y2 y3
   unfold lists_Words.l0
   repeat' first
   | (with_reducible exact ih0 _ _ _ _)
   | (with_reducible exact fold_Fold.mono _ _)
   | (with_reducible exact lists_Check.mono _ _)
   | (with_reducible exact lists_rows.mono _ _)
   | (with_reducible exact LeO.refl _)
   | (with_reducible exact LeO.none _)
   | (with_reducible refine LeO.ite ?_ ?_)
   | (with_reducible refine LeO.bind ?_ (fun _ => ?_))
   | exact ih0 _ _ _ _
   | exact fold_Fold.mono _ _
   | exact lists_Check.mono _ _
   | exact lists_rows.mono _ _
   | exact LeO.none _
   | refine LeO.ite ?_ ?_
   | refine LeO.bind ?_ (fun _ => ?_)
theorem lists_Words.mono : ∀ a0 k, LeO (lists_Words.f k a0) (lists_Words.f (k + 1) a0) := by
 intro a0 k
 have ih0 := lists_Words.mono_l k
 unfold lists_Words.f
 repeat' first
   | (with_reducible exact ih0 _ _ _ _)
   | (with_reducible exact fold_Fold.mono _ _)
   | (with_reducible exact lists_Check.mono _ _)
   | (with_reducible exact lists_rows.mono _ _)
   | (with_reducible exact LeO.refl _)
   | (with_reducible exact LeO.none _)
   | (with_reducible refine LeO.ite ?_ ?_)
   | (with_reducible refine LeO.bind ?_ (fun _ => ?_))
   | exact ih0 _ _ _ _
   | exact fold_Fold.mono _ _
   | exact lists_Check.mono _ _
   | exact lists_rows.mono _ _
   | exact LeO.none _
   | refine LeO.ite ?_ ?_
   | refine LeO.bind ?_ (fun _ => ?_)
set_option maxHeartbeats 8000000 in
set_option maxRecDepth 100000 in
theorem lists_Words.calls (k : Nat) (A0 : Option Addr) (c0 : Nat) (l0 : List Int) (r1 : List ByteArray) (r2 : Option Int) (w : World) (hr0 : Kd.C (Kd.int .u8) w A0 l0.length l0) (hc0 : l0.length ≤ c0) (h : lists_Words.f k l0 = some (r1, r2)) (hL : Go.Proofs.YtnmngglfeiifaaaGreatDoor.H.Laid w) :
  Calls Tryz.prog 10 #[.slice A0 l0.length c0] w fun e w' => ∃ v0_ : Value, e = .returned (.tuple #[v0_, errW r2]) ∧ Kd.R Kd.string 9 w' w.heap.size (fun _ => True) v0_ r1 ∧ Below w.heap.size w w' := by
 have HL := Aside0.mk hL
 clear hL
 have hu27 := Tryz.underlying27
 have hu41 := Tryz.underlying41
 have HR0 := Aside0.mk hr0
 have HC0 := Aside0.mk hc0
 clear hr0 hc0
 have HB := Aside0.mk (Below.refl w.heap.size w)
 have H : ((lists_rows.f k l0).bind fun bt217 => (if bt217.2.isNone = true then (lists_Words.l0 k ([] : List ByteArray) bt217.1 (bt217.1.length : Int) 0) else ((fault_New.f (⟨#[119, 111, 114, 100, 115]⟩ : ByteArray) 0 (some (bt217.2.getD 0))).bind fun t236 => (some (([] : List ByteArray), t236))))) = some (r1, r2) := h
 clear h
 replace H := Option.bind_eq_some_iff.mp H
 obtain ⟨⟨t217, t218⟩, A20, H⟩ := H
 replace H : (if t218.isNone = true then (lists_Words.l0 k ([] : List ByteArray) t217 (t217.length : Int) 0) else ((fault_New.f (⟨#[119, 111, 114, 100, 115]⟩ : ByteArray) 0 (some (t218.getD 0))).bind fun t236 => (some (([] : List ByteArray), t236)))) = some (r1, r2) := H
 have A2 := Aside0.mk A20
 clear A20
 rcases t218 with _ | q221
 ·have H1 : (lists_Words.l0 k ([] : List ByteArray) t217 (t217.length : Int) 0) = some (r1, r2) := by rw [if_pos (show (none : Option Int).isNone = true by rfl)] at H; exact H
  clear H
  have H := H1
  clear H1
  try simp only [errW_none, errW_some]
  have H' := Aside0.mk H
  clear H
  go_enter Tryz.func10, Tryz.ntmps10
  go_wp2_with (first | ((with_reducible refine gate_callee (f := 23) rfl ?_); refine goesL_ (some 12) rfl rfl Tryz.func23 (by kernel_rfl) rfl #[.slice A0 l0.length c0] rfl (by (try simp only [List.map_toArray, List.map_cons, List.map_nil]); first | done | rfl | (simp only [List.length_drop, List.length_take]; rfl)) ?_; (with_reducible refine (lists_rows.calls k _ _ l0 t217 none _ ?side1 ?side2 A2.out ?sideL).mono ?_); (case sideL => first | exact HL.out | exact HL.out.below HB.out | exact HL.out.below (by repeat (first | (with_reducible first | exact HB.out | apply below_alloc | apply pw_below_drewN | apply below_drew1 | refine below_set ?_ (Aside0.out (by assumption))) | exact HB.out))); (case side1 => repeat (first | exact HR0.out | (with_reducible refine Kd.C_alloc ?_ _) | (with_reducible refine Kd.C_drewN ?_ _) | (with_reducible refine Kd.C_drew ?_))); (case side2 => exact HC0.out); rintro e w3 ⟨v219, rfl, ho0, hb⟩; refine ⟨_, rfl, ?_⟩; have n0_ := Aside0.mk (Kd.R_lower ho0 (below_size (by repeat (first | (with_reducible first | exact HB.out | apply below_alloc | apply pw_below_drewN | apply below_drew1) | exact HB.out)))); have n1_ := Aside0.mk (below_step (by repeat (first | (with_reducible first | exact HB.out | apply below_alloc | apply pw_below_drewN | apply below_drew1) | exact HB.out)) hb); clear HB; have HO220 := n0_; have HB := n1_; clear n0_ n1_; (try clear hb); (try clear hb2); (try clear hk); (try clear hi); (try clear ho0); (try simp only [errW_none, errW_some]); obtain ⟨Ao4, co4, eo4⟩ := Kd.R_slice HO220.out; subst eo4))
  go_loopg [6, 21] k (fun kq v6 v21 w' => ∃ (x6_1 : List ByteArray) (x21_1 : Int), v21 = .int .i64 x21_1 ∧ Aside0 (lists_Words.l0 kq x6_1 t217 (t217.length : Int) x21_1 = some (r1, r2)) ∧ Aside0 (kq ≤ k) ∧ Aside0 (Kd.R Kd.string 9 w' w.heap.size (fun k_ => some k_ ≠ ((.slice Ao4 t217.length co4) : Value).ownBlock) v6 x6_1) ∧ Aside0 (Kd.R Kd.string 9 w' w.heap.size (fun k_ => some k_ ≠ (v6 : Value).ownBlock) (.slice Ao4 t217.length co4) t217) ∧ Aside0 (Below w.heap.size w w'))
  case atStart => exact ⟨(([] : List ByteArray)), (0), (by first | rfl | (simp; done) | (simp [*]; done) | (simp [wrap64, wrap32]; done)), H', ⟨Nat.le_refl _⟩, ⟨by first | exact Kd.R_nil _ _ _ _ _ | exact Kd.N_nil _ _ _ _ _ | exact Kd.V_nil _ _ _ _ _ | exact Kd.Q_nil _ _ _ _ _ | exact Kd.S_nil _ _ _ _ _⟩, ⟨by (with_reducible repeat (first | apply Kd.R_alloc | apply Kd.R_drewN | apply Kd.R_drew)); exact Kd.R_mono HO220.out (fun _ hk => (by simp [Value.ownBlock]))⟩, ⟨by repeat (first | (with_reducible first | exact HB.out | apply below_alloc | apply pw_below_drewN | apply below_drew1) | exact HB.out)⟩⟩
  case round =>
   clear H'
   try clear c1
   try clear c2
   try clear p2
   try clear q2
   try clear q221
   obtain ⟨x6_1, x21_1, rfl, HA, HK1, HO_6, HO_19, HB⟩ := hrel
   cases gk with
   | zero => exact absurd HA.out (by simp [lists_Words.l0])
   | succ k1 =>
    have H := HA.out
    clear HA
    simp only [lists_Words.l0] at H
    by_cases c5 : x21_1 < (t217.length : Int)
    ·rw [if_pos c5] at H
     have c5b0 : decide (x21_1 < (t217.length : Int)) = true := decide_eq_true c5
     clear c5
     by_cases c6 : 0 ≤ x21_1
     ·rw [if_pos c6] at H
      have c6b0 : decide (0 ≤ x21_1) = true := decide_eq_true c6
      clear c6
      by_cases c7 : x21_1 < (t217.length : Int)
      ·rw [if_pos c7] at H
       have c7b0 : decide (x21_1 < (t217.length : Int)) = true := decide_eq_true c7
       clear c7
       by_cases c8 : (rdOf ByteArray.empty t217 x21_1).toList = ([] : List UInt8)
       ·rw [if_pos c8] at H
        have c8b0 : ((rdOf ByteArray.empty t217 x21_1).toList == ([] : List UInt8)) = true := beq_iff_eq.mpr c8
        have c8b1 : ((rdOf ByteArray.empty t217 x21_1).toList != ([] : List UInt8)) = false := bne_eq_false_iff_eq.mpr c8
        clear c8
        have H' := Aside0.mk H
        clear H
        have p228 : 0 ≤ (x21_1 : Int) := of_decide_eq_true (by first | (with_reducible assumption) | assumption)
        have q228 : x21_1 < (t217.length : Int) := of_decide_eq_true (by first | (with_reducible assumption) | assumption)
        obtain ⟨ad228, e228, hx228_0⟩ := Kd.at_string (Kd.R_reads' HO_19.out).2.2 x21_1 p228 q228
        cases e228
        replace p228 := eq_true p228
        replace q228 := eq_true q228
        go_wp2
        go_roundg k1
        case measure => have := HK1.out; omega
        case rel => exact ⟨(x6_1), (wrap64 (x21_1 + 1)), (by first | rfl | (simp; done) | (simp [*]; done) | (simp [wrap64, wrap32]; done)), H', ⟨by have := HK1.out; omega⟩, ⟨by (with_reducible repeat (first | apply Kd.R_alloc | apply Kd.R_drewN | apply Kd.R_drew)); exact HO_6.out⟩, ⟨by (with_reducible repeat (first | apply Kd.R_alloc | apply Kd.R_drewN | apply Kd.R_drew)); exact HO_19.out⟩, ⟨by repeat (first | (with_reducible first | exact HB.out | apply below_alloc | apply pw_below_drewN | apply below_drew1) | exact HB.out)⟩⟩
       ·rw [if_neg c8] at H
        have c8b0 : ((rdOf ByteArray.empty t217 x21_1).toList == ([] : List UInt8)) = false := beq_eq_false_iff_ne.mpr c8
        have c8b1 : ((rdOf ByteArray.empty t217 x21_1).toList != ([] : List UInt8)) = true := bne_iff_ne.mpr c8
        replace H := Option.bind_eq_some_iff.mp H
        obtain ⟨t229, A90, H⟩ := H
        replace H : (if t229 = 0 then (if (x6_1.length : Int) = 4096 then ((fault_New.f (⟨#[119, 111, 114, 100, 115]⟩ : ByteArray) (wrap64 (x21_1 + 1)) (some 4)).bind fun t231 => (some (([] : List ByteArray), t231))) else ((fold_Fold.f k1 (rdOf ByteArray.empty t217 x21_1)).bind fun t232 => (if x6_1.length < 8796093022208 then (lists_Words.l0 k1 (x6_1 ++ [t232]) t217 (t217.length : Int) (wrap64 (x21_1 + 1))) else (none)))) else ((fault_New.f (⟨#[119, 111, 114, 100, 115]⟩ : ByteArray) (wrap64 (x21_1 + 1)) (some t229)).bind fun t230 => (some (([] : List ByteArray), t230)))) = some (r1, r2) := H
        have A9 := Aside0.mk A90
        clear A90
        by_cases c10 : t229 = 0
        ·rw [if_pos c10] at H
         have c10b0 : (t229 == 0) = true := beq_iff_eq.mpr c10
         have c10b1 : (t229 != 0) = false := bne_eq_false_iff_eq.mpr c10
         clear c10
         by_cases c11 : (x6_1.length : Int) = 4096
         ·rw [if_pos c11] at H
          have c11b0 : ((x6_1.length : Int) == 4096) = true := beq_iff_eq.mpr c11
          have c11b1 : ((x6_1.length : Int) != 4096) = false := bne_eq_false_iff_eq.mpr c11
          clear c11
          replace H := Option.bind_eq_some_iff.mp H
          obtain ⟨t231, A120, H⟩ := H
          replace H : (some (([] : List ByteArray), t231)) = some (r1, r2) := H
          have A12 := Aside0.mk A120
          clear A120
          simp only [Option.some.injEq, Prod.mk.injEq] at H
          obtain ⟨rfl, rfl⟩ := H
          have p228 : 0 ≤ (x21_1 : Int) := of_decide_eq_true (by first | (with_reducible assumption) | assumption)
          have q228 : x21_1 < (t217.length : Int) := of_decide_eq_true (by first | (with_reducible assumption) | assumption)
          obtain ⟨ad228, e228, hx228_0⟩ := Kd.at_string (Kd.R_reads' HO_19.out).2.2 x21_1 p228 q228
          cases e228
          replace p228 := eq_true p228
          replace q228 := eq_true q228
          go_wp2_with (first | ((with_reducible refine gate_callee (f := 17) rfl ?_); refine goesL_ (some 29) rfl rfl Tryz.func17 (by kernel_rfl) rfl #[.string (rdOf ByteArray.empty t217 x21_1)] rfl (by (try simp only [List.map_toArray, List.map_cons, List.map_nil]); first | done | rfl | (simp only [List.length_drop, List.length_take]; rfl)) ?_; (with_reducible refine (lists_Check.calls k1 (rdOf ByteArray.empty t217 x21_1) t229 _ A9.out).mono ?_); rintro e w13 ⟨rfl, hb⟩; refine ⟨_, rfl, ?_⟩; have n0_ := Aside0.mk (Kd.R_below (by (with_reducible repeat (first | apply Kd.R_alloc | apply Kd.R_drewN | apply Kd.R_drew)); exact HO_6.out) hb); have n1_ := Aside0.mk (Kd.R_below (by (with_reducible repeat (first | apply Kd.R_alloc | apply Kd.R_drewN | apply Kd.R_drew)); exact HO_19.out) hb); have n2_ := Aside0.mk (below_step (by repeat (first | (with_reducible first | exact HB.out | apply below_alloc | apply pw_below_drewN | apply below_drew1) | exact HB.out)) hb); clear HO_6; clear HO_19; clear HB; have HO_6 := n0_; have HO_19 := n1_; have HB := n2_; clear n0_ n1_ n2_; (try clear hb); (try clear hb2); (try clear hk); (try clear hi); obtain ⟨Ao14, co14, eo14⟩ := Kd.R_slice HO_6.out; subst eo14; have CA12 := fun W => fault_New.calls (⟨#[119, 111, 114, 100, 115]⟩ : ByteArray) (wrap64 (x21_1 + 1)) (some 4) t231 W A12.out; try simp only [errW_none, errW_some] at CA12) | (go_at_call 20; (with_reducible refine (CA12 _).mono ?_); rintro e w' ⟨rfl, ⟨nd, rfl⟩⟩; (try simp only [errW_none, errW_some])))
          go_ret2
          exact ⟨_, by first | rfl | (simp [errW_none, errW_some] <;> rfl) | (simp [*, errW_none, errW_some] <;> rfl), by first | exact Kd.R_nil _ _ _ _ _ | exact Kd.N_nil _ _ _ _ _ | exact Kd.V_nil _ _ _ _ _ | exact Kd.Q_nil _ _ _ _ _ | exact Kd.S_nil _ _ _ _ _, by repeat (first | (with_reducible first | exact HB.out | apply below_alloc | apply pw_below_drewN | apply below_drew1) | exact HB.out)⟩
         ·rw [if_neg c11] at H
          have c11b0 : ((x6_1.length : Int) == 4096) = false := beq_eq_false_iff_ne.mpr c11
          have c11b1 : ((x6_1.length : Int) != 4096) = true := bne_iff_ne.mpr c11
          replace H := Option.bind_eq_some_iff.mp H
          obtain ⟨t232, A150, H⟩ := H
          replace H : (if x6_1.length < 8796093022208 then (lists_Words.l0 k1 (x6_1 ++ [t232]) t217 (t217.length : Int) (wrap64 (x21_1 + 1))) else (none)) = some (r1, r2) := H
          have A15 := Aside0.mk A150
          clear A150
          by_cases c16 : x6_1.length < 8796093022208
          ·rw [if_pos c16] at H
           have LMc16 := Aside0.mk c16
           clear c16
           obtain ⟨y233, hy233⟩ : ∃ y_ : List ByteArray, y_ = (x6_1 ++ [t232]) := ⟨_, rfl⟩
           replace H : (lists_Words.l0 k1 y233 t217 (t217.length : Int) (wrap64 (x21_1 + 1))) = some (r1, r2) := by first | (rw [hy233]; with_reducible exact H) | (have H2_ := (Option.bind_some _ _).symm.trans H; rw [hy233]; with_reducible exact H2_) | (have H2_ := (Option.bind_some _ _).symm.trans H; with_reducible exact H2_) | with_reducible exact H | (rw [hy233]; exact H) | exact H
           have Ny233 := Aside0.mk hy233
           clear hy233
           have H' := Aside0.mk H
           clear H
           have p228 : 0 ≤ (x21_1 : Int) := of_decide_eq_true (by first | (with_reducible assumption) | assumption)
           have q228 : x21_1 < (t217.length : Int) := of_decide_eq_true (by first | (with_reducible assumption) | assumption)
           obtain ⟨ad228, e228, hx228_0⟩ := Kd.at_string (Kd.R_reads' HO_19.out).2.2 x21_1 p228 q228
           cases e228
           replace p228 := eq_true p228
           replace q228 := eq_true q228
           go_wp2_with (first | ((with_reducible refine gate_callee (f := 17) rfl ?_); refine goesL_ (some 29) rfl rfl Tryz.func17 (by kernel_rfl) rfl #[.string (rdOf ByteArray.empty t217 x21_1)] rfl (by (try simp only [List.map_toArray, List.map_cons, List.map_nil]); first | done | rfl | (simp only [List.length_drop, List.length_take]; rfl)) ?_; (with_reducible refine (lists_Check.calls k1 (rdOf ByteArray.empty t217 x21_1) t229 _ A9.out).mono ?_); rintro e w17 ⟨rfl, hb⟩; refine ⟨_, rfl, ?_⟩; have n0_ := Aside0.mk (Kd.R_below (by (with_reducible repeat (first | apply Kd.R_alloc | apply Kd.R_drewN | apply Kd.R_drew)); exact HO_6.out) hb); have n1_ := Aside0.mk (Kd.R_below (by (with_reducible repeat (first | apply Kd.R_alloc | apply Kd.R_drewN | apply Kd.R_drew)); exact HO_19.out) hb); have n2_ := Aside0.mk (below_step (by repeat (first | (with_reducible first | exact HB.out | apply below_alloc | apply pw_below_drewN | apply below_drew1) | exact HB.out)) hb); clear HO_6; clear HO_19; clear HB; have HO_6 := n0_; have HO_19 := n1_; have HB := n2_; clear n0_ n1_ n2_; (try clear hb); (try clear hb2); (try clear hk); (try clear hi); obtain ⟨Ao18, co18, eo18⟩ := Kd.R_slice HO_6.out; subst eo18) | ((with_reducible refine gate_callee (f := 24) rfl ?_); refine goesL_ (some 46) rfl rfl Tryz.func24 (by kernel_rfl) rfl #[.string (rdOf ByteArray.empty t217 x21_1)] rfl (by (try simp only [List.map_toArray, List.map_cons, List.map_nil]); first | done | rfl | (simp only [List.length_drop, List.length_take]; rfl)) ?_; (with_reducible refine (fold_Fold.calls k1 (rdOf ByteArray.empty t217 x21_1) t232 _ A15.out).mono ?_); rintro e w19 ⟨rfl, hb⟩; refine ⟨_, rfl, ?_⟩; have n0_ := Aside0.mk (Kd.R_below (by (with_reducible repeat (first | apply Kd.R_alloc | apply Kd.R_drewN | apply Kd.R_drew)); exact HO_6.out) hb); have n1_ := Aside0.mk (Kd.R_below (by (with_reducible repeat (first | apply Kd.R_alloc | apply Kd.R_drewN | apply Kd.R_drew)); exact HO_19.out) hb); have n2_ := Aside0.mk (below_step (by repeat (first | (with_reducible first | exact HB.out | apply below_alloc | apply pw_below_drewN | apply below_drew1) | exact HB.out)) hb); clear HO_6; clear HO_19; clear HB; have HO_6 := n0_; have HO_19 := n1_; have HB := n2_; clear n0_ n1_ n2_; (try clear hb); (try clear hb2); (try clear hk); (try clear hi)) | ((with_reducible refine gate_builtin (b := .append) (xs := #[.tmp 44, .tmp 47]) rfl ?_); at_builtin; refine Kd.R_append Kd.string (w0 := w) w.heap.size rfl (.tmp 44) (.tmp 47) 25 9 (.string ⟨#[]⟩) 16 rfl Tryz.underlying25 info9 rfl (by decide) (by omega) (.slice Ao18 x6_1.length co18) x6_1 t232 [.string t232] (fun k_ => some k_ ≠ (.slice (some ad228) t217.length co4 : Value).ownBlock) (fun _ => False) rfl rfl ?aP (fun _ hk => hk.elim) ?aF ?aO ?aB ?aS ?aL ?_; (case aP => exact rfl); (case aB => exact (by repeat (first | (with_reducible first | exact HB.out | apply below_alloc | apply pw_below_drewN | apply below_drew1) | exact HB.out))); (case aF => exact (fun k_ hk => Kd.fresh' (Kd.R_lt (by (with_reducible repeat (first | apply Kd.R_alloc | apply Kd.R_drewN | apply Kd.R_drew)); exact HO_19.out)) k_ hk)); (case aO => exact (by (with_reducible repeat (first | apply Kd.R_alloc | apply Kd.R_drewN | apply Kd.R_drew)); exact HO_6.out)); (case aS => exact (below_size (by repeat (first | (with_reducible first | exact HB.out | apply below_alloc | apply pw_below_drewN | apply below_drew1) | exact HB.out)))); (case aL => have := LMc16.out; omega); intro v234 w20 ho hb hg hat; rw [← Ny233.out] at ho; have n0_ := Aside0.mk (Kd.R_after (ok := (fun _ => True)) (by (with_reducible repeat (first | apply Kd.R_alloc | apply Kd.R_drewN | apply Kd.R_drew)); exact Kd.R_mono HO_19.out (fun _ hk => ⟨trivial, hk⟩)) hg hat); have n1_ := Aside0.mk (hb); have n2_ := Aside0.mk (ho); clear HO_19; clear HB; clear HO_6; have HO_19 := n0_; have HB := n1_; have HO235 := n2_; clear n0_ n1_ n2_; clear ho hb hg hat))
           go_roundg k1
           case measure => have := HK1.out; omega
           case rel => exact ⟨(y233), (wrap64 (x21_1 + 1)), (by first | rfl | (simp; done) | (simp [*]; done) | (simp [wrap64, wrap32]; done)), H', ⟨by have := HK1.out; omega⟩, ⟨by (with_reducible repeat (first | apply Kd.R_alloc | apply Kd.R_drewN | apply Kd.R_drew)); exact HO235.out⟩, ⟨by (with_reducible repeat (first | apply Kd.R_alloc | apply Kd.R_drewN | apply Kd.R_drew)); exact Kd.R_mono HO_19.out (fun _ hk => hk.2)⟩, ⟨by repeat (first | (with_reducible first | exact HB.out | apply below_alloc | apply pw_below_drewN | apply below_drew1) | exact HB.out)⟩⟩
          ·rw [if_neg c16] at H
           exact absurd H (by simp)
        ·rw [if_neg c10] at H
         have c10b0 : (t229 == 0) = false := beq_eq_false_iff_ne.mpr c10
         have c10b1 : (t229 != 0) = true := bne_iff_ne.mpr c10
         replace H := Option.bind_eq_some_iff.mp H
         obtain ⟨t230, A210, H⟩ := H
         replace H : (some (([] : List ByteArray), t230)) = some (r1, r2) := H
         have A21 := Aside0.mk A210
         clear A210
         simp only [Option.some.injEq, Prod.mk.injEq] at H
         obtain ⟨rfl, rfl⟩ := H
         have p228 : 0 ≤ (x21_1 : Int) := of_decide_eq_true (by first | (with_reducible assumption) | assumption)
         have q228 : x21_1 < (t217.length : Int) := of_decide_eq_true (by first | (with_reducible assumption) | assumption)
         obtain ⟨ad228, e228, hx228_0⟩ := Kd.at_string (Kd.R_reads' HO_19.out).2.2 x21_1 p228 q228
         cases e228
         replace p228 := eq_true p228
         replace q228 := eq_true q228
         go_wp2_with (first | ((with_reducible refine gate_callee (f := 17) rfl ?_); refine goesL_ (some 29) rfl rfl Tryz.func17 (by kernel_rfl) rfl #[.string (rdOf ByteArray.empty t217 x21_1)] rfl (by (try simp only [List.map_toArray, List.map_cons, List.map_nil]); first | done | rfl | (simp only [List.length_drop, List.length_take]; rfl)) ?_; (with_reducible refine (lists_Check.calls k1 (rdOf ByteArray.empty t217 x21_1) t229 _ A9.out).mono ?_); rintro e w22 ⟨rfl, hb⟩; refine ⟨_, rfl, ?_⟩; have n0_ := Aside0.mk (Kd.R_below (by (with_reducible repeat (first | apply Kd.R_alloc | apply Kd.R_drewN | apply Kd.R_drew)); exact HO_6.out) hb); have n1_ := Aside0.mk (Kd.R_below (by (with_reducible repeat (first | apply Kd.R_alloc | apply Kd.R_drewN | apply Kd.R_drew)); exact HO_19.out) hb); have n2_ := Aside0.mk (below_step (by repeat (first | (with_reducible first | exact HB.out | apply below_alloc | apply pw_below_drewN | apply below_drew1) | exact HB.out)) hb); clear HO_6; clear HO_19; clear HB; have HO_6 := n0_; have HO_19 := n1_; have HB := n2_; clear n0_ n1_ n2_; (try clear hb); (try clear hb2); (try clear hk); (try clear hi); have CA21 := fun W => fault_New.calls (⟨#[119, 111, 114, 100, 115]⟩ : ByteArray) (wrap64 (x21_1 + 1)) (some t229) t230 W A21.out; try simp only [errW_none, errW_some] at CA21) | (go_at_call 20; (with_reducible refine (CA21 _).mono ?_); rintro e w' ⟨rfl, ⟨nd, rfl⟩⟩; (try simp only [errW_none, errW_some])))
         go_ret2
         exact ⟨_, by first | rfl | (simp [errW_none, errW_some] <;> rfl) | (simp [*, errW_none, errW_some] <;> rfl), by first | exact Kd.R_nil _ _ _ _ _ | exact Kd.N_nil _ _ _ _ _ | exact Kd.V_nil _ _ _ _ _ | exact Kd.Q_nil _ _ _ _ _ | exact Kd.S_nil _ _ _ _ _, by repeat (first | (with_reducible first | exact HB.out | apply below_alloc | apply pw_below_drewN | apply below_drew1) | exact HB.out)⟩
      ·rw [if_neg c7] at H
       exact absurd H (by simp)
     ·rw [if_neg c6] at H
      exact absurd H (by simp)
    ·rw [if_neg c5] at H
     have c5b0 : decide (x21_1 < (t217.length : Int)) = false := decide_eq_false c5
     clear c5
     replace H := Option.bind_eq_some_iff.mp H
     obtain ⟨t222, A230, H⟩ := H
     replace H : ((slices_Compact_string_string.f t222).bind fun t225 => (some (t225, none))) = some (r1, r2) := H
     have A23 := Aside0.mk A230
     clear A230
     replace H := Option.bind_eq_some_iff.mp H
     obtain ⟨t225, A240, H⟩ := H
     replace H : (some (t225, none)) = some (r1, r2) := H
     have A24 := Aside0.mk A240
     clear A240
     simp only [Option.some.injEq, Prod.mk.injEq] at H
     obtain ⟨rfl, rfl⟩ := H
     obtain ⟨Ao25, co25, eo25⟩ := Kd.R_slice HO_6.out
     subst eo25
     go_wp2_with (first | (go_at_call 25; (refine (slices_Sort_string_string.calls _ _ _ x6_1 t222 _ HO_6.out A23.out).mono ?_); rintro e w26 ⟨rfl, ho0, hg⟩; have HB1 := Aside0.mk (pw_below_grown HB.out _ (below_size HB.out) hg (fun k e => Kd.R_base HO_6.out k e)); have HOs := Aside0.mk ho0; clear ho0 hg HB) | (go_at_call 26; (refine (slices_Compact_string_string.calls _ _ _ t222 t225 _ HOs.out A24.out).mono ?_); rintro e w28 ⟨v226, rfl, ho0, hg⟩; have HB := Aside0.mk (pw_below_grown HB1.out _ (below_size HB1.out) hg (fun k e => Kd.R_base HOs.out k e)); have HO227 := Aside0.mk ho0; clear ho0 hg))
     go_ret2
     exact ⟨_, by first | rfl | (simp [errW_none, errW_some] <;> rfl) | (simp [*, errW_none, errW_some] <;> rfl), by (with_reducible repeat (first | apply Kd.R_alloc | apply Kd.R_drewN | apply Kd.R_drew)); exact Kd.R_mono HO227.out (fun _ hk => trivial), by repeat (first | (with_reducible first | exact HB.out | apply below_alloc | apply pw_below_drewN | apply below_drew1) | exact HB.out)⟩
 ·have H1 : ((fault_New.f (⟨#[119, 111, 114, 100, 115]⟩ : ByteArray) 0 (some q221)).bind fun t236 => (some (([] : List ByteArray), t236))) = some (r1, r2) := by rw [if_neg (show ¬ (some q221).isNone = true by simp)] at H; exact H
  clear H
  have H := H1
  clear H1
  try simp only [errW_none, errW_some]
  replace H := Option.bind_eq_some_iff.mp H
  obtain ⟨t236, A290, H⟩ := H
  replace H : (some (([] : List ByteArray), t236)) = some (r1, r2) := H
  have A29 := Aside0.mk A290
  clear A290
  simp only [Option.some.injEq, Prod.mk.injEq] at H
  obtain ⟨rfl, rfl⟩ := H
  go_enter Tryz.func10, Tryz.ntmps10
  go_wp2_with (first | ((with_reducible refine gate_callee (f := 23) rfl ?_); refine goesL_ (some 12) rfl rfl Tryz.func23 (by kernel_rfl) rfl #[.slice A0 l0.length c0] rfl (by (try simp only [List.map_toArray, List.map_cons, List.map_nil]); first | done | rfl | (simp only [List.length_drop, List.length_take]; rfl)) ?_; (with_reducible refine (lists_rows.calls k _ _ l0 t217 (some q221) _ ?side1 ?side2 A2.out ?sideL).mono ?_); (case sideL => first | exact HL.out | exact HL.out.below HB.out | exact HL.out.below (by repeat (first | (with_reducible first | exact HB.out | apply below_alloc | apply pw_below_drewN | apply below_drew1 | refine below_set ?_ (Aside0.out (by assumption))) | exact HB.out))); (case side1 => repeat (first | exact HR0.out | (with_reducible refine Kd.C_alloc ?_ _) | (with_reducible refine Kd.C_drewN ?_ _) | (with_reducible refine Kd.C_drew ?_))); (case side2 => exact HC0.out); rintro e w30 ⟨v219, rfl, ho0, hb⟩; refine ⟨_, rfl, ?_⟩; have n0_ := Aside0.mk (Kd.R_lower ho0 (below_size (by repeat (first | (with_reducible first | exact HB.out | apply below_alloc | apply pw_below_drewN | apply below_drew1) | exact HB.out)))); have n1_ := Aside0.mk (below_step (by repeat (first | (with_reducible first | exact HB.out | apply below_alloc | apply pw_below_drewN | apply below_drew1) | exact HB.out)) hb); clear HB; have HO220 := n0_; have HB := n1_; clear n0_ n1_; (try clear hb); (try clear hb2); (try clear hk); (try clear hi); (try clear ho0); (try simp only [errW_none, errW_some]); have CA29 := fun W => fault_New.calls (⟨#[119, 111, 114, 100, 115]⟩ : ByteArray) 0 (some q221) t236 W A29.out; try simp only [errW_none, errW_some] at CA29) | (go_at_call 20; (with_reducible refine (CA29 _).mono ?_); rintro e w' ⟨rfl, ⟨nd, rfl⟩⟩; (try simp only [errW_none, errW_some])))
  go_ret2
  exact ⟨_, by first | rfl | (simp [errW_none, errW_some] <;> rfl) | (simp [*, errW_none, errW_some] <;> rfl), by first | exact Kd.R_nil _ _ _ _ _ | exact Kd.N_nil _ _ _ _ _ | exact Kd.V_nil _ _ _ _ _ | exact Kd.Q_nil _ _ _ _ _ | exact Kd.S_nil _ _ _ _ _, by repeat (first | (with_reducible first | exact HB.out | apply below_alloc | apply pw_below_drewN | apply below_drew1) | exact HB.out)⟩

/-! ### strings_Split: function 54 -/
def strings_Split.f (a0 : ByteArray) (a1 : ByteArray) : Option (List ByteArray) := if a0.size < 4294967281 then (if 1 ≤ a1.size then some (Lib.splitB a1 0 (Lib.countB a0 a1) a0) else none) else none
theorem strings_Split.calls (a0 : ByteArray) (a1 : ByteArray) (r : List ByteArray) (w : World) (h : strings_Split.f a0 a1 = some r) (hL : Go.Proofs.YtnmngglfeiifaaaGreatDoor.H.Laid w) :
    Calls Tryz.prog 54 #[.string a0, .string a1] w fun e w' => ∃ v0_ : Value, e = .returned (v0_) ∧ Kd.R Kd.string 9 w' w.heap.size (fun _ => True) v0_ r ∧ Below w.heap.size w w' := by
  unfold strings_Split.f at h
  split at h
  case isFalse => cases h
  case isTrue h0 =>
  split at h
  case isFalse => cases h
  case isTrue h1 =>
  obtain rfl := Option.some.inj h
  obtain ⟨m, hm⟩ := hL
  refine (Go.Proofs.YtnmngglfeiifaaaGreatDoor.H.L.strings_Split a0 a1 m w h0 hm h1).mono ?_
  rintro e w' ⟨rfl, rfl⟩
  have hlen := Lib.splitB_all a1 h1 0 _ a0 rfl
  have hle := Lib.countB_le a1 h1 a0.size a0 (Nat.le_refl _)
  refine ⟨_, rfl, Kd.R_of_own ⟨by rw [encs_length, Nat.mul_one], .inr ⟨w.heap.size, Lib.countB a0 a1 + 1, _, by rw [hlen], Nat.le_refl _, blk_new w _, by rw [hlen]; exact Nat.le_refl _, by unfold maxLen; omega, by rw [List.size_toArray, List.length_map, hlen, Nat.mul_one], ?_⟩⟩ (fun _ _ => trivial), below_alloc (Below.refl _ _) _⟩
  rw [Nat.mul_one, List.take_of_length_le (by rw [List.length_map]; exact Nat.le_refl _)]
  rfl

/-! ### slices_Index_string_string: function 94 -/
def slices_Index_string_string.l0 : Nat → List ByteArray → ByteArray → Int → Int → Option (Int)
 | 0, _, _, _, _ => none
 | k + 1, x0, x1, x7, x8 => if x8 < x7 then (if 0 ≤ x8 then (if x8 < (x0.length : Int) then (if x1.toList = (rdOf ByteArray.empty x0 x8).toList then (some x8) else (slices_Index_string_string.l0 k x0 x1 x7 (wrap64 (x8 + 1)))) else (none)) else (none)) else (some (-1))
def slices_Index_string_string.f (k : Nat) (l0 : List ByteArray) (a1 : ByteArray) : Option (Int) := slices_Index_string_string.l0 k l0 a1 (l0.length : Int) 0
theorem slices_Index_string_string.mono_l : ∀ k, (∀ y0 y1 y2 y3, LeO (slices_Index_string_string.l0 k y0 y1 y2 y3) (slices_Index_string_string.l0 (k + 1) y0 y1 y2 y3))
 | 0 => fun _ _ _ _ r h => by simp [slices_Index_string_string.l0] at h
 | k + 1 => by
  have ih0 := slices_Index_string_string.mono_l k
  ·intro y0 y1 y2 y3
   unfold slices_Index_string_string.l0
   repeat' first
   | (with_reducible exact ih0 _ _ _ _)
   | (with_reducible exact LeO.refl _)
   | (with_reducible exact LeO.none _)
   | (with_reducible refine LeO.ite ?_ ?_)
   | (with_reducible refine LeO.bind ?_ (fun _ => ?_))
   | exact ih0 _ _ _ _
   | exact LeO.none _
   | refine LeO.ite ?_ ?_
   | refine LeO.bind ?_ (fun _ => ?_)
theorem slices_Index_string_string.mono : ∀ a0 a1 k, LeO (slices_Index_string_string.f k a0 a1) (slices_Index_string_string.f (k + 1) a0 a1) := by
 intro a0 a1 k
 have ih0 := slices_Index_string_string.mono_l k
 unfold slices_Index_string_string.f
 repeat' first
   | (with_reducible exact ih0 _ _ _ _)
   | (with_reducible exact LeO.refl _)
   | (with_reducible exact LeO.none _)
   | (with_reducible refine LeO.ite ?_ ?_)
   | (with_reducible refine LeO.bind ?_ (fun _ => ?_))
   | exact ih0 _ _ _ _
   | exact LeO.none _
   | refine LeO.ite ?_ ?_
   | refine LeO.bind ?_ (fun _ => ?_)
set_option maxHeartbeats 8000000 in
set_option maxRecDepth 100000 in
theorem slices_Index_string_string.calls (k : Nat) (A0 : Option Addr) (c0 : Nat) (l0 : List ByteArray) (a1 : ByteArray) (r : Int) (w : World) (hr0 : Kd.C Kd.string w A0 l0.length l0) (hc0 : l0.length ≤ c0) (h : slices_Index_string_string.f k l0 a1 = some r) :
  Calls Tryz.prog 94 #[.slice A0 l0.length c0, .string a1] w fun e w' => e = .returned (.int .i64 r) ∧ Drawn0 w w' := by
 have HR0 := Aside0.mk hr0
 have HC0 := Aside0.mk hc0
 clear hr0 hc0
 have H : (slices_Index_string_string.l0 k l0 a1 (l0.length : Int) 0) = some r := h
 clear h
 have H' := Aside0.mk H
 clear H
 go_enter Tryz.func94, Tryz.ntmps94
 go_wp2
 go_loopg [8] k (fun kq v8 w' => ∃ (x8_1 : Int), v8 = .int .i64 x8_1 ∧ Aside0 (slices_Index_string_string.l0 kq l0 a1 (l0.length : Int) x8_1 = some r) ∧ Aside0 (kq ≤ k) ∧ Drawn0 w w')
 case atStart => exact ⟨(0), (by first | rfl | (simp; done) | (simp [*]; done) | (simp [wrap64, wrap32]; done)), H', ⟨Nat.le_refl _⟩, by repeat (first | exact Drawn0.refl _ | apply Drawn0.step)⟩
 case round =>
  clear H'
  try clear p2
  obtain ⟨x8_1, rfl, HA, HK1, ⟨m1, rfl⟩⟩ := hrel
  cases gk with
  | zero => exact absurd HA.out (by simp [slices_Index_string_string.l0])
  | succ k1 =>
   have H := HA.out
   clear HA
   simp only [slices_Index_string_string.l0] at H
   by_cases c3 : x8_1 < (l0.length : Int)
   ·rw [if_pos c3] at H
    have c3b0 : decide (x8_1 < (l0.length : Int)) = true := decide_eq_true c3
    clear c3
    by_cases c4 : 0 ≤ x8_1
    ·rw [if_pos c4] at H
     have c4b0 : decide (0 ≤ x8_1) = true := decide_eq_true c4
     clear c4
     by_cases c5 : x8_1 < (l0.length : Int)
     ·rw [if_pos c5] at H
      have c5b0 : decide (x8_1 < (l0.length : Int)) = true := decide_eq_true c5
      clear c5
      by_cases c6 : a1.toList = (rdOf ByteArray.empty l0 x8_1).toList
      ·rw [if_pos c6] at H
       have c6b0 : (a1.toList == (rdOf ByteArray.empty l0 x8_1).toList) = true := beq_iff_eq.mpr c6
       have c6b1 : (a1.toList != (rdOf ByteArray.empty l0 x8_1).toList) = false := bne_eq_false_iff_eq.mpr c6
       clear c6
       obtain rfl := Option.some.inj H
       have p237 : 0 ≤ (x8_1 : Int) := of_decide_eq_true (by first | (with_reducible assumption) | assumption)
       have q237 : x8_1 < (l0.length : Int) := of_decide_eq_true (by first | (with_reducible assumption) | assumption)
       obtain ⟨ad237, e237, hx237_0⟩ := Kd.at_string HR0.out x8_1 p237 q237
       cases e237
       replace p237 := eq_true p237
       replace q237 := eq_true q237
       go_wp2
       go_ret
       exact ⟨by first | rfl | (simp; done) | (simp [*]; done) | (simp [wrap64, wrap32]; done), by repeat (first | exact Drawn0.refl _ | apply Drawn0.step)⟩
      ·rw [if_neg c6] at H
       have c6b0 : (a1.toList == (rdOf ByteArray.empty l0 x8_1).toList) = false := beq_eq_false_iff_ne.mpr c6
       have c6b1 : (a1.toList != (rdOf ByteArray.empty l0 x8_1).toList) = true := bne_iff_ne.mpr c6
       have H' := Aside0.mk H
       clear H
       have p237 : 0 ≤ (x8_1 : Int) := of_decide_eq_true (by first | (with_reducible assumption) | assumption)
       have q237 : x8_1 < (l0.length : Int) := of_decide_eq_true (by first | (with_reducible assumption) | assumption)
       obtain ⟨ad237, e237, hx237_0⟩ := Kd.at_string HR0.out x8_1 p237 q237
       cases e237
       replace p237 := eq_true p237
       replace q237 := eq_true q237
       go_wp2
       go_roundg k1
       case measure => have := HK1.out; omega
       case rel => exact ⟨(wrap64 (x8_1 + 1)), (by first | rfl | (simp; done) | (simp [*]; done) | (simp [wrap64, wrap32]; done)), H', ⟨by have := HK1.out; omega⟩, by repeat (first | exact Drawn0.refl _ | apply Drawn0.step)⟩
     ·rw [if_neg c5] at H
      exact absurd H (by simp)
    ·rw [if_neg c4] at H
     exact absurd H (by simp)
   ·rw [if_neg c3] at H
    have c3b0 : decide (x8_1 < (l0.length : Int)) = false := decide_eq_false c3
    clear c3
    obtain rfl := Option.some.inj H
    go_wp2
    go_ret
    exact ⟨by first | rfl | (simp; done) | (simp [*]; done) | (simp [wrap64, wrap32]; done), by repeat (first | exact Drawn0.refl _ | apply Drawn0.step)⟩

/-! ### slices_Contains_string_string: function 55 -/
def slices_Contains_string_string.f (k : Nat) (l0 : List ByteArray) (a1 : ByteArray) : Option (Bool) := (slices_Index_string_string.f k l0 a1).bind fun t238 => (some (decide (t238 ≥ 0)))
theorem slices_Contains_string_string.mono : ∀ a0 a1 k, LeO (slices_Contains_string_string.f k a0 a1) (slices_Contains_string_string.f (k + 1) a0 a1) := by
 intro a0 a1 k
 unfold slices_Contains_string_string.f
 repeat' first
   | (with_reducible exact slices_Index_string_string.mono _ _ _)
   | (with_reducible exact LeO.refl _)
   | (with_reducible exact LeO.none _)
   | (with_reducible refine LeO.ite ?_ ?_)
   | (with_reducible refine LeO.bind ?_ (fun _ => ?_))
   | exact slices_Index_string_string.mono _ _ _
   | exact LeO.none _
   | refine LeO.ite ?_ ?_
   | refine LeO.bind ?_ (fun _ => ?_)
set_option maxHeartbeats 8000000 in
set_option maxRecDepth 100000 in
theorem slices_Contains_string_string.calls (k : Nat) (A0 : Option Addr) (c0 : Nat) (l0 : List ByteArray) (a1 : ByteArray) (r : Bool) (w : World) (hr0 : Kd.C Kd.string w A0 l0.length l0) (hc0 : l0.length ≤ c0) (h : slices_Contains_string_string.f k l0 a1 = some r) :
  Calls Tryz.prog 55 #[.slice A0 l0.length c0, .string a1] w fun e w' => e = .returned (.bool r) ∧ Drawn0 w w' := by
 have HR0 := Aside0.mk hr0
 have HC0 := Aside0.mk hc0
 clear hr0 hc0
 have H : ((slices_Index_string_string.f k l0 a1).bind fun t238 => (some (decide (t238 ≥ 0)))) = some r := h
 clear h
 replace H := Option.bind_eq_some_iff.mp H
 obtain ⟨t238, A30, H⟩ := H
 replace H : (some (decide (t238 ≥ 0))) = some r := H
 have A3 := Aside0.mk A30
 clear A30
 obtain rfl := Option.some.inj H
 go_enter Tryz.func55, Tryz.ntmps55
 go_wp2_with (first | ((with_reducible refine gate_callee (f := 94) rfl ?_); refine goesL_ (some 7) rfl rfl Tryz.func94 (by kernel_rfl) rfl #[.slice A0 l0.length c0, .string a1] rfl (by (try simp only [List.map_toArray, List.map_cons, List.map_nil]); first | done | rfl | (simp only [List.length_drop, List.length_take]; rfl)) ?_; (with_reducible refine (slices_Index_string_string.calls k _ _ l0 a1 t238 _ ?side1 ?side2 A3.out).mono ?_); (case side1 => repeat (first | exact HR0.out | (with_reducible refine Kd.C_alloc ?_ _) | (with_reducible refine Kd.C_drewN ?_ _) | (with_reducible refine Kd.C_drew ?_))); (case side2 => exact HC0.out); rintro e w' ⟨rfl, ⟨nd, rfl⟩⟩; refine ⟨_, rfl, ?_⟩))
 go_ret
 exact ⟨by first | rfl | (simp; done) | (simp [*]; done) | (simp [wrap64, wrap32]; done), by repeat (first | exact Drawn0.refl _ | apply Drawn0.step)⟩

/-! ### lists_entry: function 31 -/
def lists_entry.l0 : Nat → List ByteArray → Int → Int → ByteArray → List ByteArray → Option (ByteArray × List ByteArray × Option Int)
 | 0, _, _, _, _, _ => none
 | k + 1, x38, x39, x40, x245000, x245001 => if x40 < x39 then (if 0 ≤ x40 then (if x40 < (x38.length : Int) then ((strings_Trim.f (rdOf ByteArray.empty x38 x40) (⟨#[32, 9]⟩ : ByteArray)).bind fun t251 => (if t251.toList = ([] : List UInt8) then (some ((⟨#[]⟩ : ByteArray), ([] : List ByteArray), some 7)) else ((lists_Check.f k t251).bind fun t252 => (if t252 = 0 then ((fold_Fold.f k t251).bind fun t253 => ((slices_Contains_string_string.f k x245001 t253).bind fun t254 => (if t254 = true then (lists_entry.l0 k x38 x39 (wrap64 (x40 + 1)) x245000 x245001) else (if x245001.length < 8796093022208 then (lists_entry.l0 k x38 x39 (wrap64 (x40 + 1)) x245000 (x245001 ++ [t253])) else (none))))) else (some ((⟨#[]⟩ : ByteArray), ([] : List ByteArray), some t252)))))) else (none)) else (none)) else (some (x245000, x245001, none))
def lists_entry.f (k : Nat) (a0 : ByteArray) : Option (ByteArray × List ByteArray × Option Int) := (strings_Cut.f a0 (⟨#[45, 62]⟩ : ByteArray)).bind fun bt240 => (if bt240.2.2 = true then ((strings_Trim.f bt240.1 (⟨#[32, 9]⟩ : ByteArray)).bind fun t243 => ((lists_Check.f k t243).bind fun t245 => (if t245 = 0 then ((fold_Fold.f k t243).bind fun t246 => ((strings_Split.f bt240.2.1 (⟨#[44]⟩ : ByteArray)).bind fun t247 => (lists_entry.l0 k t247 (t247.length : Int) 0 t246 ([] : List ByteArray)))) else (some ((⟨#[]⟩ : ByteArray), ([] : List ByteArray), some t245))))) else (some ((⟨#[]⟩ : ByteArray), ([] : List ByteArray), some 7)))
theorem lists_entry.mono_l : ∀ k, (∀ y0 y1 y2 y3 y4, LeO (lists_entry.l0 k y0 y1 y2 y3 y4) (lists_entry.l0 (k + 1) y0 y1 y2 y3 y4))
 | 0 => fun _ _ _ _ _ r h => by simp [lists_entry.l0] at h
 | k + 1 => by
  have ih0 := lists_entry.mono_l k
  ·intro y0 y1 y2 y3 y4
   unfold lists_entry.l0
   repeat' first
   | (with_reducible exact ih0 _ _ _ _ _)
   | (with_reducible exact fold_Fold.mono _ _)
   | (with_reducible exact lists_Check.mono _ _)
   | (with_reducible exact slices_Contains_string_string.mono _ _ _)
   | (with_reducible exact LeO.refl _)
   | (with_reducible exact LeO.none _)
   | (with_reducible refine LeO.ite ?_ ?_)
   | (with_reducible refine LeO.bind ?_ (fun _ => ?_))
   | exact ih0 _ _ _ _ _
   | exact fold_Fold.mono _ _
   | exact lists_Check.mono _ _
   | exact slices_Contains_string_string.mono _ _ _
   | exact LeO.none _
   | refine LeO.ite ?_ ?_
   | refine LeO.bind ?_ (fun _ => ?_)
theorem lists_entry.mono : ∀ a0 k, LeO (lists_entry.f k a0) (lists_entry.f (k + 1) a0) := by
 intro a0 k
 have ih0 := lists_entry.mono_l k
 unfold lists_entry.f
 repeat' first
   | (with_reducible exact ih0 _ _ _ _ _)
   | (with_reducible exact fold_Fold.mono _ _)
   | (with_reducible exact lists_Check.mono _ _)
   | (with_reducible exact slices_Contains_string_string.mono _ _ _)
   | (with_reducible exact LeO.refl _)
   | (with_reducible exact LeO.none _)
   | (with_reducible refine LeO.ite ?_ ?_)
   | (with_reducible refine LeO.bind ?_ (fun _ => ?_))
   | exact ih0 _ _ _ _ _
   | exact fold_Fold.mono _ _
   | exact lists_Check.mono _ _
   | exact slices_Contains_string_string.mono _ _ _
   | exact LeO.none _
   | refine LeO.ite ?_ ?_
   | refine LeO.bind ?_ (fun _ => ?_)
set_option maxHeartbeats 8000000 in
set_option maxRecDepth 100000 in
theorem lists_entry.calls (k : Nat) (a0 : ByteArray) (r1 : ByteArray) (r2 : List ByteArray) (r3 : Option Int) (w : World) (h : lists_entry.f k a0 = some (r1, r2, r3)) (hL : Go.Proofs.YtnmngglfeiifaaaGreatDoor.H.Laid w) :
  Calls Tryz.prog 31 #[.string a0] w fun e w' => ∃ v1_ : Value, e = .returned (.tuple #[.agg #[.string r1, v1_], errW r3]) ∧ Kd.R Kd.string 9 w' w.heap.size (fun _ => True) v1_ r2 ∧ Below w.heap.size w w' := by
 have HL := Aside0.mk hL
 clear hL
 have hu54 := Tryz.underlying54
 have hu27 := Tryz.underlying27
 have hu41 := Tryz.underlying41
 have HB := Aside0.mk (Below.refl w.heap.size w)
 have H : ((strings_Cut.f a0 (⟨#[45, 62]⟩ : ByteArray)).bind fun bt240 => (if bt240.2.2 = true then ((strings_Trim.f bt240.1 (⟨#[32, 9]⟩ : ByteArray)).bind fun t243 => ((lists_Check.f k t243).bind fun t245 => (if t245 = 0 then ((fold_Fold.f k t243).bind fun t246 => ((strings_Split.f bt240.2.1 (⟨#[44]⟩ : ByteArray)).bind fun t247 => (lists_entry.l0 k t247 (t247.length : Int) 0 t246 ([] : List ByteArray)))) else (some ((⟨#[]⟩ : ByteArray), ([] : List ByteArray), some t245))))) else (some ((⟨#[]⟩ : ByteArray), ([] : List ByteArray), some 7)))) = some (r1, r2, r3) := h
 clear h
 replace H := Option.bind_eq_some_iff.mp H
 obtain ⟨⟨t240, t241, t242⟩, A20, H⟩ := H
 replace H : (if t242 = true then ((strings_Trim.f t240 (⟨#[32, 9]⟩ : ByteArray)).bind fun t243 => ((lists_Check.f k t243).bind fun t245 => (if t245 = 0 then ((fold_Fold.f k t243).bind fun t246 => ((strings_Split.f t241 (⟨#[44]⟩ : ByteArray)).bind fun t247 => (lists_entry.l0 k t247 (t247.length : Int) 0 t246 ([] : List ByteArray)))) else (some ((⟨#[]⟩ : ByteArray), ([] : List ByteArray), some t245))))) else (some ((⟨#[]⟩ : ByteArray), ([] : List ByteArray), some 7))) = some (r1, r2, r3) := H
 have A2 := Aside0.mk A20
 clear A20
 by_cases c3 : t242 = true
 ·subst c3
  have H1 : ((strings_Trim.f t240 (⟨#[32, 9]⟩ : ByteArray)).bind fun t243 => ((lists_Check.f k t243).bind fun t245 => (if t245 = 0 then ((fold_Fold.f k t243).bind fun t246 => ((strings_Split.f t241 (⟨#[44]⟩ : ByteArray)).bind fun t247 => (lists_entry.l0 k t247 (t247.length : Int) 0 t246 ([] : List ByteArray)))) else (some ((⟨#[]⟩ : ByteArray), ([] : List ByteArray), some t245))))) = some (r1, r2, r3) := by rw [if_pos rfl] at H; exact H
  clear H
  have H := H1
  clear H1
  replace H := Option.bind_eq_some_iff.mp H
  obtain ⟨t243, A40, H⟩ := H
  replace H : ((lists_Check.f k t243).bind fun t245 => (if t245 = 0 then ((fold_Fold.f k t243).bind fun t246 => ((strings_Split.f t241 (⟨#[44]⟩ : ByteArray)).bind fun t247 => (lists_entry.l0 k t247 (t247.length : Int) 0 t246 ([] : List ByteArray)))) else (some ((⟨#[]⟩ : ByteArray), ([] : List ByteArray), some t245)))) = some (r1, r2, r3) := H
  have A4 := Aside0.mk A40
  clear A40
  replace H := Option.bind_eq_some_iff.mp H
  obtain ⟨t245, A50, H⟩ := H
  replace H : (if t245 = 0 then ((fold_Fold.f k t243).bind fun t246 => ((strings_Split.f t241 (⟨#[44]⟩ : ByteArray)).bind fun t247 => (lists_entry.l0 k t247 (t247.length : Int) 0 t246 ([] : List ByteArray)))) else (some ((⟨#[]⟩ : ByteArray), ([] : List ByteArray), some t245))) = some (r1, r2, r3) := H
  have A5 := Aside0.mk A50
  clear A50
  by_cases c6 : t245 = 0
  ·rw [if_pos c6] at H
   have c6b0 : (t245 == 0) = true := beq_iff_eq.mpr c6
   have c6b1 : (t245 != 0) = false := bne_eq_false_iff_eq.mpr c6
   clear c6
   replace H := Option.bind_eq_some_iff.mp H
   obtain ⟨t246, A70, H⟩ := H
   replace H : ((strings_Split.f t241 (⟨#[44]⟩ : ByteArray)).bind fun t247 => (lists_entry.l0 k t247 (t247.length : Int) 0 t246 ([] : List ByteArray))) = some (r1, r2, r3) := H
   have A7 := Aside0.mk A70
   clear A70
   replace H := Option.bind_eq_some_iff.mp H
   obtain ⟨t247, A80, H⟩ := H
   replace H : (lists_entry.l0 k t247 (t247.length : Int) 0 t246 ([] : List ByteArray)) = some (r1, r2, r3) := H
   have A8 := Aside0.mk A80
   clear A80
   have H' := Aside0.mk H
   clear H
   go_enter Tryz.func31, Tryz.ntmps31
   go_wp2_with (first | ((with_reducible refine gate_dst (N := 2) rfl ?_); refine box_event ?hg (N := 2) ?hd (cs := #[.string (⟨#[]⟩ : ByteArray), .slice none 0 0]) (t := 54) ?hr ?_; (case hd => rfl); (case hg => rfl); (case hr => first | (go_simp; done) | (go_simp; rfl)); intro gb239 hg w9 hbox hb; have n0_ := Aside0.mk (below_step (by repeat (first | (with_reducible first | exact HB.out | apply below_alloc | apply pw_below_drewN | apply below_drew1) | exact HB.out)) hb); have n1_ := Aside0.mk (hbox); have n2_ := Aside0.mk ((by rw [hg]; exact (below_size (by repeat (first | (with_reducible first | exact HB.out | apply below_alloc | apply pw_below_drewN | apply below_drew1) | exact HB.out))) : w.heap.size ≤ gb239)); have n3_ := Aside0.mk ((by rw [hg]; exact (below_size (by repeat (first | (with_reducible first | exact HB.out | apply below_alloc | apply pw_below_drewN | apply below_drew1) | exact HB.out))) : w.heap.size ≤ gb239)); clear HB; have HB := n0_; have BK239 := n1_; have GW239 := n2_; have GE239 := n3_; clear n0_ n1_ n2_ n3_; clear hb hbox hg) | ((with_reducible refine gate_callee (f := 43) rfl ?_); refine goesL_ (some 14) rfl rfl Tryz.func43 (by kernel_rfl) rfl #[.string a0, .string (⟨#[45, 62]⟩ : ByteArray)] rfl (by (try simp only [List.map_toArray, List.map_cons, List.map_nil]); first | done | rfl | (simp only [List.length_drop, List.length_take]; rfl)) ?_; (with_reducible refine (strings_Cut.calls a0 (⟨#[45, 62]⟩ : ByteArray) t240 t241 true _ A2.out ?sideL).mono ?_); (case sideL => first | exact HL.out | exact HL.out.below HB.out | exact HL.out.below (by repeat (first | (with_reducible first | exact HB.out | apply below_alloc | apply pw_below_drewN | apply below_drew1 | refine below_set ?_ (Aside0.out (by assumption))) | exact HB.out))); rintro e w' ⟨rfl, ⟨nd, rfl⟩⟩; refine ⟨_, rfl, ?_⟩; (try (rw [drewN_self w9]; generalize hq_ : World.drewN w9 _ = w9; have n0_ : Aside0 (w9.heap[gb239]? = some (.cells #[.string (⟨#[]⟩ : ByteArray), .slice none 0 0] 54 (0, 0))) := ⟨by rw [← hq_]; exact (by (with_reducible repeat (first | refine blk_drewN ?_ _ | refine blk_drew ?_ | refine blk_alloc ?_ _)); exact BK239.out)⟩; have n1_ : Aside0 (Below w.heap.size w w9) := ⟨by rw [← hq_]; exact (by repeat (first | (with_reducible first | exact HB.out | apply below_alloc | apply pw_below_drewN | apply below_drew1 | refine below_set ?_ GE239.out) | exact HB.out))⟩; clear BK239 HB hq_; have BK239 := n0_; have HB := n1_; clear n0_ n1_))) | ((with_reducible refine gate_callee (f := 44) rfl ?_); refine goesL_ (some 23) rfl rfl Tryz.func44 (by kernel_rfl) rfl #[.string t240, .string (⟨#[32, 9]⟩ : ByteArray)] rfl (by (try simp only [List.map_toArray, List.map_cons, List.map_nil]); first | done | rfl | (simp only [List.length_drop, List.length_take]; rfl)) ?_; (with_reducible refine (strings_Trim.calls t240 (⟨#[32, 9]⟩ : ByteArray) t243 _ A4.out).mono ?_); rintro e w10 ⟨rfl, hb⟩; refine ⟨_, rfl, ?_⟩; have n0_ := Aside0.mk (blk_below (g := gb239) (o := .cells #[.string (⟨#[]⟩ : ByteArray), .slice none 0 0] 54 (0, 0)) (by (with_reducible repeat (first | refine blk_drewN ?_ _ | refine blk_drew ?_ | refine blk_alloc ?_ _)); exact BK239.out) hb); have n1_ := Aside0.mk (below_step (by repeat (first | (with_reducible first | exact HB.out | apply below_alloc | apply pw_below_drewN | apply below_drew1 | refine below_set ?_ GE239.out) | exact HB.out)) hb); clear BK239; clear HB; have BK239 := n0_; have HB := n1_; clear n0_ n1_; (try clear hb); (try clear hb2); (try clear hk); (try clear hi)) | ((with_reducible refine gate_dst (N := 7) rfl ?_); refine box_event ?hg (N := 7) ?hd (cs := #[.string (⟨#[]⟩ : ByteArray), .slice none 0 0]) (t := 54) ?hr ?_; (case hd => rfl); (case hg => rfl); (case hr => first | (go_simp; done) | (go_simp; rfl)); intro gb244 hg w11 hbox hb; have n0_ := Aside0.mk (blk_below (g := gb239) (o := .cells #[.string (⟨#[]⟩ : ByteArray), .slice none 0 0] 54 (0, 0)) (by (with_reducible repeat (first | refine blk_drewN ?_ _ | refine blk_drew ?_ | refine blk_alloc ?_ _)); exact BK239.out) hb); have n1_ := Aside0.mk (below_step (by repeat (first | (with_reducible first | exact HB.out | apply below_alloc | apply pw_below_drewN | apply below_drew1 | refine below_set ?_ GE239.out) | exact HB.out)) hb); have n2_ := Aside0.mk (hbox); have n3_ := Aside0.mk ((by rw [hg]; exact (below_size (by repeat (first | (with_reducible first | exact HB.out | apply below_alloc | apply pw_below_drewN | apply below_drew1 | refine below_set ?_ GE239.out) | exact HB.out))) : w.heap.size ≤ gb244)); have n4_ := Aside0.mk ((by rw [hg]; exact (below_size (by repeat (first | (with_reducible first | exact HB.out | apply below_alloc | apply pw_below_drewN | apply below_drew1 | refine below_set ?_ GE239.out) | exact HB.out))) : w.heap.size ≤ gb244)); have n5_ := Aside0.mk ((by rw [hg]; exact Nat.ne_of_lt (blk_lt (g := gb239) (o := .cells #[.string (⟨#[]⟩ : ByteArray), .slice none 0 0] 54 (0, 0)) (by (with_reducible repeat (first | refine blk_drewN ?_ _ | refine blk_drew ?_ | refine blk_alloc ?_ _)); exact BK239.out)) : gb239 ≠ gb244)); have n6_ := Aside0.mk ((by rw [hg]; exact Nat.ne_of_gt (blk_lt (g := gb239) (o := .cells #[.string (⟨#[]⟩ : ByteArray), .slice none 0 0] 54 (0, 0)) (by (with_reducible repeat (first | refine blk_drewN ?_ _ | refine blk_drew ?_ | refine blk_alloc ?_ _)); exact BK239.out)) : gb244 ≠ gb239)); clear BK239; clear HB; have BK239 := n0_; have HB := n1_; have BK244 := n2_; have GW244 := n3_; have GE244 := n4_; have NB239_244 := n5_; have NB244_239 := n6_; clear n0_ n1_ n2_ n3_ n4_ n5_ n6_; clear hb hbox hg; have hnb12 := NB244_239.out; have hnc12 := NB239_244.out; have hcz13_0 : w11.cell? ⟨gb244, 0, none⟩ = some (.string (⟨#[]⟩ : ByteArray)) := (blk_cell BK244.out 0).trans rfl; have hcz13_1 : w11.cell? ⟨gb244, 1, none⟩ = some (.slice none 0 0) := (blk_cell BK244.out 1).trans rfl; have hfz13_0 := blk_frozen BK244.out 0; have hfz13_1 := blk_frozen BK244.out 1) | ((with_reducible refine gate_callee (f := 17) rfl ?_); refine goesL_ (some 27) rfl rfl Tryz.func17 (by kernel_rfl) rfl #[.string t243] rfl (by (try simp only [List.map_toArray, List.map_cons, List.map_nil]); first | done | rfl | (simp only [List.length_drop, List.length_take]; rfl)) ?_; (with_reducible refine (lists_Check.calls k t243 t245 _ A5.out).mono ?_); rintro e w14 ⟨rfl, hb⟩; refine ⟨_, rfl, ?_⟩; have n0_ := Aside0.mk (blk_below (g := gb239) (o := .cells #[.string (⟨#[]⟩ : ByteArray), .slice none 0 0] 54 (0, 0)) (by (with_reducible repeat (first | refine blk_drewN ?_ _ | refine blk_drew ?_ | refine blk_alloc ?_ _)); refine blk_far ?_ NB239_244.out _; (with_reducible repeat (first | refine blk_drewN ?_ _ | refine blk_drew ?_ | refine blk_alloc ?_ _)); refine blk_far ?_ NB239_244.out _; (with_reducible repeat (first | refine blk_drewN ?_ _ | refine blk_drew ?_ | refine blk_alloc ?_ _)); exact BK239.out) hb); have n1_ := Aside0.mk (blk_below (g := gb244) (o := .cells #[.string t243, .slice none 0 0] 54 (0, 0)) (by (with_reducible repeat (first | refine blk_drewN ?_ _ | refine blk_drew ?_ | refine blk_alloc ?_ _)); refine blk_put (cs := #[.string t243, .slice none 0 0]) ?_ 1 _ rfl; (with_reducible repeat (first | refine blk_drewN ?_ _ | refine blk_drew ?_ | refine blk_alloc ?_ _)); refine blk_put (cs := #[.string (⟨#[]⟩ : ByteArray), .slice none 0 0]) ?_ 0 _ rfl; (with_reducible repeat (first | refine blk_drewN ?_ _ | refine blk_drew ?_ | refine blk_alloc ?_ _)); exact BK244.out) hb); have n2_ := Aside0.mk (below_step (by repeat (first | (with_reducible first | exact HB.out | apply below_alloc | apply pw_below_drewN | apply below_drew1 | refine below_set ?_ GE239.out | refine below_set ?_ GE244.out) | exact HB.out)) hb); clear BK239; clear BK244; clear HB; have BK239 := n0_; have BK244 := n1_; have HB := n2_; clear n0_ n1_ n2_; (try clear hb); (try clear hb2); (try clear hk); (try clear hi); have hcz15_0 : w14.cell? ⟨gb244, 0, none⟩ = some (.string t243) := (blk_cell BK244.out 0).trans rfl; have hcz15_1 : w14.cell? ⟨gb244, 1, none⟩ = some (.slice none 0 0) := (blk_cell BK244.out 1).trans rfl; have hfz15_0 := blk_frozen BK244.out 0; have hfz15_1 := blk_frozen BK244.out 1) | ((with_reducible refine gate_callee (f := 24) rfl ?_); refine goesL_ (some 35) rfl rfl Tryz.func24 (by kernel_rfl) rfl #[.string t243] rfl (by (try simp only [List.map_toArray, List.map_cons, List.map_nil]); first | done | rfl | (simp only [List.length_drop, List.length_take]; rfl)) ?_; (with_reducible refine (fold_Fold.calls k t243 t246 _ A7.out).mono ?_); rintro e w16 ⟨rfl, hb⟩; refine ⟨_, rfl, ?_⟩; have n0_ := Aside0.mk (blk_below (g := gb239) (o := .cells #[.string (⟨#[]⟩ : ByteArray), .slice none 0 0] 54 (0, 0)) (by (with_reducible repeat (first | refine blk_drewN ?_ _ | refine blk_drew ?_ | refine blk_alloc ?_ _)); exact BK239.out) hb); have n1_ := Aside0.mk (blk_below (g := gb244) (o := .cells #[.string t243, .slice none 0 0] 54 (0, 0)) (by (with_reducible repeat (first | refine blk_drewN ?_ _ | refine blk_drew ?_ | refine blk_alloc ?_ _)); exact BK244.out) hb); have n2_ := Aside0.mk (below_step (by repeat (first | (with_reducible first | exact HB.out | apply below_alloc | apply pw_below_drewN | apply below_drew1 | refine below_set ?_ GE239.out | refine below_set ?_ GE244.out) | exact HB.out)) hb); clear BK239; clear BK244; clear HB; have BK239 := n0_; have BK244 := n1_; have HB := n2_; clear n0_ n1_ n2_; (try clear hb); (try clear hb2); (try clear hk); (try clear hi); have hcz17_0 : w16.cell? ⟨gb244, 0, none⟩ = some (.string t243) := (blk_cell BK244.out 0).trans rfl; have hcz17_1 : w16.cell? ⟨gb244, 1, none⟩ = some (.slice none 0 0) := (blk_cell BK244.out 1).trans rfl; have hfz17_0 := blk_frozen BK244.out 0; have hfz17_1 := blk_frozen BK244.out 1) | ((with_reducible refine gate_callee (f := 54) rfl ?_); refine goesL_ (some 38) rfl rfl Tryz.func54 (by kernel_rfl) rfl #[.string t241, .string (⟨#[44]⟩ : ByteArray)] rfl (by (try simp only [List.map_toArray, List.map_cons, List.map_nil]); first | done | rfl | (simp only [List.length_drop, List.length_take]; rfl)) ?_; (with_reducible refine (strings_Split.calls t241 (⟨#[44]⟩ : ByteArray) t247 _ A8.out ?sideL).mono ?_); (case sideL => first | exact HL.out | exact HL.out.below HB.out | exact HL.out.below (by repeat (first | (with_reducible first | exact HB.out | apply below_alloc | apply pw_below_drewN | apply below_drew1 | refine below_set ?_ (Aside0.out (by assumption))) | exact HB.out))); rintro e w18 ⟨v248, rfl, ho0, hb⟩; refine ⟨_, rfl, ?_⟩; have n0_ := Aside0.mk (Kd.R_lower ho0 (below_size (by repeat (first | (with_reducible first | exact HB.out | apply below_alloc | apply pw_below_drewN | apply below_drew1 | refine below_set ?_ GE239.out | refine below_set ?_ GE244.out) | exact HB.out)))); have n1_ := Aside0.mk (blk_below (g := gb239) (o := .cells #[.string (⟨#[]⟩ : ByteArray), .slice none 0 0] 54 (0, 0)) (by (with_reducible repeat (first | refine blk_drewN ?_ _ | refine blk_drew ?_ | refine blk_alloc ?_ _)); refine blk_far ?_ NB239_244.out _; (with_reducible repeat (first | refine blk_drewN ?_ _ | refine blk_drew ?_ | refine blk_alloc ?_ _)); exact BK239.out) hb); have n2_ := Aside0.mk (blk_below (g := gb244) (o := .cells #[.string t246, .slice none 0 0] 54 (0, 0)) (by (with_reducible repeat (first | refine blk_drewN ?_ _ | refine blk_drew ?_ | refine blk_alloc ?_ _)); refine blk_put (cs := #[.string t243, .slice none 0 0]) ?_ 0 _ rfl; (with_reducible repeat (first | refine blk_drewN ?_ _ | refine blk_drew ?_ | refine blk_alloc ?_ _)); exact BK244.out) hb); have n3_ := Aside0.mk (below_step (by repeat (first | (with_reducible first | exact HB.out | apply below_alloc | apply pw_below_drewN | apply below_drew1 | refine below_set ?_ GE239.out | refine below_set ?_ GE244.out) | exact HB.out)) hb); clear BK239; clear BK244; clear HB; have HO249 := n0_; have BK239 := n1_; have BK244 := n2_; have HB := n3_; clear n0_ n1_ n2_ n3_; (try clear hb); (try clear hb2); (try clear hk); (try clear hi); (try clear ho0); obtain ⟨Ao19, co19, eo19⟩ := Kd.R_slice HO249.out; subst eo19))
   go_loopg [40] k (fun kq v40 w' => ∃ (x40_1 : Int) (x240000_1 : ByteArray) (x245001_1 : List ByteArray) (u245001 : Value), v40 = .int .i64 x40_1 ∧ Aside0 (lists_entry.l0 kq t247 (t247.length : Int) x40_1 t246 x245001_1 = some (r1, r2, r3)) ∧ Aside0 (kq ≤ k) ∧ Aside0 (Kd.R Kd.string 9 w' w.heap.size (fun k_ => some k_ ≠ (u245001 : Value).ownBlock) (.slice Ao19 t247.length co19) t247) ∧ Aside0 (Kd.R Kd.string 9 w' w.heap.size (fun k_ => some k_ ≠ ((.slice Ao19 t247.length co19) : Value).ownBlock) u245001 x245001_1) ∧ Aside0 (w'.heap[gb239]? = some (.cells #[.string x240000_1, (.slice none 0 0)] 54 (0, 0))) ∧ Aside0 (w'.heap[gb244]? = some (.cells #[.string t246, u245001] 54 (0, 0))) ∧ Aside0 (Below w.heap.size w w'))
   case atStart => exact ⟨(0), ((⟨#[]⟩ : ByteArray)), (([] : List ByteArray)), (.slice none 0 0), (by first | rfl | (simp; done) | (simp [*]; done) | (simp [wrap64, wrap32]; done)), H', ⟨Nat.le_refl _⟩, ⟨by (with_reducible repeat (first | apply Kd.R_alloc | apply Kd.R_drewN | apply Kd.R_drew)); exact Kd.R_mono HO249.out (fun _ hk => (by simp [Value.ownBlock]))⟩, ⟨by first | exact Kd.R_nil _ _ _ _ _ | exact Kd.N_nil _ _ _ _ _ | exact Kd.V_nil _ _ _ _ _ | exact Kd.Q_nil _ _ _ _ _ | exact Kd.S_nil _ _ _ _ _⟩, ⟨by (with_reducible repeat (first | refine blk_drewN ?_ _ | refine blk_drew ?_ | refine blk_alloc ?_ _)); exact BK239.out⟩, ⟨by (with_reducible repeat (first | refine blk_drewN ?_ _ | refine blk_drew ?_ | refine blk_alloc ?_ _)); exact BK244.out⟩, ⟨by repeat (first | (with_reducible first | exact HB.out | apply below_alloc | apply pw_below_drewN | apply below_drew1 | refine below_set ?_ GE239.out | refine below_set ?_ GE244.out) | exact HB.out)⟩⟩
   case round =>
    clear H'
    try clear c1
    try clear c2
    try clear p2
    try clear c3
    try clear c4
    try clear c5
    try clear c6
    try clear c6b0
    try clear c6b1
    try clear c12
    try clear c17
    try clear hcz13_0
    try clear hcz13_1
    try clear hcz15_0
    try clear hcz15_1
    try clear hcz17_0
    try clear hcz17_1
    try clear hfz13_0
    try clear hfz13_1
    try clear hfz15_0
    try clear hfz15_1
    try clear hfz17_0
    try clear hfz17_1
    obtain ⟨x40_1, x240000_1, x245001_1, u245001, rfl, HA, HK1, HO_38, HO_245001, BK239, BK244, HB⟩ := hrel
    cases gk with
    | zero => exact absurd HA.out (by simp [lists_entry.l0])
    | succ k1 =>
     have H := HA.out
     clear HA
     simp only [lists_entry.l0] at H
     by_cases c20 : x40_1 < (t247.length : Int)
     ·rw [if_pos c20] at H
      have c20b0 : decide (x40_1 < (t247.length : Int)) = true := decide_eq_true c20
      clear c20
      by_cases c21 : 0 ≤ x40_1
      ·rw [if_pos c21] at H
       have c21b0 : decide (0 ≤ x40_1) = true := decide_eq_true c21
       clear c21
       by_cases c22 : x40_1 < (t247.length : Int)
       ·rw [if_pos c22] at H
        have c22b0 : decide (x40_1 < (t247.length : Int)) = true := decide_eq_true c22
        clear c22
        replace H := Option.bind_eq_some_iff.mp H
        obtain ⟨t251, A230, H⟩ := H
        replace H : (if t251.toList = ([] : List UInt8) then (some ((⟨#[]⟩ : ByteArray), ([] : List ByteArray), some 7)) else ((lists_Check.f k1 t251).bind fun t252 => (if t252 = 0 then ((fold_Fold.f k1 t251).bind fun t253 => ((slices_Contains_string_string.f k1 x245001_1 t253).bind fun t254 => (if t254 = true then (lists_entry.l0 k1 t247 (t247.length : Int) (wrap64 (x40_1 + 1)) t246 x245001_1) else (if x245001_1.length < 8796093022208 then (lists_entry.l0 k1 t247 (t247.length : Int) (wrap64 (x40_1 + 1)) t246 (x245001_1 ++ [t253])) else (none))))) else (some ((⟨#[]⟩ : ByteArray), ([] : List ByteArray), some t252))))) = some (r1, r2, r3) := H
        have A23 := Aside0.mk A230
        clear A230
        by_cases c24 : t251.toList = ([] : List UInt8)
        ·rw [if_pos c24] at H
         have c24b0 : (t251.toList == ([] : List UInt8)) = true := beq_iff_eq.mpr c24
         have c24b1 : (t251.toList != ([] : List UInt8)) = false := bne_eq_false_iff_eq.mpr c24
         clear c24
         simp only [Option.some.injEq, Prod.mk.injEq] at H
         obtain ⟨rfl, rfl, rfl⟩ := H
         have p250 : 0 ≤ (x40_1 : Int) := of_decide_eq_true (by first | (with_reducible assumption) | assumption)
         have q250 : x40_1 < (t247.length : Int) := of_decide_eq_true (by first | (with_reducible assumption) | assumption)
         obtain ⟨ad250, e250, hx250_0⟩ := Kd.at_string (Kd.R_reads' HO_38.out).2.2 x40_1 p250 q250
         cases e250
         replace p250 := eq_true p250
         replace q250 := eq_true q250
         go_wp2_with (first | ((with_reducible refine gate_callee (f := 44) rfl ?_); refine goesL_ (some 45) rfl rfl Tryz.func44 (by kernel_rfl) rfl #[.string (rdOf ByteArray.empty t247 x40_1), .string (⟨#[32, 9]⟩ : ByteArray)] rfl (by (try simp only [List.map_toArray, List.map_cons, List.map_nil]); first | done | rfl | (simp only [List.length_drop, List.length_take]; rfl)) ?_; (with_reducible refine (strings_Trim.calls (rdOf ByteArray.empty t247 x40_1) (⟨#[32, 9]⟩ : ByteArray) t251 _ A23.out).mono ?_); rintro e w25 ⟨rfl, hb⟩; refine ⟨_, rfl, ?_⟩; have n0_ := Aside0.mk (Kd.R_below (by (with_reducible repeat (first | apply Kd.R_alloc | apply Kd.R_drewN | apply Kd.R_drew)); exact HO_38.out) hb); have n1_ := Aside0.mk (Kd.R_below (by (with_reducible repeat (first | apply Kd.R_alloc | apply Kd.R_drewN | apply Kd.R_drew)); exact HO_245001.out) hb); have n2_ := Aside0.mk (blk_below (g := gb239) (o := .cells #[.string x240000_1, .slice none 0 0] 54 (0, 0)) (by (with_reducible repeat (first | refine blk_drewN ?_ _ | refine blk_drew ?_ | refine blk_alloc ?_ _)); exact BK239.out) hb); have n3_ := Aside0.mk (blk_below (g := gb244) (o := .cells #[.string t246, u245001] 54 (0, 0)) (by (with_reducible repeat (first | refine blk_drewN ?_ _ | refine blk_drew ?_ | refine blk_alloc ?_ _)); exact BK244.out) hb); have n4_ := Aside0.mk (below_step (by repeat (first | (with_reducible first | exact HB.out | apply below_alloc | apply pw_below_drewN | apply below_drew1 | refine below_set ?_ GE239.out | refine below_set ?_ GE244.out) | exact HB.out)) hb); clear HO_38; clear HO_245001; clear BK239; clear BK244; clear HB; have HO_38 := n0_; have HO_245001 := n1_; have BK239 := n2_; have BK244 := n3_; have HB := n4_; clear n0_ n1_ n2_ n3_ n4_; (try clear hb); (try clear hb2); (try clear hk); (try clear hi); have hnb26 := NB239_244.out; have hnc26 := NB244_239.out; have hcz27_0 : w25.cell? ⟨gb239, 0, none⟩ = some (.string x240000_1) := (blk_cell BK239.out 0).trans rfl; have hcz27_1 : w25.cell? ⟨gb239, 1, none⟩ = some (.slice none 0 0) := (blk_cell BK239.out 1).trans rfl; have hfz27_0 := blk_frozen BK239.out 0; have hfz27_1 := blk_frozen BK239.out 1))
         refine bodyPost_ret (results_ct rfl _ _ gb239 54 #[.string (⟨#[]⟩ : ByteArray), .slice none 0 0] (0, 0) _ rfl (by (with_reducible repeat (first | refine blk_drewN ?_ _ | refine blk_drew ?_ | refine blk_alloc ?_ _)); refine blk_put (cs := #[.string (⟨#[]⟩ : ByteArray), .slice none 0 0]) ?_ 1 _ rfl; (with_reducible repeat (first | refine blk_drewN ?_ _ | refine blk_drew ?_ | refine blk_alloc ?_ _)); refine blk_put (cs := #[.string x240000_1, .slice none 0 0]) ?_ 0 _ rfl; (with_reducible repeat (first | refine blk_drewN ?_ _ | refine blk_drew ?_ | refine blk_alloc ?_ _)); exact BK239.out) Tryz.underlying54 rfl (by kernel_rfl)) rfl ?_
         exact ⟨_, by first | rfl | (simp [errW_none, errW_some] <;> rfl) | (simp [*, errW_none, errW_some] <;> rfl), by first | exact Kd.R_nil _ _ _ _ _ | exact Kd.N_nil _ _ _ _ _ | exact Kd.V_nil _ _ _ _ _ | exact Kd.Q_nil _ _ _ _ _ | exact Kd.S_nil _ _ _ _ _, by repeat (first | (with_reducible first | exact HB.out | apply below_alloc | apply pw_below_drewN | apply below_drew1 | refine below_set ?_ GE239.out | refine below_set ?_ GE244.out) | exact HB.out)⟩
        ·rw [if_neg c24] at H
         have c24b0 : (t251.toList == ([] : List UInt8)) = false := beq_eq_false_iff_ne.mpr c24
         have c24b1 : (t251.toList != ([] : List UInt8)) = true := bne_iff_ne.mpr c24
         replace H := Option.bind_eq_some_iff.mp H
         obtain ⟨t252, A280, H⟩ := H
         replace H : (if t252 = 0 then ((fold_Fold.f k1 t251).bind fun t253 => ((slices_Contains_string_string.f k1 x245001_1 t253).bind fun t254 => (if t254 = true then (lists_entry.l0 k1 t247 (t247.length : Int) (wrap64 (x40_1 + 1)) t246 x245001_1) else (if x245001_1.length < 8796093022208 then (lists_entry.l0 k1 t247 (t247.length : Int) (wrap64 (x40_1 + 1)) t246 (x245001_1 ++ [t253])) else (none))))) else (some ((⟨#[]⟩ : ByteArray), ([] : List ByteArray), some t252))) = some (r1, r2, r3) := H
         have A28 := Aside0.mk A280
         clear A280
         by_cases c29 : t252 = 0
         ·rw [if_pos c29] at H
          have c29b0 : (t252 == 0) = true := beq_iff_eq.mpr c29
          have c29b1 : (t252 != 0) = false := bne_eq_false_iff_eq.mpr c29
          clear c29
          replace H := Option.bind_eq_some_iff.mp H
          obtain ⟨t253, A300, H⟩ := H
          replace H : ((slices_Contains_string_string.f k1 x245001_1 t253).bind fun t254 => (if t254 = true then (lists_entry.l0 k1 t247 (t247.length : Int) (wrap64 (x40_1 + 1)) t246 x245001_1) else (if x245001_1.length < 8796093022208 then (lists_entry.l0 k1 t247 (t247.length : Int) (wrap64 (x40_1 + 1)) t246 (x245001_1 ++ [t253])) else (none)))) = some (r1, r2, r3) := H
          have A30 := Aside0.mk A300
          clear A300
          replace H := Option.bind_eq_some_iff.mp H
          obtain ⟨t254, A310, H⟩ := H
          replace H : (if t254 = true then (lists_entry.l0 k1 t247 (t247.length : Int) (wrap64 (x40_1 + 1)) t246 x245001_1) else (if x245001_1.length < 8796093022208 then (lists_entry.l0 k1 t247 (t247.length : Int) (wrap64 (x40_1 + 1)) t246 (x245001_1 ++ [t253])) else (none))) = some (r1, r2, r3) := H
          have A31 := Aside0.mk A310
          clear A310
          by_cases c32 : t254 = true
          ·subst c32
           have H1 : (lists_entry.l0 k1 t247 (t247.length : Int) (wrap64 (x40_1 + 1)) t246 x245001_1) = some (r1, r2, r3) := by rw [if_pos rfl] at H; exact H
           clear H
           have H := H1
           clear H1
           have H' := Aside0.mk H
           clear H
           have p250 : 0 ≤ (x40_1 : Int) := of_decide_eq_true (by first | (with_reducible assumption) | assumption)
           have q250 : x40_1 < (t247.length : Int) := of_decide_eq_true (by first | (with_reducible assumption) | assumption)
           obtain ⟨ad250, e250, hx250_0⟩ := Kd.at_string (Kd.R_reads' HO_38.out).2.2 x40_1 p250 q250
           cases e250
           replace p250 := eq_true p250
           replace q250 := eq_true q250
           go_wp2_with (first | ((with_reducible refine gate_callee (f := 44) rfl ?_); refine goesL_ (some 45) rfl rfl Tryz.func44 (by kernel_rfl) rfl #[.string (rdOf ByteArray.empty t247 x40_1), .string (⟨#[32, 9]⟩ : ByteArray)] rfl (by (try simp only [List.map_toArray, List.map_cons, List.map_nil]); first | done | rfl | (simp only [List.length_drop, List.length_take]; rfl)) ?_; (with_reducible refine (strings_Trim.calls (rdOf ByteArray.empty t247 x40_1) (⟨#[32, 9]⟩ : ByteArray) t251 _ A23.out).mono ?_); rintro e w33 ⟨rfl, hb⟩; refine ⟨_, rfl, ?_⟩; have n0_ := Aside0.mk (Kd.R_below (by (with_reducible repeat (first | apply Kd.R_alloc | apply Kd.R_drewN | apply Kd.R_drew)); exact HO_38.out) hb); have n1_ := Aside0.mk (Kd.R_below (by (with_reducible repeat (first | apply Kd.R_alloc | apply Kd.R_drewN | apply Kd.R_drew)); exact HO_245001.out) hb); have n2_ := Aside0.mk (blk_below (g := gb239) (o := .cells #[.string x240000_1, .slice none 0 0] 54 (0, 0)) (by (with_reducible repeat (first | refine blk_drewN ?_ _ | refine blk_drew ?_ | refine blk_alloc ?_ _)); exact BK239.out) hb); have n3_ := Aside0.mk (blk_below (g := gb244) (o := .cells #[.string t246, u245001] 54 (0, 0)) (by (with_reducible repeat (first | refine blk_drewN ?_ _ | refine blk_drew ?_ | refine blk_alloc ?_ _)); exact BK244.out) hb); have n4_ := Aside0.mk (below_step (by repeat (first | (with_reducible first | exact HB.out | apply below_alloc | apply pw_below_drewN | apply below_drew1 | refine below_set ?_ GE239.out | refine below_set ?_ GE244.out) | exact HB.out)) hb); clear HO_38; clear HO_245001; clear BK239; clear BK244; clear HB; have HO_38 := n0_; have HO_245001 := n1_; have BK239 := n2_; have BK244 := n3_; have HB := n4_; clear n0_ n1_ n2_ n3_ n4_; (try clear hb); (try clear hb2); (try clear hk); (try clear hi)) | ((with_reducible refine gate_callee (f := 17) rfl ?_); refine goesL_ (some 51) rfl rfl Tryz.func17 (by kernel_rfl) rfl #[.string t251] rfl (by (try simp only [List.map_toArray, List.map_cons, List.map_nil]); first | done | rfl | (simp only [List.length_drop, List.length_take]; rfl)) ?_; (with_reducible refine (lists_Check.calls k1 t251 t252 _ A28.out).mono ?_); rintro e w34 ⟨rfl, hb⟩; refine ⟨_, rfl, ?_⟩; have n0_ := Aside0.mk (Kd.R_below (by (with_reducible repeat (first | apply Kd.R_alloc | apply Kd.R_drewN | apply Kd.R_drew)); exact HO_38.out) hb); have n1_ := Aside0.mk (Kd.R_below (by (with_reducible repeat (first | apply Kd.R_alloc | apply Kd.R_drewN | apply Kd.R_drew)); exact HO_245001.out) hb); have n2_ := Aside0.mk (blk_below (g := gb239) (o := .cells #[.string x240000_1, .slice none 0 0] 54 (0, 0)) (by (with_reducible repeat (first | refine blk_drewN ?_ _ | refine blk_drew ?_ | refine blk_alloc ?_ _)); exact BK239.out) hb); have n3_ := Aside0.mk (blk_below (g := gb244) (o := .cells #[.string t246, u245001] 54 (0, 0)) (by (with_reducible repeat (first | refine blk_drewN ?_ _ | refine blk_drew ?_ | refine blk_alloc ?_ _)); exact BK244.out) hb); have n4_ := Aside0.mk (below_step (by repeat (first | (with_reducible first | exact HB.out | apply below_alloc | apply pw_below_drewN | apply below_drew1 | refine below_set ?_ GE239.out | refine below_set ?_ GE244.out) | exact HB.out)) hb); clear HO_38; clear HO_245001; clear BK239; clear BK244; clear HB; have HO_38 := n0_; have HO_245001 := n1_; have BK239 := n2_; have BK244 := n3_; have HB := n4_; clear n0_ n1_ n2_ n3_ n4_; (try clear hb); (try clear hb2); (try clear hk); (try clear hi)) | ((with_reducible refine gate_callee (f := 24) rfl ?_); refine goesL_ (some 58) rfl rfl Tryz.func24 (by kernel_rfl) rfl #[.string t251] rfl (by (try simp only [List.map_toArray, List.map_cons, List.map_nil]); first | done | rfl | (simp only [List.length_drop, List.length_take]; rfl)) ?_; (with_reducible refine (fold_Fold.calls k1 t251 t253 _ A30.out).mono ?_); rintro e w35 ⟨rfl, hb⟩; refine ⟨_, rfl, ?_⟩; have n0_ := Aside0.mk (Kd.R_below (by (with_reducible repeat (first | apply Kd.R_alloc | apply Kd.R_drewN | apply Kd.R_drew)); exact HO_38.out) hb); have n1_ := Aside0.mk (Kd.R_below (by (with_reducible repeat (first | apply Kd.R_alloc | apply Kd.R_drewN | apply Kd.R_drew)); exact HO_245001.out) hb); have n2_ := Aside0.mk (blk_below (g := gb239) (o := .cells #[.string x240000_1, .slice none 0 0] 54 (0, 0)) (by (with_reducible repeat (first | refine blk_drewN ?_ _ | refine blk_drew ?_ | refine blk_alloc ?_ _)); exact BK239.out) hb); have n3_ := Aside0.mk (blk_below (g := gb244) (o := .cells #[.string t246, u245001] 54 (0, 0)) (by (with_reducible repeat (first | refine blk_drewN ?_ _ | refine blk_drew ?_ | refine blk_alloc ?_ _)); exact BK244.out) hb); have n4_ := Aside0.mk (below_step (by repeat (first | (with_reducible first | exact HB.out | apply below_alloc | apply pw_below_drewN | apply below_drew1 | refine below_set ?_ GE239.out | refine below_set ?_ GE244.out) | exact HB.out)) hb); clear HO_38; clear HO_245001; clear BK239; clear BK244; clear HB; have HO_38 := n0_; have HO_245001 := n1_; have BK239 := n2_; have BK244 := n3_; have HB := n4_; clear n0_ n1_ n2_ n3_ n4_; (try clear hb); (try clear hb2); (try clear hk); (try clear hi); have hnb36 := NB244_239.out; have hnc36 := NB239_244.out; have hcz37_0 : w35.cell? ⟨gb244, 0, none⟩ = some (.string t246) := (blk_cell BK244.out 0).trans rfl; have hcz37_1 : w35.cell? ⟨gb244, 1, none⟩ = some (u245001) := (blk_cell BK244.out 1).trans rfl; have hfz37_0 := blk_frozen BK244.out 0; have hfz37_1 := blk_frozen BK244.out 1; obtain ⟨Ao38, co38, eo38⟩ := Kd.R_slice HO_245001.out; subst eo38) | ((with_reducible refine gate_callee (f := 55) rfl ?_); refine goesL_ (some 62) rfl rfl Tryz.func55 (by kernel_rfl) rfl #[.slice Ao38 x245001_1.length co38, .string t253] rfl (by (try simp only [List.map_toArray, List.map_cons, List.map_nil]); first | done | rfl | (simp only [List.length_drop, List.length_take]; rfl)) ?_; (with_reducible refine (slices_Contains_string_string.calls k1 _ _ x245001_1 t253 true _ ?side1 ?side2 A31.out).mono ?_); (case side1 => repeat (first | exact (Kd.R_reads' HO_245001.out).2.2 | (with_reducible refine Kd.C_alloc ?_ _) | (with_reducible refine Kd.C_drewN ?_ _) | (with_reducible refine Kd.C_drew ?_))); (case side2 => exact (Kd.R_reads' HO_245001.out).2.1); rintro e w' ⟨rfl, ⟨nd, rfl⟩⟩; refine ⟨_, rfl, ?_⟩))
           go_roundg k1
           case measure => have := HK1.out; omega
           case rel => exact ⟨(wrap64 (x40_1 + 1)), (x240000_1), (x245001_1), (.slice Ao38 x245001_1.length co38), (by first | rfl | (simp; done) | (simp [*]; done) | (simp [wrap64, wrap32]; done)), H', ⟨by have := HK1.out; omega⟩, ⟨by (with_reducible repeat (first | apply Kd.R_alloc | apply Kd.R_drewN | apply Kd.R_drew)); exact HO_38.out⟩, ⟨by (with_reducible repeat (first | apply Kd.R_alloc | apply Kd.R_drewN | apply Kd.R_drew)); exact HO_245001.out⟩, ⟨by (with_reducible repeat (first | refine blk_drewN ?_ _ | refine blk_drew ?_ | refine blk_alloc ?_ _)); exact BK239.out⟩, ⟨by (with_reducible repeat (first | refine blk_drewN ?_ _ | refine blk_drew ?_ | refine blk_alloc ?_ _)); exact BK244.out⟩, ⟨by repeat (first | (with_reducible first | exact HB.out | apply below_alloc | apply pw_below_drewN | apply below_drew1 | refine below_set ?_ GE239.out | refine below_set ?_ GE244.out) | exact HB.out)⟩⟩
          ·replace c32 := Bool.eq_false_iff.mpr c32
           subst c32
           have H1 : (if x245001_1.length < 8796093022208 then (lists_entry.l0 k1 t247 (t247.length : Int) (wrap64 (x40_1 + 1)) t246 (x245001_1 ++ [t253])) else (none)) = some (r1, r2, r3) := by rw [if_neg (show ¬ (false = true) by decide)] at H; exact H
           clear H
           have H := H1
           clear H1
           by_cases c39 : x245001_1.length < 8796093022208
           ·rw [if_pos c39] at H
            have LMc39 := Aside0.mk c39
            clear c39
            obtain ⟨y255, hy255⟩ : ∃ y_ : List ByteArray, y_ = (x245001_1 ++ [t253]) := ⟨_, rfl⟩
            replace H : (lists_entry.l0 k1 t247 (t247.length : Int) (wrap64 (x40_1 + 1)) t246 y255) = some (r1, r2, r3) := by first | (rw [hy255]; with_reducible exact H) | (have H2_ := (Option.bind_some _ _).symm.trans H; rw [hy255]; with_reducible exact H2_) | (have H2_ := (Option.bind_some _ _).symm.trans H; with_reducible exact H2_) | with_reducible exact H | (rw [hy255]; exact H) | exact H
            have Ny255 := Aside0.mk hy255
            clear hy255
            have H' := Aside0.mk H
            clear H
            have p250 : 0 ≤ (x40_1 : Int) := of_decide_eq_true (by first | (with_reducible assumption) | assumption)
            have q250 : x40_1 < (t247.length : Int) := of_decide_eq_true (by first | (with_reducible assumption) | assumption)
            obtain ⟨ad250, e250, hx250_0⟩ := Kd.at_string (Kd.R_reads' HO_38.out).2.2 x40_1 p250 q250
            cases e250
            replace p250 := eq_true p250
            replace q250 := eq_true q250
            go_wp2_with (first | ((with_reducible refine gate_callee (f := 44) rfl ?_); refine goesL_ (some 45) rfl rfl Tryz.func44 (by kernel_rfl) rfl #[.string (rdOf ByteArray.empty t247 x40_1), .string (⟨#[32, 9]⟩ : ByteArray)] rfl (by (try simp only [List.map_toArray, List.map_cons, List.map_nil]); first | done | rfl | (simp only [List.length_drop, List.length_take]; rfl)) ?_; (with_reducible refine (strings_Trim.calls (rdOf ByteArray.empty t247 x40_1) (⟨#[32, 9]⟩ : ByteArray) t251 _ A23.out).mono ?_); rintro e w40 ⟨rfl, hb⟩; refine ⟨_, rfl, ?_⟩; have n0_ := Aside0.mk (Kd.R_below (by (with_reducible repeat (first | apply Kd.R_alloc | apply Kd.R_drewN | apply Kd.R_drew)); exact HO_38.out) hb); have n1_ := Aside0.mk (Kd.R_below (by (with_reducible repeat (first | apply Kd.R_alloc | apply Kd.R_drewN | apply Kd.R_drew)); exact HO_245001.out) hb); have n2_ := Aside0.mk (blk_below (g := gb239) (o := .cells #[.string x240000_1, .slice none 0 0] 54 (0, 0)) (by (with_reducible repeat (first | refine blk_drewN ?_ _ | refine blk_drew ?_ | refine blk_alloc ?_ _)); exact BK239.out) hb); have n3_ := Aside0.mk (blk_below (g := gb244) (o := .cells #[.string t246, u245001] 54 (0, 0)) (by (with_reducible repeat (first | refine blk_drewN ?_ _ | refine blk_drew ?_ | refine blk_alloc ?_ _)); exact BK244.out) hb); have n4_ := Aside0.mk (below_step (by repeat (first | (with_reducible first | exact HB.out | apply below_alloc | apply pw_below_drewN | apply below_drew1 | refine below_set ?_ GE239.out | refine below_set ?_ GE244.out) | exact HB.out)) hb); clear HO_38; clear HO_245001; clear BK239; clear BK244; clear HB; have HO_38 := n0_; have HO_245001 := n1_; have BK239 := n2_; have BK244 := n3_; have HB := n4_; clear n0_ n1_ n2_ n3_ n4_; (try clear hb); (try clear hb2); (try clear hk); (try clear hi)) | ((with_reducible refine gate_callee (f := 17) rfl ?_); refine goesL_ (some 51) rfl rfl Tryz.func17 (by kernel_rfl) rfl #[.string t251] rfl (by (try simp only [List.map_toArray, List.map_cons, List.map_nil]); first | done | rfl | (simp only [List.length_drop, List.length_take]; rfl)) ?_; (with_reducible refine (lists_Check.calls k1 t251 t252 _ A28.out).mono ?_); rintro e w41 ⟨rfl, hb⟩; refine ⟨_, rfl, ?_⟩; have n0_ := Aside0.mk (Kd.R_below (by (with_reducible repeat (first | apply Kd.R_alloc | apply Kd.R_drewN | apply Kd.R_drew)); exact HO_38.out) hb); have n1_ := Aside0.mk (Kd.R_below (by (with_reducible repeat (first | apply Kd.R_alloc | apply Kd.R_drewN | apply Kd.R_drew)); exact HO_245001.out) hb); have n2_ := Aside0.mk (blk_below (g := gb239) (o := .cells #[.string x240000_1, .slice none 0 0] 54 (0, 0)) (by (with_reducible repeat (first | refine blk_drewN ?_ _ | refine blk_drew ?_ | refine blk_alloc ?_ _)); exact BK239.out) hb); have n3_ := Aside0.mk (blk_below (g := gb244) (o := .cells #[.string t246, u245001] 54 (0, 0)) (by (with_reducible repeat (first | refine blk_drewN ?_ _ | refine blk_drew ?_ | refine blk_alloc ?_ _)); exact BK244.out) hb); have n4_ := Aside0.mk (below_step (by repeat (first | (with_reducible first | exact HB.out | apply below_alloc | apply pw_below_drewN | apply below_drew1 | refine below_set ?_ GE239.out | refine below_set ?_ GE244.out) | exact HB.out)) hb); clear HO_38; clear HO_245001; clear BK239; clear BK244; clear HB; have HO_38 := n0_; have HO_245001 := n1_; have BK239 := n2_; have BK244 := n3_; have HB := n4_; clear n0_ n1_ n2_ n3_ n4_; (try clear hb); (try clear hb2); (try clear hk); (try clear hi)) | ((with_reducible refine gate_callee (f := 24) rfl ?_); refine goesL_ (some 58) rfl rfl Tryz.func24 (by kernel_rfl) rfl #[.string t251] rfl (by (try simp only [List.map_toArray, List.map_cons, List.map_nil]); first | done | rfl | (simp only [List.length_drop, List.length_take]; rfl)) ?_; (with_reducible refine (fold_Fold.calls k1 t251 t253 _ A30.out).mono ?_); rintro e w42 ⟨rfl, hb⟩; refine ⟨_, rfl, ?_⟩; have n0_ := Aside0.mk (Kd.R_below (by (with_reducible repeat (first | apply Kd.R_alloc | apply Kd.R_drewN | apply Kd.R_drew)); exact HO_38.out) hb); have n1_ := Aside0.mk (Kd.R_below (by (with_reducible repeat (first | apply Kd.R_alloc | apply Kd.R_drewN | apply Kd.R_drew)); exact HO_245001.out) hb); have n2_ := Aside0.mk (blk_below (g := gb239) (o := .cells #[.string x240000_1, .slice none 0 0] 54 (0, 0)) (by (with_reducible repeat (first | refine blk_drewN ?_ _ | refine blk_drew ?_ | refine blk_alloc ?_ _)); exact BK239.out) hb); have n3_ := Aside0.mk (blk_below (g := gb244) (o := .cells #[.string t246, u245001] 54 (0, 0)) (by (with_reducible repeat (first | refine blk_drewN ?_ _ | refine blk_drew ?_ | refine blk_alloc ?_ _)); exact BK244.out) hb); have n4_ := Aside0.mk (below_step (by repeat (first | (with_reducible first | exact HB.out | apply below_alloc | apply pw_below_drewN | apply below_drew1 | refine below_set ?_ GE239.out | refine below_set ?_ GE244.out) | exact HB.out)) hb); clear HO_38; clear HO_245001; clear BK239; clear BK244; clear HB; have HO_38 := n0_; have HO_245001 := n1_; have BK239 := n2_; have BK244 := n3_; have HB := n4_; clear n0_ n1_ n2_ n3_ n4_; (try clear hb); (try clear hb2); (try clear hk); (try clear hi); have hnb43 := NB244_239.out; have hnc43 := NB239_244.out; have hcz44_0 : w42.cell? ⟨gb244, 0, none⟩ = some (.string t246) := (blk_cell BK244.out 0).trans rfl; have hcz44_1 : w42.cell? ⟨gb244, 1, none⟩ = some (u245001) := (blk_cell BK244.out 1).trans rfl; have hfz44_0 := blk_frozen BK244.out 0; have hfz44_1 := blk_frozen BK244.out 1; obtain ⟨Ao45, co45, eo45⟩ := Kd.R_slice HO_245001.out; subst eo45) | ((with_reducible refine gate_callee (f := 55) rfl ?_); refine goesL_ (some 62) rfl rfl Tryz.func55 (by kernel_rfl) rfl #[.slice Ao45 x245001_1.length co45, .string t253] rfl (by (try simp only [List.map_toArray, List.map_cons, List.map_nil]); first | done | rfl | (simp only [List.length_drop, List.length_take]; rfl)) ?_; (with_reducible refine (slices_Contains_string_string.calls k1 _ _ x245001_1 t253 false _ ?side1 ?side2 A31.out).mono ?_); (case side1 => repeat (first | exact (Kd.R_reads' HO_245001.out).2.2 | (with_reducible refine Kd.C_alloc ?_ _) | (with_reducible refine Kd.C_drewN ?_ _) | (with_reducible refine Kd.C_drew ?_))); (case side2 => exact (Kd.R_reads' HO_245001.out).2.1); rintro e w' ⟨rfl, ⟨nd, rfl⟩⟩; refine ⟨_, rfl, ?_⟩; (try (rw [drewN_self w42]; generalize hq_ : World.drewN w42 _ = w42; have n0_ : Aside0 (Kd.R Kd.string 9 w42 w.heap.size (fun k_ => some k_ ≠ (.slice (some ad250) t247.length co19 : Value).ownBlock) (.slice Ao45 x245001_1.length co45) x245001_1) := ⟨by rw [← hq_]; exact (by (with_reducible repeat (first | apply Kd.R_alloc | apply Kd.R_drewN | apply Kd.R_drew)); exact HO_245001.out)⟩; have n1_ : Aside0 (Kd.R Kd.string 9 w42 w.heap.size (fun k_ => some k_ ≠ (.slice Ao45 x245001_1.length co45 : Value).ownBlock) (.slice (some ad250) t247.length co19) t247) := ⟨by rw [← hq_]; exact (by (with_reducible repeat (first | apply Kd.R_alloc | apply Kd.R_drewN | apply Kd.R_drew)); exact HO_38.out)⟩; have n2_ : Aside0 (w42.heap[gb239]? = some (.cells #[.string x240000_1, .slice none 0 0] 54 (0, 0))) := ⟨by rw [← hq_]; exact (by (with_reducible repeat (first | refine blk_drewN ?_ _ | refine blk_drew ?_ | refine blk_alloc ?_ _)); exact BK239.out)⟩; have n3_ : Aside0 (w42.heap[gb244]? = some (.cells #[.string t246, .slice Ao45 x245001_1.length co45] 54 (0, 0))) := ⟨by rw [← hq_]; exact (by (with_reducible repeat (first | refine blk_drewN ?_ _ | refine blk_drew ?_ | refine blk_alloc ?_ _)); exact BK244.out)⟩; have n4_ : Aside0 (Below w.heap.size w w42) := ⟨by rw [← hq_]; exact (by repeat (first | (with_reducible first | exact HB.out | apply below_alloc | apply pw_below_drewN | apply below_drew1 | refine below_set ?_ GE239.out | refine below_set ?_ GE244.out) | exact HB.out))⟩; clear HO_245001 HO_38 BK239 BK244 HB hq_; have HO_245001 := n0_; have HO_38 := n1_; have BK239 := n2_; have BK244 := n3_; have HB := n4_; clear n0_ n1_ n2_ n3_ n4_)); have hczE_0 : w42.cell? ⟨gb244, 0, none⟩ = some (.string t246) := (blk_cell BK244.out 0).trans rfl; have hczE_1 : w42.cell? ⟨gb244, 1, none⟩ = some (.slice Ao45 x245001_1.length co45) := (blk_cell BK244.out 1).trans rfl; have hfzE_0 := blk_frozen BK244.out 0; have hfzE_1 := blk_frozen BK244.out 1) | ((with_reducible refine gate_builtin (b := .append) (xs := #[.tmp 65, .tmp 67]) rfl ?_); at_builtin; refine Kd.R_append Kd.string (w0 := w) w.heap.size rfl (.tmp 65) (.tmp 67) 25 9 (.string ⟨#[]⟩) 16 rfl Tryz.underlying25 info9 rfl (by decide) (by omega) (.slice Ao45 x245001_1.length co45) x245001_1 t253 [.string t253] (fun k_ => some k_ ≠ (.slice (some ad250) t247.length co19 : Value).ownBlock) (fun _ => False) rfl rfl ?aP (fun _ hk => hk.elim) ?aF ?aO ?aB ?aS ?aL ?_; (case aP => exact rfl); (case aB => exact (by repeat (first | (with_reducible first | exact HB.out | apply below_alloc | apply pw_below_drewN | apply below_drew1 | refine below_set ?_ GE239.out | refine below_set ?_ GE244.out) | exact HB.out))); (case aF => exact (fun k_ hk => Kd.fresh' (Kd.R_lt (by (with_reducible repeat (first | apply Kd.R_alloc | apply Kd.R_drewN | apply Kd.R_drew)); exact HO_38.out)) k_ hk)); (case aO => exact (by (with_reducible repeat (first | apply Kd.R_alloc | apply Kd.R_drewN | apply Kd.R_drew)); exact HO_245001.out)); (case aS => exact (below_size (by repeat (first | (with_reducible first | exact HB.out | apply below_alloc | apply pw_below_drewN | apply below_drew1 | refine below_set ?_ GE239.out | refine below_set ?_ GE244.out) | exact HB.out)))); (case aL => have := LMc39.out; omega); intro v256 w46 ho hb hg hat; rw [← Ny255.out] at ho; have n0_ := Aside0.mk (Kd.R_after (ok := (fun _ => True)) (by (with_reducible repeat (first | apply Kd.R_alloc | apply Kd.R_drewN | apply Kd.R_drew)); exact Kd.R_mono HO_38.out (fun _ hk => ⟨trivial, hk⟩)) hg hat); have n1_ := Aside0.mk (blk_grown (g := gb239) (o := .cells #[.string x240000_1, .slice none 0 0] 54 (0, 0)) (by (with_reducible repeat (first | refine blk_drewN ?_ _ | refine blk_drew ?_ | refine blk_alloc ?_ _)); exact BK239.out) hg (Kd.R_ne HO_245001.out BK239.out (by decide))); have n2_ := Aside0.mk (blk_grown (g := gb244) (o := .cells #[.string t246, .slice Ao45 x245001_1.length co45] 54 (0, 0)) (by (with_reducible repeat (first | refine blk_drewN ?_ _ | refine blk_drew ?_ | refine blk_alloc ?_ _)); exact BK244.out) hg (Kd.R_ne HO_245001.out BK244.out (by decide))); have n3_ := Aside0.mk (hb); have n4_ := Aside0.mk (ho); clear HO_38; clear BK239; clear BK244; clear HB; clear HO_245001; have HO_38 := n0_; have BK239 := n1_; have BK244 := n2_; have HB := n3_; have HO257 := n4_; clear n0_ n1_ n2_ n3_ n4_; clear ho hb hg hat; obtain ⟨Ao47, co47, eo47⟩ := Kd.R_slice HO257.out; subst eo47; have hcz48_0 : w46.cell? ⟨gb244, 0, none⟩ = some (.string t246) := (blk_cell BK244.out 0).trans rfl; have hcz48_1 : w46.cell? ⟨gb244, 1, none⟩ = some (.slice Ao45 x245001_1.length co45) := (blk_cell BK244.out 1).trans rfl; have hfz48_0 := blk_frozen BK244.out 0; have hfz48_1 := blk_frozen BK244.out 1))
            go_roundg k1
            case measure => have := HK1.out; omega
            case rel => exact ⟨(wrap64 (x40_1 + 1)), (x240000_1), (y255), (.slice Ao47 y255.length co47), (by first | rfl | (simp; done) | (simp [*]; done) | (simp [wrap64, wrap32]; done)), H', ⟨by have := HK1.out; omega⟩, ⟨by (with_reducible repeat (first | apply Kd.R_alloc | apply Kd.R_drewN | apply Kd.R_drew)); exact Kd.R_mono (Kd.R_far (p := ⟨gb244, 1, none⟩) (Kd.R_types HO_38.out BK244.out (by decide)) (fun _ hk => hk.2) (.slice Ao47 y255.length co47)) (fun _ hk => hk.1.2)⟩, ⟨by (with_reducible repeat (first | apply Kd.R_alloc | apply Kd.R_drewN | apply Kd.R_drew)); exact Kd.R_mono (Kd.R_far (p := ⟨gb244, 1, none⟩) (Kd.R_types HO257.out BK244.out (by decide)) (fun _ hk => hk.2) (.slice Ao47 y255.length co47)) (fun _ hk => hk.1)⟩, ⟨by (with_reducible repeat (first | refine blk_drewN ?_ _ | refine blk_drew ?_ | refine blk_alloc ?_ _)); refine blk_far ?_ NB239_244.out _; (with_reducible repeat (first | refine blk_drewN ?_ _ | refine blk_drew ?_ | refine blk_alloc ?_ _)); exact BK239.out⟩, ⟨by (with_reducible repeat (first | refine blk_drewN ?_ _ | refine blk_drew ?_ | refine blk_alloc ?_ _)); refine blk_put (cs := #[.string t246, .slice Ao45 x245001_1.length co45]) ?_ 1 _ rfl; (with_reducible repeat (first | refine blk_drewN ?_ _ | refine blk_drew ?_ | refine blk_alloc ?_ _)); exact BK244.out⟩, ⟨by repeat (first | (with_reducible first | exact HB.out | apply below_alloc | apply pw_below_drewN | apply below_drew1 | refine below_set ?_ GE239.out | refine below_set ?_ GE244.out) | exact HB.out)⟩⟩
           ·rw [if_neg c39] at H
            exact absurd H (by simp)
         ·rw [if_neg c29] at H
          have c29b0 : (t252 == 0) = false := beq_eq_false_iff_ne.mpr c29
          have c29b1 : (t252 != 0) = true := bne_iff_ne.mpr c29
          simp only [Option.some.injEq, Prod.mk.injEq] at H
          obtain ⟨rfl, rfl, rfl⟩ := H
          have p250 : 0 ≤ (x40_1 : Int) := of_decide_eq_true (by first | (with_reducible assumption) | assumption)
          have q250 : x40_1 < (t247.length : Int) := of_decide_eq_true (by first | (with_reducible assumption) | assumption)
          obtain ⟨ad250, e250, hx250_0⟩ := Kd.at_string (Kd.R_reads' HO_38.out).2.2 x40_1 p250 q250
          cases e250
          replace p250 := eq_true p250
          replace q250 := eq_true q250
          go_wp2_with (first | ((with_reducible refine gate_callee (f := 44) rfl ?_); refine goesL_ (some 45) rfl rfl Tryz.func44 (by kernel_rfl) rfl #[.string (rdOf ByteArray.empty t247 x40_1), .string (⟨#[32, 9]⟩ : ByteArray)] rfl (by (try simp only [List.map_toArray, List.map_cons, List.map_nil]); first | done | rfl | (simp only [List.length_drop, List.length_take]; rfl)) ?_; (with_reducible refine (strings_Trim.calls (rdOf ByteArray.empty t247 x40_1) (⟨#[32, 9]⟩ : ByteArray) t251 _ A23.out).mono ?_); rintro e w49 ⟨rfl, hb⟩; refine ⟨_, rfl, ?_⟩; have n0_ := Aside0.mk (Kd.R_below (by (with_reducible repeat (first | apply Kd.R_alloc | apply Kd.R_drewN | apply Kd.R_drew)); exact HO_38.out) hb); have n1_ := Aside0.mk (Kd.R_below (by (with_reducible repeat (first | apply Kd.R_alloc | apply Kd.R_drewN | apply Kd.R_drew)); exact HO_245001.out) hb); have n2_ := Aside0.mk (blk_below (g := gb239) (o := .cells #[.string x240000_1, .slice none 0 0] 54 (0, 0)) (by (with_reducible repeat (first | refine blk_drewN ?_ _ | refine blk_drew ?_ | refine blk_alloc ?_ _)); exact BK239.out) hb); have n3_ := Aside0.mk (blk_below (g := gb244) (o := .cells #[.string t246, u245001] 54 (0, 0)) (by (with_reducible repeat (first | refine blk_drewN ?_ _ | refine blk_drew ?_ | refine blk_alloc ?_ _)); exact BK244.out) hb); have n4_ := Aside0.mk (below_step (by repeat (first | (with_reducible first | exact HB.out | apply below_alloc | apply pw_below_drewN | apply below_drew1 | refine below_set ?_ GE239.out | refine below_set ?_ GE244.out) | exact HB.out)) hb); clear HO_38; clear HO_245001; clear BK239; clear BK244; clear HB; have HO_38 := n0_; have HO_245001 := n1_; have BK239 := n2_; have BK244 := n3_; have HB := n4_; clear n0_ n1_ n2_ n3_ n4_; (try clear hb); (try clear hb2); (try clear hk); (try clear hi)) | ((with_reducible refine gate_callee (f := 17) rfl ?_); refine goesL_ (some 51) rfl rfl Tryz.func17 (by kernel_rfl) rfl #[.string t251] rfl (by (try simp only [List.map_toArray, List.map_cons, List.map_nil]); first | done | rfl | (simp only [List.length_drop, List.length_take]; rfl)) ?_; (with_reducible refine (lists_Check.calls k1 t251 t252 _ A28.out).mono ?_); rintro e w50 ⟨rfl, hb⟩; refine ⟨_, rfl, ?_⟩; have n0_ := Aside0.mk (Kd.R_below (by (with_reducible repeat (first | apply Kd.R_alloc | apply Kd.R_drewN | apply Kd.R_drew)); exact HO_38.out) hb); have n1_ := Aside0.mk (Kd.R_below (by (with_reducible repeat (first | apply Kd.R_alloc | apply Kd.R_drewN | apply Kd.R_drew)); exact HO_245001.out) hb); have n2_ := Aside0.mk (blk_below (g := gb239) (o := .cells #[.string x240000_1, .slice none 0 0] 54 (0, 0)) (by (with_reducible repeat (first | refine blk_drewN ?_ _ | refine blk_drew ?_ | refine blk_alloc ?_ _)); exact BK239.out) hb); have n3_ := Aside0.mk (blk_below (g := gb244) (o := .cells #[.string t246, u245001] 54 (0, 0)) (by (with_reducible repeat (first | refine blk_drewN ?_ _ | refine blk_drew ?_ | refine blk_alloc ?_ _)); exact BK244.out) hb); have n4_ := Aside0.mk (below_step (by repeat (first | (with_reducible first | exact HB.out | apply below_alloc | apply pw_below_drewN | apply below_drew1 | refine below_set ?_ GE239.out | refine below_set ?_ GE244.out) | exact HB.out)) hb); clear HO_38; clear HO_245001; clear BK239; clear BK244; clear HB; have HO_38 := n0_; have HO_245001 := n1_; have BK239 := n2_; have BK244 := n3_; have HB := n4_; clear n0_ n1_ n2_ n3_ n4_; (try clear hb); (try clear hb2); (try clear hk); (try clear hi); have hnb51 := NB239_244.out; have hnc51 := NB244_239.out; have hcz52_0 : w50.cell? ⟨gb239, 0, none⟩ = some (.string x240000_1) := (blk_cell BK239.out 0).trans rfl; have hcz52_1 : w50.cell? ⟨gb239, 1, none⟩ = some (.slice none 0 0) := (blk_cell BK239.out 1).trans rfl; have hfz52_0 := blk_frozen BK239.out 0; have hfz52_1 := blk_frozen BK239.out 1))
          refine bodyPost_ret (results_ct rfl _ _ gb239 54 #[.string (⟨#[]⟩ : ByteArray), .slice none 0 0] (0, 0) _ rfl (by (with_reducible repeat (first | refine blk_drewN ?_ _ | refine blk_drew ?_ | refine blk_alloc ?_ _)); refine blk_put (cs := #[.string (⟨#[]⟩ : ByteArray), .slice none 0 0]) ?_ 1 _ rfl; (with_reducible repeat (first | refine blk_drewN ?_ _ | refine blk_drew ?_ | refine blk_alloc ?_ _)); refine blk_put (cs := #[.string x240000_1, .slice none 0 0]) ?_ 0 _ rfl; (with_reducible repeat (first | refine blk_drewN ?_ _ | refine blk_drew ?_ | refine blk_alloc ?_ _)); exact BK239.out) Tryz.underlying54 rfl (by kernel_rfl)) rfl ?_
          exact ⟨_, by first | rfl | (simp [errW_none, errW_some] <;> rfl) | (simp [*, errW_none, errW_some] <;> rfl), by first | exact Kd.R_nil _ _ _ _ _ | exact Kd.N_nil _ _ _ _ _ | exact Kd.V_nil _ _ _ _ _ | exact Kd.Q_nil _ _ _ _ _ | exact Kd.S_nil _ _ _ _ _, by repeat (first | (with_reducible first | exact HB.out | apply below_alloc | apply pw_below_drewN | apply below_drew1 | refine below_set ?_ GE239.out | refine below_set ?_ GE244.out) | exact HB.out)⟩
       ·rw [if_neg c22] at H
        exact absurd H (by simp)
      ·rw [if_neg c21] at H
       exact absurd H (by simp)
     ·rw [if_neg c20] at H
      have c20b0 : decide (x40_1 < (t247.length : Int)) = false := decide_eq_false c20
      clear c20
      simp only [Option.some.injEq, Prod.mk.injEq] at H
      obtain ⟨rfl, rfl, rfl⟩ := H
      have hnb53 := NB244_239.out
      have hnc53 := NB239_244.out
      have hcz54_0 : wr.cell? ⟨gb244, 0, none⟩ = some (.string t246) := (blk_cell BK244.out 0).trans rfl
      have hcz54_1 : wr.cell? ⟨gb244, 1, none⟩ = some (u245001) := (blk_cell BK244.out 1).trans rfl
      have hfz54_0 := blk_frozen BK244.out 0
      have hfz54_1 := blk_frozen BK244.out 1
      have hcz55_0 : wr.cell? ⟨gb239, 0, none⟩ = some (.string x240000_1) := (blk_cell BK239.out 0).trans rfl
      have hcz55_1 : wr.cell? ⟨gb239, 1, none⟩ = some (.slice none 0 0) := (blk_cell BK239.out 1).trans rfl
      have hfz55_0 := blk_frozen BK239.out 0
      have hfz55_1 := blk_frozen BK239.out 1
      obtain ⟨Ao56, co56, eo56⟩ := Kd.R_slice HO_245001.out
      subst eo56
      go_wp2
      refine bodyPost_ret (results_ct rfl _ _ gb239 54 #[.string t246, .slice Ao56 x245001_1.length co56] (0, 0) _ rfl (by (with_reducible repeat (first | refine blk_drewN ?_ _ | refine blk_drew ?_ | refine blk_alloc ?_ _)); refine blk_put (cs := #[.string t246, .slice none 0 0]) ?_ 1 _ rfl; (with_reducible repeat (first | refine blk_drewN ?_ _ | refine blk_drew ?_ | refine blk_alloc ?_ _)); refine blk_put (cs := #[.string x240000_1, .slice none 0 0]) ?_ 0 _ rfl; (with_reducible repeat (first | refine blk_drewN ?_ _ | refine blk_drew ?_ | refine blk_alloc ?_ _)); exact BK239.out) Tryz.underlying54 rfl (by kernel_rfl)) rfl ?_
      exact ⟨_, by first | rfl | (simp [errW_none, errW_some] <;> rfl) | (simp [*, errW_none, errW_some] <;> rfl), by (with_reducible repeat (first | apply Kd.R_alloc | apply Kd.R_drewN | apply Kd.R_drew)); exact Kd.R_mono (Kd.R_far (p := ⟨gb239, 1, none⟩) (Kd.R_far (p := ⟨gb239, 0, none⟩) (Kd.R_types HO_245001.out BK239.out (by decide)) (fun _ hk => hk.2) (.string t246)) (fun _ hk => hk.2) (.slice Ao56 x245001_1.length co56)) (fun _ hk => trivial), by repeat (first | (with_reducible first | exact HB.out | apply below_alloc | apply pw_below_drewN | apply below_drew1 | refine below_set ?_ GE239.out | refine below_set ?_ GE244.out) | exact HB.out)⟩
  ·rw [if_neg c6] at H
   have c6b0 : (t245 == 0) = false := beq_eq_false_iff_ne.mpr c6
   have c6b1 : (t245 != 0) = true := bne_iff_ne.mpr c6
   simp only [Option.some.injEq, Prod.mk.injEq] at H
   obtain ⟨rfl, rfl, rfl⟩ := H
   go_enter Tryz.func31, Tryz.ntmps31
   go_wp2_with (first | ((with_reducible refine gate_dst (N := 2) rfl ?_); refine box_event ?hg (N := 2) ?hd (cs := #[.string (⟨#[]⟩ : ByteArray), .slice none 0 0]) (t := 54) ?hr ?_; (case hd => rfl); (case hg => rfl); (case hr => first | (go_simp; done) | (go_simp; rfl)); intro gb239 hg w57 hbox hb; have n0_ := Aside0.mk (below_step (by repeat (first | (with_reducible first | exact HB.out | apply below_alloc | apply pw_below_drewN | apply below_drew1) | exact HB.out)) hb); have n1_ := Aside0.mk (hbox); have n2_ := Aside0.mk ((by rw [hg]; exact (below_size (by repeat (first | (with_reducible first | exact HB.out | apply below_alloc | apply pw_below_drewN | apply below_drew1) | exact HB.out))) : w.heap.size ≤ gb239)); have n3_ := Aside0.mk ((by rw [hg]; exact (below_size (by repeat (first | (with_reducible first | exact HB.out | apply below_alloc | apply pw_below_drewN | apply below_drew1) | exact HB.out))) : w.heap.size ≤ gb239)); clear HB; have HB := n0_; have BK239 := n1_; have GW239 := n2_; have GE239 := n3_; clear n0_ n1_ n2_ n3_; clear hb hbox hg) | ((with_reducible refine gate_callee (f := 43) rfl ?_); refine goesL_ (some 14) rfl rfl Tryz.func43 (by kernel_rfl) rfl #[.string a0, .string (⟨#[45, 62]⟩ : ByteArray)] rfl (by (try simp only [List.map_toArray, List.map_cons, List.map_nil]); first | done | rfl | (simp only [List.length_drop, List.length_take]; rfl)) ?_; (with_reducible refine (strings_Cut.calls a0 (⟨#[45, 62]⟩ : ByteArray) t240 t241 true _ A2.out ?sideL).mono ?_); (case sideL => first | exact HL.out | exact HL.out.below HB.out | exact HL.out.below (by repeat (first | (with_reducible first | exact HB.out | apply below_alloc | apply pw_below_drewN | apply below_drew1 | refine below_set ?_ (Aside0.out (by assumption))) | exact HB.out))); rintro e w' ⟨rfl, ⟨nd, rfl⟩⟩; refine ⟨_, rfl, ?_⟩; (try (rw [drewN_self w57]; generalize hq_ : World.drewN w57 _ = w57; have n0_ : Aside0 (w57.heap[gb239]? = some (.cells #[.string (⟨#[]⟩ : ByteArray), .slice none 0 0] 54 (0, 0))) := ⟨by rw [← hq_]; exact (by (with_reducible repeat (first | refine blk_drewN ?_ _ | refine blk_drew ?_ | refine blk_alloc ?_ _)); exact BK239.out)⟩; have n1_ : Aside0 (Below w.heap.size w w57) := ⟨by rw [← hq_]; exact (by repeat (first | (with_reducible first | exact HB.out | apply below_alloc | apply pw_below_drewN | apply below_drew1 | refine below_set ?_ GE239.out) | exact HB.out))⟩; clear BK239 HB hq_; have BK239 := n0_; have HB := n1_; clear n0_ n1_))) | ((with_reducible refine gate_callee (f := 44) rfl ?_); refine goesL_ (some 23) rfl rfl Tryz.func44 (by kernel_rfl) rfl #[.string t240, .string (⟨#[32, 9]⟩ : ByteArray)] rfl (by (try simp only [List.map_toArray, List.map_cons, List.map_nil]); first | done | rfl | (simp only [List.length_drop, List.length_take]; rfl)) ?_; (with_reducible refine (strings_Trim.calls t240 (⟨#[32, 9]⟩ : ByteArray) t243 _ A4.out).mono ?_); rintro e w58 ⟨rfl, hb⟩; refine ⟨_, rfl, ?_⟩; have n0_ := Aside0.mk (blk_below (g := gb239) (o := .cells #[.string (⟨#[]⟩ : ByteArray), .slice none 0 0] 54 (0, 0)) (by (with_reducible repeat (first | refine blk_drewN ?_ _ | refine blk_drew ?_ | refine blk_alloc ?_ _)); exact BK239.out) hb); have n1_ := Aside0.mk (below_step (by repeat (first | (with_reducible first | exact HB.out | apply below_alloc | apply pw_below_drewN | apply below_drew1 | refine below_set ?_ GE239.out) | exact HB.out)) hb); clear BK239; clear HB; have BK239 := n0_; have HB := n1_; clear n0_ n1_; (try clear hb); (try clear hb2); (try clear hk); (try clear hi)) | ((with_reducible refine gate_dst (N := 7) rfl ?_); refine box_event ?hg (N := 7) ?hd (cs := #[.string (⟨#[]⟩ : ByteArray), .slice none 0 0]) (t := 54) ?hr ?_; (case hd => rfl); (case hg => rfl); (case hr => first | (go_simp; done) | (go_simp; rfl)); intro gb244 hg w59 hbox hb; have n0_ := Aside0.mk (blk_below (g := gb239) (o := .cells #[.string (⟨#[]⟩ : ByteArray), .slice none 0 0] 54 (0, 0)) (by (with_reducible repeat (first | refine blk_drewN ?_ _ | refine blk_drew ?_ | refine blk_alloc ?_ _)); exact BK239.out) hb); have n1_ := Aside0.mk (below_step (by repeat (first | (with_reducible first | exact HB.out | apply below_alloc | apply pw_below_drewN | apply below_drew1 | refine below_set ?_ GE239.out) | exact HB.out)) hb); have n2_ := Aside0.mk (hbox); have n3_ := Aside0.mk ((by rw [hg]; exact (below_size (by repeat (first | (with_reducible first | exact HB.out | apply below_alloc | apply pw_below_drewN | apply below_drew1 | refine below_set ?_ GE239.out) | exact HB.out))) : w.heap.size ≤ gb244)); have n4_ := Aside0.mk ((by rw [hg]; exact (below_size (by repeat (first | (with_reducible first | exact HB.out | apply below_alloc | apply pw_below_drewN | apply below_drew1 | refine below_set ?_ GE239.out) | exact HB.out))) : w.heap.size ≤ gb244)); have n5_ := Aside0.mk ((by rw [hg]; exact Nat.ne_of_lt (blk_lt (g := gb239) (o := .cells #[.string (⟨#[]⟩ : ByteArray), .slice none 0 0] 54 (0, 0)) (by (with_reducible repeat (first | refine blk_drewN ?_ _ | refine blk_drew ?_ | refine blk_alloc ?_ _)); exact BK239.out)) : gb239 ≠ gb244)); have n6_ := Aside0.mk ((by rw [hg]; exact Nat.ne_of_gt (blk_lt (g := gb239) (o := .cells #[.string (⟨#[]⟩ : ByteArray), .slice none 0 0] 54 (0, 0)) (by (with_reducible repeat (first | refine blk_drewN ?_ _ | refine blk_drew ?_ | refine blk_alloc ?_ _)); exact BK239.out)) : gb244 ≠ gb239)); clear BK239; clear HB; have BK239 := n0_; have HB := n1_; have BK244 := n2_; have GW244 := n3_; have GE244 := n4_; have NB239_244 := n5_; have NB244_239 := n6_; clear n0_ n1_ n2_ n3_ n4_ n5_ n6_; clear hb hbox hg; have hnb60 := NB244_239.out; have hnc60 := NB239_244.out; have hcz61_0 : w59.cell? ⟨gb244, 0, none⟩ = some (.string (⟨#[]⟩ : ByteArray)) := (blk_cell BK244.out 0).trans rfl; have hcz61_1 : w59.cell? ⟨gb244, 1, none⟩ = some (.slice none 0 0) := (blk_cell BK244.out 1).trans rfl; have hfz61_0 := blk_frozen BK244.out 0; have hfz61_1 := blk_frozen BK244.out 1) | ((with_reducible refine gate_callee (f := 17) rfl ?_); refine goesL_ (some 27) rfl rfl Tryz.func17 (by kernel_rfl) rfl #[.string t243] rfl (by (try simp only [List.map_toArray, List.map_cons, List.map_nil]); first | done | rfl | (simp only [List.length_drop, List.length_take]; rfl)) ?_; (with_reducible refine (lists_Check.calls k t243 t245 _ A5.out).mono ?_); rintro e w62 ⟨rfl, hb⟩; refine ⟨_, rfl, ?_⟩; have n0_ := Aside0.mk (blk_below (g := gb239) (o := .cells #[.string (⟨#[]⟩ : ByteArray), .slice none 0 0] 54 (0, 0)) (by (with_reducible repeat (first | refine blk_drewN ?_ _ | refine blk_drew ?_ | refine blk_alloc ?_ _)); refine blk_far ?_ NB239_244.out _; (with_reducible repeat (first | refine blk_drewN ?_ _ | refine blk_drew ?_ | refine blk_alloc ?_ _)); refine blk_far ?_ NB239_244.out _; (with_reducible repeat (first | refine blk_drewN ?_ _ | refine blk_drew ?_ | refine blk_alloc ?_ _)); exact BK239.out) hb); have n1_ := Aside0.mk (blk_below (g := gb244) (o := .cells #[.string t243, .slice none 0 0] 54 (0, 0)) (by (with_reducible repeat (first | refine blk_drewN ?_ _ | refine blk_drew ?_ | refine blk_alloc ?_ _)); refine blk_put (cs := #[.string t243, .slice none 0 0]) ?_ 1 _ rfl; (with_reducible repeat (first | refine blk_drewN ?_ _ | refine blk_drew ?_ | refine blk_alloc ?_ _)); refine blk_put (cs := #[.string (⟨#[]⟩ : ByteArray), .slice none 0 0]) ?_ 0 _ rfl; (with_reducible repeat (first | refine blk_drewN ?_ _ | refine blk_drew ?_ | refine blk_alloc ?_ _)); exact BK244.out) hb); have n2_ := Aside0.mk (below_step (by repeat (first | (with_reducible first | exact HB.out | apply below_alloc | apply pw_below_drewN | apply below_drew1 | refine below_set ?_ GE239.out | refine below_set ?_ GE244.out) | exact HB.out)) hb); clear BK239; clear BK244; clear HB; have BK239 := n0_; have BK244 := n1_; have HB := n2_; clear n0_ n1_ n2_; (try clear hb); (try clear hb2); (try clear hk); (try clear hi); have hcz63_0 : w62.cell? ⟨gb239, 0, none⟩ = some (.string (⟨#[]⟩ : ByteArray)) := (blk_cell BK239.out 0).trans rfl; have hcz63_1 : w62.cell? ⟨gb239, 1, none⟩ = some (.slice none 0 0) := (blk_cell BK239.out 1).trans rfl; have hfz63_0 := blk_frozen BK239.out 0; have hfz63_1 := blk_frozen BK239.out 1))
   refine bodyPost_ret (results_ct rfl _ _ gb239 54 #[.string (⟨#[]⟩ : ByteArray), .slice none 0 0] (0, 0) _ rfl (by (with_reducible repeat (first | refine blk_drewN ?_ _ | refine blk_drew ?_ | refine blk_alloc ?_ _)); refine blk_put (cs := #[.string (⟨#[]⟩ : ByteArray), .slice none 0 0]) ?_ 1 _ rfl; (with_reducible repeat (first | refine blk_drewN ?_ _ | refine blk_drew ?_ | refine blk_alloc ?_ _)); refine blk_put (cs := #[.string (⟨#[]⟩ : ByteArray), .slice none 0 0]) ?_ 0 _ rfl; (with_reducible repeat (first | refine blk_drewN ?_ _ | refine blk_drew ?_ | refine blk_alloc ?_ _)); exact BK239.out) Tryz.underlying54 rfl (by kernel_rfl)) rfl ?_
   exact ⟨_, by first | rfl | (simp [errW_none, errW_some] <;> rfl) | (simp [*, errW_none, errW_some] <;> rfl), by first | exact Kd.R_nil _ _ _ _ _ | exact Kd.N_nil _ _ _ _ _ | exact Kd.V_nil _ _ _ _ _ | exact Kd.Q_nil _ _ _ _ _ | exact Kd.S_nil _ _ _ _ _, by repeat (first | (with_reducible first | exact HB.out | apply below_alloc | apply pw_below_drewN | apply below_drew1 | refine below_set ?_ GE239.out | refine below_set ?_ GE244.out) | exact HB.out)⟩
 ·replace c3 := Bool.eq_false_iff.mpr c3
  subst c3
  have H1 : (some ((⟨#[]⟩ : ByteArray), ([] : List ByteArray), some 7)) = some (r1, r2, r3) := by rw [if_neg (show ¬ (false = true) by decide)] at H; exact H
  clear H
  have H := H1
  clear H1
  simp only [Option.some.injEq, Prod.mk.injEq] at H
  obtain ⟨rfl, rfl, rfl⟩ := H
  go_enter Tryz.func31, Tryz.ntmps31
  go_wp2_with (first | ((with_reducible refine gate_dst (N := 2) rfl ?_); refine box_event ?hg (N := 2) ?hd (cs := #[.string (⟨#[]⟩ : ByteArray), .slice none 0 0]) (t := 54) ?hr ?_; (case hd => rfl); (case hg => rfl); (case hr => first | (go_simp; done) | (go_simp; rfl)); intro gb239 hg w64 hbox hb; have n0_ := Aside0.mk (below_step (by repeat (first | (with_reducible first | exact HB.out | apply below_alloc | apply pw_below_drewN | apply below_drew1) | exact HB.out)) hb); have n1_ := Aside0.mk (hbox); have n2_ := Aside0.mk ((by rw [hg]; exact (below_size (by repeat (first | (with_reducible first | exact HB.out | apply below_alloc | apply pw_below_drewN | apply below_drew1) | exact HB.out))) : w.heap.size ≤ gb239)); have n3_ := Aside0.mk ((by rw [hg]; exact (below_size (by repeat (first | (with_reducible first | exact HB.out | apply below_alloc | apply pw_below_drewN | apply below_drew1) | exact HB.out))) : w.heap.size ≤ gb239)); clear HB; have HB := n0_; have BK239 := n1_; have GW239 := n2_; have GE239 := n3_; clear n0_ n1_ n2_ n3_; clear hb hbox hg) | ((with_reducible refine gate_callee (f := 43) rfl ?_); refine goesL_ (some 14) rfl rfl Tryz.func43 (by kernel_rfl) rfl #[.string a0, .string (⟨#[45, 62]⟩ : ByteArray)] rfl (by (try simp only [List.map_toArray, List.map_cons, List.map_nil]); first | done | rfl | (simp only [List.length_drop, List.length_take]; rfl)) ?_; (with_reducible refine (strings_Cut.calls a0 (⟨#[45, 62]⟩ : ByteArray) t240 t241 false _ A2.out ?sideL).mono ?_); (case sideL => first | exact HL.out | exact HL.out.below HB.out | exact HL.out.below (by repeat (first | (with_reducible first | exact HB.out | apply below_alloc | apply pw_below_drewN | apply below_drew1 | refine below_set ?_ (Aside0.out (by assumption))) | exact HB.out))); rintro e w' ⟨rfl, ⟨nd, rfl⟩⟩; refine ⟨_, rfl, ?_⟩; (try (rw [drewN_self w64]; generalize hq_ : World.drewN w64 _ = w64; have n0_ : Aside0 (w64.heap[gb239]? = some (.cells #[.string (⟨#[]⟩ : ByteArray), .slice none 0 0] 54 (0, 0))) := ⟨by rw [← hq_]; exact (by (with_reducible repeat (first | refine blk_drewN ?_ _ | refine blk_drew ?_ | refine blk_alloc ?_ _)); exact BK239.out)⟩; have n1_ : Aside0 (Below w.heap.size w w64) := ⟨by rw [← hq_]; exact (by repeat (first | (with_reducible first | exact HB.out | apply below_alloc | apply pw_below_drewN | apply below_drew1 | refine below_set ?_ GE239.out) | exact HB.out))⟩; clear BK239 HB hq_; have BK239 := n0_; have HB := n1_; clear n0_ n1_)); have hcz65_0 : w64.cell? ⟨gb239, 0, none⟩ = some (.string (⟨#[]⟩ : ByteArray)) := (blk_cell BK239.out 0).trans rfl; have hcz65_1 : w64.cell? ⟨gb239, 1, none⟩ = some (.slice none 0 0) := (blk_cell BK239.out 1).trans rfl; have hfz65_0 := blk_frozen BK239.out 0; have hfz65_1 := blk_frozen BK239.out 1))
  refine bodyPost_ret (results_ct rfl _ _ gb239 54 #[.string (⟨#[]⟩ : ByteArray), .slice none 0 0] (0, 0) _ rfl (by (with_reducible repeat (first | refine blk_drewN ?_ _ | refine blk_drew ?_ | refine blk_alloc ?_ _)); refine blk_put (cs := #[.string (⟨#[]⟩ : ByteArray), .slice none 0 0]) ?_ 1 _ rfl; (with_reducible repeat (first | refine blk_drewN ?_ _ | refine blk_drew ?_ | refine blk_alloc ?_ _)); refine blk_put (cs := #[.string (⟨#[]⟩ : ByteArray), .slice none 0 0]) ?_ 0 _ rfl; (with_reducible repeat (first | refine blk_drewN ?_ _ | refine blk_drew ?_ | refine blk_alloc ?_ _)); exact BK239.out) Tryz.underlying54 rfl (by kernel_rfl)) rfl ?_
  exact ⟨_, by first | rfl | (simp [errW_none, errW_some] <;> rfl) | (simp [*, errW_none, errW_some] <;> rfl), by first | exact Kd.R_nil _ _ _ _ _ | exact Kd.N_nil _ _ _ _ _ | exact Kd.V_nil _ _ _ _ _ | exact Kd.Q_nil _ _ _ _ _ | exact Kd.S_nil _ _ _ _ _, by repeat (first | (with_reducible first | exact HB.out | apply below_alloc | apply pw_below_drewN | apply below_drew1 | refine below_set ?_ GE239.out) | exact HB.out)⟩

/-! ### api_Fix: function 32 -/
/-- Sorted by what is mended, where no two mend the same. -/
def api_Fix.f (l0 : List S54) : Option (List S54) := if l0.length < 4611686018427387904 then (if (l0.map fun x => Go.Proofs.YtnmngglfeiifaaaGreatDoor.H.byt x.f0).Nodup then some (Go.Proofs.YtnmngglfeiifaaaGreatDoor.H.sortK (fun x => Go.Proofs.YtnmngglfeiifaaaGreatDoor.H.byt x.f0) l0) else none) else none
instance api_Fix.inh : Inhabited S54 := ⟨⟨⟨#[]⟩, []⟩⟩
set_option maxHeartbeats 4000000 in
theorem lists_Fixes_1.at (a1 a2 : ByteArray) (v1 v2 : Value) (W : World) :
    Calls Tryz.prog 33 #[.agg #[.string a1, v1], .agg #[.string a2, v2]] W fun e w' => e = .returned (.int .i64 (Lib.compareBytes (Go.Proofs.YtnmngglfeiifaaaGreatDoor.H.byt a1) (Go.Proofs.YtnmngglfeiifaaaGreatDoor.H.byt a2))) ∧ ∃ q os', w' = Go.Sort.grow (W.drewN q) os' := by
  go_enter Tryz.func33, Tryz.ntmps33
  go_wp2_with (go_at_call 34; refine (Go.Proofs.YtnmngglfeiifaaaGreatDoor.H.L.strings_Compare a1 a2 _).mono ?_; rintro e w1 ⟨rfl, rfl⟩)
  go_ret
  refine ⟨rfl, 0, #[.cells #[.string a1, v1] 54, .cells #[.string a2, v2] 54], ?_⟩
  rw [Go.Sort.alloc_eq_grow, Go.Sort.alloc_eq_grow, Go.Sort.grow_grow]
  rfl
set_option maxRecDepth 100000 in
theorem api_Fix.calls (base : Nat) (ok : Nat → Prop) (v : Value) (l0 r : List S54) (w : World) (hS : Kd.S k54 54 w base ok v l0) (h : api_Fix.f l0 = some r) :
    Calls Tryz.prog 32 #[v, .func (.func 33) #[] #[]] w fun e w' => e = .returned (.tuple #[]) ∧ Kd.S k54 54 w' base ok v r ∧ w.grownBy w' v.ownBlock := by
  unfold api_Fix.f at h
  split at h
  case isFalse => cases h
  case isTrue hl =>
  split at h
  case isFalse => cases h
  case isTrue hn =>
  obtain rfl := Option.some.inj h
  have eg : ∀ args w, (callFunc 33 args).run Tryz.prog w = .ok (.enter 33 args) w := enters_of Tryz.func33 (by kernel_rfl) rfl
  refine Go.Proofs.YtnmngglfeiifaaaGreatDoor.H.sortF_at k54 (fun x => x.f0) rfl ?_ 33 eg lists_Fixes_1.at w base ok v l0 hS hl hn
  intro w base ok x cs hM
  obtain ⟨v1, rfl, hR⟩ := k54_openM hM
  obtain ⟨A, c, rfl⟩ := Kd.R_slice hR
  exact ⟨A, _, c, rfl⟩

-- NOT PRINTED: function 103 (bytealg_abigen_runtime_cmpstring)

/-! ### bytealg_CompareString: function 57 -/
/-- A map is made (told as a call). -/
def bytealg_CompareString.f : Option (List ByteArray) := some []

/-! ### strings_Compare: function 34 -/
/-- A word is looked up (told as a call). -/
def strings_Compare.f (l0 : List ByteArray) (a1 : ByteArray) : Option Bool := if a1.size ≤ 140737488351232 then some (Go.Proofs.YtnmngglfeiifaaaGreatDoor.H.hasW l0 a1) else none

/-! ### lists_Fixes_1: function 33 -/
/-- A word is stored (told as a call). -/
def lists_Fixes_1.f (l0 : List ByteArray) (a1 : ByteArray) : Option (List ByteArray) := if l0.length < 1000000000000 then (if a1.size ≤ 140737488351232 then some (l0 ++ [a1]) else none) else none

end Go.Proofs.YtnmngglfeiifaaaGreatDoor.PListsLine
