-- x
import Derived.Test.YtkflgnhcfhmkdaaDoorPPragmaReadsx0
import Derived.Test.YtkflgnhcfhmkdaaDoorPPragmaReadsx9
namespace Go.Proofs.YtkflgnhcfhmkdaaDoor.PPragmaReads
open Go.RowKit Go.Proofs.YtkflgnhcfhmkdaaDoor.X Go.Proofs.YtkflgnhcfhmkdaaDoorW.PrintWords Go.Proofs.YtkflgnhcfhmkdaaDoorW.PrintLast Go.Proofs.YtkflgnhcfhmkdaaDoorW.PrintMore
attribute [local go_sem] max2_int min2_int max_two min_two max_three min_three max_four min_four   -- for this text's walks alone
set_option linter.unusedVariables false
set_option linter.unusedSimpArgs false
def redpenref06_Check.l0 : Nat → List Int → Int → Option (Int)
 | 0, _, _ => none
 | k + 1, x3, x4 => if x4 < (x3.length : Int) then (if 0 ≤ x4 then ((redpenref01_Letter.f (rd x3 x4)).bind fun t305 => (if t305 = true then (redpenref06_Check.l0 k x3 (wrap64 (x4 + 1))) else (if (rd x3 x4) = 39 then (if x4 > 0 then (if (wrap64 (x4 + 1)) < (x3.length : Int) then (if 0 ≤ (wrap64 (x4 - 1)) then (if (wrap64 (x4 - 1)) < (x3.length : Int) then ((redpenref01_Letter.f (rd x3 (wrap64 (x4 - 1)))).bind fun t308 => (if t308 = true then (if 0 ≤ (wrap64 (x4 + 1)) then ((redpenref01_Letter.f (rd x3 (wrap64 (x4 + 1)))).bind fun t310 => (if t310 = true then (redpenref06_Check.l0 k x3 (wrap64 (x4 + 1))) else (some 5))) else (none)) else (some 5))) else (none)) else (none)) else (some 5)) else (some 5)) else (some 5)))) else (none)) else (if (x3.length : Int) = 0 then (some 5) else (some 0))
def redpenref06_Check.f (k : Nat) (a0 : ByteArray) : Option (Int) := if (a0.size : Int) > 64 then (some 3) else ((redpenref01_Runes.f k a0).bind fun t301 => (redpenref06_Check.l0 k t301 0))
theorem redpenref06_Check.mono_l : ∀ k, (∀ y0 y1, LeO (redpenref06_Check.l0 k y0 y1) (redpenref06_Check.l0 (k + 1) y0 y1))
 | 0 => fun _ _ r h => by simp [redpenref06_Check.l0] at h
 | k + 1 => by
  have ih0 := redpenref06_Check.mono_l k
  ·intro y0 y1
   unfold redpenref06_Check.l0
   repeat' first
   | (with_reducible exact ih0 _ _)
   | (with_reducible exact redpenref01_Runes.mono _ _)
   | (with_reducible exact LeO.refl _)
   | (with_reducible exact LeO.none _)
   | (with_reducible refine LeO.ite ?_ ?_)
   | (with_reducible refine LeO.bind ?_ (fun _ => ?_))
theorem redpenref06_Check.mono : ∀ a0 k, LeO (redpenref06_Check.f k a0) (redpenref06_Check.f (k + 1) a0) := by
 intro a0 k
 have ih0 := redpenref06_Check.mono_l k
 unfold redpenref06_Check.f
 repeat' first
   | (with_reducible exact ih0 _ _)
   | (with_reducible exact redpenref01_Runes.mono _ _)
   | (with_reducible exact LeO.refl _)
   | (with_reducible exact LeO.none _)
   | (with_reducible refine LeO.ite ?_ ?_)
   | (with_reducible refine LeO.bind ?_ (fun _ => ?_))
set_option maxHeartbeats 8000000 in
set_option maxRecDepth 100000 in
theorem redpenref06_Check.calls (k : Nat) (a0 : ByteArray) (r : Int) (w : World) (h : redpenref06_Check.f k a0 = some r) :
  Calls Tryd.prog 35 #[.string a0] w fun e w' => e = .returned (.int .i64 r) ∧ Below w.heap.size w w' := by
 have HB := Aside0.mk (Below.refl w.heap.size w)
 have H : (if (a0.size : Int) > 64 then (some 3) else ((redpenref01_Runes.f k a0).bind fun t301 => (redpenref06_Check.l0 k t301 0))) = some r := h
 clear h
 by_cases c2 : (a0.size : Int) > 64
 ·rw [if_pos c2] at H
  have c2b0 : decide (64 < (a0.size : Int)) = true := decide_eq_true c2
  have c2b1 : decide (64 < a0.size) = true := decide_eq_true (by omega)
  clear c2
  obtain rfl := Option.some.inj H
  go_enter Tryd.func35, Tryd.ntmps35
  go_wp2
  go_ret
  exact ⟨by first | rfl | (simp [errW_none, errW_some] <;> rfl) | (simp [*, errW_none, errW_some] <;> rfl), by repeat (first | (with_reducible first | exact HB.out | apply below_alloc | apply pw_below_drewN | apply below_drew1) | exact HB.out)⟩
 ·rw [if_neg c2] at H
  have c2b0 : decide (64 < (a0.size : Int)) = false := decide_eq_false c2
  have c2b1 : decide (64 < a0.size) = false := decide_eq_false (by omega)
  clear c2
  replace H := Option.bind_eq_some_iff.mp H
  obtain ⟨t301, A30, H⟩ := H
  replace H : (redpenref06_Check.l0 k t301 0) = some r := H
  have A3 := Aside0.mk A30
  clear A30
  have H' := Aside0.mk H
  clear H
  go_enter Tryd.func35, Tryd.ntmps35
  go_wp2_with (first | ((with_reducible refine gate_callee (f := 39) rfl ?_); refine goesL_ (some 9) rfl rfl Tryd.func39 (by kernel_rfl) rfl #[.string a0] rfl (by (try simp only [List.map_toArray, List.map_cons, List.map_nil]); first | done | rfl | (simp only [List.length_drop, List.length_take]; rfl)) ?_; (with_reducible refine (redpenref01_Runes.calls k a0 t301 _ A3.out).mono ?_); rintro e w4 ⟨v302, rfl, ho0, hb⟩; refine ⟨_, rfl, ?_⟩; have n0_ := Aside0.mk (Kd.R_lower ho0 (below_size (by repeat (first | (with_reducible first | exact HB.out | apply below_alloc | apply pw_below_drewN | apply below_drew1) | exact HB.out)))); have n1_ := Aside0.mk (below_step (by repeat (first | (with_reducible first | exact HB.out | apply below_alloc | apply pw_below_drewN | apply below_drew1) | exact HB.out)) hb); clear HB; have HO303 := n0_; have HB := n1_; clear n0_ n1_; (try clear hb); (try clear hb2); (try clear hk); (try clear hi); (try clear ho0)))
  go_loopg [4] k (fun kq v4 w' => ∃ (x4_1 : Int), v4 = .int .i64 x4_1 ∧ Aside0 (redpenref06_Check.l0 kq t301 x4_1 = some r) ∧ Aside0 (kq ≤ k) ∧ Aside0 (Kd.R (Kd.int .i32) 21 w' w.heap.size (fun _ => True) v302 t301) ∧ Aside0 (Below w.heap.size w w'))
  case atStart => exact ⟨(0), (by first | rfl | (simp; done) | (simp [*]; done) | (simp [wrap64, wrap32]; done)), H', ⟨Nat.le_refl _⟩, ⟨by (with_reducible repeat (first | apply Kd.R_alloc | apply Kd.R_drewN | apply Kd.R_drew)); exact HO303.out⟩, ⟨by repeat (first | (with_reducible first | exact HB.out | apply below_alloc | apply pw_below_drewN | apply below_drew1) | exact HB.out)⟩⟩
  case round =>
   clear H'
   (try clear c2); (try clear c2b0); (try clear c2b1); (try clear p2); (try clear c3)
   obtain ⟨x4_1, rfl, HA, HK1, HO_3, HB⟩ := hrel
   cases gk with
   | zero => exact absurd HA.out (by simp [redpenref06_Check.l0])
   | succ k1 =>
    have H := HA.out
    clear HA
    simp only [redpenref06_Check.l0] at H
    by_cases c5 : x4_1 < (t301.length : Int)
    ·rw [if_pos c5] at H
     have c5b0 : decide (x4_1 < (t301.length : Int)) = true := decide_eq_true c5
     clear c5
     by_cases c6 : 0 ≤ x4_1
     ·rw [if_pos c6] at H
      have c6b0 : decide (0 ≤ x4_1) = true := decide_eq_true c6
      clear c6
      replace H := Option.bind_eq_some_iff.mp H
      obtain ⟨t305, A70, H⟩ := H
      replace H : (if t305 = true then (redpenref06_Check.l0 k1 t301 (wrap64 (x4_1 + 1))) else (if (rd t301 x4_1) = 39 then (if x4_1 > 0 then (if (wrap64 (x4_1 + 1)) < (t301.length : Int) then (if 0 ≤ (wrap64 (x4_1 - 1)) then (if (wrap64 (x4_1 - 1)) < (t301.length : Int) then ((redpenref01_Letter.f (rd t301 (wrap64 (x4_1 - 1)))).bind fun t308 => (if t308 = true then (if 0 ≤ (wrap64 (x4_1 + 1)) then ((redpenref01_Letter.f (rd t301 (wrap64 (x4_1 + 1)))).bind fun t310 => (if t310 = true then (redpenref06_Check.l0 k1 t301 (wrap64 (x4_1 + 1))) else (some 5))) else (none)) else (some 5))) else (none)) else (none)) else (some 5)) else (some 5)) else (some 5))) = some r := H
      have A7 := Aside0.mk A70
      clear A70
      by_cases c8 : t305 = true
      ·subst c8
       have H1 : (redpenref06_Check.l0 k1 t301 (wrap64 (x4_1 + 1))) = some r := by rw [if_pos rfl] at H; exact H
       clear H
       have H := H1
       clear H1
       have H' := Aside0.mk H
       clear H
       obtain ⟨Ao9, co9, eo9⟩ := Kd.R_slice HO_3.out
       subst eo9
       have p304 : 0 ≤ (x4_1 : Int) := of_decide_eq_true (by first | (with_reducible assumption) | assumption)
       have q304 : x4_1 < (t301.length : Int) := of_decide_eq_true (by first | (with_reducible assumption) | assumption)
       obtain ⟨ad304, e304, hx304_0⟩ := Kd.at_int (Kd.R_reads' HO_3.out).2.2 x4_1 p304 q304
       cases e304
       replace p304 := eq_true p304
       replace q304 := eq_true q304
       go_wp2_with (first | ((with_reducible refine gate_callee (f := 34) rfl ?_); refine goesL_ (some 20) rfl rfl Tryd.func34 (by kernel_rfl) rfl #[.int .i32 (rd t301 x4_1)] rfl (by (try simp only [List.map_toArray, List.map_cons, List.map_nil]); first | done | rfl | (simp only [List.length_drop, List.length_take]; rfl)) ?_; (with_reducible refine (redpenref01_Letter.calls (rd t301 x4_1) true _ A7.out).mono ?_); rintro e w' ⟨rfl, ⟨nd, rfl⟩⟩; refine ⟨_, rfl, ?_⟩))
       go_roundg k1
       case measure => have := HK1.out; omega
       case rel => exact ⟨(wrap64 (x4_1 + 1)), (by first | rfl | (simp; done) | (simp [*]; done) | (simp [wrap64, wrap32]; done)), H', ⟨by have := HK1.out; omega⟩, ⟨by (with_reducible repeat (first | apply Kd.R_alloc | apply Kd.R_drewN | apply Kd.R_drew)); exact HO_3.out⟩, ⟨by repeat (first | (with_reducible first | exact HB.out | apply below_alloc | apply pw_below_drewN | apply below_drew1) | exact HB.out)⟩⟩
      ·replace c8 := Bool.eq_false_iff.mpr c8
       subst c8
       have H1 : (if (rd t301 x4_1) = 39 then (if x4_1 > 0 then (if (wrap64 (x4_1 + 1)) < (t301.length : Int) then (if 0 ≤ (wrap64 (x4_1 - 1)) then (if (wrap64 (x4_1 - 1)) < (t301.length : Int) then ((redpenref01_Letter.f (rd t301 (wrap64 (x4_1 - 1)))).bind fun t308 => (if t308 = true then (if 0 ≤ (wrap64 (x4_1 + 1)) then ((redpenref01_Letter.f (rd t301 (wrap64 (x4_1 + 1)))).bind fun t310 => (if t310 = true then (redpenref06_Check.l0 k1 t301 (wrap64 (x4_1 + 1))) else (some 5))) else (none)) else (some 5))) else (none)) else (none)) else (some 5)) else (some 5)) else (some 5)) = some r := by rw [if_neg (show ¬ (false = true) by decide)] at H; exact H
       clear H
       have H := H1
       clear H1
       by_cases c10 : (rd t301 x4_1) = 39
       ·rw [if_pos c10] at H
        have c10b0 : ((rd t301 x4_1) == 39) = true := beq_iff_eq.mpr c10
        have c10b1 : ((rd t301 x4_1) != 39) = false := bne_eq_false_iff_eq.mpr c10
        clear c10
        by_cases c11 : x4_1 > 0
        ·rw [if_pos c11] at H
         have c11b0 : decide (0 < x4_1) = true := decide_eq_true c11
         clear c11
         by_cases c12 : (wrap64 (x4_1 + 1)) < (t301.length : Int)
         ·rw [if_pos c12] at H
          have c12b0 : decide ((wrap64 (x4_1 + 1)) < (t301.length : Int)) = true := decide_eq_true c12
          clear c12
          obtain ⟨ji13, hji13⟩ : ∃ j_ : Int, (wrap64 (x4_1 - 1)) = j_ := ⟨_, rfl⟩
          replace H : (if 0 ≤ (ji13) then (if (ji13) < (t301.length : Int) then ((redpenref01_Letter.f (rd t301 (ji13))).bind fun t308 => (if t308 = true then (if 0 ≤ (wrap64 (x4_1 + 1)) then ((redpenref01_Letter.f (rd t301 (wrap64 (x4_1 + 1)))).bind fun t310 => (if t310 = true then (redpenref06_Check.l0 k1 t301 (wrap64 (x4_1 + 1))) else (some 5))) else (none)) else (some 5))) else (none)) else (none)) = some r := by first | (rw [hji13] at H; exact H) | (simp only [hji13] at H ⊢; exact H)
          (try rw [hji13] at A7)
          have hji13w : (IntKind.i64.wrap (x4_1 - 1)) = ji13 := (i64_w _).trans hji13
          by_cases c14 : 0 ≤ (ji13)
          ·rw [if_pos c14] at H
           have c14b0 : decide (0 ≤ (ji13)) = true := decide_eq_true c14
           clear c14
           by_cases c15 : (ji13) < (t301.length : Int)
           ·rw [if_pos c15] at H
            have c15b0 : decide ((ji13) < (t301.length : Int)) = true := decide_eq_true c15
            clear c15
            replace H := Option.bind_eq_some_iff.mp H
            obtain ⟨t308, A160, H⟩ := H
            replace H : (if t308 = true then (if 0 ≤ (wrap64 (x4_1 + 1)) then ((redpenref01_Letter.f (rd t301 (wrap64 (x4_1 + 1)))).bind fun t310 => (if t310 = true then (redpenref06_Check.l0 k1 t301 (wrap64 (x4_1 + 1))) else (some 5))) else (none)) else (some 5)) = some r := H
            have A16 := Aside0.mk A160
            clear A160
            by_cases c17 : t308 = true
            ·subst c17
             have H1 : (if 0 ≤ (wrap64 (x4_1 + 1)) then ((redpenref01_Letter.f (rd t301 (wrap64 (x4_1 + 1)))).bind fun t310 => (if t310 = true then (redpenref06_Check.l0 k1 t301 (wrap64 (x4_1 + 1))) else (some 5))) else (none)) = some r := by rw [if_pos rfl] at H; exact H
             clear H
             have H := H1
             clear H1
             obtain ⟨ji18, hji18⟩ : ∃ j_ : Int, (wrap64 (x4_1 + 1)) = j_ := ⟨_, rfl⟩
             replace H : (if 0 ≤ (ji18) then ((redpenref01_Letter.f (rd t301 (ji18))).bind fun t310 => (if t310 = true then (redpenref06_Check.l0 k1 t301 ji18) else (some 5))) else (none)) = some r := by first | (rw [hji18] at H; exact H) | (simp only [hji18] at H ⊢; exact H)
             (try rw [hji18] at c12b0)
             (try rw [hji18] at A7)
             (try rw [hji18] at A16)
             have hji18w : (IntKind.i64.wrap (x4_1 + 1)) = ji18 := (i64_w _).trans hji18
             by_cases c19 : 0 ≤ (ji18)
             ·rw [if_pos c19] at H
              have c19b0 : decide (0 ≤ (ji18)) = true := decide_eq_true c19
              clear c19
              replace H := Option.bind_eq_some_iff.mp H
              obtain ⟨t310, A200, H⟩ := H
              replace H : (if t310 = true then (redpenref06_Check.l0 k1 t301 ji18) else (some 5)) = some r := H
              have A20 := Aside0.mk A200
              clear A200
              by_cases c21 : t310 = true
              ·subst c21
               have H1 : (redpenref06_Check.l0 k1 t301 ji18) = some r := by rw [if_pos rfl] at H; exact H
               clear H
               have H := H1
               clear H1
               have H' := Aside0.mk H
               clear H
               obtain ⟨Ao22, co22, eo22⟩ := Kd.R_slice HO_3.out
               subst eo22
               have p304 : 0 ≤ (x4_1 : Int) := of_decide_eq_true (by first | (with_reducible assumption) | assumption)
               have q304 : x4_1 < (t301.length : Int) := of_decide_eq_true (by first | (with_reducible assumption) | assumption)
               obtain ⟨ad304, e304, hx304_0⟩ := Kd.at_int (Kd.R_reads' HO_3.out).2.2 x4_1 p304 q304
               cases e304
               replace p304 := eq_true p304
               replace q304 := eq_true q304
               go_wp2_with (first | ((with_reducible refine gate_callee (f := 34) rfl ?_); refine goesL_ (some 20) rfl rfl Tryd.func34 (by kernel_rfl) rfl #[.int .i32 (rd t301 x4_1)] rfl (by (try simp only [List.map_toArray, List.map_cons, List.map_nil]); first | done | rfl | (simp only [List.length_drop, List.length_take]; rfl)) ?_; (with_reducible refine (redpenref01_Letter.calls (rd t301 x4_1) false _ A7.out).mono ?_); rintro e w' ⟨rfl, ⟨nd, rfl⟩⟩; refine ⟨_, rfl, ?_⟩; have p306 : 0 ≤ (x4_1 : Int) := of_decide_eq_true (by first | (with_reducible assumption) | assumption); have q306 : x4_1 < (t301.length : Int) := of_decide_eq_true (by first | (with_reducible assumption) | assumption); obtain ⟨ad306, e306, hx306_0⟩ := Kd.at_int (Kd.R_reads' HO_3.out).2.2 x4_1 p306 q306; obtain rfl : ad304 = ad306 := (by injection e306); replace p306 := eq_true p306; replace q306 := eq_true q306; have p307 : 0 ≤ ((ji13) : Int) := of_decide_eq_true (by first | (with_reducible assumption) | assumption); have q307 : (ji13) < (t301.length : Int) := of_decide_eq_true (by first | (with_reducible assumption) | assumption); obtain ⟨ad307, e307, hx307_0⟩ := Kd.at_int (Kd.R_reads' HO_3.out).2.2 (ji13) p307 q307; obtain rfl : ad304 = ad307 := (by injection e307); replace p307 := eq_true p307; replace q307 := eq_true q307) | (go_at_call 34; (with_reducible refine (redpenref01_Letter.calls (rd t301 (ji13)) true _ A16.out).mono ?_); rintro e w' ⟨rfl, ⟨nd, rfl⟩⟩; have p309 : 0 ≤ ((ji18) : Int) := of_decide_eq_true (by first | (with_reducible assumption) | assumption); have q309 : (ji18) < (t301.length : Int) := of_decide_eq_true (by first | (with_reducible assumption) | assumption); obtain ⟨ad309, e309, hx309_0⟩ := Kd.at_int (Kd.R_reads' HO_3.out).2.2 (ji18) p309 q309; obtain rfl : ad304 = ad309 := (by injection e309); replace p309 := eq_true p309; replace q309 := eq_true q309) | (go_at_call 34; (with_reducible refine (redpenref01_Letter.calls (rd t301 (ji18)) true _ A20.out).mono ?_); rintro e w' ⟨rfl, ⟨nd, rfl⟩⟩))
               go_roundg k1
               case measure => have := HK1.out; omega
               case rel => exact ⟨(ji18), (by first | rfl | (simp; done) | (simp only [← hji18] <;> (first | rfl | simp)) | (simp [*]; done)), (by first | exact H' | (rw [hji18]; exact H') | (simp only [hji18]; exact H')), ⟨by have := HK1.out; omega⟩, ⟨by (with_reducible repeat (first | apply Kd.R_alloc | apply Kd.R_drewN | apply Kd.R_drew)); exact HO_3.out⟩, ⟨by repeat (first | (with_reducible first | exact HB.out | apply below_alloc | apply pw_below_drewN | apply below_drew1) | exact HB.out)⟩⟩
              ·replace c21 := Bool.eq_false_iff.mpr c21
               subst c21
               have H1 : (some 5) = some r := by rw [if_neg (show ¬ (false = true) by decide)] at H; exact H
               clear H
               have H := H1
               clear H1
               obtain rfl := Option.some.inj H
               obtain ⟨Ao23, co23, eo23⟩ := Kd.R_slice HO_3.out
               subst eo23
               have p304 : 0 ≤ (x4_1 : Int) := of_decide_eq_true (by first | (with_reducible assumption) | assumption)
               have q304 : x4_1 < (t301.length : Int) := of_decide_eq_true (by first | (with_reducible assumption) | assumption)
               obtain ⟨ad304, e304, hx304_0⟩ := Kd.at_int (Kd.R_reads' HO_3.out).2.2 x4_1 p304 q304
               cases e304
               replace p304 := eq_true p304
               replace q304 := eq_true q304
               go_wp2_with (first | ((with_reducible refine gate_callee (f := 34) rfl ?_); refine goesL_ (some 20) rfl rfl Tryd.func34 (by kernel_rfl) rfl #[.int .i32 (rd t301 x4_1)] rfl (by (try simp only [List.map_toArray, List.map_cons, List.map_nil]); first | done | rfl | (simp only [List.length_drop, List.length_take]; rfl)) ?_; (with_reducible refine (redpenref01_Letter.calls (rd t301 x4_1) false _ A7.out).mono ?_); rintro e w' ⟨rfl, ⟨nd, rfl⟩⟩; refine ⟨_, rfl, ?_⟩; have p306 : 0 ≤ (x4_1 : Int) := of_decide_eq_true (by first | (with_reducible assumption) | assumption); have q306 : x4_1 < (t301.length : Int) := of_decide_eq_true (by first | (with_reducible assumption) | assumption); obtain ⟨ad306, e306, hx306_0⟩ := Kd.at_int (Kd.R_reads' HO_3.out).2.2 x4_1 p306 q306; obtain rfl : ad304 = ad306 := (by injection e306); replace p306 := eq_true p306; replace q306 := eq_true q306; have p307 : 0 ≤ ((ji13) : Int) := of_decide_eq_true (by first | (with_reducible assumption) | assumption); have q307 : (ji13) < (t301.length : Int) := of_decide_eq_true (by first | (with_reducible assumption) | assumption); obtain ⟨ad307, e307, hx307_0⟩ := Kd.at_int (Kd.R_reads' HO_3.out).2.2 (ji13) p307 q307; obtain rfl : ad304 = ad307 := (by injection e307); replace p307 := eq_true p307; replace q307 := eq_true q307) | (go_at_call 34; (with_reducible refine (redpenref01_Letter.calls (rd t301 (ji13)) true _ A16.out).mono ?_); rintro e w' ⟨rfl, ⟨nd, rfl⟩⟩; have p309 : 0 ≤ ((ji18) : Int) := of_decide_eq_true (by first | (with_reducible assumption) | assumption); have q309 : (ji18) < (t301.length : Int) := of_decide_eq_true (by first | (with_reducible assumption) | assumption); obtain ⟨ad309, e309, hx309_0⟩ := Kd.at_int (Kd.R_reads' HO_3.out).2.2 (ji18) p309 q309; obtain rfl : ad304 = ad309 := (by injection e309); replace p309 := eq_true p309; replace q309 := eq_true q309) | (go_at_call 34; (with_reducible refine (redpenref01_Letter.calls (rd t301 (ji18)) false _ A20.out).mono ?_); rintro e w' ⟨rfl, ⟨nd, rfl⟩⟩))
               go_ret
               exact ⟨by first | rfl | (simp [errW_none, errW_some] <;> rfl) | (simp only [← hji13, ← hji18]; first | rfl | (simp [errW_none, errW_some] <;> rfl)) | (simp [*, errW_none, errW_some] <;> rfl), by repeat (first | (with_reducible first | exact HB.out | apply below_alloc | apply pw_below_drewN | apply below_drew1) | exact HB.out)⟩
             ·rw [if_neg c19] at H
              exact absurd H (by simp)
            ·replace c17 := Bool.eq_false_iff.mpr c17
             subst c17
             have H1 : (some 5) = some r := by rw [if_neg (show ¬ (false = true) by decide)] at H; exact H
             clear H
             have H := H1
             clear H1
             obtain rfl := Option.some.inj H
             obtain ⟨Ao24, co24, eo24⟩ := Kd.R_slice HO_3.out
             subst eo24
             have p304 : 0 ≤ (x4_1 : Int) := of_decide_eq_true (by first | (with_reducible assumption) | assumption)
             have q304 : x4_1 < (t301.length : Int) := of_decide_eq_true (by first | (with_reducible assumption) | assumption)
             obtain ⟨ad304, e304, hx304_0⟩ := Kd.at_int (Kd.R_reads' HO_3.out).2.2 x4_1 p304 q304
             cases e304
             replace p304 := eq_true p304
             replace q304 := eq_true q304
             go_wp2_with (first | ((with_reducible refine gate_callee (f := 34) rfl ?_); refine goesL_ (some 20) rfl rfl Tryd.func34 (by kernel_rfl) rfl #[.int .i32 (rd t301 x4_1)] rfl (by (try simp only [List.map_toArray, List.map_cons, List.map_nil]); first | done | rfl | (simp only [List.length_drop, List.length_take]; rfl)) ?_; (with_reducible refine (redpenref01_Letter.calls (rd t301 x4_1) false _ A7.out).mono ?_); rintro e w' ⟨rfl, ⟨nd, rfl⟩⟩; refine ⟨_, rfl, ?_⟩; have p306 : 0 ≤ (x4_1 : Int) := of_decide_eq_true (by first | (with_reducible assumption) | assumption); have q306 : x4_1 < (t301.length : Int) := of_decide_eq_true (by first | (with_reducible assumption) | assumption); obtain ⟨ad306, e306, hx306_0⟩ := Kd.at_int (Kd.R_reads' HO_3.out).2.2 x4_1 p306 q306; obtain rfl : ad304 = ad306 := (by injection e306); replace p306 := eq_true p306; replace q306 := eq_true q306; have p307 : 0 ≤ ((ji13) : Int) := of_decide_eq_true (by first | (with_reducible assumption) | assumption); have q307 : (ji13) < (t301.length : Int) := of_decide_eq_true (by first | (with_reducible assumption) | assumption); obtain ⟨ad307, e307, hx307_0⟩ := Kd.at_int (Kd.R_reads' HO_3.out).2.2 (ji13) p307 q307; obtain rfl : ad304 = ad307 := (by injection e307); replace p307 := eq_true p307; replace q307 := eq_true q307) | (go_at_call 34; (with_reducible refine (redpenref01_Letter.calls (rd t301 (ji13)) false _ A16.out).mono ?_); rintro e w' ⟨rfl, ⟨nd, rfl⟩⟩))
             go_ret
             exact ⟨by first | rfl | (simp [errW_none, errW_some] <;> rfl) | (simp only [← hji13]; first | rfl | (simp [errW_none, errW_some] <;> rfl)) | (simp [*, errW_none, errW_some] <;> rfl), by repeat (first | (with_reducible first | exact HB.out | apply below_alloc | apply pw_below_drewN | apply below_drew1) | exact HB.out)⟩
           ·rw [if_neg c15] at H
            exact absurd H (by simp)
          ·rw [if_neg c14] at H
           exact absurd H (by simp)
         ·rw [if_neg c12] at H
          have c12b0 : decide ((wrap64 (x4_1 + 1)) < (t301.length : Int)) = false := decide_eq_false c12
          clear c12
          obtain rfl := Option.some.inj H
          obtain ⟨Ao25, co25, eo25⟩ := Kd.R_slice HO_3.out
          subst eo25
          have p304 : 0 ≤ (x4_1 : Int) := of_decide_eq_true (by first | (with_reducible assumption) | assumption)
          have q304 : x4_1 < (t301.length : Int) := of_decide_eq_true (by first | (with_reducible assumption) | assumption)
          obtain ⟨ad304, e304, hx304_0⟩ := Kd.at_int (Kd.R_reads' HO_3.out).2.2 x4_1 p304 q304
          cases e304
          replace p304 := eq_true p304
          replace q304 := eq_true q304
          go_wp2_with (first | ((with_reducible refine gate_callee (f := 34) rfl ?_); refine goesL_ (some 20) rfl rfl Tryd.func34 (by kernel_rfl) rfl #[.int .i32 (rd t301 x4_1)] rfl (by (try simp only [List.map_toArray, List.map_cons, List.map_nil]); first | done | rfl | (simp only [List.length_drop, List.length_take]; rfl)) ?_; (with_reducible refine (redpenref01_Letter.calls (rd t301 x4_1) false _ A7.out).mono ?_); rintro e w' ⟨rfl, ⟨nd, rfl⟩⟩; refine ⟨_, rfl, ?_⟩; have p306 : 0 ≤ (x4_1 : Int) := of_decide_eq_true (by first | (with_reducible assumption) | assumption); have q306 : x4_1 < (t301.length : Int) := of_decide_eq_true (by first | (with_reducible assumption) | assumption); obtain ⟨ad306, e306, hx306_0⟩ := Kd.at_int (Kd.R_reads' HO_3.out).2.2 x4_1 p306 q306; obtain rfl : ad304 = ad306 := (by injection e306); replace p306 := eq_true p306; replace q306 := eq_true q306))
          go_ret
          exact ⟨by first | rfl | (simp [errW_none, errW_some] <;> rfl) | (simp [*, errW_none, errW_some] <;> rfl), by repeat (first | (with_reducible first | exact HB.out | apply below_alloc | apply pw_below_drewN | apply below_drew1) | exact HB.out)⟩
        ·rw [if_neg c11] at H
         have c11b0 : decide (0 < x4_1) = false := decide_eq_false c11
         clear c11
         obtain rfl := Option.some.inj H
         obtain ⟨Ao26, co26, eo26⟩ := Kd.R_slice HO_3.out
         subst eo26
         have p304 : 0 ≤ (x4_1 : Int) := of_decide_eq_true (by first | (with_reducible assumption) | assumption)
         have q304 : x4_1 < (t301.length : Int) := of_decide_eq_true (by first | (with_reducible assumption) | assumption)
         obtain ⟨ad304, e304, hx304_0⟩ := Kd.at_int (Kd.R_reads' HO_3.out).2.2 x4_1 p304 q304
         cases e304
         replace p304 := eq_true p304
         replace q304 := eq_true q304
         go_wp2_with (first | ((with_reducible refine gate_callee (f := 34) rfl ?_); refine goesL_ (some 20) rfl rfl Tryd.func34 (by kernel_rfl) rfl #[.int .i32 (rd t301 x4_1)] rfl (by (try simp only [List.map_toArray, List.map_cons, List.map_nil]); first | done | rfl | (simp only [List.length_drop, List.length_take]; rfl)) ?_; (with_reducible refine (redpenref01_Letter.calls (rd t301 x4_1) false _ A7.out).mono ?_); rintro e w' ⟨rfl, ⟨nd, rfl⟩⟩; refine ⟨_, rfl, ?_⟩; have p306 : 0 ≤ (x4_1 : Int) := of_decide_eq_true (by first | (with_reducible assumption) | assumption); have q306 : x4_1 < (t301.length : Int) := of_decide_eq_true (by first | (with_reducible assumption) | assumption); obtain ⟨ad306, e306, hx306_0⟩ := Kd.at_int (Kd.R_reads' HO_3.out).2.2 x4_1 p306 q306; obtain rfl : ad304 = ad306 := (by injection e306); replace p306 := eq_true p306; replace q306 := eq_true q306))
         go_ret
         exact ⟨by first | rfl | (simp [errW_none, errW_some] <;> rfl) | (simp [*, errW_none, errW_some] <;> rfl), by repeat (first | (with_reducible first | exact HB.out | apply below_alloc | apply pw_below_drewN | apply below_drew1) | exact HB.out)⟩
       ·rw [if_neg c10] at H
        have c10b0 : ((rd t301 x4_1) == 39) = false := beq_eq_false_iff_ne.mpr c10
        have c10b1 : ((rd t301 x4_1) != 39) = true := bne_iff_ne.mpr c10
        obtain rfl := Option.some.inj H
        obtain ⟨Ao27, co27, eo27⟩ := Kd.R_slice HO_3.out
        subst eo27
        have p304 : 0 ≤ (x4_1 : Int) := of_decide_eq_true (by first | (with_reducible assumption) | assumption)
        have q304 : x4_1 < (t301.length : Int) := of_decide_eq_true (by first | (with_reducible assumption) | assumption)
        obtain ⟨ad304, e304, hx304_0⟩ := Kd.at_int (Kd.R_reads' HO_3.out).2.2 x4_1 p304 q304
        cases e304
        replace p304 := eq_true p304
        replace q304 := eq_true q304
        go_wp2_with (first | ((with_reducible refine gate_callee (f := 34) rfl ?_); refine goesL_ (some 20) rfl rfl Tryd.func34 (by kernel_rfl) rfl #[.int .i32 (rd t301 x4_1)] rfl (by (try simp only [List.map_toArray, List.map_cons, List.map_nil]); first | done | rfl | (simp only [List.length_drop, List.length_take]; rfl)) ?_; (with_reducible refine (redpenref01_Letter.calls (rd t301 x4_1) false _ A7.out).mono ?_); rintro e w' ⟨rfl, ⟨nd, rfl⟩⟩; refine ⟨_, rfl, ?_⟩; have p306 : 0 ≤ (x4_1 : Int) := of_decide_eq_true (by first | (with_reducible assumption) | assumption); have q306 : x4_1 < (t301.length : Int) := of_decide_eq_true (by first | (with_reducible assumption) | assumption); obtain ⟨ad306, e306, hx306_0⟩ := Kd.at_int (Kd.R_reads' HO_3.out).2.2 x4_1 p306 q306; obtain rfl : ad304 = ad306 := (by injection e306); replace p306 := eq_true p306; replace q306 := eq_true q306))
        go_ret
        exact ⟨by first | rfl | (simp [errW_none, errW_some] <;> rfl) | (simp [*, errW_none, errW_some] <;> rfl), by repeat (first | (with_reducible first | exact HB.out | apply below_alloc | apply pw_below_drewN | apply below_drew1) | exact HB.out)⟩
     ·rw [if_neg c6] at H
      exact absurd H (by simp)
    ·rw [if_neg c5] at H
     have c5b0 : decide (x4_1 < (t301.length : Int)) = false := decide_eq_false c5
     clear c5
     by_cases c28 : (t301.length : Int) = 0
     ·rw [if_pos c28] at H
      have c28b0 : ((t301.length : Int) == 0) = true := beq_iff_eq.mpr c28
      have c28b1 : ((t301.length : Int) != 0) = false := bne_eq_false_iff_eq.mpr c28
      clear c28
      obtain rfl := Option.some.inj H
      obtain ⟨Ao29, co29, eo29⟩ := Kd.R_slice HO_3.out
      subst eo29
      go_wp2
      go_ret
      exact ⟨by first | rfl | (simp [errW_none, errW_some] <;> rfl) | (simp [*, errW_none, errW_some] <;> rfl), by repeat (first | (with_reducible first | exact HB.out | apply below_alloc | apply pw_below_drewN | apply below_drew1) | exact HB.out)⟩
     ·rw [if_neg c28] at H
      have c28b0 : ((t301.length : Int) == 0) = false := beq_eq_false_iff_ne.mpr c28
      have c28b1 : ((t301.length : Int) != 0) = true := bne_iff_ne.mpr c28
      have c28b2 : ¬ (t301 = []) := fun h_ => c28 (by rw [h_]; rfl)
      obtain rfl := Option.some.inj H
      obtain ⟨Ao30, co30, eo30⟩ := Kd.R_slice HO_3.out
      subst eo30
      go_wp2
      go_ret
      exact ⟨by first | rfl | (simp [errW_none, errW_some] <;> rfl) | (simp [*, errW_none, errW_some] <;> rfl), by repeat (first | (with_reducible first | exact HB.out | apply below_alloc | apply pw_below_drewN | apply below_drew1) | exact HB.out)⟩
end Go.Proofs.YtkflgnhcfhmkdaaDoor.PPragmaReads
