-- Laid by a program of ours (the kit's print with words and contracts of our own beside it).
import Derived.Test.YtgjnelloegkicaaPLinesSplitx0
import Derived.Test.YtgjnelloegkicaaPLinesSplitx1
import Derived.Test.YtgjnelloegkicaaPLinesSplitx3
import Derived.Test.YtgjnelloegkicaaPLinesSplitx4
namespace Go.Proofs.Ytgjnelloegkicaa.PLinesSplit
open Go.RowKit Go.Proofs.Ytgjnelloegkicaa.X Go.Proofs.YtgjnelloegkicaaW.PrintWords Go.Proofs.YtgjnelloegkicaaW.PrintLast Go.Proofs.YtgjnelloegkicaaW.PrintMore
attribute [local go_sem] max2_int min2_int max_two min_two max_three min_three max_four min_four   -- for this text's walks alone
set_option linter.unusedVariables false
set_option linter.unusedSimpArgs false

attribute [local go_sem high] eqA27
/-! ### redpenlaw03_LinesSplit: function 10 -/
mutual
def redpenlaw03_LinesSplit.j0 : Nat → Int → List (IxT) → List ByteArray → Bool → Option (Bool)
  | 0, _, _, _, _ => none
  | k + 1, x1, x5, x6, x34 => if x34 = true then (some false) else (redpenlaw03_LinesSplit.l0 k x1 x5 x6 0 x6 (x6.length : Int) 0)
def redpenlaw03_LinesSplit.l0 : Nat → Int → List (IxT) → List ByteArray → Int → List ByteArray → Int → Int → Option (Bool)
  | 0, _, _, _, _, _, _, _ => none
  | k + 1, x1, x5, x6, x7, x35, x36, x37 => if x37 < x36 then (if 0 ≤ x37 then (if x37 < (x35.length : Int) then ((lines_Index_Span.f x5 (wrap64 (x37 + 1))).bind fun bt174 => (if bt174.2.2 = 0 then (if (!(bt174.1 == x7) || (!(bt174.2.1 == ((rdOf ByteArray.empty x35 x37).size : Int)))) = true then (some false) else (redpenlaw03_LinesSplit.l0 k x1 x5 x6 (wrap64 (x7 + ((rdOf ByteArray.empty x35 x37).size : Int))) x35 x36 (wrap64 (x37 + 1)))) else (some false))) else (none)) else (none)) else ((lines_Index_Span.f x5 x1).bind fun bt178 => (if x1 ≥ 1 then (if ((bt178.2.2 == 0) == (decide (x1 ≤ (x6.length : Int)))) = true then (if bt178.2.2 = 0 then (some true) else (if bt178.2.2 = 2 then (some (bt178.1 == 0 && (bt178.2.1 == 0))) else (some false))) else (some false)) else (if ((bt178.2.2 == 0) == false) = true then (if bt178.2.2 = 0 then (some true) else (if bt178.2.2 = 2 then (some (bt178.1 == 0 && (bt178.2.1 == 0))) else (some false))) else (some false))))
end
def redpenlaw03_LinesSplit.f (k : Nat) (l0 : List Int) (a1 : Int) : Option (Bool) := (redpenlaw03_Awake.f k).bind fun t161 => (if t161 = true then (if (l0.length : Int) > 3000 then (some true) else ((lines_New.f l0).bind fun t162 => ((redpenref01_Lines.f k l0).bind fun t165 => ((lines_Index_Lines.f t162).bind fun t168 => (if t168 = (t165.length : Int) then ((lines_Split.f k l0).bind fun t169 => ((redpenref01_Same.f k t169 t165).bind fun t172 => (redpenlaw03_LinesSplit.j0 k a1 t162 t165 (!t172)))) else (redpenlaw03_LinesSplit.j0 k a1 t162 t165 true)))))) else (some false))
theorem redpenlaw03_LinesSplit.mono_l : ∀ k, (∀ y0 y1 y2 y3, LeO (redpenlaw03_LinesSplit.j0 k y0 y1 y2 y3) (redpenlaw03_LinesSplit.j0 (k + 1) y0 y1 y2 y3)) ∧ (∀ y0 y1 y2 y3 y4 y5 y6, LeO (redpenlaw03_LinesSplit.l0 k y0 y1 y2 y3 y4 y5 y6) (redpenlaw03_LinesSplit.l0 (k + 1) y0 y1 y2 y3 y4 y5 y6))
  | 0 => ⟨fun _ _ _ _ r h => by simp [redpenlaw03_LinesSplit.j0] at h, fun _ _ _ _ _ _ _ r h => by simp [redpenlaw03_LinesSplit.l0] at h⟩
  | k + 1 => by
    obtain ⟨ih0, ih1⟩ := redpenlaw03_LinesSplit.mono_l k
    refine ⟨?_, ?_⟩
    · intro y0 y1 y2 y3
      unfold redpenlaw03_LinesSplit.j0
      repeat' first
      | (with_reducible exact ih0 _ _ _ _)
      | (with_reducible exact ih1 _ _ _ _ _ _ _)
      | (with_reducible exact lines_Split.mono _ _)
      | (with_reducible exact redpenlaw03_Awake.mono _)
      | (with_reducible exact redpenref01_Lines.mono _ _)
      | (with_reducible exact redpenref01_Same.mono _ _ _)
      | (with_reducible exact LeO.refl _)
      | (with_reducible exact LeO.none _)
      | (with_reducible refine LeO.ite ?_ ?_)
      | (with_reducible refine LeO.bind ?_ (fun _ => ?_))
      | exact ih0 _ _ _ _
      | exact ih1 _ _ _ _ _ _ _
      | exact lines_Split.mono _ _
      | exact redpenlaw03_Awake.mono _
      | exact redpenref01_Lines.mono _ _
      | exact redpenref01_Same.mono _ _ _
      | exact LeO.none _
      | refine LeO.ite ?_ ?_
      | refine LeO.bind ?_ (fun _ => ?_)
    · intro y0 y1 y2 y3 y4 y5 y6
      unfold redpenlaw03_LinesSplit.l0
      repeat' first
      | (with_reducible exact ih0 _ _ _ _)
      | (with_reducible exact ih1 _ _ _ _ _ _ _)
      | (with_reducible exact lines_Split.mono _ _)
      | (with_reducible exact redpenlaw03_Awake.mono _)
      | (with_reducible exact redpenref01_Lines.mono _ _)
      | (with_reducible exact redpenref01_Same.mono _ _ _)
      | (with_reducible exact LeO.refl _)
      | (with_reducible exact LeO.none _)
      | (with_reducible refine LeO.ite ?_ ?_)
      | (with_reducible refine LeO.bind ?_ (fun _ => ?_))
      | exact ih0 _ _ _ _
      | exact ih1 _ _ _ _ _ _ _
      | exact lines_Split.mono _ _
      | exact redpenlaw03_Awake.mono _
      | exact redpenref01_Lines.mono _ _
      | exact redpenref01_Same.mono _ _ _
      | exact LeO.none _
      | refine LeO.ite ?_ ?_
      | refine LeO.bind ?_ (fun _ => ?_)
theorem redpenlaw03_LinesSplit.mono : ∀ a0 a1 k, LeO (redpenlaw03_LinesSplit.f k a0 a1) (redpenlaw03_LinesSplit.f (k + 1) a0 a1) := by
  intro a0 a1 k
  obtain ⟨ih0, ih1⟩ := redpenlaw03_LinesSplit.mono_l k
  unfold redpenlaw03_LinesSplit.f
  repeat' first
      | (with_reducible exact ih0 _ _ _ _)
      | (with_reducible exact ih1 _ _ _ _ _ _ _)
      | (with_reducible exact lines_Split.mono _ _)
      | (with_reducible exact redpenlaw03_Awake.mono _)
      | (with_reducible exact redpenref01_Lines.mono _ _)
      | (with_reducible exact redpenref01_Same.mono _ _ _)
      | (with_reducible exact LeO.refl _)
      | (with_reducible exact LeO.none _)
      | (with_reducible refine LeO.ite ?_ ?_)
      | (with_reducible refine LeO.bind ?_ (fun _ => ?_))
      | exact ih0 _ _ _ _
      | exact ih1 _ _ _ _ _ _ _
      | exact lines_Split.mono _ _
      | exact redpenlaw03_Awake.mono _
      | exact redpenref01_Lines.mono _ _
      | exact redpenref01_Same.mono _ _ _
      | exact LeO.none _
      | refine LeO.ite ?_ ?_
      | refine LeO.bind ?_ (fun _ => ?_)
set_option maxHeartbeats 8000000 in
set_option maxRecDepth 100000 in
theorem redpenlaw03_LinesSplit.calls (k : Nat) (A0 : Option Addr) (c0 : Nat) (l0 : List Int) (a1 : Int) (r : Bool) (w : World) (hr0 : Kd.C (Kd.int .u8) w A0 l0.length l0) (hc0 : l0.length ≤ c0) (h : redpenlaw03_LinesSplit.f k l0 a1 = some r) :
    Calls Try.prog 10 #[.slice A0 l0.length c0, .int .i64 a1] w fun e w' => e = .returned (.bool r) ∧ Below w.heap.size w w' := by
  have hu27 := Try.underlying27
  have HR0 := Aside0.mk hr0
  have HC0 := Aside0.mk hc0
  clear hr0 hc0
  have HB := Aside0.mk (Below.refl w.heap.size w)
  have H : ((redpenlaw03_Awake.f k).bind fun t161 => (if t161 = true then (if (l0.length : Int) > 3000 then (some true) else ((lines_New.f l0).bind fun t162 => ((redpenref01_Lines.f k l0).bind fun t165 => ((lines_Index_Lines.f t162).bind fun t168 => (if t168 = (t165.length : Int) then ((lines_Split.f k l0).bind fun t169 => ((redpenref01_Same.f k t169 t165).bind fun t172 => (redpenlaw03_LinesSplit.j0 k a1 t162 t165 (!t172)))) else (redpenlaw03_LinesSplit.j0 k a1 t162 t165 true)))))) else (some false))) = some r := h
  clear h
  replace H := Option.bind_eq_some_iff.mp H
  obtain ⟨t161, A30, H⟩ := H
  replace H : (if t161 = true then (if (l0.length : Int) > 3000 then (some true) else ((lines_New.f l0).bind fun t162 => ((redpenref01_Lines.f k l0).bind fun t165 => ((lines_Index_Lines.f t162).bind fun t168 => (if t168 = (t165.length : Int) then ((lines_Split.f k l0).bind fun t169 => ((redpenref01_Same.f k t169 t165).bind fun t172 => (redpenlaw03_LinesSplit.j0 k a1 t162 t165 (!t172)))) else (redpenlaw03_LinesSplit.j0 k a1 t162 t165 true)))))) else (some false)) = some r := H
  have A3 := Aside0.mk A30
  clear A30
  by_cases c4 : t161 = true
  · subst c4
    have H1 : (if (l0.length : Int) > 3000 then (some true) else ((lines_New.f l0).bind fun t162 => ((redpenref01_Lines.f k l0).bind fun t165 => ((lines_Index_Lines.f t162).bind fun t168 => (if t168 = (t165.length : Int) then ((lines_Split.f k l0).bind fun t169 => ((redpenref01_Same.f k t169 t165).bind fun t172 => (redpenlaw03_LinesSplit.j0 k a1 t162 t165 (!t172)))) else (redpenlaw03_LinesSplit.j0 k a1 t162 t165 true)))))) = some r := by rw [if_pos rfl] at H; exact H
    clear H
    have H := H1
    clear H1
    by_cases c5 : (l0.length : Int) > 3000
    · rw [if_pos c5] at H
      have c5b0 : decide (3000 < (l0.length : Int)) = true := decide_eq_true c5
      have c5b1 : decide (3000 < l0.length) = true := decide_eq_true (by omega)
      clear c5
      obtain rfl := Option.some.inj H
      go_enter Try.func10, Try.ntmps10
      go_wp2_with (first | ((with_reducible refine gate_callee (f := 26) rfl ?_); refine goesL_ (some 14) rfl rfl Try.func26 (by kernel_rfl) rfl #[] rfl (by (try simp only [List.map_toArray, List.map_cons, List.map_nil]); first | done | rfl | (simp only [List.length_drop, List.length_take]; rfl)) ?_; (with_reducible refine (redpenlaw03_Awake.calls k  true _ A3.out).mono ?_); rintro e w6 ⟨rfl, hb⟩; refine ⟨_, rfl, ?_⟩; have n0_ := Aside0.mk (below_step (by repeat (first | (with_reducible first | exact HB.out | apply below_alloc | apply pw_below_drewN | apply below_drew1) | exact HB.out)) hb); clear HB; have HB := n0_; clear n0_; (try clear hb); (try clear hb2); (try clear hk); (try clear hi)))
      go_ret
      exact ⟨by first | rfl | (simp [errW_none, errW_some] <;> rfl) | (simp [*, errW_none, errW_some] <;> rfl), by repeat (first | (with_reducible first | exact HB.out | apply below_alloc | apply pw_below_drewN | apply below_drew1) | exact HB.out)⟩
    · rw [if_neg c5] at H
      have c5b0 : decide (3000 < (l0.length : Int)) = false := decide_eq_false c5
      have c5b1 : decide (3000 < l0.length) = false := decide_eq_false (by omega)
      clear c5
      replace H := Option.bind_eq_some_iff.mp H
      obtain ⟨t162, A70, H⟩ := H
      replace H : ((redpenref01_Lines.f k l0).bind fun t165 => ((lines_Index_Lines.f t162).bind fun t168 => (if t168 = (t165.length : Int) then ((lines_Split.f k l0).bind fun t169 => ((redpenref01_Same.f k t169 t165).bind fun t172 => (redpenlaw03_LinesSplit.j0 k a1 t162 t165 (!t172)))) else (redpenlaw03_LinesSplit.j0 k a1 t162 t165 true)))) = some r := H
      have A7 := Aside0.mk A70
      clear A70
      replace H := Option.bind_eq_some_iff.mp H
      obtain ⟨t165, A80, H⟩ := H
      replace H : ((lines_Index_Lines.f t162).bind fun t168 => (if t168 = (t165.length : Int) then ((lines_Split.f k l0).bind fun t169 => ((redpenref01_Same.f k t169 t165).bind fun t172 => (redpenlaw03_LinesSplit.j0 k a1 t162 t165 (!t172)))) else (redpenlaw03_LinesSplit.j0 k a1 t162 t165 true))) = some r := H
      have A8 := Aside0.mk A80
      clear A80
      have HC9 := Aside0.mk H
      clear H
      go_enter Try.func10, Try.ntmps10
      go_upto_region 7 with (first | ((with_reducible refine gate_callee (f := 26) rfl ?_); refine goesL_ (some 14) rfl rfl Try.func26 (by kernel_rfl) rfl #[] rfl (by (try simp only [List.map_toArray, List.map_cons, List.map_nil]); first | done | rfl | (simp only [List.length_drop, List.length_take]; rfl)) ?_; (with_reducible refine (redpenlaw03_Awake.calls k  true _ A3.out).mono ?_); rintro e w10 ⟨rfl, hb⟩; refine ⟨_, rfl, ?_⟩; have n0_ := Aside0.mk (below_step (by repeat (first | (with_reducible first | exact HB.out | apply below_alloc | apply pw_below_drewN | apply below_drew1) | exact HB.out)) hb); clear HB; have HB := n0_; clear n0_; (try clear hb); (try clear hb2); (try clear hk); (try clear hi)) | ((with_reducible refine gate_callee (f := 27) rfl ?_); refine goesL_ (some 20) rfl rfl Try.func27 (by kernel_rfl) rfl #[.slice A0 l0.length c0] rfl (by (try simp only [List.map_toArray, List.map_cons, List.map_nil]); first | done | rfl | (simp only [List.length_drop, List.length_take]; rfl)) ?_; (with_reducible refine (lines_New.calls _ _ l0 t162 _ ?side1 ?side2 A7.out).mono ?_); (case side1 => repeat (first | exact (Kd.C_below HR0.out HB.out) | (with_reducible refine Kd.C_alloc ?_ _) | (with_reducible refine Kd.C_drewN ?_ _) | (with_reducible refine Kd.C_drew ?_))); (case side2 => exact HC0.out); rintro e w11 ⟨v163, rfl, ho0, hb⟩; refine ⟨_, rfl, ?_⟩; have n0_ := Aside0.mk (Kd.P_lower (Kd.P_mono (ok' := fun k_ => True) ho0 (fun k_ hk_ => trivial)) (below_size (by repeat (first | (with_reducible first | exact HB.out | apply below_alloc | apply pw_below_drewN | apply below_drew1) | exact HB.out)))); have n1_ := Aside0.mk (below_step (by repeat (first | (with_reducible first | exact HB.out | apply below_alloc | apply pw_below_drewN | apply below_drew1) | exact HB.out)) hb); clear HB; have HO164 := n0_; have HB := n1_; clear n0_ n1_; (try clear hb); (try clear hb2); (try clear hk); (try clear hi); (try clear ho0)) | ((with_reducible refine gate_callee (f := 34) rfl ?_); refine goesL_ (some 22) rfl rfl Try.func34 (by kernel_rfl) rfl #[.slice A0 l0.length c0] rfl (by (try simp only [List.map_toArray, List.map_cons, List.map_nil]); first | done | rfl | (simp only [List.length_drop, List.length_take]; rfl)) ?_; (with_reducible refine (redpenref01_Lines.calls k _ _ l0 t165 _ ?side1 ?side2 A8.out).mono ?_); (case side1 => repeat (first | exact (Kd.C_below HR0.out HB.out) | (with_reducible refine Kd.C_alloc ?_ _) | (with_reducible refine Kd.C_drewN ?_ _) | (with_reducible refine Kd.C_drew ?_))); (case side2 => exact HC0.out); rintro e w12 ⟨v166, rfl, ho0, hb⟩; refine ⟨_, rfl, ?_⟩; have n0_ := Aside0.mk (Kd.P_elder' (by (with_reducible repeat (first | apply Kd.P_alloc | apply Kd.P_drewN | apply Kd.P_drew)); exact HO164.out) (Kd.R_base ho0) hb); have n1_ := Aside0.mk (Kd.R_lower ho0 (below_size (by repeat (first | (with_reducible first | exact HB.out | apply below_alloc | apply pw_below_drewN | apply below_drew1) | exact HB.out)))); have n2_ := Aside0.mk (below_step (by repeat (first | (with_reducible first | exact HB.out | apply below_alloc | apply pw_below_drewN | apply below_drew1) | exact HB.out)) hb); clear HO164; clear HB; have HO164 := n0_; have HO167 := n1_; have HB := n2_; clear n0_ n1_ n2_; (try clear hb); (try clear hb2); (try clear hk); (try clear hi); (try clear ho0)))
      (try simp only [Act.put, List.setIfInBounds_toArray, List.set_cons_zero, List.set_cons_succ])
      go_cut [34] (fun v34 wc => ∃ (kq : Nat) (x34_8 : Bool), v34 = .bool x34_8 ∧ Aside0 (redpenlaw03_LinesSplit.j0 kq a1 t162 t165 x34_8 = some r) ∧ Aside0 (kq ≤ k) ∧ Aside0 (Kd.P IxP 900049 wc w.heap.size (fun k_ => some k_ ≠ (v166 : Value).ownBlock) v163 t162) ∧ Aside0 (Kd.R Kd.string 9 wc w.heap.size (fun _ => True) v166 t165) ∧ Aside0 (Below w.heap.size w wc))
      case first =>
        have H := HC9.out
        clear HC9
        replace H := Option.bind_eq_some_iff.mp H
        obtain ⟨t168, A130, H⟩ := H
        replace H : (if t168 = (t165.length : Int) then ((lines_Split.f k l0).bind fun t169 => ((redpenref01_Same.f k t169 t165).bind fun t172 => (redpenlaw03_LinesSplit.j0 k a1 t162 t165 (!t172)))) else (redpenlaw03_LinesSplit.j0 k a1 t162 t165 true)) = some r := H
        have A13 := Aside0.mk A130
        clear A130
        by_cases c14 : t168 = (t165.length : Int)
        · rw [if_pos c14] at H
          have c14b0 : (t168 == (t165.length : Int)) = true := beq_iff_eq.mpr c14
          have c14b1 : (t168 != (t165.length : Int)) = false := bne_eq_false_iff_eq.mpr c14
          clear c14
          (first | rw [c14b0] | (simp only [i64_w, i32_w]; rw [c14b0]) | skip)
          replace H := Option.bind_eq_some_iff.mp H
          obtain ⟨t169, A150, H⟩ := H
          replace H : ((redpenref01_Same.f k t169 t165).bind fun t172 => (redpenlaw03_LinesSplit.j0 k a1 t162 t165 (!t172))) = some r := H
          have A15 := Aside0.mk A150
          clear A150
          replace H := Option.bind_eq_some_iff.mp H
          obtain ⟨t172, A160, H⟩ := H
          replace H : (redpenlaw03_LinesSplit.j0 k a1 t162 t165 (!t172)) = some r := H
          have A16 := Aside0.mk A160
          clear A160
          have H' := Aside0.mk H
          clear H
          go_wp2_with (first | ((with_reducible refine gate_callee (f := 33) rfl ?_); refine goesL_ (some 24) rfl rfl Try.func33 (by kernel_rfl) rfl #[v163] rfl (by (try simp only [List.map_toArray, List.map_cons, List.map_nil]); first | done | rfl | (simp only [List.length_drop, List.length_take]; rfl)) ?_; (with_reducible refine (lines_Index_Lines.calls _ t162 t168 _ ?side1 A13.out).mono ?_); (case side1 => exact Kd.P_now (by (with_reducible repeat (first | apply Kd.P_alloc | apply Kd.P_drewN | apply Kd.P_drew)); exact HO164.out)); rintro e w' ⟨rfl, ⟨nd, rfl⟩⟩; refine ⟨_, rfl, ?_⟩; obtain ⟨Ao17, co17, eo17⟩ := Kd.R_slice HO167.out; subst eo17) | (go_at_call 36; (with_reducible refine (lines_Split.calls k _ _ l0 t169 _ ?side1 ?side2 A15.out).mono ?_); (case side1 => repeat (first | exact (Kd.C_below HR0.out (by repeat (first | (with_reducible first | exact HB.out | apply below_alloc | apply pw_below_drewN | apply below_drew1) | exact HB.out))) | (with_reducible refine Kd.C_alloc ?_ _) | (with_reducible refine Kd.C_drewN ?_ _) | (with_reducible refine Kd.C_drew ?_))); (case side2 => exact HC0.out); rintro e w18 ⟨v170, rfl, ho0, hb⟩; have n0_ := Aside0.mk (Kd.P_elder' (by (with_reducible repeat (first | apply Kd.P_alloc | apply Kd.P_drewN | apply Kd.P_drew)); exact HO164.out) (Kd.R_base ho0) hb); have n1_ := Aside0.mk (Kd.R_elder' (by (with_reducible repeat (first | apply Kd.R_alloc | apply Kd.R_drewN | apply Kd.R_drew)); exact HO167.out) (Kd.R_base ho0) hb); have n2_ := Aside0.mk (Kd.R_lower (Kd.R_new' ho0 (Kd.R_lt (by (with_reducible repeat (first | apply Kd.R_alloc | apply Kd.R_drewN | apply Kd.R_drew)); exact HO167.out))) (below_size (by repeat (first | (with_reducible first | exact HB.out | apply below_alloc | apply pw_below_drewN | apply below_drew1) | exact HB.out)))); have n3_ := Aside0.mk (below_step (by repeat (first | (with_reducible first | exact HB.out | apply below_alloc | apply pw_below_drewN | apply below_drew1) | exact HB.out)) hb); clear HO164; clear HO167; clear HB; have HO164 := n0_; have HO167 := n1_; have HO171 := n2_; have HB := n3_; clear n0_ n1_ n2_ n3_; (try clear hb); (try clear hb2); (try clear hk); (try clear hi); (try clear ho0); obtain ⟨Ao19, co19, eo19⟩ := Kd.R_slice HO171.out; subst eo19) | (go_at_call 35; (with_reducible refine (redpenref01_Same.calls k _ _ t169 _ _ t165 t172 _ ?side1 ?side2 ?side3 ?side4 A16.out).mono ?_); (case side1 => repeat (first | exact (Kd.R_reads' HO171.out).2.2 | (with_reducible refine Kd.C_alloc ?_ _) | (with_reducible refine Kd.C_drewN ?_ _) | (with_reducible refine Kd.C_drew ?_))); (case side2 => exact (Kd.R_reads' HO171.out).2.1); (case side3 => repeat (first | exact (Kd.R_reads' HO167.out).2.2 | (with_reducible refine Kd.C_alloc ?_ _) | (with_reducible refine Kd.C_drewN ?_ _) | (with_reducible refine Kd.C_drew ?_))); (case side4 => exact (Kd.R_reads' HO167.out).2.1); rintro e w' ⟨rfl, ⟨nd, rfl⟩⟩))
          go_meet
          case rel => exact ⟨_, (!t172), (by first | rfl | (simp; done) | (simp [*]; done)), H', ⟨by first | omega | exact Nat.le_refl _⟩, ⟨by (with_reducible repeat (first | apply Kd.P_alloc | apply Kd.P_drewN | apply Kd.P_drew)); exact Kd.P_mono HO164.out (fun _ hk => hk.1.2)⟩, ⟨by (with_reducible repeat (first | apply Kd.R_alloc | apply Kd.R_drewN | apply Kd.R_drew)); exact Kd.R_mono HO167.out (fun _ hk => trivial)⟩, ⟨by repeat (first | (with_reducible first | exact HB.out | apply below_alloc | apply pw_below_drewN | apply below_drew1) | exact HB.out)⟩⟩
        · rw [if_neg c14] at H
          have c14b0 : (t168 == (t165.length : Int)) = false := beq_eq_false_iff_ne.mpr c14
          have c14b1 : (t168 != (t165.length : Int)) = true := bne_iff_ne.mpr c14
          (first | rw [c14b0] | (simp only [i64_w, i32_w]; rw [c14b0]) | skip)
          have H' := Aside0.mk H
          clear H
          go_wp2_with (first | ((with_reducible refine gate_callee (f := 33) rfl ?_); refine goesL_ (some 24) rfl rfl Try.func33 (by kernel_rfl) rfl #[v163] rfl (by (try simp only [List.map_toArray, List.map_cons, List.map_nil]); first | done | rfl | (simp only [List.length_drop, List.length_take]; rfl)) ?_; (with_reducible refine (lines_Index_Lines.calls _ t162 t168 _ ?side1 A13.out).mono ?_); (case side1 => exact Kd.P_now (by (with_reducible repeat (first | apply Kd.P_alloc | apply Kd.P_drewN | apply Kd.P_drew)); exact HO164.out)); rintro e w' ⟨rfl, ⟨nd, rfl⟩⟩; refine ⟨_, rfl, ?_⟩; obtain ⟨Ao20, co20, eo20⟩ := Kd.R_slice HO167.out; subst eo20))
          go_meet
          case rel => exact ⟨_, (true), (by first | rfl | (simp; done) | (simp [*]; done)), H', ⟨by first | omega | exact Nat.le_refl _⟩, ⟨by (with_reducible repeat (first | apply Kd.P_alloc | apply Kd.P_drewN | apply Kd.P_drew)); exact Kd.P_mono HO164.out (fun _ hk => hk.2)⟩, ⟨by (with_reducible repeat (first | apply Kd.R_alloc | apply Kd.R_drewN | apply Kd.R_drew)); exact HO167.out⟩, ⟨by repeat (first | (with_reducible first | exact HB.out | apply below_alloc | apply pw_below_drewN | apply below_drew1) | exact HB.out)⟩⟩
      case rest =>
        clear HC9
        try clear c1
        try clear c2
        try clear p2
        try clear c3
        try clear c4
        try clear c5
        try clear c5b0
        try clear c5b1
        try clear c10
        try clear c14
        try clear c14b0
        try clear c14b1
        obtain ⟨kq, x34_8, rfl, HA, HJ8, HO_5, HO_6, HB⟩ := hcut
        cases kq with
        | zero => exact absurd HA.out (by simp [redpenlaw03_LinesSplit.j0])
        | succ kj8 =>
          have H := HA.out
          clear HA
          simp only [redpenlaw03_LinesSplit.j0] at H
          by_cases c21 : x34_8 = true
          · subst c21
            have H1 : (some false) = some r := by rw [if_pos rfl] at H; exact H
            clear H
            have H := H1
            clear H1
            obtain rfl := Option.some.inj H
            go_wp2
            go_ret
            exact ⟨by first | rfl | (simp [errW_none, errW_some] <;> rfl) | (simp [*, errW_none, errW_some] <;> rfl), by repeat (first | (with_reducible first | exact HB.out | apply below_alloc | apply pw_below_drewN | apply below_drew1) | exact HB.out)⟩
          · replace c21 := Bool.eq_false_iff.mpr c21
            subst c21
            have H1 : (redpenlaw03_LinesSplit.l0 kj8 a1 t162 t165 0 t165 (t165.length : Int) 0) = some r := by rw [if_neg (show ¬ (false = true) by decide)] at H; exact H
            clear H
            have H := H1
            clear H1
            have H' := Aside0.mk H
            clear H
            obtain ⟨Ao22, co22, eo22⟩ := Kd.R_slice HO_6.out
            subst eo22
            go_wp2
            go_loopg [7, 37] kj8 (fun kq v7 v37 w' => ∃ (x7_2 : Int) (x37_2 : Int), v7 = .int .i64 x7_2 ∧ v37 = .int .i64 x37_2 ∧ Aside0 (redpenlaw03_LinesSplit.l0 kq a1 t162 t165 x7_2 t165 (t165.length : Int) x37_2 = some r) ∧ Aside0 (kq ≤ kj8) ∧ Aside0 (Kd.P IxP 900049 w' w.heap.size (fun k_ => some k_ ≠ ((.slice Ao22 t165.length co22) : Value).ownBlock ∧ some k_ ≠ ((.slice Ao22 t165.length co22) : Value).ownBlock) v163 t162) ∧ Aside0 (Kd.R Kd.string 9 w' w.heap.size (fun _ => True) (.slice Ao22 t165.length co22) t165) ∧ Aside0 (Kd.R Kd.string 9 w' w.heap.size (fun _ => True) (.slice Ao22 t165.length co22) t165) ∧ Aside0 (Below w.heap.size w w'))
            case atStart => exact ⟨(0), (0), (by first | rfl | (simp; done) | (simp [*]; done)), (by first | rfl | (simp; done) | (simp [*]; done)), H', ⟨Nat.le_refl _⟩, ⟨by (with_reducible repeat (first | apply Kd.P_alloc | apply Kd.P_drewN | apply Kd.P_drew)); exact Kd.P_mono HO_5.out (fun _ hk => ⟨hk, hk⟩)⟩, ⟨by (with_reducible repeat (first | apply Kd.R_alloc | apply Kd.R_drewN | apply Kd.R_drew)); exact HO_6.out⟩, ⟨by (with_reducible repeat (first | apply Kd.R_alloc | apply Kd.R_drewN | apply Kd.R_drew)); exact HO_6.out⟩, ⟨by repeat (first | (with_reducible first | exact HB.out | apply below_alloc | apply pw_below_drewN | apply below_drew1) | exact HB.out)⟩⟩
            case round =>
              clear H'
              try clear c1
              try clear c2
              try clear p2
              try clear c3
              try clear c4
              try clear c5
              try clear c5b0
              try clear c5b1
              try clear c10
              try clear c14
              try clear c14b0
              try clear c14b1
              try clear c21
              try clear p2
              obtain ⟨x7_2, x37_2, rfl, rfl, HA, HK2, HO_5, HO_6, HO_35, HB⟩ := hrel
              cases gk with
              | zero => exact absurd HA.out (by simp [redpenlaw03_LinesSplit.l0])
              | succ k2 =>
                have H := HA.out
                clear HA
                simp only [redpenlaw03_LinesSplit.l0] at H
                by_cases c23 : x37_2 < (t165.length : Int)
                · rw [if_pos c23] at H
                  have c23b0 : decide (x37_2 < (t165.length : Int)) = true := decide_eq_true c23
                  clear c23
                  by_cases c24 : 0 ≤ x37_2
                  · rw [if_pos c24] at H
                    have c24b0 : decide (0 ≤ x37_2) = true := decide_eq_true c24
                    clear c24
                    by_cases c25 : x37_2 < (t165.length : Int)
                    · rw [if_pos c25] at H
                      have c25b0 : decide (x37_2 < (t165.length : Int)) = true := decide_eq_true c25
                      clear c25
                      replace H := Option.bind_eq_some_iff.mp H
                      obtain ⟨⟨t174, t175, t176⟩, A260, H⟩ := H
                      replace H : (if t176 = 0 then (if (!(t174 == x7_2) || (!(t175 == ((rdOf ByteArray.empty t165 x37_2).size : Int)))) = true then (some false) else (redpenlaw03_LinesSplit.l0 k2 a1 t162 t165 (wrap64 (x7_2 + ((rdOf ByteArray.empty t165 x37_2).size : Int))) t165 (t165.length : Int) (wrap64 (x37_2 + 1)))) else (some false)) = some r := H
                      have A26 := Aside0.mk A260
                      clear A260
                      by_cases c27 : t176 = 0
                      · rw [if_pos c27] at H
                        have c27b0 : (t176 == 0) = true := beq_iff_eq.mpr c27
                        have c27b1 : (t176 != 0) = false := bne_eq_false_iff_eq.mpr c27
                        clear c27
                        by_cases c28 : (!(t174 == x7_2) || (!(t175 == ((rdOf ByteArray.empty t165 x37_2).size : Int)))) = true
                        · rw [if_pos c28] at H
                          have c28b0 : (!(t174 == x7_2) || (!(t175 == ((rdOf ByteArray.empty t165 x37_2).size : Int)))) = true := c28
                          clear c28
                          obtain rfl := Option.some.inj H
                          have p173 : 0 ≤ (x37_2 : Int) := of_decide_eq_true (by first | (with_reducible assumption) | assumption)
                          have q173 : x37_2 < (t165.length : Int) := of_decide_eq_true (by first | (with_reducible assumption) | assumption)
                          obtain ⟨ad173, e173, hx173_0⟩ := Kd.at_string (Kd.R_reads' HO_35.out).2.2 x37_2 p173 q173
                          cases e173
                          replace p173 := eq_true p173
                          replace q173 := eq_true q173
                          go_wp2_with (first | ((with_reducible refine gate_callee (f := 32) rfl ?_); refine goesL_ (some 46) rfl rfl Try.func32 (by kernel_rfl) rfl #[v163, .int .i64 (wrap64 (x37_2 + 1))] rfl (by (try simp only [List.map_toArray, List.map_cons, List.map_nil]); first | done | rfl | (simp only [List.length_drop, List.length_take]; rfl)) ?_; (with_reducible refine (lines_Index_Span.calls _ t162 (wrap64 (x37_2 + 1)) t174 t175 t176 _ ?side1 A26.out).mono ?_); (case side1 => exact Kd.P_now (by (with_reducible repeat (first | apply Kd.P_alloc | apply Kd.P_drewN | apply Kd.P_drew)); exact HO_5.out)); rintro e w29 ⟨rfl, hb⟩; refine ⟨_, rfl, ?_⟩; have n0_ := Aside0.mk (Kd.P_below (by (with_reducible repeat (first | apply Kd.P_alloc | apply Kd.P_drewN | apply Kd.P_drew)); exact HO_5.out) hb); have n1_ := Aside0.mk (Kd.R_below (by (with_reducible repeat (first | apply Kd.R_alloc | apply Kd.R_drewN | apply Kd.R_drew)); exact HO_6.out) hb); have n2_ := Aside0.mk (Kd.R_below (by (with_reducible repeat (first | apply Kd.R_alloc | apply Kd.R_drewN | apply Kd.R_drew)); exact HO_35.out) hb); have n3_ := Aside0.mk (below_step (by repeat (first | (with_reducible first | exact HB.out | apply below_alloc | apply pw_below_drewN | apply below_drew1) | exact HB.out)) hb); clear HO_5; clear HO_6; clear HO_35; clear HB; have HO_5 := n0_; have HO_6 := n1_; have HO_35 := n2_; have HB := n3_; clear n0_ n1_ n2_ n3_; (try clear hb); (try clear hb2); (try clear hk); (try clear hi)) | ((with_reducible refine gate_dst (N := 10) rfl ?_); (try (refine gate_guard (by rfl) ?_; dsimp only)); refine box_event ?hg (N := 10) ?hd (cs := #[.int .i64 0, .int .i64 0]) (t := 27) ?hr ?_; (case hd => rfl); (case hg => rfl); (case hr => first | (go_simp; done) | (go_simp; rfl)); intro gb177 hg w30 hbox hb; have n0_ := Aside0.mk (Kd.P_below (Kd.P_elderB (by (with_reducible repeat (first | apply Kd.P_alloc | apply Kd.P_drewN | apply Kd.P_drew)); exact HO_5.out) gb177 (Nat.le_of_eq hg.symm)) hb); have n1_ := Aside0.mk (Kd.R_below (by (with_reducible repeat (first | apply Kd.R_alloc | apply Kd.R_drewN | apply Kd.R_drew)); exact HO_6.out) hb); have n2_ := Aside0.mk (Kd.R_below (by (with_reducible repeat (first | apply Kd.R_alloc | apply Kd.R_drewN | apply Kd.R_drew)); exact HO_35.out) hb); have n3_ := Aside0.mk (below_step (by repeat (first | (with_reducible first | exact HB.out | apply below_alloc | apply pw_below_drewN | apply below_drew1) | exact HB.out)) hb); have n4_ := Aside0.mk (hbox); have n5_ := Aside0.mk ((by rw [hg]; exact (below_size (by repeat (first | (with_reducible first | exact HB.out | apply below_alloc | apply pw_below_drewN | apply below_drew1) | exact HB.out))) : w.heap.size ≤ gb177)); have n6_ := Aside0.mk ((by rw [hg]; exact (below_size (by repeat (first | (with_reducible first | exact HB.out | apply below_alloc | apply pw_below_drewN | apply below_drew1) | exact HB.out))) : w.heap.size ≤ gb177)); clear HO_5; clear HO_6; clear HO_35; clear HB; have HO_5 := n0_; have HO_6 := n1_; have HO_35 := n2_; have HB := n3_; have BK177 := n4_; have GW177 := n5_; have GE177 := n6_; clear n0_ n1_ n2_ n3_ n4_ n5_ n6_; clear hb hbox hg; have hcz31_0 : w30.cell? ⟨gb177, 0, none⟩ = some (.int .i64 0) := (blk_cell BK177.out 0).trans rfl; have hcz31_1 : w30.cell? ⟨gb177, 1, none⟩ = some (.int .i64 0) := (blk_cell BK177.out 1).trans rfl; have hfz31_0 := blk_frozen BK177.out 0; have hfz31_1 := blk_frozen BK177.out 1))
                          go_ret
                          exact ⟨by first | rfl | (simp [errW_none, errW_some] <;> rfl) | (simp [*, errW_none, errW_some] <;> rfl), by repeat (first | (with_reducible first | exact HB.out | apply below_alloc | apply pw_below_drewN | apply below_drew1 | refine below_set ?_ GE177.out) | exact HB.out)⟩
                        · rw [if_neg c28] at H
                          have c28b0 : (!(t174 == x7_2) || (!(t175 == ((rdOf ByteArray.empty t165 x37_2).size : Int)))) = false := by simpa using c28
                          clear c28
                          have H' := Aside0.mk H
                          clear H
                          have p173 : 0 ≤ (x37_2 : Int) := of_decide_eq_true (by first | (with_reducible assumption) | assumption)
                          have q173 : x37_2 < (t165.length : Int) := of_decide_eq_true (by first | (with_reducible assumption) | assumption)
                          obtain ⟨ad173, e173, hx173_0⟩ := Kd.at_string (Kd.R_reads' HO_35.out).2.2 x37_2 p173 q173
                          cases e173
                          replace p173 := eq_true p173
                          replace q173 := eq_true q173
                          go_wp2_with (first | ((with_reducible refine gate_callee (f := 32) rfl ?_); refine goesL_ (some 46) rfl rfl Try.func32 (by kernel_rfl) rfl #[v163, .int .i64 (wrap64 (x37_2 + 1))] rfl (by (try simp only [List.map_toArray, List.map_cons, List.map_nil]); first | done | rfl | (simp only [List.length_drop, List.length_take]; rfl)) ?_; (with_reducible refine (lines_Index_Span.calls _ t162 (wrap64 (x37_2 + 1)) t174 t175 t176 _ ?side1 A26.out).mono ?_); (case side1 => exact Kd.P_now (by (with_reducible repeat (first | apply Kd.P_alloc | apply Kd.P_drewN | apply Kd.P_drew)); exact HO_5.out)); rintro e w32 ⟨rfl, hb⟩; refine ⟨_, rfl, ?_⟩; have n0_ := Aside0.mk (Kd.P_below (by (with_reducible repeat (first | apply Kd.P_alloc | apply Kd.P_drewN | apply Kd.P_drew)); exact HO_5.out) hb); have n1_ := Aside0.mk (Kd.R_below (by (with_reducible repeat (first | apply Kd.R_alloc | apply Kd.R_drewN | apply Kd.R_drew)); exact HO_6.out) hb); have n2_ := Aside0.mk (Kd.R_below (by (with_reducible repeat (first | apply Kd.R_alloc | apply Kd.R_drewN | apply Kd.R_drew)); exact HO_35.out) hb); have n3_ := Aside0.mk (below_step (by repeat (first | (with_reducible first | exact HB.out | apply below_alloc | apply pw_below_drewN | apply below_drew1) | exact HB.out)) hb); clear HO_5; clear HO_6; clear HO_35; clear HB; have HO_5 := n0_; have HO_6 := n1_; have HO_35 := n2_; have HB := n3_; clear n0_ n1_ n2_ n3_; (try clear hb); (try clear hb2); (try clear hk); (try clear hi)) | ((with_reducible refine gate_dst (N := 10) rfl ?_); (try (refine gate_guard (by rfl) ?_; dsimp only)); refine box_event ?hg (N := 10) ?hd (cs := #[.int .i64 0, .int .i64 0]) (t := 27) ?hr ?_; (case hd => rfl); (case hg => rfl); (case hr => first | (go_simp; done) | (go_simp; rfl)); intro gb177 hg w33 hbox hb; have n0_ := Aside0.mk (Kd.P_below (Kd.P_elderB (by (with_reducible repeat (first | apply Kd.P_alloc | apply Kd.P_drewN | apply Kd.P_drew)); exact HO_5.out) gb177 (Nat.le_of_eq hg.symm)) hb); have n1_ := Aside0.mk (Kd.R_below (by (with_reducible repeat (first | apply Kd.R_alloc | apply Kd.R_drewN | apply Kd.R_drew)); exact HO_6.out) hb); have n2_ := Aside0.mk (Kd.R_below (by (with_reducible repeat (first | apply Kd.R_alloc | apply Kd.R_drewN | apply Kd.R_drew)); exact HO_35.out) hb); have n3_ := Aside0.mk (below_step (by repeat (first | (with_reducible first | exact HB.out | apply below_alloc | apply pw_below_drewN | apply below_drew1) | exact HB.out)) hb); have n4_ := Aside0.mk (hbox); have n5_ := Aside0.mk ((by rw [hg]; exact (below_size (by repeat (first | (with_reducible first | exact HB.out | apply below_alloc | apply pw_below_drewN | apply below_drew1) | exact HB.out))) : w.heap.size ≤ gb177)); have n6_ := Aside0.mk ((by rw [hg]; exact (below_size (by repeat (first | (with_reducible first | exact HB.out | apply below_alloc | apply pw_below_drewN | apply below_drew1) | exact HB.out))) : w.heap.size ≤ gb177)); clear HO_5; clear HO_6; clear HO_35; clear HB; have HO_5 := n0_; have HO_6 := n1_; have HO_35 := n2_; have HB := n3_; have BK177 := n4_; have GW177 := n5_; have GE177 := n6_; clear n0_ n1_ n2_ n3_ n4_ n5_ n6_; clear hb hbox hg; have hcz34_0 : w33.cell? ⟨gb177, 0, none⟩ = some (.int .i64 0) := (blk_cell BK177.out 0).trans rfl; have hcz34_1 : w33.cell? ⟨gb177, 1, none⟩ = some (.int .i64 0) := (blk_cell BK177.out 1).trans rfl; have hfz34_0 := blk_frozen BK177.out 0; have hfz34_1 := blk_frozen BK177.out 1))
                          go_roundg k2
                          case measure => have := HJ8.out; have := HK2.out; omega
                          case rel => exact ⟨(wrap64 (x7_2 + ((rdOf ByteArray.empty t165 x37_2).size : Int))), (wrap64 (x37_2 + 1)), (by first | rfl | (simp; done) | (simp [*]; done)), (by first | rfl | (simp; done) | (simp [*]; done)), H', ⟨by have := HJ8.out; have := HK2.out; omega⟩, ⟨by (with_reducible repeat (first | apply Kd.P_alloc | apply Kd.P_drewN | apply Kd.P_drew)); exact Kd.P_mono (Kd.P_far (p := ⟨gb177, 1, none⟩) (Kd.P_far (p := ⟨gb177, 0, none⟩) (Kd.P_mono HO_5.out (fun k_ hk => (⟨hk, hk.2⟩ : _ ∧ k_ ≠ gb177))) (fun _ hk => hk.2) (.int .i64 t174)) (fun _ hk => hk.2) (.int .i64 t175)) (fun _ hk => ⟨hk.1.1.1, hk.1.1.2⟩)⟩, ⟨by (with_reducible repeat (first | apply Kd.R_alloc | apply Kd.R_drewN | apply Kd.R_drew)); exact Kd.R_mono (Kd.R_far (p := ⟨gb177, 1, none⟩) (Kd.R_far (p := ⟨gb177, 0, none⟩) (Kd.R_types HO_6.out BK177.out (by decide)) (fun _ hk => hk.2) (.int .i64 t174)) (fun _ hk => hk.2) (.int .i64 t175)) (fun _ hk => trivial)⟩, ⟨by (with_reducible repeat (first | apply Kd.R_alloc | apply Kd.R_drewN | apply Kd.R_drew)); exact Kd.R_mono (Kd.R_far (p := ⟨gb177, 1, none⟩) (Kd.R_far (p := ⟨gb177, 0, none⟩) (Kd.R_types HO_35.out BK177.out (by decide)) (fun _ hk => hk.2) (.int .i64 t174)) (fun _ hk => hk.2) (.int .i64 t175)) (fun _ hk => trivial)⟩, ⟨by repeat (first | (with_reducible first | exact HB.out | apply below_alloc | apply pw_below_drewN | apply below_drew1 | refine below_set ?_ GE177.out) | exact HB.out)⟩⟩
                      · rw [if_neg c27] at H
                        have c27b0 : (t176 == 0) = false := beq_eq_false_iff_ne.mpr c27
                        have c27b1 : (t176 != 0) = true := bne_iff_ne.mpr c27
                        obtain rfl := Option.some.inj H
                        have p173 : 0 ≤ (x37_2 : Int) := of_decide_eq_true (by first | (with_reducible assumption) | assumption)
                        have q173 : x37_2 < (t165.length : Int) := of_decide_eq_true (by first | (with_reducible assumption) | assumption)
                        obtain ⟨ad173, e173, hx173_0⟩ := Kd.at_string (Kd.R_reads' HO_35.out).2.2 x37_2 p173 q173
                        cases e173
                        replace p173 := eq_true p173
                        replace q173 := eq_true q173
                        go_wp2_with (first | ((with_reducible refine gate_callee (f := 32) rfl ?_); refine goesL_ (some 46) rfl rfl Try.func32 (by kernel_rfl) rfl #[v163, .int .i64 (wrap64 (x37_2 + 1))] rfl (by (try simp only [List.map_toArray, List.map_cons, List.map_nil]); first | done | rfl | (simp only [List.length_drop, List.length_take]; rfl)) ?_; (with_reducible refine (lines_Index_Span.calls _ t162 (wrap64 (x37_2 + 1)) t174 t175 t176 _ ?side1 A26.out).mono ?_); (case side1 => exact Kd.P_now (by (with_reducible repeat (first | apply Kd.P_alloc | apply Kd.P_drewN | apply Kd.P_drew)); exact HO_5.out)); rintro e w35 ⟨rfl, hb⟩; refine ⟨_, rfl, ?_⟩; have n0_ := Aside0.mk (Kd.P_below (by (with_reducible repeat (first | apply Kd.P_alloc | apply Kd.P_drewN | apply Kd.P_drew)); exact HO_5.out) hb); have n1_ := Aside0.mk (Kd.R_below (by (with_reducible repeat (first | apply Kd.R_alloc | apply Kd.R_drewN | apply Kd.R_drew)); exact HO_6.out) hb); have n2_ := Aside0.mk (Kd.R_below (by (with_reducible repeat (first | apply Kd.R_alloc | apply Kd.R_drewN | apply Kd.R_drew)); exact HO_35.out) hb); have n3_ := Aside0.mk (below_step (by repeat (first | (with_reducible first | exact HB.out | apply below_alloc | apply pw_below_drewN | apply below_drew1) | exact HB.out)) hb); clear HO_5; clear HO_6; clear HO_35; clear HB; have HO_5 := n0_; have HO_6 := n1_; have HO_35 := n2_; have HB := n3_; clear n0_ n1_ n2_ n3_; (try clear hb); (try clear hb2); (try clear hk); (try clear hi)) | ((with_reducible refine gate_dst (N := 10) rfl ?_); (try (refine gate_guard (by rfl) ?_; dsimp only)); refine box_event ?hg (N := 10) ?hd (cs := #[.int .i64 0, .int .i64 0]) (t := 27) ?hr ?_; (case hd => rfl); (case hg => rfl); (case hr => first | (go_simp; done) | (go_simp; rfl)); intro gb177 hg w36 hbox hb; have n0_ := Aside0.mk (Kd.P_below (Kd.P_elderB (by (with_reducible repeat (first | apply Kd.P_alloc | apply Kd.P_drewN | apply Kd.P_drew)); exact HO_5.out) gb177 (Nat.le_of_eq hg.symm)) hb); have n1_ := Aside0.mk (Kd.R_below (by (with_reducible repeat (first | apply Kd.R_alloc | apply Kd.R_drewN | apply Kd.R_drew)); exact HO_6.out) hb); have n2_ := Aside0.mk (Kd.R_below (by (with_reducible repeat (first | apply Kd.R_alloc | apply Kd.R_drewN | apply Kd.R_drew)); exact HO_35.out) hb); have n3_ := Aside0.mk (below_step (by repeat (first | (with_reducible first | exact HB.out | apply below_alloc | apply pw_below_drewN | apply below_drew1) | exact HB.out)) hb); have n4_ := Aside0.mk (hbox); have n5_ := Aside0.mk ((by rw [hg]; exact (below_size (by repeat (first | (with_reducible first | exact HB.out | apply below_alloc | apply pw_below_drewN | apply below_drew1) | exact HB.out))) : w.heap.size ≤ gb177)); have n6_ := Aside0.mk ((by rw [hg]; exact (below_size (by repeat (first | (with_reducible first | exact HB.out | apply below_alloc | apply pw_below_drewN | apply below_drew1) | exact HB.out))) : w.heap.size ≤ gb177)); clear HO_5; clear HO_6; clear HO_35; clear HB; have HO_5 := n0_; have HO_6 := n1_; have HO_35 := n2_; have HB := n3_; have BK177 := n4_; have GW177 := n5_; have GE177 := n6_; clear n0_ n1_ n2_ n3_ n4_ n5_ n6_; clear hb hbox hg; have hcz37_0 : w36.cell? ⟨gb177, 0, none⟩ = some (.int .i64 0) := (blk_cell BK177.out 0).trans rfl; have hcz37_1 : w36.cell? ⟨gb177, 1, none⟩ = some (.int .i64 0) := (blk_cell BK177.out 1).trans rfl; have hfz37_0 := blk_frozen BK177.out 0; have hfz37_1 := blk_frozen BK177.out 1))
                        go_ret
                        exact ⟨by first | rfl | (simp [errW_none, errW_some] <;> rfl) | (simp [*, errW_none, errW_some] <;> rfl), by repeat (first | (with_reducible first | exact HB.out | apply below_alloc | apply pw_below_drewN | apply below_drew1 | refine below_set ?_ GE177.out) | exact HB.out)⟩
                    · rw [if_neg c25] at H
                      exact absurd H (by simp)
                  · rw [if_neg c24] at H
                    exact absurd H (by simp)
                · rw [if_neg c23] at H
                  have c23b0 : decide (x37_2 < (t165.length : Int)) = false := decide_eq_false c23
                  clear c23
                  replace H := Option.bind_eq_some_iff.mp H
                  obtain ⟨⟨t178, t179, t180⟩, A380, H⟩ := H
                  replace H : (if a1 ≥ 1 then (if ((t180 == 0) == (decide (a1 ≤ (t165.length : Int)))) = true then (if t180 = 0 then (some true) else (if t180 = 2 then (some (t178 == 0 && (t179 == 0))) else (some false))) else (some false)) else (if ((t180 == 0) == false) = true then (if t180 = 0 then (some true) else (if t180 = 2 then (some (t178 == 0 && (t179 == 0))) else (some false))) else (some false))) = some r := H
                  have A38 := Aside0.mk A380
                  clear A380
                  by_cases c39 : a1 ≥ 1
                  · rw [if_pos c39] at H
                    have c39b0 : decide (1 ≤ a1) = true := decide_eq_true c39
                    clear c39
                    by_cases c40 : ((t180 == 0) == (decide (a1 ≤ (t165.length : Int)))) = true
                    · rw [if_pos c40] at H
                      have c40b0 : ((t180 == 0) == (decide (a1 ≤ (t165.length : Int)))) = true := c40
                      (try (have c40b1 : decide ((t180 == 0) = (decide (a1 ≤ (t165.length : Int)))) = true := by simpa using c40))
                      (try (have c40b2 : ((t180 == 0) == (decide (a1 ≤ (t165.length : Int)))) = true := by simpa using c40))
                      clear c40
                      by_cases c41 : t180 = 0
                      · rw [if_pos c41] at H
                        have c41b0 : (t180 == 0) = true := beq_iff_eq.mpr c41
                        (try (have c41q : (decide (a1 ≤ (t165.length : Int))) = true := by have h_ := c40b0; rw [c41b0] at h_; revert h_; cases (decide (a1 ≤ (t165.length : Int))) <;> simp))
                        have c41b1 : (t180 != 0) = false := bne_eq_false_iff_eq.mpr c41
                        clear c41
                        obtain rfl := Option.some.inj H
                        go_wp2_with (first | ((with_reducible refine gate_callee (f := 32) rfl ?_); refine goesL_ (some 67) rfl rfl Try.func32 (by kernel_rfl) rfl #[v163, .int .i64 a1] rfl (by (try simp only [List.map_toArray, List.map_cons, List.map_nil]); first | done | rfl | (simp only [List.length_drop, List.length_take]; rfl)) ?_; (with_reducible refine (lines_Index_Span.calls _ t162 a1 t178 t179 t180 _ ?side1 A38.out).mono ?_); (case side1 => exact Kd.P_now (by (with_reducible repeat (first | apply Kd.P_alloc | apply Kd.P_drewN | apply Kd.P_drew)); exact HO_5.out)); rintro e w42 ⟨rfl, hb⟩; refine ⟨_, rfl, ?_⟩; have n0_ := Aside0.mk (Kd.P_below (by (with_reducible repeat (first | apply Kd.P_alloc | apply Kd.P_drewN | apply Kd.P_drew)); exact HO_5.out) hb); have n1_ := Aside0.mk (Kd.R_below (by (with_reducible repeat (first | apply Kd.R_alloc | apply Kd.R_drewN | apply Kd.R_drew)); exact HO_6.out) hb); have n2_ := Aside0.mk (Kd.R_below (by (with_reducible repeat (first | apply Kd.R_alloc | apply Kd.R_drewN | apply Kd.R_drew)); exact HO_35.out) hb); have n3_ := Aside0.mk (below_step (by repeat (first | (with_reducible first | exact HB.out | apply below_alloc | apply pw_below_drewN | apply below_drew1) | exact HB.out)) hb); clear HO_5; clear HO_6; clear HO_35; clear HB; have HO_5 := n0_; have HO_6 := n1_; have HO_35 := n2_; have HB := n3_; clear n0_ n1_ n2_ n3_; (try clear hb); (try clear hb2); (try clear hk); (try clear hi)) | ((with_reducible refine gate_dst (N := 12) rfl ?_); (try (refine gate_guard (by rfl) ?_; dsimp only)); refine box_event ?hg (N := 12) ?hd (cs := #[.int .i64 0, .int .i64 0]) (t := 27) ?hr ?_; (case hd => rfl); (case hg => rfl); (case hr => first | (go_simp; done) | (go_simp; rfl)); intro gb181 hg w43 hbox hb; have n0_ := Aside0.mk (Kd.P_below (Kd.P_elderB (by (with_reducible repeat (first | apply Kd.P_alloc | apply Kd.P_drewN | apply Kd.P_drew)); exact HO_5.out) gb181 (Nat.le_of_eq hg.symm)) hb); have n1_ := Aside0.mk (Kd.R_below (by (with_reducible repeat (first | apply Kd.R_alloc | apply Kd.R_drewN | apply Kd.R_drew)); exact HO_6.out) hb); have n2_ := Aside0.mk (Kd.R_below (by (with_reducible repeat (first | apply Kd.R_alloc | apply Kd.R_drewN | apply Kd.R_drew)); exact HO_35.out) hb); have n3_ := Aside0.mk (below_step (by repeat (first | (with_reducible first | exact HB.out | apply below_alloc | apply pw_below_drewN | apply below_drew1) | exact HB.out)) hb); have n4_ := Aside0.mk (hbox); have n5_ := Aside0.mk ((by rw [hg]; exact (below_size (by repeat (first | (with_reducible first | exact HB.out | apply below_alloc | apply pw_below_drewN | apply below_drew1) | exact HB.out))) : w.heap.size ≤ gb181)); have n6_ := Aside0.mk ((by rw [hg]; exact (below_size (by repeat (first | (with_reducible first | exact HB.out | apply below_alloc | apply pw_below_drewN | apply below_drew1) | exact HB.out))) : w.heap.size ≤ gb181)); clear HO_5; clear HO_6; clear HO_35; clear HB; have HO_5 := n0_; have HO_6 := n1_; have HO_35 := n2_; have HB := n3_; have BK181 := n4_; have GW181 := n5_; have GE181 := n6_; clear n0_ n1_ n2_ n3_ n4_ n5_ n6_; clear hb hbox hg; have hcz44_0 : w43.cell? ⟨gb181, 0, none⟩ = some (.int .i64 0) := (blk_cell BK181.out 0).trans rfl; have hcz44_1 : w43.cell? ⟨gb181, 1, none⟩ = some (.int .i64 0) := (blk_cell BK181.out 1).trans rfl; have hfz44_0 := blk_frozen BK181.out 0; have hfz44_1 := blk_frozen BK181.out 1))
                        go_ret
                        exact ⟨by first | rfl | (simp [errW_none, errW_some] <;> rfl) | (simp [*, errW_none, errW_some] <;> rfl), by repeat (first | (with_reducible first | exact HB.out | apply below_alloc | apply pw_below_drewN | apply below_drew1 | refine below_set ?_ GE181.out) | exact HB.out)⟩
                      · rw [if_neg c41] at H
                        have c41b0 : (t180 == 0) = false := beq_eq_false_iff_ne.mpr c41
                        (try (have c41q : (decide (a1 ≤ (t165.length : Int))) = false := by have h_ := c40b0; rw [c41b0] at h_; revert h_; cases (decide (a1 ≤ (t165.length : Int))) <;> simp))
                        have c41b1 : (t180 != 0) = true := bne_iff_ne.mpr c41
                        by_cases c45 : t180 = 2
                        · rw [if_pos c45] at H
                          have c45b0 : (t180 == 2) = true := beq_iff_eq.mpr c45
                          have c45b1 : (t180 != 2) = false := bne_eq_false_iff_eq.mpr c45
                          clear c45
                          obtain rfl := Option.some.inj H
                          go_wp2_with (first | ((with_reducible refine gate_callee (f := 32) rfl ?_); refine goesL_ (some 67) rfl rfl Try.func32 (by kernel_rfl) rfl #[v163, .int .i64 a1] rfl (by (try simp only [List.map_toArray, List.map_cons, List.map_nil]); first | done | rfl | (simp only [List.length_drop, List.length_take]; rfl)) ?_; (with_reducible refine (lines_Index_Span.calls _ t162 a1 t178 t179 t180 _ ?side1 A38.out).mono ?_); (case side1 => exact Kd.P_now (by (with_reducible repeat (first | apply Kd.P_alloc | apply Kd.P_drewN | apply Kd.P_drew)); exact HO_5.out)); rintro e w46 ⟨rfl, hb⟩; refine ⟨_, rfl, ?_⟩; have n0_ := Aside0.mk (Kd.P_below (by (with_reducible repeat (first | apply Kd.P_alloc | apply Kd.P_drewN | apply Kd.P_drew)); exact HO_5.out) hb); have n1_ := Aside0.mk (Kd.R_below (by (with_reducible repeat (first | apply Kd.R_alloc | apply Kd.R_drewN | apply Kd.R_drew)); exact HO_6.out) hb); have n2_ := Aside0.mk (Kd.R_below (by (with_reducible repeat (first | apply Kd.R_alloc | apply Kd.R_drewN | apply Kd.R_drew)); exact HO_35.out) hb); have n3_ := Aside0.mk (below_step (by repeat (first | (with_reducible first | exact HB.out | apply below_alloc | apply pw_below_drewN | apply below_drew1) | exact HB.out)) hb); clear HO_5; clear HO_6; clear HO_35; clear HB; have HO_5 := n0_; have HO_6 := n1_; have HO_35 := n2_; have HB := n3_; clear n0_ n1_ n2_ n3_; (try clear hb); (try clear hb2); (try clear hk); (try clear hi)) | ((with_reducible refine gate_dst (N := 12) rfl ?_); (try (refine gate_guard (by rfl) ?_; dsimp only)); refine box_event ?hg (N := 12) ?hd (cs := #[.int .i64 0, .int .i64 0]) (t := 27) ?hr ?_; (case hd => rfl); (case hg => rfl); (case hr => first | (go_simp; done) | (go_simp; rfl)); intro gb181 hg w47 hbox hb; have n0_ := Aside0.mk (Kd.P_below (Kd.P_elderB (by (with_reducible repeat (first | apply Kd.P_alloc | apply Kd.P_drewN | apply Kd.P_drew)); exact HO_5.out) gb181 (Nat.le_of_eq hg.symm)) hb); have n1_ := Aside0.mk (Kd.R_below (by (with_reducible repeat (first | apply Kd.R_alloc | apply Kd.R_drewN | apply Kd.R_drew)); exact HO_6.out) hb); have n2_ := Aside0.mk (Kd.R_below (by (with_reducible repeat (first | apply Kd.R_alloc | apply Kd.R_drewN | apply Kd.R_drew)); exact HO_35.out) hb); have n3_ := Aside0.mk (below_step (by repeat (first | (with_reducible first | exact HB.out | apply below_alloc | apply pw_below_drewN | apply below_drew1) | exact HB.out)) hb); have n4_ := Aside0.mk (hbox); have n5_ := Aside0.mk ((by rw [hg]; exact (below_size (by repeat (first | (with_reducible first | exact HB.out | apply below_alloc | apply pw_below_drewN | apply below_drew1) | exact HB.out))) : w.heap.size ≤ gb181)); have n6_ := Aside0.mk ((by rw [hg]; exact (below_size (by repeat (first | (with_reducible first | exact HB.out | apply below_alloc | apply pw_below_drewN | apply below_drew1) | exact HB.out))) : w.heap.size ≤ gb181)); clear HO_5; clear HO_6; clear HO_35; clear HB; have HO_5 := n0_; have HO_6 := n1_; have HO_35 := n2_; have HB := n3_; have BK181 := n4_; have GW181 := n5_; have GE181 := n6_; clear n0_ n1_ n2_ n3_ n4_ n5_ n6_; clear hb hbox hg; have hcz48_0 : w47.cell? ⟨gb181, 0, none⟩ = some (.int .i64 0) := (blk_cell BK181.out 0).trans rfl; have hcz48_1 : w47.cell? ⟨gb181, 1, none⟩ = some (.int .i64 0) := (blk_cell BK181.out 1).trans rfl; have hfz48_0 := blk_frozen BK181.out 0; have hfz48_1 := blk_frozen BK181.out 1))
                          go_ret
                          exact ⟨by first | rfl | (simp [errW_none, errW_some] <;> rfl) | (simp [*, errW_none, errW_some] <;> rfl), by repeat (first | (with_reducible first | exact HB.out | apply below_alloc | apply pw_below_drewN | apply below_drew1 | refine below_set ?_ GE181.out) | exact HB.out)⟩
                        · rw [if_neg c45] at H
                          have c45b0 : (t180 == 2) = false := beq_eq_false_iff_ne.mpr c45
                          have c45b1 : (t180 != 2) = true := bne_iff_ne.mpr c45
                          obtain rfl := Option.some.inj H
                          go_wp2_with (first | ((with_reducible refine gate_callee (f := 32) rfl ?_); refine goesL_ (some 67) rfl rfl Try.func32 (by kernel_rfl) rfl #[v163, .int .i64 a1] rfl (by (try simp only [List.map_toArray, List.map_cons, List.map_nil]); first | done | rfl | (simp only [List.length_drop, List.length_take]; rfl)) ?_; (with_reducible refine (lines_Index_Span.calls _ t162 a1 t178 t179 t180 _ ?side1 A38.out).mono ?_); (case side1 => exact Kd.P_now (by (with_reducible repeat (first | apply Kd.P_alloc | apply Kd.P_drewN | apply Kd.P_drew)); exact HO_5.out)); rintro e w49 ⟨rfl, hb⟩; refine ⟨_, rfl, ?_⟩; have n0_ := Aside0.mk (Kd.P_below (by (with_reducible repeat (first | apply Kd.P_alloc | apply Kd.P_drewN | apply Kd.P_drew)); exact HO_5.out) hb); have n1_ := Aside0.mk (Kd.R_below (by (with_reducible repeat (first | apply Kd.R_alloc | apply Kd.R_drewN | apply Kd.R_drew)); exact HO_6.out) hb); have n2_ := Aside0.mk (Kd.R_below (by (with_reducible repeat (first | apply Kd.R_alloc | apply Kd.R_drewN | apply Kd.R_drew)); exact HO_35.out) hb); have n3_ := Aside0.mk (below_step (by repeat (first | (with_reducible first | exact HB.out | apply below_alloc | apply pw_below_drewN | apply below_drew1) | exact HB.out)) hb); clear HO_5; clear HO_6; clear HO_35; clear HB; have HO_5 := n0_; have HO_6 := n1_; have HO_35 := n2_; have HB := n3_; clear n0_ n1_ n2_ n3_; (try clear hb); (try clear hb2); (try clear hk); (try clear hi)) | ((with_reducible refine gate_dst (N := 12) rfl ?_); (try (refine gate_guard (by rfl) ?_; dsimp only)); refine box_event ?hg (N := 12) ?hd (cs := #[.int .i64 0, .int .i64 0]) (t := 27) ?hr ?_; (case hd => rfl); (case hg => rfl); (case hr => first | (go_simp; done) | (go_simp; rfl)); intro gb181 hg w50 hbox hb; have n0_ := Aside0.mk (Kd.P_below (Kd.P_elderB (by (with_reducible repeat (first | apply Kd.P_alloc | apply Kd.P_drewN | apply Kd.P_drew)); exact HO_5.out) gb181 (Nat.le_of_eq hg.symm)) hb); have n1_ := Aside0.mk (Kd.R_below (by (with_reducible repeat (first | apply Kd.R_alloc | apply Kd.R_drewN | apply Kd.R_drew)); exact HO_6.out) hb); have n2_ := Aside0.mk (Kd.R_below (by (with_reducible repeat (first | apply Kd.R_alloc | apply Kd.R_drewN | apply Kd.R_drew)); exact HO_35.out) hb); have n3_ := Aside0.mk (below_step (by repeat (first | (with_reducible first | exact HB.out | apply below_alloc | apply pw_below_drewN | apply below_drew1) | exact HB.out)) hb); have n4_ := Aside0.mk (hbox); have n5_ := Aside0.mk ((by rw [hg]; exact (below_size (by repeat (first | (with_reducible first | exact HB.out | apply below_alloc | apply pw_below_drewN | apply below_drew1) | exact HB.out))) : w.heap.size ≤ gb181)); have n6_ := Aside0.mk ((by rw [hg]; exact (below_size (by repeat (first | (with_reducible first | exact HB.out | apply below_alloc | apply pw_below_drewN | apply below_drew1) | exact HB.out))) : w.heap.size ≤ gb181)); clear HO_5; clear HO_6; clear HO_35; clear HB; have HO_5 := n0_; have HO_6 := n1_; have HO_35 := n2_; have HB := n3_; have BK181 := n4_; have GW181 := n5_; have GE181 := n6_; clear n0_ n1_ n2_ n3_ n4_ n5_ n6_; clear hb hbox hg; have hcz51_0 : w50.cell? ⟨gb181, 0, none⟩ = some (.int .i64 0) := (blk_cell BK181.out 0).trans rfl; have hcz51_1 : w50.cell? ⟨gb181, 1, none⟩ = some (.int .i64 0) := (blk_cell BK181.out 1).trans rfl; have hfz51_0 := blk_frozen BK181.out 0; have hfz51_1 := blk_frozen BK181.out 1))
                          go_ret
                          exact ⟨by first | rfl | (simp [errW_none, errW_some] <;> rfl) | (simp [*, errW_none, errW_some] <;> rfl), by repeat (first | (with_reducible first | exact HB.out | apply below_alloc | apply pw_below_drewN | apply below_drew1 | refine below_set ?_ GE181.out) | exact HB.out)⟩
                    · rw [if_neg c40] at H
                      have c40b0 : ((t180 == 0) == (decide (a1 ≤ (t165.length : Int)))) = false := by simpa using c40
                      (try (have c40b1 : decide ((t180 == 0) = (decide (a1 ≤ (t165.length : Int)))) = false := by simpa using c40))
                      (try (have c40b2 : ((t180 == 0) == (decide (a1 ≤ (t165.length : Int)))) = false := by simpa using c40))
                      (try (have c40b3 : ¬ ((t180 == 0) = (decide (a1 ≤ (t165.length : Int)))) := by simpa using c40))
                      clear c40
                      obtain rfl := Option.some.inj H
                      go_wp2_with (first | ((with_reducible refine gate_callee (f := 32) rfl ?_); refine goesL_ (some 67) rfl rfl Try.func32 (by kernel_rfl) rfl #[v163, .int .i64 a1] rfl (by (try simp only [List.map_toArray, List.map_cons, List.map_nil]); first | done | rfl | (simp only [List.length_drop, List.length_take]; rfl)) ?_; (with_reducible refine (lines_Index_Span.calls _ t162 a1 t178 t179 t180 _ ?side1 A38.out).mono ?_); (case side1 => exact Kd.P_now (by (with_reducible repeat (first | apply Kd.P_alloc | apply Kd.P_drewN | apply Kd.P_drew)); exact HO_5.out)); rintro e w52 ⟨rfl, hb⟩; refine ⟨_, rfl, ?_⟩; have n0_ := Aside0.mk (Kd.P_below (by (with_reducible repeat (first | apply Kd.P_alloc | apply Kd.P_drewN | apply Kd.P_drew)); exact HO_5.out) hb); have n1_ := Aside0.mk (Kd.R_below (by (with_reducible repeat (first | apply Kd.R_alloc | apply Kd.R_drewN | apply Kd.R_drew)); exact HO_6.out) hb); have n2_ := Aside0.mk (Kd.R_below (by (with_reducible repeat (first | apply Kd.R_alloc | apply Kd.R_drewN | apply Kd.R_drew)); exact HO_35.out) hb); have n3_ := Aside0.mk (below_step (by repeat (first | (with_reducible first | exact HB.out | apply below_alloc | apply pw_below_drewN | apply below_drew1) | exact HB.out)) hb); clear HO_5; clear HO_6; clear HO_35; clear HB; have HO_5 := n0_; have HO_6 := n1_; have HO_35 := n2_; have HB := n3_; clear n0_ n1_ n2_ n3_; (try clear hb); (try clear hb2); (try clear hk); (try clear hi)) | ((with_reducible refine gate_dst (N := 12) rfl ?_); (try (refine gate_guard (by rfl) ?_; dsimp only)); refine box_event ?hg (N := 12) ?hd (cs := #[.int .i64 0, .int .i64 0]) (t := 27) ?hr ?_; (case hd => rfl); (case hg => rfl); (case hr => first | (go_simp; done) | (go_simp; rfl)); intro gb181 hg w53 hbox hb; have n0_ := Aside0.mk (Kd.P_below (Kd.P_elderB (by (with_reducible repeat (first | apply Kd.P_alloc | apply Kd.P_drewN | apply Kd.P_drew)); exact HO_5.out) gb181 (Nat.le_of_eq hg.symm)) hb); have n1_ := Aside0.mk (Kd.R_below (by (with_reducible repeat (first | apply Kd.R_alloc | apply Kd.R_drewN | apply Kd.R_drew)); exact HO_6.out) hb); have n2_ := Aside0.mk (Kd.R_below (by (with_reducible repeat (first | apply Kd.R_alloc | apply Kd.R_drewN | apply Kd.R_drew)); exact HO_35.out) hb); have n3_ := Aside0.mk (below_step (by repeat (first | (with_reducible first | exact HB.out | apply below_alloc | apply pw_below_drewN | apply below_drew1) | exact HB.out)) hb); have n4_ := Aside0.mk (hbox); have n5_ := Aside0.mk ((by rw [hg]; exact (below_size (by repeat (first | (with_reducible first | exact HB.out | apply below_alloc | apply pw_below_drewN | apply below_drew1) | exact HB.out))) : w.heap.size ≤ gb181)); have n6_ := Aside0.mk ((by rw [hg]; exact (below_size (by repeat (first | (with_reducible first | exact HB.out | apply below_alloc | apply pw_below_drewN | apply below_drew1) | exact HB.out))) : w.heap.size ≤ gb181)); clear HO_5; clear HO_6; clear HO_35; clear HB; have HO_5 := n0_; have HO_6 := n1_; have HO_35 := n2_; have HB := n3_; have BK181 := n4_; have GW181 := n5_; have GE181 := n6_; clear n0_ n1_ n2_ n3_ n4_ n5_ n6_; clear hb hbox hg; have hcz54_0 : w53.cell? ⟨gb181, 0, none⟩ = some (.int .i64 0) := (blk_cell BK181.out 0).trans rfl; have hcz54_1 : w53.cell? ⟨gb181, 1, none⟩ = some (.int .i64 0) := (blk_cell BK181.out 1).trans rfl; have hfz54_0 := blk_frozen BK181.out 0; have hfz54_1 := blk_frozen BK181.out 1))
                      go_ret
                      exact ⟨by first | rfl | (simp [errW_none, errW_some] <;> rfl) | (simp [*, errW_none, errW_some] <;> rfl), by repeat (first | (with_reducible first | exact HB.out | apply below_alloc | apply pw_below_drewN | apply below_drew1 | refine below_set ?_ GE181.out) | exact HB.out)⟩
                  · rw [if_neg c39] at H
                    have c39b0 : decide (1 ≤ a1) = false := decide_eq_false c39
                    clear c39
                    by_cases c55 : ((t180 == 0) == false) = true
                    · rw [if_pos c55] at H
                      have c55b0 : ((t180 == 0) == false) = true := c55
                      (try (have c55b1 : decide ((t180 == 0) = false) = true := by simpa using c55))
                      (try (have c55b2 : ((t180 == 0) == false) = true := by simpa using c55))
                      clear c55
                      by_cases c56 : t180 = 0
                      · rw [if_pos c56] at H
                        have c56b0 : (t180 == 0) = true := beq_iff_eq.mpr c56
                        exact absurd c55b0 (by rw [c56b0]; decide)
                      · rw [if_neg c56] at H
                        have c56b0 : (t180 == 0) = false := beq_eq_false_iff_ne.mpr c56
                        have c56b1 : (t180 != 0) = true := bne_iff_ne.mpr c56
                        by_cases c60 : t180 = 2
                        · rw [if_pos c60] at H
                          have c60b0 : (t180 == 2) = true := beq_iff_eq.mpr c60
                          have c60b1 : (t180 != 2) = false := bne_eq_false_iff_eq.mpr c60
                          clear c60
                          obtain rfl := Option.some.inj H
                          go_wp2_with (first | ((with_reducible refine gate_callee (f := 32) rfl ?_); refine goesL_ (some 67) rfl rfl Try.func32 (by kernel_rfl) rfl #[v163, .int .i64 a1] rfl (by (try simp only [List.map_toArray, List.map_cons, List.map_nil]); first | done | rfl | (simp only [List.length_drop, List.length_take]; rfl)) ?_; (with_reducible refine (lines_Index_Span.calls _ t162 a1 t178 t179 t180 _ ?side1 A38.out).mono ?_); (case side1 => exact Kd.P_now (by (with_reducible repeat (first | apply Kd.P_alloc | apply Kd.P_drewN | apply Kd.P_drew)); exact HO_5.out)); rintro e w61 ⟨rfl, hb⟩; refine ⟨_, rfl, ?_⟩; have n0_ := Aside0.mk (Kd.P_below (by (with_reducible repeat (first | apply Kd.P_alloc | apply Kd.P_drewN | apply Kd.P_drew)); exact HO_5.out) hb); have n1_ := Aside0.mk (Kd.R_below (by (with_reducible repeat (first | apply Kd.R_alloc | apply Kd.R_drewN | apply Kd.R_drew)); exact HO_6.out) hb); have n2_ := Aside0.mk (Kd.R_below (by (with_reducible repeat (first | apply Kd.R_alloc | apply Kd.R_drewN | apply Kd.R_drew)); exact HO_35.out) hb); have n3_ := Aside0.mk (below_step (by repeat (first | (with_reducible first | exact HB.out | apply below_alloc | apply pw_below_drewN | apply below_drew1) | exact HB.out)) hb); clear HO_5; clear HO_6; clear HO_35; clear HB; have HO_5 := n0_; have HO_6 := n1_; have HO_35 := n2_; have HB := n3_; clear n0_ n1_ n2_ n3_; (try clear hb); (try clear hb2); (try clear hk); (try clear hi)) | ((with_reducible refine gate_dst (N := 12) rfl ?_); (try (refine gate_guard (by rfl) ?_; dsimp only)); refine box_event ?hg (N := 12) ?hd (cs := #[.int .i64 0, .int .i64 0]) (t := 27) ?hr ?_; (case hd => rfl); (case hg => rfl); (case hr => first | (go_simp; done) | (go_simp; rfl)); intro gb181 hg w62 hbox hb; have n0_ := Aside0.mk (Kd.P_below (Kd.P_elderB (by (with_reducible repeat (first | apply Kd.P_alloc | apply Kd.P_drewN | apply Kd.P_drew)); exact HO_5.out) gb181 (Nat.le_of_eq hg.symm)) hb); have n1_ := Aside0.mk (Kd.R_below (by (with_reducible repeat (first | apply Kd.R_alloc | apply Kd.R_drewN | apply Kd.R_drew)); exact HO_6.out) hb); have n2_ := Aside0.mk (Kd.R_below (by (with_reducible repeat (first | apply Kd.R_alloc | apply Kd.R_drewN | apply Kd.R_drew)); exact HO_35.out) hb); have n3_ := Aside0.mk (below_step (by repeat (first | (with_reducible first | exact HB.out | apply below_alloc | apply pw_below_drewN | apply below_drew1) | exact HB.out)) hb); have n4_ := Aside0.mk (hbox); have n5_ := Aside0.mk ((by rw [hg]; exact (below_size (by repeat (first | (with_reducible first | exact HB.out | apply below_alloc | apply pw_below_drewN | apply below_drew1) | exact HB.out))) : w.heap.size ≤ gb181)); have n6_ := Aside0.mk ((by rw [hg]; exact (below_size (by repeat (first | (with_reducible first | exact HB.out | apply below_alloc | apply pw_below_drewN | apply below_drew1) | exact HB.out))) : w.heap.size ≤ gb181)); clear HO_5; clear HO_6; clear HO_35; clear HB; have HO_5 := n0_; have HO_6 := n1_; have HO_35 := n2_; have HB := n3_; have BK181 := n4_; have GW181 := n5_; have GE181 := n6_; clear n0_ n1_ n2_ n3_ n4_ n5_ n6_; clear hb hbox hg; have hcz63_0 : w62.cell? ⟨gb181, 0, none⟩ = some (.int .i64 0) := (blk_cell BK181.out 0).trans rfl; have hcz63_1 : w62.cell? ⟨gb181, 1, none⟩ = some (.int .i64 0) := (blk_cell BK181.out 1).trans rfl; have hfz63_0 := blk_frozen BK181.out 0; have hfz63_1 := blk_frozen BK181.out 1))
                          go_ret
                          exact ⟨by first | rfl | (simp [errW_none, errW_some] <;> rfl) | (simp [*, errW_none, errW_some] <;> rfl), by repeat (first | (with_reducible first | exact HB.out | apply below_alloc | apply pw_below_drewN | apply below_drew1 | refine below_set ?_ GE181.out) | exact HB.out)⟩
                        · rw [if_neg c60] at H
                          have c60b0 : (t180 == 2) = false := beq_eq_false_iff_ne.mpr c60
                          have c60b1 : (t180 != 2) = true := bne_iff_ne.mpr c60
                          obtain rfl := Option.some.inj H
                          go_wp2_with (first | ((with_reducible refine gate_callee (f := 32) rfl ?_); refine goesL_ (some 67) rfl rfl Try.func32 (by kernel_rfl) rfl #[v163, .int .i64 a1] rfl (by (try simp only [List.map_toArray, List.map_cons, List.map_nil]); first | done | rfl | (simp only [List.length_drop, List.length_take]; rfl)) ?_; (with_reducible refine (lines_Index_Span.calls _ t162 a1 t178 t179 t180 _ ?side1 A38.out).mono ?_); (case side1 => exact Kd.P_now (by (with_reducible repeat (first | apply Kd.P_alloc | apply Kd.P_drewN | apply Kd.P_drew)); exact HO_5.out)); rintro e w64 ⟨rfl, hb⟩; refine ⟨_, rfl, ?_⟩; have n0_ := Aside0.mk (Kd.P_below (by (with_reducible repeat (first | apply Kd.P_alloc | apply Kd.P_drewN | apply Kd.P_drew)); exact HO_5.out) hb); have n1_ := Aside0.mk (Kd.R_below (by (with_reducible repeat (first | apply Kd.R_alloc | apply Kd.R_drewN | apply Kd.R_drew)); exact HO_6.out) hb); have n2_ := Aside0.mk (Kd.R_below (by (with_reducible repeat (first | apply Kd.R_alloc | apply Kd.R_drewN | apply Kd.R_drew)); exact HO_35.out) hb); have n3_ := Aside0.mk (below_step (by repeat (first | (with_reducible first | exact HB.out | apply below_alloc | apply pw_below_drewN | apply below_drew1) | exact HB.out)) hb); clear HO_5; clear HO_6; clear HO_35; clear HB; have HO_5 := n0_; have HO_6 := n1_; have HO_35 := n2_; have HB := n3_; clear n0_ n1_ n2_ n3_; (try clear hb); (try clear hb2); (try clear hk); (try clear hi)) | ((with_reducible refine gate_dst (N := 12) rfl ?_); (try (refine gate_guard (by rfl) ?_; dsimp only)); refine box_event ?hg (N := 12) ?hd (cs := #[.int .i64 0, .int .i64 0]) (t := 27) ?hr ?_; (case hd => rfl); (case hg => rfl); (case hr => first | (go_simp; done) | (go_simp; rfl)); intro gb181 hg w65 hbox hb; have n0_ := Aside0.mk (Kd.P_below (Kd.P_elderB (by (with_reducible repeat (first | apply Kd.P_alloc | apply Kd.P_drewN | apply Kd.P_drew)); exact HO_5.out) gb181 (Nat.le_of_eq hg.symm)) hb); have n1_ := Aside0.mk (Kd.R_below (by (with_reducible repeat (first | apply Kd.R_alloc | apply Kd.R_drewN | apply Kd.R_drew)); exact HO_6.out) hb); have n2_ := Aside0.mk (Kd.R_below (by (with_reducible repeat (first | apply Kd.R_alloc | apply Kd.R_drewN | apply Kd.R_drew)); exact HO_35.out) hb); have n3_ := Aside0.mk (below_step (by repeat (first | (with_reducible first | exact HB.out | apply below_alloc | apply pw_below_drewN | apply below_drew1) | exact HB.out)) hb); have n4_ := Aside0.mk (hbox); have n5_ := Aside0.mk ((by rw [hg]; exact (below_size (by repeat (first | (with_reducible first | exact HB.out | apply below_alloc | apply pw_below_drewN | apply below_drew1) | exact HB.out))) : w.heap.size ≤ gb181)); have n6_ := Aside0.mk ((by rw [hg]; exact (below_size (by repeat (first | (with_reducible first | exact HB.out | apply below_alloc | apply pw_below_drewN | apply below_drew1) | exact HB.out))) : w.heap.size ≤ gb181)); clear HO_5; clear HO_6; clear HO_35; clear HB; have HO_5 := n0_; have HO_6 := n1_; have HO_35 := n2_; have HB := n3_; have BK181 := n4_; have GW181 := n5_; have GE181 := n6_; clear n0_ n1_ n2_ n3_ n4_ n5_ n6_; clear hb hbox hg; have hcz66_0 : w65.cell? ⟨gb181, 0, none⟩ = some (.int .i64 0) := (blk_cell BK181.out 0).trans rfl; have hcz66_1 : w65.cell? ⟨gb181, 1, none⟩ = some (.int .i64 0) := (blk_cell BK181.out 1).trans rfl; have hfz66_0 := blk_frozen BK181.out 0; have hfz66_1 := blk_frozen BK181.out 1))
                          go_ret
                          exact ⟨by first | rfl | (simp [errW_none, errW_some] <;> rfl) | (simp [*, errW_none, errW_some] <;> rfl), by repeat (first | (with_reducible first | exact HB.out | apply below_alloc | apply pw_below_drewN | apply below_drew1 | refine below_set ?_ GE181.out) | exact HB.out)⟩
                    · rw [if_neg c55] at H
                      have c55b0 : ((t180 == 0) == false) = false := by simpa using c55
                      (try (have c55b1 : decide ((t180 == 0) = false) = false := by simpa using c55))
                      (try (have c55b2 : ((t180 == 0) == false) = false := by simpa using c55))
                      (try (have c55b3 : ¬ ((t180 == 0) = false) := by simpa using c55))
                      clear c55
                      obtain rfl := Option.some.inj H
                      go_wp2_with (first | ((with_reducible refine gate_callee (f := 32) rfl ?_); refine goesL_ (some 67) rfl rfl Try.func32 (by kernel_rfl) rfl #[v163, .int .i64 a1] rfl (by (try simp only [List.map_toArray, List.map_cons, List.map_nil]); first | done | rfl | (simp only [List.length_drop, List.length_take]; rfl)) ?_; (with_reducible refine (lines_Index_Span.calls _ t162 a1 t178 t179 t180 _ ?side1 A38.out).mono ?_); (case side1 => exact Kd.P_now (by (with_reducible repeat (first | apply Kd.P_alloc | apply Kd.P_drewN | apply Kd.P_drew)); exact HO_5.out)); rintro e w67 ⟨rfl, hb⟩; refine ⟨_, rfl, ?_⟩; have n0_ := Aside0.mk (Kd.P_below (by (with_reducible repeat (first | apply Kd.P_alloc | apply Kd.P_drewN | apply Kd.P_drew)); exact HO_5.out) hb); have n1_ := Aside0.mk (Kd.R_below (by (with_reducible repeat (first | apply Kd.R_alloc | apply Kd.R_drewN | apply Kd.R_drew)); exact HO_6.out) hb); have n2_ := Aside0.mk (Kd.R_below (by (with_reducible repeat (first | apply Kd.R_alloc | apply Kd.R_drewN | apply Kd.R_drew)); exact HO_35.out) hb); have n3_ := Aside0.mk (below_step (by repeat (first | (with_reducible first | exact HB.out | apply below_alloc | apply pw_below_drewN | apply below_drew1) | exact HB.out)) hb); clear HO_5; clear HO_6; clear HO_35; clear HB; have HO_5 := n0_; have HO_6 := n1_; have HO_35 := n2_; have HB := n3_; clear n0_ n1_ n2_ n3_; (try clear hb); (try clear hb2); (try clear hk); (try clear hi)) | ((with_reducible refine gate_dst (N := 12) rfl ?_); (try (refine gate_guard (by rfl) ?_; dsimp only)); refine box_event ?hg (N := 12) ?hd (cs := #[.int .i64 0, .int .i64 0]) (t := 27) ?hr ?_; (case hd => rfl); (case hg => rfl); (case hr => first | (go_simp; done) | (go_simp; rfl)); intro gb181 hg w68 hbox hb; have n0_ := Aside0.mk (Kd.P_below (Kd.P_elderB (by (with_reducible repeat (first | apply Kd.P_alloc | apply Kd.P_drewN | apply Kd.P_drew)); exact HO_5.out) gb181 (Nat.le_of_eq hg.symm)) hb); have n1_ := Aside0.mk (Kd.R_below (by (with_reducible repeat (first | apply Kd.R_alloc | apply Kd.R_drewN | apply Kd.R_drew)); exact HO_6.out) hb); have n2_ := Aside0.mk (Kd.R_below (by (with_reducible repeat (first | apply Kd.R_alloc | apply Kd.R_drewN | apply Kd.R_drew)); exact HO_35.out) hb); have n3_ := Aside0.mk (below_step (by repeat (first | (with_reducible first | exact HB.out | apply below_alloc | apply pw_below_drewN | apply below_drew1) | exact HB.out)) hb); have n4_ := Aside0.mk (hbox); have n5_ := Aside0.mk ((by rw [hg]; exact (below_size (by repeat (first | (with_reducible first | exact HB.out | apply below_alloc | apply pw_below_drewN | apply below_drew1) | exact HB.out))) : w.heap.size ≤ gb181)); have n6_ := Aside0.mk ((by rw [hg]; exact (below_size (by repeat (first | (with_reducible first | exact HB.out | apply below_alloc | apply pw_below_drewN | apply below_drew1) | exact HB.out))) : w.heap.size ≤ gb181)); clear HO_5; clear HO_6; clear HO_35; clear HB; have HO_5 := n0_; have HO_6 := n1_; have HO_35 := n2_; have HB := n3_; have BK181 := n4_; have GW181 := n5_; have GE181 := n6_; clear n0_ n1_ n2_ n3_ n4_ n5_ n6_; clear hb hbox hg; have hcz69_0 : w68.cell? ⟨gb181, 0, none⟩ = some (.int .i64 0) := (blk_cell BK181.out 0).trans rfl; have hcz69_1 : w68.cell? ⟨gb181, 1, none⟩ = some (.int .i64 0) := (blk_cell BK181.out 1).trans rfl; have hfz69_0 := blk_frozen BK181.out 0; have hfz69_1 := blk_frozen BK181.out 1))
                      go_ret
                      exact ⟨by first | rfl | (simp [errW_none, errW_some] <;> rfl) | (simp [*, errW_none, errW_some] <;> rfl), by repeat (first | (with_reducible first | exact HB.out | apply below_alloc | apply pw_below_drewN | apply below_drew1 | refine below_set ?_ GE181.out) | exact HB.out)⟩
  · replace c4 := Bool.eq_false_iff.mpr c4
    subst c4
    have H1 : (some false) = some r := by rw [if_neg (show ¬ (false = true) by decide)] at H; exact H
    clear H
    have H := H1
    clear H1
    obtain rfl := Option.some.inj H
    go_enter Try.func10, Try.ntmps10
    go_wp2_with (first | ((with_reducible refine gate_callee (f := 26) rfl ?_); refine goesL_ (some 14) rfl rfl Try.func26 (by kernel_rfl) rfl #[] rfl (by (try simp only [List.map_toArray, List.map_cons, List.map_nil]); first | done | rfl | (simp only [List.length_drop, List.length_take]; rfl)) ?_; (with_reducible refine (redpenlaw03_Awake.calls k  false _ A3.out).mono ?_); rintro e w70 ⟨rfl, hb⟩; refine ⟨_, rfl, ?_⟩; have n0_ := Aside0.mk (below_step (by repeat (first | (with_reducible first | exact HB.out | apply below_alloc | apply pw_below_drewN | apply below_drew1) | exact HB.out)) hb); clear HB; have HB := n0_; clear n0_; (try clear hb); (try clear hb2); (try clear hk); (try clear hi)))
    go_ret
    exact ⟨by first | rfl | (simp [errW_none, errW_some] <;> rfl) | (simp [*, errW_none, errW_some] <;> rfl), by repeat (first | (with_reducible first | exact HB.out | apply below_alloc | apply pw_below_drewN | apply below_drew1) | exact HB.out)⟩

/-- THE ONE PURE STATEMENT of redpenlaw03_LinesSplit: yours. -/
def redpenlaw03_LinesSplit.Pure : Prop := ∀ (l0 : List Int) (a1 : Int), l0.length ≤ maxLen → l0.length * 1 ≤ 140737488351232 → (∀ x ∈ l0, (Lit.int .u8 x).wf = true) → (Lit.int .i64 a1).wf = true → ∃ k, redpenlaw03_LinesSplit.f k l0 a1 = some true
theorem redpenlaw03_LinesSplit.walk (P : redpenlaw03_LinesSplit.Pure) (a0 : Option Addr) (len0 cap0 : Nat) (z0 : List Int) (a1 : Int) (w : World) (w0 : (a0 = none ∧ len0 = 0 ∧ cap0 = 0 ∧ z0 = []) ∨ ∃ x, a0 = some x ∧ len0 ≤ cap0 ∧ cap0 ≤ maxLen ∧ z0.length = cap0 ∧ (∀ i, i < z0.length → w.cell? (x.add i) = some (.int .u8 (z0.getD i 0))) ∧ ∀ n ∈ z0, (Lit.int .u8 n).wf = true) (y0 : len0 * 1 ≤ 140737488351232) (w1 : (Lit.int .i64 a1).wf = true) :
    Calls Try.prog 10 #[.slice a0 len0 cap0, .int .i64 a1] w fun e w' => e = .returned (.bool true) ∧ Below w.heap.size w w' := by
  obtain ⟨l0, rfl, hr0, hm0, hw0, hc0⟩ := ReadsInt.ofRowC w0
  obtain ⟨k, h⟩ := P l0 a1 hm0 y0 hw0 w1
  refine (redpenlaw03_LinesSplit.calls k _ _ l0 a1 true w (Kd.C_of_reads (d := (0 : Int)) (h1 := fun _ => rfl) hr0) hc0 h).mono ?_
  rintro e w' ⟨rfl, hd⟩
  exact ⟨rfl, hd⟩

end Go.Proofs.Ytgjnelloegkicaa.PLinesSplit
