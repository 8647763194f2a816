-- Laid by a program of ours (the kit's print with words and contracts of our own beside it).
import Derived.Test.YtgjnelloegkicaaPLinesOwnx0
import Derived.Test.YtgjnelloegkicaaPLinesOwnx1
import Derived.Test.YtgjnelloegkicaaPLinesOwnx2
import Derived.Test.YtgjnelloegkicaaPLinesOwnx3
import Derived.Test.YtgjnelloegkicaaPLinesOwnx6
namespace Go.Proofs.Ytgjnelloegkicaa.PLinesOwn
open Go.RowKit Go.Proofs.Ytgjnelloegkicaa.X Go.Proofs.YtgjnelloegkicaaW.PrintWords Go.Proofs.YtgjnelloegkicaaW.PrintLast Go.Proofs.YtgjnelloegkicaaW.PrintMore
attribute [local go_sem] max2_int min2_int max_two min_two max_three min_three max_four min_four   -- for this text's walks alone
set_option linter.unusedVariables false
set_option linter.unusedSimpArgs false

attribute [local go_sem high] eqA27 eqA54
/-! ### redpenlaw03_LinesOwn: function 9 -/
def redpenlaw03_LinesOwn.l0 : Nat → List Int → Int → List (IxT) → List Int → Int → Int → Option (Bool)
  | 0, _, _, _, _, _, _ => none
  | k + 1, x0, x1, x6, x24, x28, x29 => if x29 < x28 then (if 0 ≤ x29 then (if x29 < (x24.length : Int) then (redpenlaw03_LinesOwn.l0 k x0 x1 x6 (x24.set (x29 : Int).toNat (Go.bits .xor .u8 (rd x24 x29) 128)) x28 (wrap64 (x29 + 1))) else (none)) else (none)) else ((lines_Index_Span.f ([] : List (IxT)) x1).bind fun bt190 => ((lines_Index_Line.f ([] : List (IxT)) x1).bind fun bt194 => ((lines_Index_Place.f k ([] : List (IxT)) x1).bind fun bt196 => ((lines_Index_Place.f k x6 (x0.length : Int)).bind fun bt200 => (if bt200.2.2 = 0 then ((redpenref01_Place.f k x0 (x0.length : Int)).bind fun bt204 => (if (bt200.1 == bt204.1 && (bt200.2.1 == bt204.2)) = true then ((lines_Index_Lines.f ([] : List (IxT))).bind fun t206 => (if t206 = 0 then (if (bt190.1 == 0 && (bt190.2.1 == 0)) = true then (if bt190.2.2 = 1 then (if bt194.1 = 0 then (if bt194.2 = 1 then (if (bt196.1 == 0 && (bt196.2.1 == 0)) = true then (some (bt196.2.2 == 1)) else (some false)) else (some false)) else (some false)) else (some false)) else (some false)) else (some false))) else (some false))) else (some false))))))
def redpenlaw03_LinesOwn.f (k : Nat) (l0 : List Int) (a1 : Int) : Option (Bool) := (redpenlaw03_Awake.f k).bind fun t178 => (if t178 = true then (if (l0.length : Int) > 300 then (some true) else ((some (([] : List Int) : List Int)).bind fun y179 => (if y179.length + l0.length < 140737488355328 then ((some (y179 ++ l0 : List Int)).bind fun y182 => ((lines_New.f y182).bind fun t185 => (redpenlaw03_LinesOwn.l0 k l0 a1 t185 y182 (y182.length : Int) 0))) else (none)))) else (some false))
theorem redpenlaw03_LinesOwn.mono_l : ∀ k, (∀ y0 y1 y2 y3 y4 y5, LeO (redpenlaw03_LinesOwn.l0 k y0 y1 y2 y3 y4 y5) (redpenlaw03_LinesOwn.l0 (k + 1) y0 y1 y2 y3 y4 y5))
  | 0 => fun _ _ _ _ _ _ r h => by simp [redpenlaw03_LinesOwn.l0] at h
  | k + 1 => by
    have ih0 := redpenlaw03_LinesOwn.mono_l k
    · intro y0 y1 y2 y3 y4 y5
      unfold redpenlaw03_LinesOwn.l0
      repeat' first
      | (with_reducible exact ih0 _ _ _ _ _ _)
      | (with_reducible exact lines_Index_Place.mono _ _ _)
      | (with_reducible exact redpenlaw03_Awake.mono _)
      | (with_reducible exact redpenref01_Place.mono _ _ _)
      | (with_reducible exact LeO.refl _)
      | (with_reducible exact LeO.none _)
      | (with_reducible refine LeO.ite ?_ ?_)
      | (with_reducible refine LeO.bind ?_ (fun _ => ?_))
      | exact ih0 _ _ _ _ _ _
      | exact lines_Index_Place.mono _ _ _
      | exact redpenlaw03_Awake.mono _
      | exact redpenref01_Place.mono _ _ _
      | exact LeO.none _
      | refine LeO.ite ?_ ?_
      | refine LeO.bind ?_ (fun _ => ?_)
theorem redpenlaw03_LinesOwn.mono : ∀ a0 a1 k, LeO (redpenlaw03_LinesOwn.f k a0 a1) (redpenlaw03_LinesOwn.f (k + 1) a0 a1) := by
  intro a0 a1 k
  have ih0 := redpenlaw03_LinesOwn.mono_l k
  unfold redpenlaw03_LinesOwn.f
  repeat' first
      | (with_reducible exact ih0 _ _ _ _ _ _)
      | (with_reducible exact lines_Index_Place.mono _ _ _)
      | (with_reducible exact redpenlaw03_Awake.mono _)
      | (with_reducible exact redpenref01_Place.mono _ _ _)
      | (with_reducible exact LeO.refl _)
      | (with_reducible exact LeO.none _)
      | (with_reducible refine LeO.ite ?_ ?_)
      | (with_reducible refine LeO.bind ?_ (fun _ => ?_))
      | exact ih0 _ _ _ _ _ _
      | exact lines_Index_Place.mono _ _ _
      | exact redpenlaw03_Awake.mono _
      | exact redpenref01_Place.mono _ _ _
      | exact LeO.none _
      | refine LeO.ite ?_ ?_
      | refine LeO.bind ?_ (fun _ => ?_)
def redpenlaw03_LinesOwn.T17 : Bool × List (List Nat × List Nat) := (true, [([], []), ([0], [0]), ([1], [1]), ([2], [2]), ([2], [2]), ([2], [2]), ([5, 2], [2, 5]), ([4, 6, 2, 2], [2, 4, 6]), ([3, 7, 2], [2, 3, 7]), ([2, 8], [2, 8]), ([9, 7], [9]), ([10], [10]), ([11, 10, 10], [10, 11]), ([12, 10], [10, 12]), ([10, 13], [10, 13]), ([14, 12], [14]), ([15], [15]), ([15], [15]), ([16, 17, 15], [15, 16, 17]), ([15, 18], [15, 18]), ([19, 15], [19]), ([20], [20]), ([21, 20], [20, 21]), ([20, 22], [20, 22]), ([23, 20], [23]), ([24], [24]), ([25, 24], [24, 25]), ([24, 26], [24, 26]), ([27, 24], [27]), ([28], [28]), ([29, 28], [28, 29]), ([28, 30], [28, 30]), ([31, 28], [31]), ([32], [32]), ([32], [32]), ([33, 34, 32], [32, 33, 34]), ([32, 35], [32, 35]), ([36, 32], [36]), ([37], [37]), ([38, 37], [37, 38]), ([37, 39], [37, 39]), ([40, 37, 0, 1, 2, 3, 4, 5, 6, 7, 8, 9, 10, 11, 12, 13, 14, 15, 16, 17, 18, 19, 20, 21, 22, 23, 24, 25, 26, 27, 28, 29, 30, 31, 32, 33, 34, 35, 36, 37, 38, 39, 40], [40])])
def redpenlaw03_LinesOwn.B17 : List Nat := [0, 1, 3, 7, 7, 7, 39, 119, 255, 511, 1023, 2047, 4095, 8191, 16383, 32767, 65535, 65535, 262143, 524287, 1048575, 2097151, 4194303, 8388607, 16777215, 33554431, 67108863, 134217727, 268435455, 536870911, 1073741823, 2147483647, 4294967295, 8589934591, 8589934591, 34359738367, 68719476735, 137438953471, 274877906943, 549755813887, 1099511627775, 2199023255551]
theorem redpenlaw03_LinesOwn.tab17 : rtab .any (opsOf Try.f9 17) = redpenlaw03_LinesOwn.T17 := by kernel_rfl
theorem redpenlaw03_LinesOwn.bits17 : waitsOk redpenlaw03_LinesOwn.T17.2 redpenlaw03_LinesOwn.B17 = true := by kernel_rfl
set_option maxHeartbeats 8000000 in
set_option maxRecDepth 100000 in
theorem redpenlaw03_LinesOwn.calls (k : Nat) (A0 : Option Addr) (c0 : Nat) (l0 : List Int) (a1 : Int) (r : Bool) (w : World) (hr0 : Kd.C (Kd.int .u8) w A0 l0.length l0) (hc0 : l0.length ≤ c0) (h : redpenlaw03_LinesOwn.f k l0 a1 = some r) (hr_ : r = true) :
    Calls Try.prog 9 #[.slice A0 l0.length c0, .int .i64 a1] w fun e w' => e = .returned (.bool r) ∧ Below w.heap.size w w' := by
  have hu27 := Try.underlying27
  have hu54 := Try.underlying54
  have HR0 := Aside0.mk hr0
  have HC0 := Aside0.mk hc0
  clear hr0 hc0
  have HB := Aside0.mk (Below.refl w.heap.size w)
  have H : ((redpenlaw03_Awake.f k).bind fun t178 => (if t178 = true then (if (l0.length : Int) > 300 then (some true) else ((some (([] : List Int) : List Int)).bind fun y179 => (if y179.length + l0.length < 140737488355328 then ((some (y179 ++ l0 : List Int)).bind fun y182 => ((lines_New.f y182).bind fun t185 => (redpenlaw03_LinesOwn.l0 k l0 a1 t185 y182 (y182.length : Int) 0))) else (none)))) else (some false))) = some r := h
  clear h
  replace H := Option.bind_eq_some_iff.mp H
  obtain ⟨t178, A30, H⟩ := H
  replace H : (if t178 = true then (if (l0.length : Int) > 300 then (some true) else ((some (([] : List Int) : List Int)).bind fun y179 => (if y179.length + l0.length < 140737488355328 then ((some (y179 ++ l0 : List Int)).bind fun y182 => ((lines_New.f y182).bind fun t185 => (redpenlaw03_LinesOwn.l0 k l0 a1 t185 y182 (y182.length : Int) 0))) else (none)))) else (some false)) = some r := H
  have A3 := Aside0.mk A30
  clear A30
  by_cases c4 : t178 = true
  · subst c4
    have H1 : (if (l0.length : Int) > 300 then (some true) else ((some (([] : List Int) : List Int)).bind fun y179 => (if y179.length + l0.length < 140737488355328 then ((some (y179 ++ l0 : List Int)).bind fun y182 => ((lines_New.f y182).bind fun t185 => (redpenlaw03_LinesOwn.l0 k l0 a1 t185 y182 (y182.length : Int) 0))) else (none)))) = some r := by rw [if_pos rfl] at H; exact H
    clear H
    have H := H1
    clear H1
    by_cases c5 : (l0.length : Int) > 300
    · rw [if_pos c5] at H
      have c5b0 : decide (300 < (l0.length : Int)) = true := decide_eq_true c5
      have c5b1 : decide (300 < l0.length) = true := decide_eq_true (by omega)
      clear c5
      obtain rfl := Option.some.inj H
      go_enter Try.func9, Try.ntmps9
      go_wp2_with (first | ((with_reducible refine gate_callee (f := 26) rfl ?_); refine goesL_ (some 17) rfl rfl Try.func26 (by kernel_rfl) rfl #[] rfl (by (try simp only [List.map_toArray, List.map_cons, List.map_nil]); first | done | rfl | (simp only [List.length_drop, List.length_take]; rfl)) ?_; (with_reducible refine (redpenlaw03_Awake.calls k  true _ A3.out).mono ?_); rintro e w6 ⟨rfl, hb⟩; refine ⟨_, rfl, ?_⟩; have n0_ := Aside0.mk (below_step (by repeat (first | (with_reducible first | exact HB.out | apply below_alloc | apply pw_below_drewN | apply below_drew1) | exact HB.out)) hb); clear HB; have HB := n0_; clear n0_; (try clear hb); (try clear hb2); (try clear hk); (try clear hi)))
      go_ret
      exact ⟨by first | rfl | (simp [errW_none, errW_some] <;> rfl) | (simp [*, errW_none, errW_some] <;> rfl), by repeat (first | (with_reducible first | exact HB.out | apply below_alloc | apply pw_below_drewN | apply below_drew1) | exact HB.out)⟩
    · rw [if_neg c5] at H
      have c5b0 : decide (300 < (l0.length : Int)) = false := decide_eq_false c5
      have c5b1 : decide (300 < l0.length) = false := decide_eq_false (by omega)
      clear c5
      obtain ⟨y179, hy179⟩ : ∃ y_ : List Int, y_ = (([] : List Int)) := ⟨_, rfl⟩
      replace H : (if y179.length + l0.length < 140737488355328 then ((some (y179 ++ l0 : List Int)).bind fun y182 => ((lines_New.f y182).bind fun t185 => (redpenlaw03_LinesOwn.l0 k l0 a1 t185 y182 (y182.length : Int) 0))) else (none)) = some r := by first | (rw [hy179]; with_reducible exact H) | (have H2_ := (Option.bind_some _ _).symm.trans H; rw [hy179]; with_reducible exact H2_) | (have H2_ := (Option.bind_some _ _).symm.trans H; with_reducible exact H2_) | with_reducible exact H | (rw [hy179]; exact H) | exact H
      have Ny179 := Aside0.mk hy179
      clear hy179
      by_cases c7 : y179.length + l0.length < 140737488355328
      · rw [if_pos c7] at H
        have LMc7 := Aside0.mk c7
        clear c7
        obtain ⟨y182, hy182⟩ : ∃ y_ : List Int, y_ = (y179 ++ l0) := ⟨_, rfl⟩
        replace H : ((lines_New.f y182).bind fun t185 => (redpenlaw03_LinesOwn.l0 k l0 a1 t185 y182 (y182.length : Int) 0)) = some r := by first | (rw [hy182]; with_reducible exact H) | (have H2_ := (Option.bind_some _ _).symm.trans H; rw [hy182]; with_reducible exact H2_) | (have H2_ := (Option.bind_some _ _).symm.trans H; with_reducible exact H2_) | with_reducible exact H | (rw [hy182]; exact H) | exact H
        have Ny182 := Aside0.mk hy182
        clear hy182
        replace H := Option.bind_eq_some_iff.mp H
        obtain ⟨t185, A80, H⟩ := H
        replace H : (redpenlaw03_LinesOwn.l0 k l0 a1 t185 y182 (y182.length : Int) 0) = some r := H
        have A8 := Aside0.mk A80
        clear A80
        have H' := Aside0.mk H
        clear H
        go_enter Try.func9, Try.ntmps9
        go_wp2_with (first | ((with_reducible refine gate_callee (f := 26) rfl ?_); refine goesL_ (some 17) rfl rfl Try.func26 (by kernel_rfl) rfl #[] rfl (by (try simp only [List.map_toArray, List.map_cons, List.map_nil]); first | done | rfl | (simp only [List.length_drop, List.length_take]; rfl)) ?_; (with_reducible refine (redpenlaw03_Awake.calls k  true _ A3.out).mono ?_); rintro e w9 ⟨rfl, hb⟩; refine ⟨_, rfl, ?_⟩; have n0_ := Aside0.mk (below_step (by repeat (first | (with_reducible first | exact HB.out | apply below_alloc | apply pw_below_drewN | apply below_drew1) | exact HB.out)) hb); clear HB; have HB := n0_; clear n0_; (try clear hb); (try clear hb2); (try clear hk); (try clear hi)) | ((with_reducible refine gate_dst (N := 22) rfl ?_); (try (refine gate_guard (by rfl) ?_; dsimp only)); refine Kd.R_lit (Kd.int .u8) _ 5 ?hg (N := 22) ?hd (xs := ([] : List Int)) (inner := []) (ok := fun _ => True) (okp := fun _ => True) ?hr ?hp (fun _ hk => hk) trivial (Below.refl _ _) (Nat.le_refl _) (by simp) ?_; (case hd => rfl); (case hg => rfl); (case hr => first | (go_simp; done) | (go_simp; rfl)); (case hp => exact (Reps.none _ _)); intro v180 w10 ho11 hb hg_ hnew_; clear hg_ hnew_; (first | rw [← Ny179.out] at ho11 | (simp only [Int.reduceToNat] at ho11; rw [← Ny179.out] at ho11)); have n0_ := Aside0.mk (Kd.R_lower ho11 (below_size (by repeat (first | (with_reducible first | exact HB.out | apply below_alloc | apply pw_below_drewN | apply below_drew1) | exact HB.out)))); have n1_ := Aside0.mk (below_step (by repeat (first | (with_reducible first | exact HB.out | apply below_alloc | apply pw_below_drewN | apply below_drew1) | exact HB.out)) hb); clear HB; have HO181 := n0_; have HB := n1_; clear n0_ n1_; clear hb ho11) | ((with_reducible refine gate_builtin (b := .append) (xs := #[.tmp 22, .tmp 23]) rfl ?_); (try (refine gate_guard (by rfl) ?_; dsimp only)); at_builtin; refine Kd.R_append_rows (Kd.int .u8) (w0 := w) w.heap.size rfl (.tmp 22) (.tmp 23) 22 5 (.int .u8 0) 1 rfl Try.underlying22 info5 rfl (by decide) (by omega) v180 y179 l0 _ _ _ (fun _ => True) (fun _ => False) rfl rfl ?aO ?aR (fun _ _ h => h) (fun _ h => h.elim) ?aF ?aB ?aS ?aL ?_; (case aR => repeat (first | exact (Kd.C_below HR0.out HB.out) | (with_reducible refine Kd.C_alloc ?_ _) | (with_reducible refine Kd.C_drewN ?_ _) | (with_reducible refine Kd.C_drew ?_))); (case aB => exact (by repeat (first | (with_reducible first | exact HB.out | apply below_alloc | apply pw_below_drewN | apply below_drew1) | exact HB.out))); (case aF => exact (fun _ _ => trivial)); (case aO => exact (by (with_reducible repeat (first | apply Kd.R_alloc | apply Kd.R_drewN | apply Kd.R_drew)); exact HO181.out)); (case aS => exact (below_size (by repeat (first | (with_reducible first | exact HB.out | apply below_alloc | apply pw_below_drewN | apply below_drew1) | exact HB.out)))); (case aL => have := LMc7.out; omega); intro v183 w12 ho hb hg hat; rw [← Ny182.out] at ho; have n0_ := Aside0.mk (hb); have n1_ := Aside0.mk (ho); clear HB; clear HO181; have HB := n0_; have HO184 := n1_; clear n0_ n1_; clear ho hb hg hat; obtain ⟨Ao13, co13, eo13⟩ := Kd.R_slice HO184.out; subst eo13) | ((with_reducible refine gate_callee (f := 27) rfl ?_); refine goesL_ (some 26) rfl rfl Try.func27 (by kernel_rfl) rfl #[.slice Ao13 y182.length co13] rfl (by (try simp only [List.map_toArray, List.map_cons, List.map_nil]); first | done | rfl | (simp only [List.length_drop, List.length_take]; rfl)) ?_; (with_reducible refine (lines_New.calls _ _ y182 t185 _ ?side1 ?side2 A8.out).mono ?_); (case side1 => repeat (first | exact (Kd.R_reads' HO184.out).2.2 | (with_reducible refine Kd.C_alloc ?_ _) | (with_reducible refine Kd.C_drewN ?_ _) | (with_reducible refine Kd.C_drew ?_))); (case side2 => exact (Kd.R_reads' HO184.out).2.1); rintro e w14 ⟨v186, rfl, ho0, hb⟩; refine ⟨_, rfl, ?_⟩; have n0_ := Aside0.mk (Kd.R_below (by (with_reducible repeat (first | apply Kd.R_alloc | apply Kd.R_drewN | apply Kd.R_drew)); exact HO184.out) hb); have n1_ := Aside0.mk (Kd.P_lower (Kd.P_mono (ok' := fun k_ => some k_ ≠ (.slice Ao13 y182.length co13 : Value).ownBlock) ho0 (fun k_ hk_ => (Kd.fresh' (Kd.R_lt (by (with_reducible repeat (first | apply Kd.R_alloc | apply Kd.R_drewN | apply Kd.R_drew)); exact HO184.out)) k_ hk_))) (below_size (by repeat (first | (with_reducible first | exact HB.out | apply below_alloc | apply pw_below_drewN | apply below_drew1) | exact HB.out)))); have n2_ := Aside0.mk (below_step (by repeat (first | (with_reducible first | exact HB.out | apply below_alloc | apply pw_below_drewN | apply below_drew1) | exact HB.out)) hb); clear HO184; clear HB; have HO184 := n0_; have HO187 := n1_; have HB := n2_; clear n0_ n1_ n2_; (try clear hb); (try clear hb2); (try clear hk); (try clear hi); (try clear ho0)))
        go_loopg [29] k (fun kq v29 w' => ∃ (x24_1 : List Int) (x29_1 : Int), v29 = .int .i64 x29_1 ∧ Aside0 (redpenlaw03_LinesOwn.l0 kq l0 a1 t185 x24_1 (y182.length : Int) x29_1 = some r) ∧ Aside0 (kq ≤ k) ∧ Aside0 (Kd.P IxP 900049 w' w.heap.size (fun k_ => some k_ ≠ ((.slice Ao13 y182.length co13) : Value).ownBlock) v186 t185) ∧ Aside0 (Kd.R (Kd.int .u8) 5 w' w.heap.size (fun _ => True) (.slice Ao13 y182.length co13) x24_1) ∧ Aside0 (Below w.heap.size w w'))
        case atStart => exact ⟨(y182), (0), (by first | rfl | (simp; done) | (simp [*]; done)), H', ⟨Nat.le_refl _⟩, ⟨by (with_reducible repeat (first | apply Kd.P_alloc | apply Kd.P_drewN | apply Kd.P_drew)); exact HO187.out⟩, ⟨by (with_reducible repeat (first | apply Kd.R_alloc | apply Kd.R_drewN | apply Kd.R_drew)); exact HO184.out⟩, ⟨by repeat (first | (with_reducible first | exact HB.out | apply below_alloc | apply pw_below_drewN | apply below_drew1) | exact HB.out)⟩⟩
        case round =>
          clear H'
          try clear c2
          try clear p2
          try clear c4
          try clear c5
          try clear c5b0
          try clear c5b1
          try clear c7
          try clear c9
          obtain ⟨x24_1, x29_1, rfl, HA, HK1, HO_6, HO_24, HB⟩ := hrel
          have hl24_1 : y182.length = x24_1.length := (Kd.R_reads' HO_24.out).1
          rw [hl24_1] at HO_24
          (try simp only [hl24_1])
          (try simp only [hl24_1] at HO_6)
          cases gk with
          | zero => exact absurd HA.out (by simp [redpenlaw03_LinesOwn.l0])
          | succ k1 =>
            have H := HA.out
            clear HA
            simp only [redpenlaw03_LinesOwn.l0] at H
            by_cases c15 : x29_1 < (y182.length : Int)
            · rw [if_pos c15] at H
              have c15b0 : decide (x29_1 < (y182.length : Int)) = true := decide_eq_true c15
              (try simp only [hl24_1] at c15b0)
              clear c15
              by_cases c16 : 0 ≤ x29_1
              · rw [if_pos c16] at H
                have c16b0 : decide (0 ≤ x29_1) = true := decide_eq_true c16
                clear c16
                by_cases c17 : x29_1 < (x24_1.length : Int)
                · rw [if_pos c17] at H
                  have c17b0 : decide (x29_1 < (x24_1.length : Int)) = true := decide_eq_true c17
                  clear c17
                  obtain ⟨y189, hy189⟩ : ∃ y_ : List Int, y_ = (x24_1.set (x29_1 : Int).toNat (Go.bits .xor .u8 (rd x24_1 x29_1) 128)) := ⟨_, rfl⟩
                  replace H : (redpenlaw03_LinesOwn.l0 k1 l0 a1 t185 y189 (y182.length : Int) (wrap64 (x29_1 + 1))) = some r := by first | (rw [hy189]; with_reducible exact H) | (have H2_ := (Option.bind_some _ _).symm.trans H; rw [hy189]; with_reducible exact H2_) | (have H2_ := (Option.bind_some _ _).symm.trans H; with_reducible exact H2_) | with_reducible exact H | (rw [hy189]; exact H) | exact H
                  have Ny189 := Aside0.mk hy189
                  clear hy189
                  have H' := Aside0.mk H
                  clear H
                  have p188 : 0 ≤ (x29_1 : Int) := of_decide_eq_true (by first | (with_reducible assumption) | assumption)
                  have q188 : x29_1 < (x24_1.length : Int) := of_decide_eq_true (by first | (with_reducible assumption) | assumption)
                  obtain ⟨ad188, e188, hx188_0⟩ := Kd.at_int (Kd.R_reads' HO_24.out).2.2 x29_1 p188 q188
                  cases e188
                  replace p188 := eq_true p188
                  replace q188 := eq_true q188
                  have p18 : 0 ≤ (x29_1 : Int) := of_decide_eq_true (by first | (with_reducible assumption) | assumption)
                  have q18 : (x29_1 : Int) < ((x24_1.length : Int) : Int) := of_decide_eq_true (by first | (with_reducible assumption) | assumption)
                  obtain ⟨go18, co18, eo18, gb18, gl18, cl18, HG18⟩ := Kd.R_form HO_24.out (by omega)
                  (first | cases eo18 | (injection eo18 with ea_ en_ ec_; (first | subst ea_ | (injection ea_ with ea_; subst ea_)); subst ec_; clear en_))
                  have GB18 := Aside0.mk gb18
                  have GG18 := Aside0.mk HG18
                  clear gb18 gl18 HG18
                  (first | simp only [add_plain] at hx188_0 | skip)
                  obtain ⟨hx18_0, hf18_0⟩ := Kd.R_celln 0 HO_24.out (x29_1 : Int) p18 q18
                  replace p18 := eq_true p18
                  replace q18 := eq_true q18
                  have HP19 := Kd.R_putg HO_24.out (x29_1 : Int) (Go.bits .xor .u8 (rd x24_1 x29_1) 128)
                  go_wp2_with (first | ((with_reducible refine gate_store (t := 5) (p := 37) rfl ?_); refine store_event (t := 5) (p := 37) (v := ?vo_w20) (w1 := (wr.setCell ⟨go18, (x29_1 : Int).toNat, none⟩ (.int .u8 (Go.bits .xor .u8 (rd x24_1 x29_1) 128)))) ?hg ?ho ?hn ?hr ?_; (case ho => rfl); (case hg => rfl); (case hn => rfl); (case hr => first | (go_simp; done) | (go_simp; rfl)); intro w20 hw; have hg : wr.grownBy w20 (some go18) := (by rw [hw]; exact HP19.2); have hp_ : Kd.R (Kd.int .u8) 5 w20 w.heap.size (fun _ => True) (.slice (some ⟨go18, 0, none⟩) x24_1.length co13) y189 := (by rw [hw, Ny189.out]; exact HP19.1); clear HP19; have n0_ := Aside0.mk (Kd.P_afterv (v := (.slice (some ⟨go18, 0, none⟩) x24_1.length co13)) (v1 := (.slice (some ⟨go18, 0, none⟩) x24_1.length co13)) (ok := (fun _ => True)) (by (with_reducible repeat (first | apply Kd.P_alloc | apply Kd.P_drewN | apply Kd.P_drew)); exact Kd.P_mono HO_6.out (fun _ hk => ⟨trivial, hk⟩)) hg (.inl rfl)); have n1_ := Aside0.mk (hp_); have n2_ := Aside0.mk ((by rw [hw]; exact below_set (HB.out) GB18.out : Below w.heap.size w w20)); clear HO_6; clear HO_24; clear HB; have HO_6 := n0_; have HO_24 := n1_; have HB := n2_; clear n0_ n1_ n2_; clear hg hw hp_))
                  (try simp only [← hl24_1])
                  go_roundg k1
                  case measure => have := HK1.out; omega
                  case rel => exact ⟨(y189), (wrap64 (x29_1 + 1)), (by first | rfl | (simp; done) | (simp [*]; done)), H', ⟨by have := HK1.out; omega⟩, ⟨by (try simp only [hl24_1]); (with_reducible repeat (first | apply Kd.P_alloc | apply Kd.P_drewN | apply Kd.P_drew)); exact Kd.P_mono HO_6.out (fun _ hk => hk.2)⟩, ⟨by (try simp only [hl24_1]); (with_reducible repeat (first | apply Kd.R_alloc | apply Kd.R_drewN | apply Kd.R_drew)); exact HO_24.out⟩, ⟨by repeat (first | (with_reducible first | exact HB.out | apply below_alloc | apply pw_below_drewN | apply below_drew1) | exact HB.out)⟩⟩
                · rw [if_neg c17] at H
                  exact absurd H (by simp)
              · rw [if_neg c16] at H
                exact absurd H (by simp)
            · rw [if_neg c15] at H
              have c15b0 : decide (x29_1 < (y182.length : Int)) = false := decide_eq_false c15
              (try simp only [hl24_1] at c15b0)
              clear c15
              replace H := Option.bind_eq_some_iff.mp H
              obtain ⟨⟨t190, t191, t192⟩, A210, H⟩ := H
              replace H : ((lines_Index_Line.f ([] : List (IxT)) a1).bind fun bt194 => ((lines_Index_Place.f k1 ([] : List (IxT)) a1).bind fun bt196 => ((lines_Index_Place.f k1 t185 (l0.length : Int)).bind fun bt200 => (if bt200.2.2 = 0 then ((redpenref01_Place.f k1 l0 (l0.length : Int)).bind fun bt204 => (if (bt200.1 == bt204.1 && (bt200.2.1 == bt204.2)) = true then ((lines_Index_Lines.f ([] : List (IxT))).bind fun t206 => (if t206 = 0 then (if (t190 == 0 && (t191 == 0)) = true then (if t192 = 1 then (if bt194.1 = 0 then (if bt194.2 = 1 then (if (bt196.1 == 0 && (bt196.2.1 == 0)) = true then (some (bt196.2.2 == 1)) else (some false)) else (some false)) else (some false)) else (some false)) else (some false)) else (some false))) else (some false))) else (some false))))) = some r := H
              have A21 := Aside0.mk A210
              clear A210
              replace H := Option.bind_eq_some_iff.mp H
              obtain ⟨⟨t194, t195⟩, A220, H⟩ := H
              replace H : ((lines_Index_Place.f k1 ([] : List (IxT)) a1).bind fun bt196 => ((lines_Index_Place.f k1 t185 (l0.length : Int)).bind fun bt200 => (if bt200.2.2 = 0 then ((redpenref01_Place.f k1 l0 (l0.length : Int)).bind fun bt204 => (if (bt200.1 == bt204.1 && (bt200.2.1 == bt204.2)) = true then ((lines_Index_Lines.f ([] : List (IxT))).bind fun t206 => (if t206 = 0 then (if (t190 == 0 && (t191 == 0)) = true then (if t192 = 1 then (if t194 = 0 then (if t195 = 1 then (if (bt196.1 == 0 && (bt196.2.1 == 0)) = true then (some (bt196.2.2 == 1)) else (some false)) else (some false)) else (some false)) else (some false)) else (some false)) else (some false))) else (some false))) else (some false)))) = some r := H
              have A22 := Aside0.mk A220
              clear A220
              replace H := Option.bind_eq_some_iff.mp H
              obtain ⟨⟨t196, t197, t198⟩, A230, H⟩ := H
              replace H : ((lines_Index_Place.f k1 t185 (l0.length : Int)).bind fun bt200 => (if bt200.2.2 = 0 then ((redpenref01_Place.f k1 l0 (l0.length : Int)).bind fun bt204 => (if (bt200.1 == bt204.1 && (bt200.2.1 == bt204.2)) = true then ((lines_Index_Lines.f ([] : List (IxT))).bind fun t206 => (if t206 = 0 then (if (t190 == 0 && (t191 == 0)) = true then (if t192 = 1 then (if t194 = 0 then (if t195 = 1 then (if (t196 == 0 && (t197 == 0)) = true then (some (t198 == 1)) else (some false)) else (some false)) else (some false)) else (some false)) else (some false)) else (some false))) else (some false))) else (some false))) = some r := H
              have A23 := Aside0.mk A230
              clear A230
              replace H := Option.bind_eq_some_iff.mp H
              obtain ⟨⟨t200, t201, t202⟩, A240, H⟩ := H
              replace H : (if t202 = 0 then ((redpenref01_Place.f k1 l0 (l0.length : Int)).bind fun bt204 => (if (t200 == bt204.1 && (t201 == bt204.2)) = true then ((lines_Index_Lines.f ([] : List (IxT))).bind fun t206 => (if t206 = 0 then (if (t190 == 0 && (t191 == 0)) = true then (if t192 = 1 then (if t194 = 0 then (if t195 = 1 then (if (t196 == 0 && (t197 == 0)) = true then (some (t198 == 1)) else (some false)) else (some false)) else (some false)) else (some false)) else (some false)) else (some false))) else (some false))) else (some false)) = some r := H
              have A24 := Aside0.mk A240
              clear A240
              by_cases c25 : t202 = 0
              · rw [if_pos c25] at H
                have c25b0 : (t202 == 0) = true := beq_iff_eq.mpr c25
                have c25b1 : (t202 != 0) = false := bne_eq_false_iff_eq.mpr c25
                clear c25
                replace H := Option.bind_eq_some_iff.mp H
                obtain ⟨⟨t204, t205⟩, A260, H⟩ := H
                replace H : (if (t200 == t204 && (t201 == t205)) = true then ((lines_Index_Lines.f ([] : List (IxT))).bind fun t206 => (if t206 = 0 then (if (t190 == 0 && (t191 == 0)) = true then (if t192 = 1 then (if t194 = 0 then (if t195 = 1 then (if (t196 == 0 && (t197 == 0)) = true then (some (t198 == 1)) else (some false)) else (some false)) else (some false)) else (some false)) else (some false)) else (some false))) else (some false)) = some r := H
                have A26 := Aside0.mk A260
                clear A260
                by_cases c27 : (t200 == t204 && (t201 == t205)) = true
                · rw [if_pos c27] at H
                  have c27b0 : (t200 == t204 && (t201 == t205)) = true := c27
                  (try (have c27b1 : decide (t200 = t204 && (t201 == t205)) = true := by simpa using c27))
                  (try (have c27b2 : (t200 == t204 && (t201 == t205)) = true := by simpa using c27))
                  clear c27
                  replace H := Option.bind_eq_some_iff.mp H
                  obtain ⟨t206, A280, H⟩ := H
                  replace H : (if t206 = 0 then (if (t190 == 0 && (t191 == 0)) = true then (if t192 = 1 then (if t194 = 0 then (if t195 = 1 then (if (t196 == 0 && (t197 == 0)) = true then (some (t198 == 1)) else (some false)) else (some false)) else (some false)) else (some false)) else (some false)) else (some false)) = some r := H
                  have A28 := Aside0.mk A280
                  clear A280
                  by_cases c29 : t206 = 0
                  · rw [if_pos c29] at H
                    have c29b0 : (t206 == 0) = true := beq_iff_eq.mpr c29
                    have c29b1 : (t206 != 0) = false := bne_eq_false_iff_eq.mpr c29
                    clear c29
                    by_cases c30 : (t190 == 0 && (t191 == 0)) = true
                    · rw [if_pos c30] at H
                      have c30b0 : (t190 == 0 && (t191 == 0)) = true := c30
                      (try (have c30b1 : decide (t190 = 0 && (t191 == 0)) = true := by simpa using c30))
                      (try (have c30b2 : (t190 == 0 && (t191 == 0)) = true := by simpa using c30))
                      clear c30
                      by_cases c31 : t192 = 1
                      · rw [if_pos c31] at H
                        have c31b0 : (t192 == 1) = true := beq_iff_eq.mpr c31
                        have c31b1 : (t192 != 1) = false := bne_eq_false_iff_eq.mpr c31
                        clear c31
                        by_cases c32 : t194 = 0
                        · rw [if_pos c32] at H
                          have c32b0 : (t194 == 0) = true := beq_iff_eq.mpr c32
                          have c32b1 : (t194 != 0) = false := bne_eq_false_iff_eq.mpr c32
                          clear c32
                          by_cases c33 : t195 = 1
                          · rw [if_pos c33] at H
                            have c33b0 : (t195 == 1) = true := beq_iff_eq.mpr c33
                            have c33b1 : (t195 != 1) = false := bne_eq_false_iff_eq.mpr c33
                            clear c33
                            by_cases c34 : (t196 == 0 && (t197 == 0)) = true
                            · rw [if_pos c34] at H
                              have c34b0 : (t196 == 0 && (t197 == 0)) = true := c34
                              (try (have c34b1 : decide (t196 = 0 && (t197 == 0)) = true := by simpa using c34))
                              (try (have c34b2 : (t196 == 0 && (t197 == 0)) = true := by simpa using c34))
                              clear c34
                              obtain rfl := Option.some.inj H
                              try go_wp2_with (first | ((with_reducible refine gate_callee (f := 32) rfl ?_); refine goesL_ (some 42) rfl rfl Try.func32 (by kernel_rfl) rfl #[.pointer none, .int .i64 a1] rfl (by (try simp only [List.map_toArray, List.map_cons, List.map_nil]); first | done | rfl | (simp only [List.length_drop, List.length_take]; rfl)) ?_; (refine (lines_Index_Span.calls _ ([] : List (IxT)) a1 t190 t191 t192 _ ?side1 A21.out).mono ?_); (case side1 => exact IxP_nil _); rintro e w35 ⟨rfl, hb⟩; refine ⟨_, rfl, ?_⟩; have n0_ := Aside0.mk (Kd.P_below (by (with_reducible repeat (first | apply Kd.P_alloc | apply Kd.P_drewN | apply Kd.P_drew)); exact HO_6.out) hb); have n1_ := Aside0.mk (Kd.R_below (by (with_reducible repeat (first | apply Kd.R_alloc | apply Kd.R_drewN | apply Kd.R_drew)); exact HO_24.out) hb); have n2_ := Aside0.mk (below_step (by repeat (first | (with_reducible first | exact HB.out | apply below_alloc | apply pw_below_drewN | apply below_drew1) | exact HB.out)) hb); clear HO_6; clear HO_24; clear HB; have HO_6 := n0_; have HO_24 := n1_; have HB := n2_; clear n0_ n1_ n2_; (try clear hb); (try clear hb2); (try clear hk); (try clear hi)) | ((with_reducible refine gate_dst (N := 9) rfl ?_); (try (refine gate_guard (by rfl) ?_; dsimp only)); refine box_event ?hg (N := 9) ?hd (cs := #[.int .i64 0, .int .i64 0]) (t := 27) ?hr ?_; (case hd => rfl); (case hg => rfl); (case hr => first | (go_simp; done) | (go_simp; rfl)); intro gb193 hg w36 hbox hb; have n0_ := Aside0.mk (Kd.P_below (Kd.P_elderB (by (with_reducible repeat (first | apply Kd.P_alloc | apply Kd.P_drewN | apply Kd.P_drew)); exact HO_6.out) gb193 (Nat.le_of_eq hg.symm)) hb); have n1_ := Aside0.mk (Kd.R_below (by (with_reducible repeat (first | apply Kd.R_alloc | apply Kd.R_drewN | apply Kd.R_drew)); exact HO_24.out) hb); have n2_ := Aside0.mk (below_step (by repeat (first | (with_reducible first | exact HB.out | apply below_alloc | apply pw_below_drewN | apply below_drew1) | exact HB.out)) hb); have n3_ := Aside0.mk (hbox); have n4_ := Aside0.mk ((by rw [hg]; exact (below_size (by repeat (first | (with_reducible first | exact HB.out | apply below_alloc | apply pw_below_drewN | apply below_drew1) | exact HB.out))) : w.heap.size ≤ gb193)); have n5_ := Aside0.mk ((by rw [hg]; exact (below_size (by repeat (first | (with_reducible first | exact HB.out | apply below_alloc | apply pw_below_drewN | apply below_drew1) | exact HB.out))) : w.heap.size ≤ gb193)); clear HO_6; clear HO_24; clear HB; have HO_6 := n0_; have HO_24 := n1_; have HB := n2_; have BK193 := n3_; have GW193 := n4_; have GE193 := n5_; clear n0_ n1_ n2_ n3_ n4_ n5_; clear hb hbox hg; have hcz37_0 : w36.cell? ⟨gb193, 0, none⟩ = some (.int .i64 0) := (blk_cell BK193.out 0).trans rfl; have hcz37_1 : w36.cell? ⟨gb193, 1, none⟩ = some (.int .i64 0) := (blk_cell BK193.out 1).trans rfl; have hfz37_0 := blk_frozen BK193.out 0; have hfz37_1 := blk_frozen BK193.out 1) | ((with_reducible refine gate_callee (f := 28) rfl ?_); refine goesL_ (some 48) rfl rfl Try.func28 (by kernel_rfl) rfl #[.pointer none, .int .i64 a1] rfl (by (try simp only [List.map_toArray, List.map_cons, List.map_nil]); first | done | rfl | (simp only [List.length_drop, List.length_take]; rfl)) ?_; (refine (lines_Index_Line.calls _ ([] : List (IxT)) a1 t194 t195 _ ?side1 A22.out).mono ?_); (case side1 => exact IxP_nil _); rintro e w38 ⟨rfl, hb⟩; refine ⟨_, rfl, ?_⟩; have n0_ := Aside0.mk (Kd.P_below (by (with_reducible repeat (first | apply Kd.P_alloc | apply Kd.P_drewN | apply Kd.P_drew)); exact (Kd.P_mono (Kd.P_far (p := ⟨gb193, 1, none⟩) (Kd.P_far (p := ⟨gb193, 0, none⟩) (Kd.P_mono HO_6.out (fun k_ hk => (⟨hk, hk.2⟩ : _ ∧ k_ ≠ gb193))) (fun _ hk => hk.2) (.int .i64 t190)) (fun _ hk => hk.2) (.int .i64 t191)) (fun _ h_ => h_.1))) hb); have n1_ := Aside0.mk (Kd.R_below (by (with_reducible repeat (first | apply Kd.R_alloc | apply Kd.R_drewN | apply Kd.R_drew)); exact (Kd.R_mono (Kd.R_far (p := ⟨gb193, 1, none⟩) (Kd.R_far (p := ⟨gb193, 0, none⟩) (Kd.R_types HO_24.out BK193.out (by decide)) (fun _ hk => hk.2) (.int .i64 t190)) (fun _ hk => hk.2) (.int .i64 t191)) (fun _ h_ => h_.1))) hb); have n2_ := Aside0.mk (blk_below (g := gb193) (o := .cells #[.int .i64 t190, .int .i64 t191] 27 (0, 0)) (by (with_reducible repeat (first | refine blk_drewN ?_ _ | refine blk_drew ?_ | refine blk_alloc ?_ _)); refine blk_put (cs := #[.int .i64 t190, .int .i64 0]) ?_ 1 _ rfl; (with_reducible repeat (first | refine blk_drewN ?_ _ | refine blk_drew ?_ | refine blk_alloc ?_ _)); refine blk_put (cs := #[.int .i64 0, .int .i64 0]) ?_ 0 _ rfl; (with_reducible repeat (first | refine blk_drewN ?_ _ | refine blk_drew ?_ | refine blk_alloc ?_ _)); exact BK193.out) hb); have n3_ := Aside0.mk (below_step (by repeat (first | (with_reducible first | exact HB.out | apply below_alloc | apply pw_below_drewN | apply below_drew1 | refine below_set ?_ GE193.out) | exact HB.out)) hb); clear HO_6; clear HO_24; clear BK193; clear HB; have HO_6 := n0_; have HO_24 := n1_; have BK193 := n2_; have HB := n3_; clear n0_ n1_ n2_ n3_; (try clear hb); (try clear hb2); (try clear hk); (try clear hi)) | ((with_reducible refine gate_callee (f := 29) rfl ?_); refine goesL_ (some 54) rfl rfl Try.func29 (by kernel_rfl) rfl #[.pointer none, .int .i64 a1] rfl (by (try simp only [List.map_toArray, List.map_cons, List.map_nil]); first | done | rfl | (simp only [List.length_drop, List.length_take]; rfl)) ?_; (refine (lines_Index_Place.calls k1 _ ([] : List (IxT)) a1 t196 t197 t198 _ ?side1 A23.out).mono ?_); (case side1 => exact IxP_nil _); rintro e w39 ⟨rfl, hb⟩; refine ⟨_, rfl, ?_⟩; have n0_ := Aside0.mk (Kd.P_below (by (with_reducible repeat (first | apply Kd.P_alloc | apply Kd.P_drewN | apply Kd.P_drew)); exact HO_6.out) hb); have n1_ := Aside0.mk (Kd.R_below (by (with_reducible repeat (first | apply Kd.R_alloc | apply Kd.R_drewN | apply Kd.R_drew)); exact HO_24.out) hb); have n2_ := Aside0.mk (blk_below (g := gb193) (o := .cells #[.int .i64 t190, .int .i64 t191] 27 (0, 0)) (by (with_reducible repeat (first | refine blk_drewN ?_ _ | refine blk_drew ?_ | refine blk_alloc ?_ _)); exact BK193.out) hb); have n3_ := Aside0.mk (below_step (by repeat (first | (with_reducible first | exact HB.out | apply below_alloc | apply pw_below_drewN | apply below_drew1 | refine below_set ?_ GE193.out) | exact HB.out)) hb); clear HO_6; clear HO_24; clear BK193; clear HB; have HO_6 := n0_; have HO_24 := n1_; have BK193 := n2_; have HB := n3_; clear n0_ n1_ n2_ n3_; (try clear hb); (try clear hb2); (try clear hk); (try clear hi)) | ((with_reducible refine gate_dst (N := 13) rfl ?_); (try (refine gate_guard (by rfl) ?_; dsimp only)); refine box_event ?hg (N := 13) ?hd (cs := #[.int .i64 0, .int .i64 0]) (t := 54) ?hr ?_; (case hd => rfl); (case hg => rfl); (case hr => first | (go_simp; done) | (go_simp; rfl)); intro gb199 hg w40 hbox hb; have n0_ := Aside0.mk (Kd.P_below (Kd.P_elderB (by (with_reducible repeat (first | apply Kd.P_alloc | apply Kd.P_drewN | apply Kd.P_drew)); exact HO_6.out) gb199 (Nat.le_of_eq hg.symm)) hb); have n1_ := Aside0.mk (Kd.R_below (by (with_reducible repeat (first | apply Kd.R_alloc | apply Kd.R_drewN | apply Kd.R_drew)); exact HO_24.out) hb); have n2_ := Aside0.mk (blk_below (g := gb193) (o := .cells #[.int .i64 t190, .int .i64 t191] 27 (0, 0)) (by (with_reducible repeat (first | refine blk_drewN ?_ _ | refine blk_drew ?_ | refine blk_alloc ?_ _)); exact BK193.out) hb); have n3_ := Aside0.mk (below_step (by repeat (first | (with_reducible first | exact HB.out | apply below_alloc | apply pw_below_drewN | apply below_drew1 | refine below_set ?_ GE193.out) | exact HB.out)) hb); have n4_ := Aside0.mk (hbox); have n5_ := Aside0.mk ((by rw [hg]; exact (below_size (by repeat (first | (with_reducible first | exact HB.out | apply below_alloc | apply pw_below_drewN | apply below_drew1 | refine below_set ?_ GE193.out) | exact HB.out))) : w.heap.size ≤ gb199)); have n6_ := Aside0.mk ((by rw [hg]; exact (below_size (by repeat (first | (with_reducible first | exact HB.out | apply below_alloc | apply pw_below_drewN | apply below_drew1 | refine below_set ?_ GE193.out) | exact HB.out))) : w.heap.size ≤ gb199)); have n7_ := Aside0.mk ((by rw [hg]; exact Nat.ne_of_lt (blk_lt (g := gb193) (o := .cells #[.int .i64 t190, .int .i64 t191] 27 (0, 0)) (by (with_reducible repeat (first | refine blk_drewN ?_ _ | refine blk_drew ?_ | refine blk_alloc ?_ _)); exact BK193.out)) : gb193 ≠ gb199)); have n8_ := Aside0.mk ((by rw [hg]; exact Nat.ne_of_gt (blk_lt (g := gb193) (o := .cells #[.int .i64 t190, .int .i64 t191] 27 (0, 0)) (by (with_reducible repeat (first | refine blk_drewN ?_ _ | refine blk_drew ?_ | refine blk_alloc ?_ _)); exact BK193.out)) : gb199 ≠ gb193)); clear HO_6; clear HO_24; clear BK193; clear HB; have HO_6 := n0_; have HO_24 := n1_; have BK193 := n2_; have HB := n3_; have BK199 := n4_; have GW199 := n5_; have GE199 := n6_; have NB193_199 := n7_; have NB199_193 := n8_; clear n0_ n1_ n2_ n3_ n4_ n5_ n6_ n7_ n8_; clear hb hbox hg; have hnb41 := NB199_193.out; have hnc41 := NB193_199.out; have hcz42_0 : w40.cell? ⟨gb199, 0, none⟩ = some (.int .i64 0) := (blk_cell BK199.out 0).trans rfl; have hcz42_1 : w40.cell? ⟨gb199, 1, none⟩ = some (.int .i64 0) := (blk_cell BK199.out 1).trans rfl; have hfz42_0 := blk_frozen BK199.out 0; have hfz42_1 := blk_frozen BK199.out 1) | ((with_reducible refine gate_callee (f := 29) rfl ?_); refine goesL_ (some 61) rfl rfl Try.func29 (by kernel_rfl) rfl #[v186, .int .i64 (l0.length : Int)] rfl (by (try simp only [List.map_toArray, List.map_cons, List.map_nil]); first | done | rfl | (simp only [List.length_drop, List.length_take]; rfl)) ?_; (with_reducible refine (lines_Index_Place.calls k1 _ t185 (l0.length : Int) t200 t201 t202 _ ?side1 A24.out).mono ?_); (case side1 => exact Kd.P_now (by (with_reducible repeat (first | apply Kd.P_alloc | apply Kd.P_drewN | apply Kd.P_drew)); exact (Kd.P_far (p := ⟨gb199, 1, none⟩) (Kd.P_far (p := ⟨gb199, 0, none⟩) (Kd.P_mono HO_6.out (fun k_ hk => (⟨hk, hk.2⟩ : _ ∧ k_ ≠ gb199))) (fun _ hk => hk.2) (.int .i64 t196)) (fun _ hk => hk.2) (.int .i64 t197)))); rintro e w43 ⟨rfl, hb⟩; refine ⟨_, rfl, ?_⟩; have n0_ := Aside0.mk (Kd.P_below (by (with_reducible repeat (first | apply Kd.P_alloc | apply Kd.P_drewN | apply Kd.P_drew)); exact (Kd.P_mono (Kd.P_far (p := ⟨gb199, 1, none⟩) (Kd.P_far (p := ⟨gb199, 0, none⟩) (Kd.P_mono HO_6.out (fun k_ hk => (⟨hk, hk.2⟩ : _ ∧ k_ ≠ gb199))) (fun _ hk => hk.2) (.int .i64 t196)) (fun _ hk => hk.2) (.int .i64 t197)) (fun _ h_ => h_.1))) hb); have n1_ := Aside0.mk (Kd.R_below (by (with_reducible repeat (first | apply Kd.R_alloc | apply Kd.R_drewN | apply Kd.R_drew)); exact (Kd.R_mono (Kd.R_far (p := ⟨gb199, 1, none⟩) (Kd.R_far (p := ⟨gb199, 0, none⟩) (Kd.R_types HO_24.out BK199.out (by decide)) (fun _ hk => hk.2) (.int .i64 t196)) (fun _ hk => hk.2) (.int .i64 t197)) (fun _ h_ => h_.1))) hb); have n2_ := Aside0.mk (blk_below (g := gb193) (o := .cells #[.int .i64 t190, .int .i64 t191] 27 (0, 0)) (by (with_reducible repeat (first | refine blk_drewN ?_ _ | refine blk_drew ?_ | refine blk_alloc ?_ _)); refine blk_far ?_ NB193_199.out _; (with_reducible repeat (first | refine blk_drewN ?_ _ | refine blk_drew ?_ | refine blk_alloc ?_ _)); refine blk_far ?_ NB193_199.out _; (with_reducible repeat (first | refine blk_drewN ?_ _ | refine blk_drew ?_ | refine blk_alloc ?_ _)); exact BK193.out) hb); have n3_ := Aside0.mk (blk_below (g := gb199) (o := .cells #[.int .i64 t196, .int .i64 t197] 54 (0, 0)) (by (with_reducible repeat (first | refine blk_drewN ?_ _ | refine blk_drew ?_ | refine blk_alloc ?_ _)); refine blk_put (cs := #[.int .i64 t196, .int .i64 0]) ?_ 1 _ rfl; (with_reducible repeat (first | refine blk_drewN ?_ _ | refine blk_drew ?_ | refine blk_alloc ?_ _)); refine blk_put (cs := #[.int .i64 0, .int .i64 0]) ?_ 0 _ rfl; (with_reducible repeat (first | refine blk_drewN ?_ _ | refine blk_drew ?_ | refine blk_alloc ?_ _)); exact BK199.out) hb); have n4_ := Aside0.mk (below_step (by repeat (first | (with_reducible first | exact HB.out | apply below_alloc | apply pw_below_drewN | apply below_drew1 | refine below_set ?_ GE193.out | refine below_set ?_ GE199.out) | exact HB.out)) hb); clear HO_6; clear HO_24; clear BK193; clear BK199; clear HB; have HO_6 := n0_; have HO_24 := n1_; have BK193 := n2_; have BK199 := n3_; have HB := n4_; clear n0_ n1_ n2_ n3_ n4_; (try clear hb); (try clear hb2); (try clear hk); (try clear hi)) | ((with_reducible refine gate_dst (N := 15) rfl ?_); (try (refine gate_guard (by rfl) ?_; dsimp only)); refine box_event ?hg (N := 15) ?hd (cs := #[.int .i64 0, .int .i64 0]) (t := 54) ?hr ?_; (case hd => rfl); (case hg => rfl); (case hr => first | (go_simp; done) | (go_simp; rfl)); intro gb203 hg w44 hbox hb; have n0_ := Aside0.mk (Kd.P_below (Kd.P_elderB (by (with_reducible repeat (first | apply Kd.P_alloc | apply Kd.P_drewN | apply Kd.P_drew)); exact HO_6.out) gb203 (Nat.le_of_eq hg.symm)) hb); have n1_ := Aside0.mk (Kd.R_below (by (with_reducible repeat (first | apply Kd.R_alloc | apply Kd.R_drewN | apply Kd.R_drew)); exact HO_24.out) hb); have n2_ := Aside0.mk (blk_below (g := gb193) (o := .cells #[.int .i64 t190, .int .i64 t191] 27 (0, 0)) (by (with_reducible repeat (first | refine blk_drewN ?_ _ | refine blk_drew ?_ | refine blk_alloc ?_ _)); exact BK193.out) hb); have n3_ := Aside0.mk (blk_below (g := gb199) (o := .cells #[.int .i64 t196, .int .i64 t197] 54 (0, 0)) (by (with_reducible repeat (first | refine blk_drewN ?_ _ | refine blk_drew ?_ | refine blk_alloc ?_ _)); exact BK199.out) hb); have n4_ := Aside0.mk (below_step (by repeat (first | (with_reducible first | exact HB.out | apply below_alloc | apply pw_below_drewN | apply below_drew1 | refine below_set ?_ GE193.out | refine below_set ?_ GE199.out) | exact HB.out)) hb); have n5_ := Aside0.mk (hbox); have n6_ := Aside0.mk ((by rw [hg]; exact (below_size (by repeat (first | (with_reducible first | exact HB.out | apply below_alloc | apply pw_below_drewN | apply below_drew1 | refine below_set ?_ GE193.out | refine below_set ?_ GE199.out) | exact HB.out))) : w.heap.size ≤ gb203)); have n7_ := Aside0.mk ((by rw [hg]; exact (below_size (by repeat (first | (with_reducible first | exact HB.out | apply below_alloc | apply pw_below_drewN | apply below_drew1 | refine below_set ?_ GE193.out | refine below_set ?_ GE199.out) | exact HB.out))) : w.heap.size ≤ gb203)); have n8_ := Aside0.mk ((by rw [hg]; exact Nat.ne_of_lt (blk_lt (g := gb193) (o := .cells #[.int .i64 t190, .int .i64 t191] 27 (0, 0)) (by (with_reducible repeat (first | refine blk_drewN ?_ _ | refine blk_drew ?_ | refine blk_alloc ?_ _)); exact BK193.out)) : gb193 ≠ gb203)); have n9_ := Aside0.mk ((by rw [hg]; exact Nat.ne_of_gt (blk_lt (g := gb193) (o := .cells #[.int .i64 t190, .int .i64 t191] 27 (0, 0)) (by (with_reducible repeat (first | refine blk_drewN ?_ _ | refine blk_drew ?_ | refine blk_alloc ?_ _)); exact BK193.out)) : gb203 ≠ gb193)); have n10_ := Aside0.mk ((by rw [hg]; exact Nat.ne_of_lt (blk_lt (g := gb199) (o := .cells #[.int .i64 t196, .int .i64 t197] 54 (0, 0)) (by (with_reducible repeat (first | refine blk_drewN ?_ _ | refine blk_drew ?_ | refine blk_alloc ?_ _)); exact BK199.out)) : gb199 ≠ gb203)); have n11_ := Aside0.mk ((by rw [hg]; exact Nat.ne_of_gt (blk_lt (g := gb199) (o := .cells #[.int .i64 t196, .int .i64 t197] 54 (0, 0)) (by (with_reducible repeat (first | refine blk_drewN ?_ _ | refine blk_drew ?_ | refine blk_alloc ?_ _)); exact BK199.out)) : gb203 ≠ gb199)); clear HO_6; clear HO_24; clear BK193; clear BK199; clear HB; have HO_6 := n0_; have HO_24 := n1_; have BK193 := n2_; have BK199 := n3_; have HB := n4_; have BK203 := n5_; have GW203 := n6_; have GE203 := n7_; have NB193_203 := n8_; have NB203_193 := n9_; have NB199_203 := n10_; have NB203_199 := n11_; clear n0_ n1_ n2_ n3_ n4_ n5_ n6_ n7_ n8_ n9_ n10_ n11_; clear hb hbox hg; have hnb45 := NB203_193.out; have hnc45 := NB193_203.out; have hnb46 := NB203_199.out; have hnc46 := NB199_203.out; have hcz47_0 : w44.cell? ⟨gb203, 0, none⟩ = some (.int .i64 0) := (blk_cell BK203.out 0).trans rfl; have hcz47_1 : w44.cell? ⟨gb203, 1, none⟩ = some (.int .i64 0) := (blk_cell BK203.out 1).trans rfl; have hfz47_0 := blk_frozen BK203.out 0; have hfz47_1 := blk_frozen BK203.out 1))
                              have n0_ : Aside0 (Kd.P IxP 900049 ((w44.setCell ⟨gb203, 0, none⟩ (.int .i64 t200)).setCell ⟨gb203, 1, none⟩ (.int .i64 t201)) w.heap.size (fun k_ => some k_ ≠ (.slice Ao13 x24_1.length co13 : Value).ownBlock ∧ k_ ≠ gb193 ∧ k_ ≠ gb199 ∧ k_ ≠ gb203) v186 t185) := ⟨by (with_reducible repeat (first | apply Kd.P_alloc | apply Kd.P_drewN | apply Kd.P_drew)); exact Kd.P_mono (Kd.P_far (p := ⟨gb203, 1, none⟩) (Kd.P_far (p := ⟨gb203, 0, none⟩) (Kd.P_mono HO_6.out (fun k_ hk => (⟨hk, hk.2⟩ : _ ∧ k_ ≠ gb203))) (fun _ hk => hk.2) (.int .i64 t200)) (fun _ hk => hk.2) (.int .i64 t201)) (fun _ hk => ⟨hk.1.1.1.1, ⟨hk.1.1.1.2, ⟨hk.1.1.2, hk.1.2⟩⟩⟩)⟩
                              have n1_ : Aside0 (Kd.R (Kd.int .u8) 5 ((w44.setCell ⟨gb203, 0, none⟩ (.int .i64 t200)).setCell ⟨gb203, 1, none⟩ (.int .i64 t201)) w.heap.size (fun _ => True) (.slice Ao13 x24_1.length co13) x24_1) := ⟨by (with_reducible repeat (first | apply Kd.R_alloc | apply Kd.R_drewN | apply Kd.R_drew)); exact Kd.R_mono (Kd.R_far (p := ⟨gb203, 1, none⟩) (Kd.R_far (p := ⟨gb203, 0, none⟩) (Kd.R_types HO_24.out BK203.out (by decide)) (fun _ hk => hk.2) (.int .i64 t200)) (fun _ hk => hk.2) (.int .i64 t201)) (fun _ hk => trivial)⟩
                              have n2_ : Aside0 (((w44.setCell ⟨gb203, 0, none⟩ (.int .i64 t200)).setCell ⟨gb203, 1, none⟩ (.int .i64 t201)).heap[gb193]? = some (.cells #[.int .i64 t190, .int .i64 t191] 27 (0, 0))) := ⟨by (with_reducible repeat (first | refine blk_drewN ?_ _ | refine blk_drew ?_ | refine blk_alloc ?_ _)); refine blk_far ?_ NB193_203.out _; (with_reducible repeat (first | refine blk_drewN ?_ _ | refine blk_drew ?_ | refine blk_alloc ?_ _)); refine blk_far ?_ NB193_203.out _; (with_reducible repeat (first | refine blk_drewN ?_ _ | refine blk_drew ?_ | refine blk_alloc ?_ _)); exact BK193.out⟩
                              have n3_ : Aside0 (((w44.setCell ⟨gb203, 0, none⟩ (.int .i64 t200)).setCell ⟨gb203, 1, none⟩ (.int .i64 t201)).heap[gb199]? = some (.cells #[.int .i64 t196, .int .i64 t197] 54 (0, 0))) := ⟨by (with_reducible repeat (first | refine blk_drewN ?_ _ | refine blk_drew ?_ | refine blk_alloc ?_ _)); refine blk_far ?_ NB199_203.out _; (with_reducible repeat (first | refine blk_drewN ?_ _ | refine blk_drew ?_ | refine blk_alloc ?_ _)); refine blk_far ?_ NB199_203.out _; (with_reducible repeat (first | refine blk_drewN ?_ _ | refine blk_drew ?_ | refine blk_alloc ?_ _)); exact BK199.out⟩
                              have n4_ : Aside0 (((w44.setCell ⟨gb203, 0, none⟩ (.int .i64 t200)).setCell ⟨gb203, 1, none⟩ (.int .i64 t201)).heap[gb203]? = some (.cells #[.int .i64 t200, .int .i64 t201] 54 (0, 0))) := ⟨by (with_reducible repeat (first | refine blk_drewN ?_ _ | refine blk_drew ?_ | refine blk_alloc ?_ _)); refine blk_put (cs := #[.int .i64 t200, .int .i64 0]) ?_ 1 _ rfl; (with_reducible repeat (first | refine blk_drewN ?_ _ | refine blk_drew ?_ | refine blk_alloc ?_ _)); refine blk_put (cs := #[.int .i64 0, .int .i64 0]) ?_ 0 _ rfl; (with_reducible repeat (first | refine blk_drewN ?_ _ | refine blk_drew ?_ | refine blk_alloc ?_ _)); exact BK203.out⟩
                              have n5_ : Aside0 (Below w.heap.size w ((w44.setCell ⟨gb203, 0, none⟩ (.int .i64 t200)).setCell ⟨gb203, 1, none⟩ (.int .i64 t201))) := ⟨by repeat (first | (with_reducible first | exact HB.out | apply below_alloc | apply pw_below_drewN | apply below_drew1 | refine below_set ?_ GE193.out | refine below_set ?_ GE199.out | refine below_set ?_ GE203.out) | exact HB.out)⟩
                              (try clear HO_6)
                              (try clear HO_24)
                              (try clear BK193)
                              (try clear BK199)
                              (try clear BK203)
                              (try clear HB)
                              generalize ((w44.setCell ⟨gb203, 0, none⟩ (.int .i64 t200)).setCell ⟨gb203, 1, none⟩ (.int .i64 t201)) = w48 at n0_ n1_ n2_ n3_ n4_ n5_ ⊢
                              have HO_6 := n0_
                              have HO_24 := n1_
                              have BK193 := n2_
                              have BK199 := n3_
                              have BK203 := n4_
                              have HB := n5_
                              clear n0_ n1_ n2_ n3_ n4_ n5_
                              have n0_ := Aside0.mk (Kd.P_drew HO_6.out)
                              have n1_ := Aside0.mk (Kd.R_drew HO_24.out)
                              have n2_ := Aside0.mk (blk_drew BK193.out)
                              have n3_ := Aside0.mk (blk_drew BK199.out)
                              have n4_ := Aside0.mk (blk_drew BK203.out)
                              have n5_ := Aside0.mk (below_drew1 HB.out)
                              clear HO_6
                              clear HO_24
                              clear BK193
                              clear BK199
                              clear BK203
                              clear HB
                              have HO_6 := n0_
                              have HO_24 := n1_
                              have BK193 := n2_
                              have BK199 := n3_
                              have BK203 := n4_
                              have HB := n5_
                              clear n0_ n1_ n2_ n3_ n4_ n5_
                              refine start_ (n := 42) (S := fun w' => w'.cell? ⟨gb203, 0, none⟩ = some (.int .i64 t200) ∧ w'.cell? ⟨gb203, 1, none⟩ = some (.int .i64 t201) ∧ w'.cell? ⟨gb193, 0, none⟩ = some (.int .i64 t190) ∧ w'.cell? ⟨gb193, 1, none⟩ = some (.int .i64 t191) ∧ w'.cell? ⟨gb199, 0, none⟩ = some (.int .i64 t196) ∧ w'.cell? ⟨gb199, 1, none⟩ = some (.int .i64 t197)) (ds := []) #[false, false, false, false, false, false, false, false, false, false, false, false, false, false, false, false, false, false, false, false, false, false, false, false, false, false, false, false, false, false, false, false, false, false, false, false, false, false, false, false, false, false] (by kernel_rfl) rfl rfl ⟨(blk_cell BK203.out 0).trans rfl, (blk_cell BK203.out 1).trans rfl, (blk_cell BK193.out 0).trans rfl, (blk_cell BK193.out 1).trans rfl, (blk_cell BK199.out 0).trans rfl, (blk_cell BK199.out 1).trans rfl⟩ (fun hHeld => ?_); refine with_tabW redpenlaw03_LinesOwn.tab17 redpenlaw03_LinesOwn.bits17 (fun HT_ HW_ => ?_)
                              generalize w48.drew = w49 at HO_6 HO_24 BK193 BK199 BK203 HB hHeld ⊢
                              refine pure_ (i := 0) (N := some 64) (v := ?_) (a' := ?_) #[true, false, false, false, false, false, false, false, false, false, false, false, false, false, false, false, false, false, false, false, false, false, false, false, false, false, false, false, false, false, false, false, false, false, false, false, false, false, false, false, false, false] rfl rfl (any_of HT_.out (by kernel_rfl)) (fun _ _ _ h => h) (Or.inl ⟨by rfl, ?_⟩) ?_ ?_
                              rotate_left
                              · intro w'
                                go_simp
                                with_reducible rfl
                              rotate_left
                              · simp only [Act.put, List.setIfInBounds_toArray, List.set_cons_zero, List.set_cons_succ, i64_w, i32_w]
                                rfl
                              refine pure_ (i := 1) (N := some 65) (v := ?_) (a' := ?_) #[true, true, false, false, false, false, false, false, false, false, false, false, false, false, false, false, false, false, false, false, false, false, false, false, false, false, false, false, false, false, false, false, false, false, false, false, false, false, false, false, false, false] rfl rfl (any_of HT_.out (by kernel_rfl)) (fun _ _ _ h => h) (Or.inl ⟨by rfl, ?_⟩) ?_ ?_
                              rotate_left
                              · intro w'
                                go_simp
                                with_reducible rfl
                              rotate_left
                              · simp only [Act.put, List.setIfInBounds_toArray, List.set_cons_zero, List.set_cons_succ, i64_w, i32_w]
                                rfl
                              refine pure_ (i := 2) (N := some 66) (v := ?_) (a' := ?_) #[true, true, true, false, false, false, false, false, false, false, false, false, false, false, false, false, false, false, false, false, false, false, false, false, false, false, false, false, false, false, false, false, false, false, false, false, false, false, false, false, false, false] rfl rfl (any_of HT_.out (by kernel_rfl)) (fun _ _ _ h => h) (Or.inl ⟨by rfl, ?_⟩) ?_ ?_
                              rotate_left
                              · intro w'
                                go_simp
                                with_reducible rfl
                              rotate_left
                              · simp only [Act.put, List.setIfInBounds_toArray, List.set_cons_zero, List.set_cons_succ, i64_w, i32_w]
                                rfl
                              refine pure_ (i := 4) (N := some 68) (v := ?_) (a' := ?_) #[true, true, true, false, true, false, false, false, false, false, false, false, false, false, false, false, false, false, false, false, false, false, false, false, false, false, false, false, false, false, false, false, false, false, false, false, false, false, false, false, false, false] rfl rfl (any_of HT_.out (by kernel_rfl)) (fun _ _ _ h => h) (Or.inl ⟨by rfl, ?_⟩) ?_ ?_
                              rotate_left
                              · intro w'
                                go_simp
                                with_reducible rfl
                              rotate_left
                              · simp only [Act.put, List.setIfInBounds_toArray, List.set_cons_zero, List.set_cons_succ, i64_w, i32_w]
                                rfl
                              refine pure_ (i := 5) (N := some 69) (v := ?_) (a' := ?_) #[true, true, true, false, true, true, false, false, false, false, false, false, false, false, false, false, false, false, false, false, false, false, false, false, false, false, false, false, false, false, false, false, false, false, false, false, false, false, false, false, false, false] rfl rfl (any_of HT_.out (by kernel_rfl)) (fun _ _ _ h => h) (Or.inl ⟨by rfl, ?_⟩) ?_ ?_
                              rotate_left
                              · intro w'
                                go_simp
                                with_reducible rfl
                              rotate_left
                              · simp only [Act.put, List.setIfInBounds_toArray, List.set_cons_zero, List.set_cons_succ, i64_w, i32_w]
                                rfl
                              refine pure_ (i := 6) (N := some 70) (v := ?_) (a' := ?_) #[true, true, true, false, true, true, true, false, false, false, false, false, false, false, false, false, false, false, false, false, false, false, false, false, false, false, false, false, false, false, false, false, false, false, false, false, false, false, false, false, false, false] rfl rfl (any_of HT_.out (by kernel_rfl)) (fun _ _ _ h => h) (Or.inl ⟨by rfl, ?_⟩) ?_ ?_
                              rotate_left
                              · intro w'
                                go_simp
                                with_reducible rfl
                              rotate_left
                              · simp only [Act.put, List.setIfInBounds_toArray, List.set_cons_zero, List.set_cons_succ, i64_w, i32_w]
                                rfl
                              refine take_ (i := 3) (N := some 67) (v := ?_) (a' := ?_) #[true, true, true, true, true, true, true, false, false, false, false, false, false, false, false, false, false, false, false, false, false, false, false, false, false, false, false, false, false, false, false, false, false, false, false, false, false, false, false, false, false, false] rfl rfl (take_ofW HT_.out HW_.out (by kernel_rfl)) (fun _ _ _ h => h) (Or.inl ⟨by rfl, ?_⟩) hHeld ?_ ?_
                              rotate_left
                              · rintro w' ⟨s0, s1, s2, s3, s4, s5⟩
                                go_simp
                                with_reducible rfl
                              rotate_left
                              · simp only [Act.put, List.setIfInBounds_toArray, List.set_cons_zero, List.set_cons_succ, i64_w, i32_w]
                                rfl
                              refine one_ (i := 7) (N := some 71) #[true, true, true, true, true, true, true, true, false, false, false, false, false, false, false, false, false, false, false, false, false, false, false, false, false, false, false, false, false, false, false, false, false, false, false, false, false, false, false, false, false, false] rfl rfl (one_of HT_.out (by kernel_rfl)) (by decide) (fun K hK => ?_)
                              refine goes_ Try.func31 (by kernel_rfl) rfl #[.slice A0 l0.length c0, .int .i64 (l0.length : Int)] (by rfl) rfl rfl (by (try simp only [List.map_toArray, List.map_cons, List.map_nil]); first | done | rfl | (simp only [List.length_drop, List.length_take]; rfl)) ?_
                              with_reducible refine (redpenref01_Place.calls k1 _ _ l0 (l0.length : Int) t204 t205 _ ?side1 ?side2 A26.out).mono ?_
                              (case side1 => repeat (first | exact (Kd.C_below HR0.out HB.out) | (with_reducible refine Kd.C_alloc ?_ _) | (with_reducible refine Kd.C_drewN ?_ _) | (with_reducible refine Kd.C_drew ?_)))
                              (case side2 => exact HC0.out)
                              rintro e w50 ⟨rfl, hb⟩
                              refine ⟨_, rfl, ?_⟩
                              have n0_ := Aside0.mk (Kd.P_below (by (with_reducible repeat (first | apply Kd.P_alloc | apply Kd.P_drewN | apply Kd.P_drew)); exact HO_6.out) hb)
                              have n1_ := Aside0.mk (Kd.R_below (by (with_reducible repeat (first | apply Kd.R_alloc | apply Kd.R_drewN | apply Kd.R_drew)); exact HO_24.out) hb)
                              have n2_ := Aside0.mk (blk_below (g := gb193) (o := .cells #[.int .i64 t190, .int .i64 t191] 27 (0, 0)) (by (with_reducible repeat (first | refine blk_drewN ?_ _ | refine blk_drew ?_ | refine blk_alloc ?_ _)); exact BK193.out) hb)
                              have n3_ := Aside0.mk (blk_below (g := gb199) (o := .cells #[.int .i64 t196, .int .i64 t197] 54 (0, 0)) (by (with_reducible repeat (first | refine blk_drewN ?_ _ | refine blk_drew ?_ | refine blk_alloc ?_ _)); exact BK199.out) hb)
                              have n4_ := Aside0.mk (blk_below (g := gb203) (o := .cells #[.int .i64 t200, .int .i64 t201] 54 (0, 0)) (by (with_reducible repeat (first | refine blk_drewN ?_ _ | refine blk_drew ?_ | refine blk_alloc ?_ _)); exact BK203.out) hb)
                              have n5_ := Aside0.mk (below_step (by repeat (first | (with_reducible first | exact HB.out | apply below_alloc | apply pw_below_drewN | apply below_drew1 | refine below_set ?_ GE193.out | refine below_set ?_ GE199.out | refine below_set ?_ GE203.out) | exact HB.out)) hb)
                              clear HO_6
                              clear HO_24
                              clear BK193
                              clear BK199
                              clear BK203
                              clear HB
                              have HO_6 := n0_
                              have HO_24 := n1_
                              have BK193 := n2_
                              have BK199 := n3_
                              have BK203 := n4_
                              have HB := n5_
                              clear n0_ n1_ n2_ n3_ n4_ n5_
                              (try clear hb)
                              (try clear hb2)
                              (try clear hk)
                              (try clear hi)
                              refine hK.out _ _ ⟨(blk_cell BK203.out 0).trans rfl, (blk_cell BK203.out 1).trans rfl, (blk_cell BK193.out 0).trans rfl, (blk_cell BK193.out 1).trans rfl, (blk_cell BK199.out 0).trans rfl, (blk_cell BK199.out 1).trans rfl⟩ (fun hHeld => ?_)
                              clear hK K
                              refine norm_ (a' := ?_) ?_ ?_
                              rotate_left
                              · show Act.put _ (some 71) _ = _
                                simp only [Act.put, List.setIfInBounds_toArray, List.set_cons_zero, List.set_cons_succ, i64_w, i32_w]
                                rfl
                              refine pure_ (i := 8) (N := some 72) (v := ?_) (a' := ?_) #[true, true, true, true, true, true, true, true, true, false, false, false, false, false, false, false, false, false, false, false, false, false, false, false, false, false, false, false, false, false, false, false, false, false, false, false, false, false, false, false, false, false] rfl rfl (any_of HT_.out (by kernel_rfl)) (fun _ _ _ h => h) (Or.inl ⟨by rfl, ?_⟩) ?_ ?_
                              rotate_left
                              · intro w'
                                go_simp
                                with_reducible rfl
                              rotate_left
                              · simp only [Act.put, List.setIfInBounds_toArray, List.set_cons_zero, List.set_cons_succ, i64_w, i32_w]
                                rfl
                              refine pure_ (i := 9) (N := some 73) (v := ?_) (a' := ?_) #[true, true, true, true, true, true, true, true, true, true, false, false, false, false, false, false, false, false, false, false, false, false, false, false, false, false, false, false, false, false, false, false, false, false, false, false, false, false, false, false, false, false] rfl rfl (any_of HT_.out (by kernel_rfl)) (fun _ _ _ h => h) (Or.inl ⟨by rfl, ?_⟩) ?_ ?_
                              rotate_left
                              · intro w'
                                go_simp
                                with_reducible rfl
                              rotate_left
                              · simp only [Act.put, List.setIfInBounds_toArray, List.set_cons_zero, List.set_cons_succ, i64_w, i32_w]
                                rfl
                              refine pure_ (i := 10) (N := some 74) (v := ?_) (a' := ?_) #[true, true, true, true, true, true, true, true, true, true, true, false, false, false, false, false, false, false, false, false, false, false, false, false, false, false, false, false, false, false, false, false, false, false, false, false, false, false, false, false, false, false] rfl rfl (any_of HT_.out (by kernel_rfl)) (fun _ _ _ h => h) (Or.inl ⟨by rfl, ?_⟩) ?_ ?_
                              rotate_left
                              · intro w'
                                go_simp
                                with_reducible rfl
                              rotate_left
                              · simp only [Act.put, List.setIfInBounds_toArray, List.set_cons_zero, List.set_cons_succ, i64_w, i32_w]
                                rfl
                              refine pure_ (i := 11) (N := some 75) (v := ?_) (a' := ?_) #[true, true, true, true, true, true, true, true, true, true, true, true, false, false, false, false, false, false, false, false, false, false, false, false, false, false, false, false, false, false, false, false, false, false, false, false, false, false, false, false, false, false] rfl rfl (any_of HT_.out (by kernel_rfl)) (fun _ _ _ h => h) (Or.inl ⟨by rfl, ?_⟩) ?_ ?_
                              rotate_left
                              · intro w'
                                go_simp
                                with_reducible rfl
                              rotate_left
                              · simp only [Act.put, List.setIfInBounds_toArray, List.set_cons_zero, List.set_cons_succ, i64_w, i32_w]
                                rfl
                              refine one_ (i := 12) (N := some 76) #[true, true, true, true, true, true, true, true, true, true, true, true, true, false, false, false, false, false, false, false, false, false, false, false, false, false, false, false, false, false, false, false, false, false, false, false, false, false, false, false, false, false] rfl rfl (one_of HT_.out (by kernel_rfl)) (by decide) (fun K hK => ?_)
                              refine goes_ Try.func33 (by kernel_rfl) rfl #[.pointer none] (by rfl) rfl rfl (by (try simp only [List.map_toArray, List.map_cons, List.map_nil]); first | done | rfl | (simp only [List.length_drop, List.length_take]; rfl)) ?_
                              refine (lines_Index_Lines.calls _ ([] : List (IxT)) t206 _ ?side1 A28.out).mono ?_
                              (case side1 => exact IxP_nil _)
                              rintro e w' ⟨rfl, ⟨nd, rfl⟩⟩
                              refine ⟨_, rfl, ?_⟩
                              refine hK.out _ _ ⟨(blk_cell BK203.out 0).trans rfl, (blk_cell BK203.out 1).trans rfl, (blk_cell BK193.out 0).trans rfl, (blk_cell BK193.out 1).trans rfl, (blk_cell BK199.out 0).trans rfl, (blk_cell BK199.out 1).trans rfl⟩ (fun hHeld => ?_)
                              clear hK K
                              refine norm_ (a' := ?_) ?_ ?_
                              rotate_left
                              · show Act.put _ (some 76) _ = _
                                simp only [Act.put, List.setIfInBounds_toArray, List.set_cons_zero, List.set_cons_succ, i64_w, i32_w]
                                rfl
                              refine pure_ (i := 13) (N := some 77) (v := ?_) (a' := ?_) #[true, true, true, true, true, true, true, true, true, true, true, true, true, true, false, false, false, false, false, false, false, false, false, false, false, false, false, false, false, false, false, false, false, false, false, false, false, false, false, false, false, false] rfl rfl (any_of HT_.out (by kernel_rfl)) (fun _ _ _ h => h) (Or.inl ⟨by rfl, ?_⟩) ?_ ?_
                              rotate_left
                              · intro w'
                                go_simp
                                with_reducible rfl
                              rotate_left
                              · simp only [Act.put, List.setIfInBounds_toArray, List.set_cons_zero, List.set_cons_succ, i64_w, i32_w]
                                rfl
                              refine pure_ (i := 14) (N := some 78) (v := ?_) (a' := ?_) #[true, true, true, true, true, true, true, true, true, true, true, true, true, true, true, false, false, false, false, false, false, false, false, false, false, false, false, false, false, false, false, false, false, false, false, false, false, false, false, false, false, false] rfl rfl (any_of HT_.out (by kernel_rfl)) (fun _ _ _ h => h) (Or.inl ⟨by rfl, ?_⟩) ?_ ?_
                              rotate_left
                              · intro w'
                                go_simp
                                with_reducible rfl
                              rotate_left
                              · simp only [Act.put, List.setIfInBounds_toArray, List.set_cons_zero, List.set_cons_succ, i64_w, i32_w]
                                rfl
                              refine pure_ (i := 15) (N := some 79) (v := ?_) (a' := ?_) #[true, true, true, true, true, true, true, true, true, true, true, true, true, true, true, true, false, false, false, false, false, false, false, false, false, false, false, false, false, false, false, false, false, false, false, false, false, false, false, false, false, false] rfl rfl (any_of HT_.out (by kernel_rfl)) (fun _ _ _ h => h) (Or.inl ⟨by rfl, ?_⟩) ?_ ?_
                              rotate_left
                              · intro w'
                                go_simp
                                with_reducible rfl
                              rotate_left
                              · simp only [Act.put, List.setIfInBounds_toArray, List.set_cons_zero, List.set_cons_succ, i64_w, i32_w]
                                rfl
                              refine pure_ (i := 17) (N := some 81) (v := ?_) (a' := ?_) #[true, true, true, true, true, true, true, true, true, true, true, true, true, true, true, true, false, true, false, false, false, false, false, false, false, false, false, false, false, false, false, false, false, false, false, false, false, false, false, false, false, false] rfl rfl (any_of HT_.out (by kernel_rfl)) (fun _ _ _ h => h) (Or.inl ⟨by rfl, ?_⟩) ?_ ?_
                              rotate_left
                              · intro w'
                                go_simp
                                with_reducible rfl
                              rotate_left
                              · simp only [Act.put, List.setIfInBounds_toArray, List.set_cons_zero, List.set_cons_succ, i64_w, i32_w]
                                rfl
                              refine take_ (i := 16) (N := some 80) (v := ?_) (a' := ?_) #[true, true, true, true, true, true, true, true, true, true, true, true, true, true, true, true, true, true, false, false, false, false, false, false, false, false, false, false, false, false, false, false, false, false, false, false, false, false, false, false, false, false] rfl rfl (take_ofW HT_.out HW_.out (by kernel_rfl)) (fun _ _ _ h => h) (Or.inl ⟨by rfl, ?_⟩) hHeld ?_ ?_
                              rotate_left
                              · rintro w' ⟨s0, s1, s2, s3, s4, s5⟩
                                go_simp
                                with_reducible rfl
                              rotate_left
                              · simp only [Act.put, List.setIfInBounds_toArray, List.set_cons_zero, List.set_cons_succ, i64_w, i32_w]
                                rfl
                              refine pure_ (i := 18) (N := some 82) (v := ?_) (a' := ?_) #[true, true, true, true, true, true, true, true, true, true, true, true, true, true, true, true, true, true, true, false, false, false, false, false, false, false, false, false, false, false, false, false, false, false, false, false, false, false, false, false, false, false] rfl rfl (any_of HT_.out (by kernel_rfl)) (fun _ _ _ h => h) (Or.inl ⟨by rfl, ?_⟩) ?_ ?_
                              rotate_left
                              · intro w'
                                go_simp
                                with_reducible rfl
                              rotate_left
                              · simp only [Act.put, List.setIfInBounds_toArray, List.set_cons_zero, List.set_cons_succ, i64_w, i32_w]
                                rfl
                              refine pure_ (i := 19) (N := some 83) (v := ?_) (a' := ?_) #[true, true, true, true, true, true, true, true, true, true, true, true, true, true, true, true, true, true, true, true, false, false, false, false, false, false, false, false, false, false, false, false, false, false, false, false, false, false, false, false, false, false] rfl rfl (any_of HT_.out (by kernel_rfl)) (fun _ _ _ h => h) (Or.inl ⟨by rfl, ?_⟩) ?_ ?_
                              rotate_left
                              · intro w'
                                go_simp
                                with_reducible rfl
                              rotate_left
                              · simp only [Act.put, List.setIfInBounds_toArray, List.set_cons_zero, List.set_cons_succ, i64_w, i32_w]
                                rfl
                              refine pure_ (i := 20) (N := some 84) (v := ?_) (a' := ?_) #[true, true, true, true, true, true, true, true, true, true, true, true, true, true, true, true, true, true, true, true, true, false, false, false, false, false, false, false, false, false, false, false, false, false, false, false, false, false, false, false, false, false] rfl rfl (any_of HT_.out (by kernel_rfl)) (fun _ _ _ h => h) (Or.inl ⟨by rfl, ?_⟩) ?_ ?_
                              rotate_left
                              · intro w'
                                go_simp
                                with_reducible rfl
                              rotate_left
                              · simp only [Act.put, List.setIfInBounds_toArray, List.set_cons_zero, List.set_cons_succ, i64_w, i32_w]
                                rfl
                              refine pure_ (i := 21) (N := some 85) (v := ?_) (a' := ?_) #[true, true, true, true, true, true, true, true, true, true, true, true, true, true, true, true, true, true, true, true, true, true, false, false, false, false, false, false, false, false, false, false, false, false, false, false, false, false, false, false, false, false] rfl rfl (any_of HT_.out (by kernel_rfl)) (fun _ _ _ h => h) (Or.inl ⟨by rfl, ?_⟩) ?_ ?_
                              rotate_left
                              · intro w'
                                go_simp
                                with_reducible rfl
                              rotate_left
                              · simp only [Act.put, List.setIfInBounds_toArray, List.set_cons_zero, List.set_cons_succ, i64_w, i32_w]
                                rfl
                              refine pure_ (i := 22) (N := some 86) (v := ?_) (a' := ?_) #[true, true, true, true, true, true, true, true, true, true, true, true, true, true, true, true, true, true, true, true, true, true, true, false, false, false, false, false, false, false, false, false, false, false, false, false, false, false, false, false, false, false] rfl rfl (any_of HT_.out (by kernel_rfl)) (fun _ _ _ h => h) (Or.inl ⟨by rfl, ?_⟩) ?_ ?_
                              rotate_left
                              · intro w'
                                go_simp
                                with_reducible rfl
                              rotate_left
                              · simp only [Act.put, List.setIfInBounds_toArray, List.set_cons_zero, List.set_cons_succ, i64_w, i32_w]
                                rfl
                              refine pure_ (i := 23) (N := some 87) (v := ?_) (a' := ?_) #[true, true, true, true, true, true, true, true, true, true, true, true, true, true, true, true, true, true, true, true, true, true, true, true, false, false, false, false, false, false, false, false, false, false, false, false, false, false, false, false, false, false] rfl rfl (any_of HT_.out (by kernel_rfl)) (fun _ _ _ h => h) (Or.inl ⟨by rfl, ?_⟩) ?_ ?_
                              rotate_left
                              · intro w'
                                go_simp
                                with_reducible rfl
                              rotate_left
                              · simp only [Act.put, List.setIfInBounds_toArray, List.set_cons_zero, List.set_cons_succ, i64_w, i32_w]
                                rfl
                              refine pure_ (i := 24) (N := some 88) (v := ?_) (a' := ?_) #[true, true, true, true, true, true, true, true, true, true, true, true, true, true, true, true, true, true, true, true, true, true, true, true, true, false, false, false, false, false, false, false, false, false, false, false, false, false, false, false, false, false] rfl rfl (any_of HT_.out (by kernel_rfl)) (fun _ _ _ h => h) (Or.inl ⟨by rfl, ?_⟩) ?_ ?_
                              rotate_left
                              · intro w'
                                go_simp
                                with_reducible rfl
                              rotate_left
                              · simp only [Act.put, List.setIfInBounds_toArray, List.set_cons_zero, List.set_cons_succ, i64_w, i32_w]
                                rfl
                              refine pure_ (i := 25) (N := some 89) (v := ?_) (a' := ?_) #[true, true, true, true, true, true, true, true, true, true, true, true, true, true, true, true, true, true, true, true, true, true, true, true, true, true, false, false, false, false, false, false, false, false, false, false, false, false, false, false, false, false] rfl rfl (any_of HT_.out (by kernel_rfl)) (fun _ _ _ h => h) (Or.inl ⟨by rfl, ?_⟩) ?_ ?_
                              rotate_left
                              · intro w'
                                go_simp
                                with_reducible rfl
                              rotate_left
                              · simp only [Act.put, List.setIfInBounds_toArray, List.set_cons_zero, List.set_cons_succ, i64_w, i32_w]
                                rfl
                              refine pure_ (i := 26) (N := some 90) (v := ?_) (a' := ?_) #[true, true, true, true, true, true, true, true, true, true, true, true, true, true, true, true, true, true, true, true, true, true, true, true, true, true, true, false, false, false, false, false, false, false, false, false, false, false, false, false, false, false] rfl rfl (any_of HT_.out (by kernel_rfl)) (fun _ _ _ h => h) (Or.inl ⟨by rfl, ?_⟩) ?_ ?_
                              rotate_left
                              · intro w'
                                go_simp
                                with_reducible rfl
                              rotate_left
                              · simp only [Act.put, List.setIfInBounds_toArray, List.set_cons_zero, List.set_cons_succ, i64_w, i32_w]
                                rfl
                              refine pure_ (i := 27) (N := some 91) (v := ?_) (a' := ?_) #[true, true, true, true, true, true, true, true, true, true, true, true, true, true, true, true, true, true, true, true, true, true, true, true, true, true, true, true, false, false, false, false, false, false, false, false, false, false, false, false, false, false] rfl rfl (any_of HT_.out (by kernel_rfl)) (fun _ _ _ h => h) (Or.inl ⟨by rfl, ?_⟩) ?_ ?_
                              rotate_left
                              · intro w'
                                go_simp
                                with_reducible rfl
                              rotate_left
                              · simp only [Act.put, List.setIfInBounds_toArray, List.set_cons_zero, List.set_cons_succ, i64_w, i32_w]
                                rfl
                              refine pure_ (i := 28) (N := some 92) (v := ?_) (a' := ?_) #[true, true, true, true, true, true, true, true, true, true, true, true, true, true, true, true, true, true, true, true, true, true, true, true, true, true, true, true, true, false, false, false, false, false, false, false, false, false, false, false, false, false] rfl rfl (any_of HT_.out (by kernel_rfl)) (fun _ _ _ h => h) (Or.inl ⟨by rfl, ?_⟩) ?_ ?_
                              rotate_left
                              · intro w'
                                go_simp
                                with_reducible rfl
                              rotate_left
                              · simp only [Act.put, List.setIfInBounds_toArray, List.set_cons_zero, List.set_cons_succ, i64_w, i32_w]
                                rfl
                              refine pure_ (i := 29) (N := some 93) (v := ?_) (a' := ?_) #[true, true, true, true, true, true, true, true, true, true, true, true, true, true, true, true, true, true, true, true, true, true, true, true, true, true, true, true, true, true, false, false, false, false, false, false, false, false, false, false, false, false] rfl rfl (any_of HT_.out (by kernel_rfl)) (fun _ _ _ h => h) (Or.inl ⟨by rfl, ?_⟩) ?_ ?_
                              rotate_left
                              · intro w'
                                go_simp
                                with_reducible rfl
                              rotate_left
                              · simp only [Act.put, List.setIfInBounds_toArray, List.set_cons_zero, List.set_cons_succ, i64_w, i32_w]
                                rfl
                              refine pure_ (i := 30) (N := some 94) (v := ?_) (a' := ?_) #[true, true, true, true, true, true, true, true, true, true, true, true, true, true, true, true, true, true, true, true, true, true, true, true, true, true, true, true, true, true, true, false, false, false, false, false, false, false, false, false, false, false] rfl rfl (any_of HT_.out (by kernel_rfl)) (fun _ _ _ h => h) (Or.inl ⟨by rfl, ?_⟩) ?_ ?_
                              rotate_left
                              · intro w'
                                go_simp
                                with_reducible rfl
                              rotate_left
                              · simp only [Act.put, List.setIfInBounds_toArray, List.set_cons_zero, List.set_cons_succ, i64_w, i32_w]
                                rfl
                              refine pure_ (i := 31) (N := some 95) (v := ?_) (a' := ?_) #[true, true, true, true, true, true, true, true, true, true, true, true, true, true, true, true, true, true, true, true, true, true, true, true, true, true, true, true, true, true, true, true, false, false, false, false, false, false, false, false, false, false] rfl rfl (any_of HT_.out (by kernel_rfl)) (fun _ _ _ h => h) (Or.inl ⟨by rfl, ?_⟩) ?_ ?_
                              rotate_left
                              · intro w'
                                go_simp
                                with_reducible rfl
                              rotate_left
                              · simp only [Act.put, List.setIfInBounds_toArray, List.set_cons_zero, List.set_cons_succ, i64_w, i32_w]
                                rfl
                              refine pure_ (i := 32) (N := some 96) (v := ?_) (a' := ?_) #[true, true, true, true, true, true, true, true, true, true, true, true, true, true, true, true, true, true, true, true, true, true, true, true, true, true, true, true, true, true, true, true, true, false, false, false, false, false, false, false, false, false] rfl rfl (any_of HT_.out (by kernel_rfl)) (fun _ _ _ h => h) (Or.inl ⟨by rfl, ?_⟩) ?_ ?_
                              rotate_left
                              · intro w'
                                go_simp
                                with_reducible rfl
                              rotate_left
                              · simp only [Act.put, List.setIfInBounds_toArray, List.set_cons_zero, List.set_cons_succ, i64_w, i32_w]
                                rfl
                              refine pure_ (i := 34) (N := some 98) (v := ?_) (a' := ?_) #[true, true, true, true, true, true, true, true, true, true, true, true, true, true, true, true, true, true, true, true, true, true, true, true, true, true, true, true, true, true, true, true, true, false, true, false, false, false, false, false, false, false] rfl rfl (any_of HT_.out (by kernel_rfl)) (fun _ _ _ h => h) (Or.inl ⟨by rfl, ?_⟩) ?_ ?_
                              rotate_left
                              · intro w'
                                go_simp
                                with_reducible rfl
                              rotate_left
                              · simp only [Act.put, List.setIfInBounds_toArray, List.set_cons_zero, List.set_cons_succ, i64_w, i32_w]
                                rfl
                              refine take_ (i := 33) (N := some 97) (v := ?_) (a' := ?_) #[true, true, true, true, true, true, true, true, true, true, true, true, true, true, true, true, true, true, true, true, true, true, true, true, true, true, true, true, true, true, true, true, true, true, true, false, false, false, false, false, false, false] rfl rfl (take_ofW HT_.out HW_.out (by kernel_rfl)) (fun _ _ _ h => h) (Or.inl ⟨by rfl, ?_⟩) hHeld ?_ ?_
                              rotate_left
                              · rintro w' ⟨s0, s1, s2, s3, s4, s5⟩
                                go_simp
                                with_reducible rfl
                              rotate_left
                              · simp only [Act.put, List.setIfInBounds_toArray, List.set_cons_zero, List.set_cons_succ, i64_w, i32_w]
                                rfl
                              refine pure_ (i := 35) (N := some 99) (v := ?_) (a' := ?_) #[true, true, true, true, true, true, true, true, true, true, true, true, true, true, true, true, true, true, true, true, true, true, true, true, true, true, true, true, true, true, true, true, true, true, true, true, false, false, false, false, false, false] rfl rfl (any_of HT_.out (by kernel_rfl)) (fun _ _ _ h => h) (Or.inl ⟨by rfl, ?_⟩) ?_ ?_
                              rotate_left
                              · intro w'
                                go_simp
                                with_reducible rfl
                              rotate_left
                              · simp only [Act.put, List.setIfInBounds_toArray, List.set_cons_zero, List.set_cons_succ, i64_w, i32_w]
                                rfl
                              refine pure_ (i := 36) (N := some 100) (v := ?_) (a' := ?_) #[true, true, true, true, true, true, true, true, true, true, true, true, true, true, true, true, true, true, true, true, true, true, true, true, true, true, true, true, true, true, true, true, true, true, true, true, true, false, false, false, false, false] rfl rfl (any_of HT_.out (by kernel_rfl)) (fun _ _ _ h => h) (Or.inl ⟨by rfl, ?_⟩) ?_ ?_
                              rotate_left
                              · intro w'
                                go_simp
                                with_reducible rfl
                              rotate_left
                              · simp only [Act.put, List.setIfInBounds_toArray, List.set_cons_zero, List.set_cons_succ, i64_w, i32_w]
                                rfl
                              refine pure_ (i := 37) (N := some 101) (v := ?_) (a' := ?_) #[true, true, true, true, true, true, true, true, true, true, true, true, true, true, true, true, true, true, true, true, true, true, true, true, true, true, true, true, true, true, true, true, true, true, true, true, true, true, false, false, false, false] rfl rfl (any_of HT_.out (by kernel_rfl)) (fun _ _ _ h => h) (Or.inl ⟨by rfl, ?_⟩) ?_ ?_
                              rotate_left
                              · intro w'
                                go_simp
                                with_reducible rfl
                              rotate_left
                              · simp only [Act.put, List.setIfInBounds_toArray, List.set_cons_zero, List.set_cons_succ, i64_w, i32_w]
                                rfl
                              refine pure_ (i := 38) (N := some 102) (v := ?_) (a' := ?_) #[true, true, true, true, true, true, true, true, true, true, true, true, true, true, true, true, true, true, true, true, true, true, true, true, true, true, true, true, true, true, true, true, true, true, true, true, true, true, true, false, false, false] rfl rfl (any_of HT_.out (by kernel_rfl)) (fun _ _ _ h => h) (Or.inl ⟨by rfl, ?_⟩) ?_ ?_
                              rotate_left
                              · intro w'
                                go_simp
                                with_reducible rfl
                              rotate_left
                              · simp only [Act.put, List.setIfInBounds_toArray, List.set_cons_zero, List.set_cons_succ, i64_w, i32_w]
                                rfl
                              refine pure_ (i := 39) (N := some 103) (v := ?_) (a' := ?_) #[true, true, true, true, true, true, true, true, true, true, true, true, true, true, true, true, true, true, true, true, true, true, true, true, true, true, true, true, true, true, true, true, true, true, true, true, true, true, true, true, false, false] rfl rfl (any_of HT_.out (by kernel_rfl)) (fun _ _ _ h => h) (Or.inl ⟨by rfl, ?_⟩) ?_ ?_
                              rotate_left
                              · intro w'
                                go_simp
                                with_reducible rfl
                              rotate_left
                              · simp only [Act.put, List.setIfInBounds_toArray, List.set_cons_zero, List.set_cons_succ, i64_w, i32_w]
                                rfl
                              refine pure_ (i := 40) (N := some 104) (v := ?_) (a' := ?_) #[true, true, true, true, true, true, true, true, true, true, true, true, true, true, true, true, true, true, true, true, true, true, true, true, true, true, true, true, true, true, true, true, true, true, true, true, true, true, true, true, true, false] rfl rfl (any_of HT_.out (by kernel_rfl)) (fun _ _ _ h => h) (Or.inl ⟨by rfl, ?_⟩) ?_ ?_
                              rotate_left
                              · intro w'
                                go_simp
                                with_reducible rfl
                              rotate_left
                              · simp only [Act.put, List.setIfInBounds_toArray, List.set_cons_zero, List.set_cons_succ, i64_w, i32_w]
                                rfl
                              refine pure_ (i := 41) (N := some 4) (v := ?_) (a' := ?_) #[true, true, true, true, true, true, true, true, true, true, true, true, true, true, true, true, true, true, true, true, true, true, true, true, true, true, true, true, true, true, true, true, true, true, true, true, true, true, true, true, true, true] rfl rfl (any_of HT_.out (by kernel_rfl)) (fun _ _ _ h => h) (Or.inl ⟨by rfl, ?_⟩) ?_ ?_
                              rotate_left
                              · intro w'
                                go_simp
                                with_reducible rfl
                              rotate_left
                              · simp only [Act.put, List.setIfInBounds_toArray, List.set_cons_zero, List.set_cons_succ, i64_w, i32_w]
                                rfl
                              refine done_ (done_of HT_.out (by kernel_rfl)) ?_
                              try go_wp2
                              go_ret
                              exact ⟨by first | rfl | (simp [errW_none, errW_some] <;> rfl) | (simp [*, errW_none, errW_some] <;> rfl), by repeat (first | (with_reducible first | exact HB.out | apply below_alloc | apply pw_below_drewN | apply below_drew1 | refine below_set ?_ GE193.out | refine below_set ?_ GE199.out | refine below_set ?_ GE203.out) | exact HB.out)⟩
                            · rw [if_neg c34] at H
                              have c34b0 : (t196 == 0 && (t197 == 0)) = false := by simpa using c34
                              (try (have c34b1 : decide (t196 = 0 && (t197 == 0)) = false := by simpa using c34))
                              (try (have c34b2 : (t196 == 0 && (t197 == 0)) = false := by simpa using c34))
                              (try (have c34b3 : ¬ (t196 = 0 && (t197 == 0)) := by simpa using c34))
                              clear c34
                              have hf_ := Option.some.inj H
                              rw [hr_] at hf_
                              cases hf_
                          · rw [if_neg c33] at H
                            have c33b0 : (t195 == 1) = false := beq_eq_false_iff_ne.mpr c33
                            have c33b1 : (t195 != 1) = true := bne_iff_ne.mpr c33
                            have hf_ := Option.some.inj H
                            rw [hr_] at hf_
                            cases hf_
                        · rw [if_neg c32] at H
                          have c32b0 : (t194 == 0) = false := beq_eq_false_iff_ne.mpr c32
                          have c32b1 : (t194 != 0) = true := bne_iff_ne.mpr c32
                          have hf_ := Option.some.inj H
                          rw [hr_] at hf_
                          cases hf_
                      · rw [if_neg c31] at H
                        have c31b0 : (t192 == 1) = false := beq_eq_false_iff_ne.mpr c31
                        have c31b1 : (t192 != 1) = true := bne_iff_ne.mpr c31
                        have hf_ := Option.some.inj H
                        rw [hr_] at hf_
                        cases hf_
                    · rw [if_neg c30] at H
                      have c30b0 : (t190 == 0 && (t191 == 0)) = false := by simpa using c30
                      (try (have c30b1 : decide (t190 = 0 && (t191 == 0)) = false := by simpa using c30))
                      (try (have c30b2 : (t190 == 0 && (t191 == 0)) = false := by simpa using c30))
                      (try (have c30b3 : ¬ (t190 = 0 && (t191 == 0)) := by simpa using c30))
                      clear c30
                      have hf_ := Option.some.inj H
                      rw [hr_] at hf_
                      cases hf_
                  · rw [if_neg c29] at H
                    have c29b0 : (t206 == 0) = false := beq_eq_false_iff_ne.mpr c29
                    have c29b1 : (t206 != 0) = true := bne_iff_ne.mpr c29
                    have hf_ := Option.some.inj H
                    rw [hr_] at hf_
                    cases hf_
                · rw [if_neg c27] at H
                  have c27b0 : (t200 == t204 && (t201 == t205)) = false := by simpa using c27
                  (try (have c27b1 : decide (t200 = t204 && (t201 == t205)) = false := by simpa using c27))
                  (try (have c27b2 : (t200 == t204 && (t201 == t205)) = false := by simpa using c27))
                  (try (have c27b3 : ¬ (t200 = t204 && (t201 == t205)) := by simpa using c27))
                  clear c27
                  have hf_ := Option.some.inj H
                  rw [hr_] at hf_
                  cases hf_
              · rw [if_neg c25] at H
                have c25b0 : (t202 == 0) = false := beq_eq_false_iff_ne.mpr c25
                have c25b1 : (t202 != 0) = true := bne_iff_ne.mpr c25
                have hf_ := Option.some.inj H
                rw [hr_] at hf_
                cases hf_
      · rw [if_neg c7] at H
        exact absurd H (by simp)
  · replace c4 := Bool.eq_false_iff.mpr c4
    subst c4
    have H1 : (some false) = some r := by rw [if_neg (show ¬ (false = true) by decide)] at H; exact H
    clear H
    have H := H1
    clear H1
    have hf_ := Option.some.inj H
    rw [hr_] at hf_
    cases hf_

/-- THE ONE PURE STATEMENT of redpenlaw03_LinesOwn: yours. -/
def redpenlaw03_LinesOwn.Pure : Prop := ∀ (l0 : List Int) (a1 : Int), l0.length ≤ maxLen → l0.length * 1 ≤ 140737488351232 → (∀ x ∈ l0, (Lit.int .u8 x).wf = true) → (Lit.int .i64 a1).wf = true → ∃ k, redpenlaw03_LinesOwn.f k l0 a1 = some true
theorem redpenlaw03_LinesOwn.walk (P : redpenlaw03_LinesOwn.Pure) (a0 : Option Addr) (len0 cap0 : Nat) (z0 : List Int) (a1 : Int) (w : World) (w0 : (a0 = none ∧ len0 = 0 ∧ cap0 = 0 ∧ z0 = []) ∨ ∃ x, a0 = some x ∧ len0 ≤ cap0 ∧ cap0 ≤ maxLen ∧ z0.length = cap0 ∧ (∀ i, i < z0.length → w.cell? (x.add i) = some (.int .u8 (z0.getD i 0))) ∧ ∀ n ∈ z0, (Lit.int .u8 n).wf = true) (y0 : len0 * 1 ≤ 140737488351232) (w1 : (Lit.int .i64 a1).wf = true) :
    Calls Try.prog 9 #[.slice a0 len0 cap0, .int .i64 a1] w fun e w' => e = .returned (.bool true) ∧ Below w.heap.size w w' := by
  obtain ⟨l0, rfl, hr0, hm0, hw0, hc0⟩ := ReadsInt.ofRowC w0
  obtain ⟨k, h⟩ := P l0 a1 hm0 y0 hw0 w1
  refine (redpenlaw03_LinesOwn.calls k _ _ l0 a1 true w (Kd.C_of_reads (d := (0 : Int)) (h1 := fun _ => rfl) hr0) hc0 h rfl).mono ?_
  rintro e w' ⟨rfl, hd⟩
  exact ⟨rfl, hd⟩

end Go.Proofs.Ytgjnelloegkicaa.PLinesOwn
