-- Laid by a program of ours (the kit's print with words and contracts of our own beside it).
import Derived.Test.YtmnohlmdckcdeaaPTokenCasesx0
import Derived.Test.YtmnohlmdckcdeaaPTokenCasesx3
import Derived.Test.YtmnohlmdckcdeaaPTokenCasesx4
import Derived.Test.YtmnohlmdckcdeaaPTokenCasesx5
namespace Go.Proofs.Ytmnohlmdckcdeaa.PTokenCases
open Go.RowKit Go.Proofs.Ytmnohlmdckcdeaa.X Go.Proofs.YtmnohlmdckcdeaaW.PrintWords Go.Proofs.YtmnohlmdckcdeaaW.PrintLast Go.Proofs.YtmnohlmdckcdeaaW.PrintMore
attribute [local go_sem] max2_int min2_int max_two min_two max_three min_three max_four min_four   -- for this text's walks alone
set_option linter.unusedVariables false
set_option linter.unusedSimpArgs false

/-! ### token_Words: function 32 -/
mutual
def token_Words.l0 : Nat → List Int → List (S53) → Int → Int → List (S50) → List (S33) → Int → Int → Option ((List (S50)))
 | 0, _, _, _, _, _, _, _, _ => none
 | k + 1, x0, x1, x2, x3, x9, x18, x19, x20 => if x20 < x19 then (if 0 ≤ x20 then (if x20 < (x18.length : Int) then ((token_Split.f k x1 ((rd_T33 x18 x20).f0) ((rd_T33 x18 x20).f1)).bind fun t229 => (token_Words.l1 k x0 x1 x2 x3 x9 x18 x19 x20 t229 (t229.length : Int) 0)) else (none)) else (none)) else (some x9)
def token_Words.l1 : Nat → List Int → List (S53) → Int → Int → List (S50) → List (S33) → Int → Int → List (S33) → Int → Int → Option ((List (S50)))
 | 0, _, _, _, _, _, _, _, _, _, _, _ => none
 | k + 1, x0, x1, x2, x3, x9, x18, x19, x20, x26, x27, x28 => if x28 < x27 then (if 0 ≤ x28 then (if x28 < (x26.length : Int) then (if 0 ≤ ((rd_T33 x26 x28).f0) then (if ((rd_T33 x26 x28).f0) ≤ ((rd_T33 x26 x28).f1) then (if ((rd_T33 x26 x28).f1) ≤ (x1.length : Int) then ((some ((x1.take (((rd_T33 x26 x28).f1) : Int).toNat).drop (((rd_T33 x26 x28).f0) : Int).toNat : List (S53))).bind fun y234 => (if (y234.length : Int) < x2 then (token_Words.j2 k x0 x1 x2 x3 x9 y234 x18 x19 x20 x26 x27 x28 true) else (token_Words.j2 k x0 x1 x2 x3 x9 y234 x18 x19 x20 x26 x27 x28 (decide ((y234.length : Int) > x3))))) else (none)) else (none)) else (none)) else (none)) else (none)) else (token_Words.l0 k x0 x1 x2 x3 x9 x18 x19 (wrap64 (x20 + 1)))
def token_Words.j2 : Nat → List Int → List (S53) → Int → Int → List (S50) → List (S53) → List (S33) → Int → Int → List (S33) → Int → Int → Bool → Option ((List (S50)))
 | 0, _, _, _, _, _, _, _, _, _, _, _, _, _ => none
 | k + 1, x0, x1, x2, x3, x9, x14, x18, x19, x20, x26, x27, x28, x47 => if x47 = true then (token_Words.l1 k x0 x1 x2 x3 x9 x18 x19 x20 x26 x27 (wrap64 (x28 + 1))) else (if 0 ≤ (wrap64 ((x14.length : Int) - 1)) then (if (wrap64 ((x14.length : Int) - 1)) < (x14.length : Int) then (if 0 < (x14.length : Int) then ((decode_Text.f k x14).bind fun t243 => ((decode_Literal.f k x0 x14).bind fun t244 => (if x9.length < 3518437208883 then (token_Words.l1 k x0 x1 x2 x3 (x9 ++ [(⟨t243, (⟨(rd_T53 x14 0).f1.f0, wrap64 ((wrap64 (((rd_T53 x14 (wrap64 ((x14.length : Int) - 1))).f1.f0) + ((rd_T53 x14 (wrap64 ((x14.length : Int) - 1))).f1.f1))) - ((rd_T53 x14 0).f1.f0))⟩ : S48), t244⟩ : S50)]) x18 x19 x20 x26 x27 (wrap64 (x28 + 1))) else (none)))) else (none)) else (none)) else (none))
end
def token_Words.f (k : Nat) (l0 : List Int) (l1 : List (S53)) (a2 : Int) (a3 : Int) : Option ((List (S50))) := (token_Runs.f k l1).bind fun t224 => (token_Words.l0 k l0 l1 a2 a3 ([] : List (S50)) t224 (t224.length : Int) 0)
theorem token_Words.mono_l : ∀ k, (∀ y0 y1 y2 y3 y4 y5 y6 y7, LeO (token_Words.l0 k y0 y1 y2 y3 y4 y5 y6 y7) (token_Words.l0 (k + 1) y0 y1 y2 y3 y4 y5 y6 y7)) ∧ (∀ y0 y1 y2 y3 y4 y5 y6 y7 y8 y9 y10, LeO (token_Words.l1 k y0 y1 y2 y3 y4 y5 y6 y7 y8 y9 y10) (token_Words.l1 (k + 1) y0 y1 y2 y3 y4 y5 y6 y7 y8 y9 y10)) ∧ (∀ y0 y1 y2 y3 y4 y5 y6 y7 y8 y9 y10 y11 y12, LeO (token_Words.j2 k y0 y1 y2 y3 y4 y5 y6 y7 y8 y9 y10 y11 y12) (token_Words.j2 (k + 1) y0 y1 y2 y3 y4 y5 y6 y7 y8 y9 y10 y11 y12))
 | 0 => ⟨fun _ _ _ _ _ _ _ _ r h => by simp [token_Words.l0] at h, fun _ _ _ _ _ _ _ _ _ _ _ r h => by simp [token_Words.l1] at h, fun _ _ _ _ _ _ _ _ _ _ _ _ _ r h => by simp [token_Words.j2] at h⟩
 | k + 1 => by
  obtain ⟨ih0, ih1, ih2⟩ := token_Words.mono_l k
  refine ⟨?_, ?_, ?_⟩
  ·intro y0 y1 y2 y3 y4 y5 y6 y7
   unfold token_Words.l0
   repeat' first
   | (with_reducible exact ih0 _ _ _ _ _ _ _ _)
   | (with_reducible exact ih1 _ _ _ _ _ _ _ _ _ _ _)
   | (with_reducible exact ih2 _ _ _ _ _ _ _ _ _ _ _ _ _)
   | (with_reducible exact decode_Literal.mono _ _ _)
   | (with_reducible exact decode_Text.mono _ _)
   | (with_reducible exact token_Runs.mono _ _)
   | (with_reducible exact token_Split.mono _ _ _ _)
   | (with_reducible exact LeO.refl _)
   | (with_reducible exact LeO.none _)
   | (with_reducible refine LeO.ite ?_ ?_)
   | (with_reducible refine LeO.bind ?_ (fun _ => ?_))
   | exact ih0 _ _ _ _ _ _ _ _
   | exact ih1 _ _ _ _ _ _ _ _ _ _ _
   | exact ih2 _ _ _ _ _ _ _ _ _ _ _ _ _
   | exact decode_Literal.mono _ _ _
   | exact decode_Text.mono _ _
   | exact token_Runs.mono _ _
   | exact token_Split.mono _ _ _ _
   | exact LeO.none _
   | refine LeO.ite ?_ ?_
   | refine LeO.bind ?_ (fun _ => ?_)
  ·intro y0 y1 y2 y3 y4 y5 y6 y7 y8 y9 y10
   unfold token_Words.l1
   repeat' first
   | (with_reducible exact ih0 _ _ _ _ _ _ _ _)
   | (with_reducible exact ih1 _ _ _ _ _ _ _ _ _ _ _)
   | (with_reducible exact ih2 _ _ _ _ _ _ _ _ _ _ _ _ _)
   | (with_reducible exact decode_Literal.mono _ _ _)
   | (with_reducible exact decode_Text.mono _ _)
   | (with_reducible exact token_Runs.mono _ _)
   | (with_reducible exact token_Split.mono _ _ _ _)
   | (with_reducible exact LeO.refl _)
   | (with_reducible exact LeO.none _)
   | (with_reducible refine LeO.ite ?_ ?_)
   | (with_reducible refine LeO.bind ?_ (fun _ => ?_))
   | exact ih0 _ _ _ _ _ _ _ _
   | exact ih1 _ _ _ _ _ _ _ _ _ _ _
   | exact ih2 _ _ _ _ _ _ _ _ _ _ _ _ _
   | exact decode_Literal.mono _ _ _
   | exact decode_Text.mono _ _
   | exact token_Runs.mono _ _
   | exact token_Split.mono _ _ _ _
   | exact LeO.none _
   | refine LeO.ite ?_ ?_
   | refine LeO.bind ?_ (fun _ => ?_)
  ·intro y0 y1 y2 y3 y4 y5 y6 y7 y8 y9 y10 y11 y12
   unfold token_Words.j2
   repeat' first
   | (with_reducible exact ih0 _ _ _ _ _ _ _ _)
   | (with_reducible exact ih1 _ _ _ _ _ _ _ _ _ _ _)
   | (with_reducible exact ih2 _ _ _ _ _ _ _ _ _ _ _ _ _)
   | (with_reducible exact decode_Literal.mono _ _ _)
   | (with_reducible exact decode_Text.mono _ _)
   | (with_reducible exact token_Runs.mono _ _)
   | (with_reducible exact token_Split.mono _ _ _ _)
   | (with_reducible exact LeO.refl _)
   | (with_reducible exact LeO.none _)
   | (with_reducible refine LeO.ite ?_ ?_)
   | (with_reducible refine LeO.bind ?_ (fun _ => ?_))
   | exact ih0 _ _ _ _ _ _ _ _
   | exact ih1 _ _ _ _ _ _ _ _ _ _ _
   | exact ih2 _ _ _ _ _ _ _ _ _ _ _ _ _
   | exact decode_Literal.mono _ _ _
   | exact decode_Text.mono _ _
   | exact token_Runs.mono _ _
   | exact token_Split.mono _ _ _ _
   | exact LeO.none _
   | refine LeO.ite ?_ ?_
   | refine LeO.bind ?_ (fun _ => ?_)
theorem token_Words.mono : ∀ a0 a1 a2 a3 k, LeO (token_Words.f k a0 a1 a2 a3) (token_Words.f (k + 1) a0 a1 a2 a3) := by
 intro a0 a1 a2 a3 k
 obtain ⟨ih0, ih1, ih2⟩ := token_Words.mono_l k
 unfold token_Words.f
 repeat' first
   | (with_reducible exact ih0 _ _ _ _ _ _ _ _)
   | (with_reducible exact ih1 _ _ _ _ _ _ _ _ _ _ _)
   | (with_reducible exact ih2 _ _ _ _ _ _ _ _ _ _ _ _ _)
   | (with_reducible exact decode_Literal.mono _ _ _)
   | (with_reducible exact decode_Text.mono _ _)
   | (with_reducible exact token_Runs.mono _ _)
   | (with_reducible exact token_Split.mono _ _ _ _)
   | (with_reducible exact LeO.refl _)
   | (with_reducible exact LeO.none _)
   | (with_reducible refine LeO.ite ?_ ?_)
   | (with_reducible refine LeO.bind ?_ (fun _ => ?_))
   | exact ih0 _ _ _ _ _ _ _ _
   | exact ih1 _ _ _ _ _ _ _ _ _ _ _
   | exact ih2 _ _ _ _ _ _ _ _ _ _ _ _ _
   | exact decode_Literal.mono _ _ _
   | exact decode_Text.mono _ _
   | exact token_Runs.mono _ _
   | exact token_Split.mono _ _ _ _
   | exact LeO.none _
   | refine LeO.ite ?_ ?_
   | refine LeO.bind ?_ (fun _ => ?_)
def token_Words.T11 : Bool × List (List Nat × List Nat) := (true, [([], []), ([0], [0]), ([1], [1]), ([2], [2]), ([3], [3]), ([], []), ([5], [5]), ([], []), ([7], [7]), ([6, 8], [6, 8]), ([], []), ([10], [10]), ([11], [11]), ([12], [12]), ([13], [13]), ([9, 14], [9, 14]), ([4, 15], [4, 15]), ([], []), ([17, 16, 0, 1, 2, 3, 4, 5, 6, 7, 8, 9, 10, 11, 12, 13, 14, 15, 16, 17], [16, 17])])
def token_Words.B11 : List Nat := [0, 1, 3, 7, 15, 0, 32, 0, 128, 480, 0, 1024, 3072, 7168, 15360, 32736, 65535, 0, 262143]
theorem token_Words.tab11 : rtab .any (opsOf Try.f32 11) = token_Words.T11 := by kernel_rfl
theorem token_Words.bits11 : waitsOk token_Words.T11.2 token_Words.B11 = true := by kernel_rfl
def token_Words.T12 : Bool × List (List Nat × List Nat) := (true, [([], []), ([], []), ([1], [1]), ([], []), ([], []), ([], []), ([4, 5, 2], [4, 5]), ([2, 3, 6], [2, 3, 6]), ([7], [7]), ([0, 8, 6], [0, 8]), ([9, 9, 0, 1, 2, 3, 4, 5, 6, 7, 8, 9], [0, 9])])
def token_Words.B12 : List Nat := [0, 0, 2, 0, 0, 0, 54, 126, 254, 511, 1023]
theorem token_Words.tab12 : rtab .any (opsOf Try.f32 12) = token_Words.T12 := by kernel_rfl
theorem token_Words.bits12 : waitsOk token_Words.T12.2 token_Words.B12 = true := by kernel_rfl
set_option maxHeartbeats 8000000 in
set_option maxRecDepth 100000 in
theorem token_Words.calls (k : Nat) (A0 : Option Addr) (c0 : Nat) (l0 : List Int) (A1 : Option Addr) (c1 : Nat) (l1 : List (S53)) (a2 : Int) (a3 : Int) (r : List (S50)) (w : World) (hr0 : Kd.C (Kd.int .u8) w A0 l0.length l0) (hc0 : l0.length ≤ c0) (hr1 : Kd.C k53 w A1 l1.length l1) (hc1 : l1.length ≤ c1) (h : token_Words.f k l0 l1 a2 a3 = some r) :
  Calls Try.prog 32 #[.slice A0 l0.length c0, .slice A1 l1.length c1, .int .i64 a2, .int .i64 a3] w fun e w' => ∃ v0_ : Value, e = .returned (v0_) ∧ Kd.R k50 50 w' w.heap.size (fun _ => True) v0_ r ∧ Below w.heap.size w w' := by
 have hu33 := Try.underlying33
 have hu48 := Try.underlying48
 have hu50 := Try.underlying50
 have HR0 := Aside0.mk hr0
 have HC0 := Aside0.mk hc0
 clear hr0 hc0
 have HR1 := Aside0.mk hr1
 have HC1 := Aside0.mk hc1
 clear hr1 hc1
 have HB := Aside0.mk (Below.refl w.heap.size w)
 have H : ((token_Runs.f k l1).bind fun t224 => (token_Words.l0 k l0 l1 a2 a3 ([] : List (S50)) t224 (t224.length : Int) 0)) = some r := h
 clear h
 replace H := Option.bind_eq_some_iff.mp H
 obtain ⟨t224, A50, H⟩ := H
 replace H : (token_Words.l0 k l0 l1 a2 a3 ([] : List (S50)) t224 (t224.length : Int) 0) = some r := H
 have A5 := Aside0.mk A50
 clear A50
 have H' := Aside0.mk H
 clear H
 go_enter Try.func32, Try.ntmps32
 go_wp2_with (first | ((with_reducible refine gate_callee (f := 27) rfl ?_); refine goesL_ (some 18) rfl rfl Try.func27 (by kernel_rfl) rfl #[.slice A1 l1.length c1] rfl (by (try simp only [List.map_toArray, List.map_cons, List.map_nil]); first | done | rfl | (simp only [List.length_drop, List.length_take]; rfl)) ?_; (with_reducible refine (token_Runs.calls k _ _ l1 t224 _ ?side1 ?side2 A5.out).mono ?_); (case side1 => repeat (first | exact HR1.out | (with_reducible refine Kd.C_alloc ?_ _) | (with_reducible refine Kd.C_drewN ?_ _) | (with_reducible refine Kd.C_drew ?_))); (case side2 => exact HC1.out); rintro e w6 ⟨v225, rfl, ho0, hb⟩; refine ⟨_, rfl, ?_⟩; have n0_ := Aside0.mk (Kd.R_lower ho0 (below_size (by repeat (first | (with_reducible first | exact HB.out | apply below_alloc | apply pw_below_drewN | apply below_drew1) | exact HB.out)))); have n1_ := Aside0.mk (below_step (by repeat (first | (with_reducible first | exact HB.out | apply below_alloc | apply pw_below_drewN | apply below_drew1) | exact HB.out)) hb); clear HB; have HO226 := n0_; have HB := n1_; clear n0_ n1_; (try clear hb); (try clear hb2); (try clear hk); (try clear hi); (try clear ho0); obtain ⟨Ao7, co7, eo7⟩ := Kd.R_slice HO226.out; subst eo7))
 go_loopg [9, 20] k (fun kq v9 v20 w' => ∃ (x9_1 : List (S50)) (x20_1 : Int), v20 = .int .i64 x20_1 ∧ Aside0 (token_Words.l0 kq l0 l1 a2 a3 x9_1 t224 (t224.length : Int) x20_1 = some r) ∧ Aside0 (kq ≤ k) ∧ Aside0 (Kd.R k50 50 w' w.heap.size (fun _ => True) v9 x9_1) ∧ Aside0 (Kd.R k33 33 w' w.heap.size (fun _ => True) (.slice Ao7 t224.length co7) t224) ∧ Aside0 (Below w.heap.size w w'))
 case atStart => exact ⟨(([] : List (S50))), (0), (by first | rfl | (simp; done) | (simp [*]; done)), H', ⟨Nat.le_refl _⟩, ⟨by first | exact Kd.R_nil _ _ _ _ _ | exact Kd.N_nil _ _ _ _ _ | exact Kd.V_nil _ _ _ _ _ | exact Kd.Q_nil _ _ _ _ _ | exact Kd.S_nil _ _ _ _ _⟩, ⟨by (with_reducible repeat (first | apply Kd.R_alloc | apply Kd.R_drewN | apply Kd.R_drew)); exact HO226.out⟩, ⟨by repeat (first | (with_reducible first | exact HB.out | apply below_alloc | apply pw_below_drewN | apply below_drew1) | exact HB.out)⟩⟩
 case round =>
  clear H'
  try clear c1
  try clear c2
  try clear p2
  try clear c3
  obtain ⟨x9_1, x20_1, rfl, HA, HK1, HO_9, HO_18, HB⟩ := hrel
  cases gk with
  | zero => exact absurd HA.out (by simp [token_Words.l0])
  | succ k1 =>
   have H := HA.out
   clear HA
   simp only [token_Words.l0] at H
   by_cases c8 : x20_1 < (t224.length : Int)
   ·rw [if_pos c8] at H
    have c8b0 : decide (x20_1 < (t224.length : Int)) = true := decide_eq_true c8
    clear c8
    by_cases c9 : 0 ≤ x20_1
    ·rw [if_pos c9] at H
     have c9b0 : decide (0 ≤ x20_1) = true := decide_eq_true c9
     clear c9
     by_cases c10 : x20_1 < (t224.length : Int)
     ·rw [if_pos c10] at H
      have c10b0 : decide (x20_1 < (t224.length : Int)) = true := decide_eq_true c10
      clear c10
      replace H := Option.bind_eq_some_iff.mp H
      obtain ⟨t229, A110, H⟩ := H
      replace H : (token_Words.l1 k1 l0 l1 a2 a3 x9_1 t224 (t224.length : Int) x20_1 t229 (t229.length : Int) 0) = some r := H
      have A11 := Aside0.mk A110
      clear A110
      have H' := Aside0.mk H
      clear H
      have p227 : 0 ≤ (x20_1 : Int) := of_decide_eq_true (by first | (with_reducible assumption) | assumption)
      have q227 : x20_1 < (t224.length : Int) := of_decide_eq_true (by first | (with_reducible assumption) | assumption)
      obtain ⟨ad227, e227, hx227_0, hx227_1⟩ := at_T33 (Kd.R_reads' HO_18.out).2.2 x20_1 p227 q227
      cases e227
      replace p227 := eq_true p227
      replace q227 := eq_true q227
      go_wp2_with (first | ((with_reducible refine gate_dst (N := 11) rfl ?_); (try (refine gate_guard (by rfl) ?_; dsimp only)); refine box_event ?hg (N := 11) ?hd (cs := #[.int .i64 0, .int .i64 0]) (t := 33) ?hr ?_; (case hd => rfl); (case hg => rfl); (case hr => first | (go_simp; done) | (go_simp; rfl)); intro gb228 hg w12 hbox hb; have n0_ := Aside0.mk (Kd.R_below (by (with_reducible repeat (first | apply Kd.R_alloc | apply Kd.R_drewN | apply Kd.R_drew)); exact HO_9.out) hb); have n1_ := Aside0.mk (Kd.R_below (Kd.R_elderB (by (with_reducible repeat (first | apply Kd.R_alloc | apply Kd.R_drewN | apply Kd.R_drew)); exact HO_18.out) gb228 (Nat.le_of_eq hg.symm)) hb); have n2_ := Aside0.mk (below_step (by repeat (first | (with_reducible first | exact HB.out | apply below_alloc | apply pw_below_drewN | apply below_drew1) | exact HB.out)) hb); have n3_ := Aside0.mk (hbox); have n4_ := Aside0.mk ((by rw [hg]; exact (below_size (by repeat (first | (with_reducible first | exact HB.out | apply below_alloc | apply pw_below_drewN | apply below_drew1) | exact HB.out))) : w.heap.size ≤ gb228)); have n5_ := Aside0.mk ((by rw [hg]; exact (below_size (by repeat (first | (with_reducible first | exact HB.out | apply below_alloc | apply pw_below_drewN | apply below_drew1) | exact HB.out))) : w.heap.size ≤ gb228)); clear HO_9; clear HO_18; clear HB; have HO_9 := n0_; have HO_18 := n1_; have HB := n2_; have BK228 := n3_; have GW228 := n4_; have GE228 := n5_; clear n0_ n1_ n2_ n3_ n4_ n5_; clear hb hbox hg; have hcz13_0 : w12.cell? ⟨gb228, 0, none⟩ = some (.int .i64 0) := (blk_cell BK228.out 0).trans rfl; have hcz13_1 : w12.cell? ⟨gb228, 1, none⟩ = some (.int .i64 0) := (blk_cell BK228.out 1).trans rfl; have hfz13_0 := blk_frozen BK228.out 0; have hfz13_1 := blk_frozen BK228.out 1) | ((with_reducible refine gate_callee (f := 30) rfl ?_); refine goesL_ (some 26) rfl rfl Try.func30 (by kernel_rfl) rfl #[.slice A1 l1.length c1, .agg #[.int .i64 ((rd_T33 t224 x20_1).f0), .int .i64 ((rd_T33 t224 x20_1).f1)]] rfl (by (try simp only [List.map_toArray, List.map_cons, List.map_nil]); first | done | rfl | (simp only [List.length_drop, List.length_take]; rfl)) ?_; (with_reducible refine (token_Split.calls k1 _ _ l1 ((rd_T33 t224 x20_1).f0) ((rd_T33 t224 x20_1).f1) t229 _ ?side1 ?side2 A11.out).mono ?_); (case side1 => exact Kd.C_below HR1.out (by repeat (first | (with_reducible first | exact HB.out | apply below_alloc | apply pw_below_drewN | apply below_drew1 | refine below_set ?_ GE228.out) | exact HB.out))); (case side2 => exact HC1.out); rintro e w14 ⟨v230, rfl, ho0, hb⟩; refine ⟨_, rfl, ?_⟩; have n0_ := Aside0.mk (Kd.R_below (by (with_reducible repeat (first | apply Kd.R_alloc | apply Kd.R_drewN | apply Kd.R_drew)); exact (Kd.R_mono (Kd.R_far (p := ⟨gb228, 1, none⟩) (Kd.R_far (p := ⟨gb228, 0, none⟩) (Kd.R_types HO_9.out BK228.out (by decide)) (fun _ hk => hk.2) (.int .i64 ((rd_T33 t224 x20_1).f0))) (fun _ hk => hk.2) (.int .i64 ((rd_T33 t224 x20_1).f1))) (fun _ h_ => h_.1))) hb); have n1_ := Aside0.mk (Kd.R_elder' (by (with_reducible repeat (first | apply Kd.R_alloc | apply Kd.R_drewN | apply Kd.R_drew)); exact (Kd.R_mono (Kd.R_far (p := ⟨gb228, 1, none⟩) (Kd.R_far (p := ⟨gb228, 0, none⟩) (Kd.R_mono HO_18.out (fun k_ hk => (⟨hk, hk.2⟩ : _ ∧ k_ ≠ gb228))) (fun _ hk => hk.2) (.int .i64 ((rd_T33 t224 x20_1).f0))) (fun _ hk => hk.2) (.int .i64 ((rd_T33 t224 x20_1).f1))) (fun _ h_ => h_.1))) (Kd.R_base ho0) hb); have n2_ := Aside0.mk (Kd.R_lower (Kd.R_newB (Kd.R_new' ho0 (Kd.R_lt (by (with_reducible repeat (first | apply Kd.R_alloc | apply Kd.R_drewN | apply Kd.R_drew)); exact (Kd.R_mono (Kd.R_far (p := ⟨gb228, 1, none⟩) (Kd.R_far (p := ⟨gb228, 0, none⟩) (Kd.R_mono HO_18.out (fun k_ hk => (⟨hk, hk.2⟩ : _ ∧ k_ ≠ gb228))) (fun _ hk => hk.2) (.int .i64 ((rd_T33 t224 x20_1).f0))) (fun _ hk => hk.2) (.int .i64 ((rd_T33 t224 x20_1).f1))) (fun _ h_ => h_.1))))) (g := gb228) (o := .cells #[.int .i64 ((rd_T33 t224 x20_1).f0), .int .i64 ((rd_T33 t224 x20_1).f1)] 33 (0, 0)) (by (with_reducible repeat (first | refine blk_drewN ?_ _ | refine blk_drew ?_ | refine blk_alloc ?_ _)); refine blk_put (cs := #[.int .i64 ((rd_T33 t224 x20_1).f0), .int .i64 0]) ?_ 1 _ rfl; (with_reducible repeat (first | refine blk_drewN ?_ _ | refine blk_drew ?_ | refine blk_alloc ?_ _)); refine blk_put (cs := #[.int .i64 0, .int .i64 0]) ?_ 0 _ rfl; (with_reducible repeat (first | refine blk_drewN ?_ _ | refine blk_drew ?_ | refine blk_alloc ?_ _)); exact BK228.out)) (below_size (by repeat (first | (with_reducible first | exact HB.out | apply below_alloc | apply pw_below_drewN | apply below_drew1 | refine below_set ?_ GE228.out) | exact HB.out)))); have n3_ := Aside0.mk (blk_below (g := gb228) (o := .cells #[.int .i64 ((rd_T33 t224 x20_1).f0), .int .i64 ((rd_T33 t224 x20_1).f1)] 33 (0, 0)) (by (with_reducible repeat (first | refine blk_drewN ?_ _ | refine blk_drew ?_ | refine blk_alloc ?_ _)); refine blk_put (cs := #[.int .i64 ((rd_T33 t224 x20_1).f0), .int .i64 0]) ?_ 1 _ rfl; (with_reducible repeat (first | refine blk_drewN ?_ _ | refine blk_drew ?_ | refine blk_alloc ?_ _)); refine blk_put (cs := #[.int .i64 0, .int .i64 0]) ?_ 0 _ rfl; (with_reducible repeat (first | refine blk_drewN ?_ _ | refine blk_drew ?_ | refine blk_alloc ?_ _)); exact BK228.out) hb); have n4_ := Aside0.mk (below_step (by repeat (first | (with_reducible first | exact HB.out | apply below_alloc | apply pw_below_drewN | apply below_drew1 | refine below_set ?_ GE228.out) | exact HB.out)) hb); clear HO_9; clear HO_18; clear BK228; clear HB; have HO_9 := n0_; have HO_18 := n1_; have HO231 := n2_; have BK228 := n3_; have HB := n4_; clear n0_ n1_ n2_ n3_ n4_; (try clear hb); (try clear hb2); (try clear hk); (try clear hi); (try clear ho0); obtain ⟨Ao15, co15, eo15⟩ := Kd.R_slice HO231.out; subst eo15))
      go_loopg [9, 28] k1 (fun kq v9 v28 w' => ∃ (x9_2 : List (S50)) (x28_2 : Int), v28 = .int .i64 x28_2 ∧ Aside0 (token_Words.l1 kq l0 l1 a2 a3 x9_2 t224 (t224.length : Int) x20_1 t229 (t229.length : Int) x28_2 = some r) ∧ Aside0 (kq ≤ k1) ∧ Aside0 (Kd.R k50 50 w' w.heap.size (fun _ => True) v9 x9_2) ∧ Aside0 (Kd.R k33 33 w' w.heap.size (fun k_ => some k_ ≠ ((.slice Ao15 t229.length co15) : Value).ownBlock ∧ k_ ≠ gb228) (.slice (some ad227) t224.length co7) t224) ∧ Aside0 (Kd.R k33 33 w' w.heap.size (fun k_ => some k_ ≠ ((.slice (some ad227) t224.length co7) : Value).ownBlock ∧ k_ ≠ gb228) (.slice Ao15 t229.length co15) t229) ∧ Aside0 (w'.heap[gb228]? = some (.cells #[.int .i64 ((rd_T33 t224 x20_1).f0), .int .i64 ((rd_T33 t224 x20_1).f1)] 33 (0, 0))) ∧ Aside0 (Below w.heap.size w w'))
      case atStart => exact ⟨(x9_1), (0), (by first | rfl | (simp; done) | (simp [*]; done)), H', ⟨Nat.le_refl _⟩, ⟨by (with_reducible repeat (first | apply Kd.R_alloc | apply Kd.R_drewN | apply Kd.R_drew)); exact HO_9.out⟩, ⟨by (with_reducible repeat (first | apply Kd.R_alloc | apply Kd.R_drewN | apply Kd.R_drew)); exact Kd.R_mono HO_18.out (fun _ hk => ⟨hk.2, hk.1.2⟩)⟩, ⟨by (with_reducible repeat (first | apply Kd.R_alloc | apply Kd.R_drewN | apply Kd.R_drew)); exact Kd.R_mono HO231.out (fun _ hk => ⟨hk.1.2, hk.2⟩)⟩, ⟨by (with_reducible repeat (first | refine blk_drewN ?_ _ | refine blk_drew ?_ | refine blk_alloc ?_ _)); exact BK228.out⟩, ⟨by repeat (first | (with_reducible first | exact HB.out | apply below_alloc | apply pw_below_drewN | apply below_drew1 | refine below_set ?_ GE228.out) | exact HB.out)⟩⟩
      case round =>
       clear H'
       try clear c1
       try clear c2
       try clear p2
       try clear q2
       try clear hx2
       try clear c3
       try clear c8
       try clear c8b0
       try clear c9
       try clear c9b0
       try clear c10
       try clear c10b0
       try clear hcz13_0
       try clear hcz13_1
       try clear hfz13_0
       try clear hfz13_1
       try clear hx227_0
       try clear hx227_1
       try clear p2
       try clear p227
       try clear q227
       obtain ⟨x9_2, x28_2, rfl, HA, HK2, HO_9, HO_18, HO_26, BK228, HB⟩ := hrel
       cases gk with
       | zero => exact absurd HA.out (by simp [token_Words.l1])
       | succ k2 =>
        have H := HA.out
        clear HA
        simp only [token_Words.l1] at H
        by_cases c16 : x28_2 < (t229.length : Int)
        ·rw [if_pos c16] at H
         have c16b0 : decide (x28_2 < (t229.length : Int)) = true := decide_eq_true c16
         clear c16
         by_cases c17 : 0 ≤ x28_2
         ·rw [if_pos c17] at H
          have c17b0 : decide (0 ≤ x28_2) = true := decide_eq_true c17
          clear c17
          by_cases c18 : x28_2 < (t229.length : Int)
          ·rw [if_pos c18] at H
           have c18b0 : decide (x28_2 < (t229.length : Int)) = true := decide_eq_true c18
           clear c18
           by_cases c19 : 0 ≤ ((rd_T33 t229 x28_2).f0)
           ·rw [if_pos c19] at H
            have c19b0 := eq_true c19
            have c19b1 : decide (0 ≤ ((rd_T33 t229 x28_2).f0)) = true := decide_eq_true c19
            clear c19
            by_cases c20 : ((rd_T33 t229 x28_2).f0) ≤ ((rd_T33 t229 x28_2).f1)
            ·rw [if_pos c20] at H
             have c20b0 := eq_true c20
             have c20b1 : decide (((rd_T33 t229 x28_2).f0) ≤ ((rd_T33 t229 x28_2).f1)) = true := decide_eq_true c20
             clear c20
             by_cases c21 : ((rd_T33 t229 x28_2).f1) ≤ (l1.length : Int)
             ·rw [if_pos c21] at H
              have c21b0 := eq_true c21
              have c21b1 : decide (((rd_T33 t229 x28_2).f1) ≤ (l1.length : Int)) = true := decide_eq_true c21
              clear c21
              obtain ⟨y234, hy234⟩ : ∃ y_ : List (S53), y_ = ((l1.take (((rd_T33 t229 x28_2).f1) : Int).toNat).drop (((rd_T33 t229 x28_2).f0) : Int).toNat) := ⟨_, rfl⟩
              replace H : (if (y234.length : Int) < a2 then (token_Words.j2 k2 l0 l1 a2 a3 x9_2 y234 t224 (t224.length : Int) x20_1 t229 (t229.length : Int) x28_2 true) else (token_Words.j2 k2 l0 l1 a2 a3 x9_2 y234 t224 (t224.length : Int) x20_1 t229 (t229.length : Int) x28_2 (decide ((y234.length : Int) > a3)))) = some r := by first | (rw [hy234]; with_reducible exact H) | (have H2_ := (Option.bind_some _ _).symm.trans H; rw [hy234]; with_reducible exact H2_) | (have H2_ := (Option.bind_some _ _).symm.trans H; with_reducible exact H2_) | with_reducible exact H | (rw [hy234]; exact H) | exact H
              have Ny234 := Aside0.mk hy234
              clear hy234
              have HC22 := Aside0.mk H
              clear H
              have p232 : 0 ≤ (x28_2 : Int) := of_decide_eq_true (by first | (with_reducible assumption) | assumption)
              have q232 : x28_2 < (t229.length : Int) := of_decide_eq_true (by first | (with_reducible assumption) | assumption)
              obtain ⟨ad232, e232, hx232_0, hx232_1⟩ := at_T33 (Kd.R_reads' HO_26.out).2.2 x28_2 p232 q232
              cases e232
              replace p232 := eq_true p232
              replace q232 := eq_true q232
              go_upto_region 9 with (first | ((with_reducible refine gate_dst (N := 13) rfl ?_); (try (refine gate_guard (by rfl) ?_; dsimp only)); refine box_event ?hg (N := 13) ?hd (cs := #[.int .i64 0, .int .i64 0]) (t := 33) ?hr ?_; (case hd => rfl); (case hg => rfl); (case hr => first | (go_simp; done) | (go_simp; rfl)); intro gb233 hg w23 hbox hb; have n0_ := Aside0.mk (Kd.R_below (by (with_reducible repeat (first | apply Kd.R_alloc | apply Kd.R_drewN | apply Kd.R_drew)); exact HO_9.out) hb); have n1_ := Aside0.mk (Kd.R_below (Kd.R_elderB (by (with_reducible repeat (first | apply Kd.R_alloc | apply Kd.R_drewN | apply Kd.R_drew)); exact HO_18.out) gb233 (Nat.le_of_eq hg.symm)) hb); have n2_ := Aside0.mk (Kd.R_below (Kd.R_elderB (by (with_reducible repeat (first | apply Kd.R_alloc | apply Kd.R_drewN | apply Kd.R_drew)); exact HO_26.out) gb233 (Nat.le_of_eq hg.symm)) hb); have n3_ := Aside0.mk (blk_below (g := gb228) (o := .cells #[.int .i64 ((rd_T33 t224 x20_1).f0), .int .i64 ((rd_T33 t224 x20_1).f1)] 33 (0, 0)) (by (with_reducible repeat (first | refine blk_drewN ?_ _ | refine blk_drew ?_ | refine blk_alloc ?_ _)); exact BK228.out) hb); have n4_ := Aside0.mk (below_step (by repeat (first | (with_reducible first | exact HB.out | apply below_alloc | apply pw_below_drewN | apply below_drew1 | refine below_set ?_ GE228.out) | exact HB.out)) hb); have n5_ := Aside0.mk (hbox); have n6_ := Aside0.mk ((by rw [hg]; exact (below_size (by repeat (first | (with_reducible first | exact HB.out | apply below_alloc | apply pw_below_drewN | apply below_drew1 | refine below_set ?_ GE228.out) | exact HB.out))) : w.heap.size ≤ gb233)); have n7_ := Aside0.mk ((by rw [hg]; exact (below_size (by repeat (first | (with_reducible first | exact HB.out | apply below_alloc | apply pw_below_drewN | apply below_drew1 | refine below_set ?_ GE228.out) | exact HB.out))) : w.heap.size ≤ gb233)); have n8_ := Aside0.mk ((by rw [hg]; exact Nat.ne_of_lt (blk_lt (g := gb228) (o := .cells #[.int .i64 ((rd_T33 t224 x20_1).f0), .int .i64 ((rd_T33 t224 x20_1).f1)] 33 (0, 0)) (by (with_reducible repeat (first | refine blk_drewN ?_ _ | refine blk_drew ?_ | refine blk_alloc ?_ _)); exact BK228.out)) : gb228 ≠ gb233)); have n9_ := Aside0.mk ((by rw [hg]; exact Nat.ne_of_gt (blk_lt (g := gb228) (o := .cells #[.int .i64 ((rd_T33 t224 x20_1).f0), .int .i64 ((rd_T33 t224 x20_1).f1)] 33 (0, 0)) (by (with_reducible repeat (first | refine blk_drewN ?_ _ | refine blk_drew ?_ | refine blk_alloc ?_ _)); exact BK228.out)) : gb233 ≠ gb228)); clear HO_9; clear HO_18; clear HO_26; clear BK228; clear HB; have HO_9 := n0_; have HO_18 := n1_; have HO_26 := n2_; have BK228 := n3_; have HB := n4_; have BK233 := n5_; have GW233 := n6_; have GE233 := n7_; have NB228_233 := n8_; have NB233_228 := n9_; clear n0_ n1_ n2_ n3_ n4_ n5_ n6_ n7_ n8_ n9_; clear hb hbox hg; have hnb24 := NB233_228.out; have hnc24 := NB228_233.out; have hcz25_0 : w23.cell? ⟨gb233, 0, none⟩ = some (.int .i64 0) := (blk_cell BK233.out 0).trans rfl; have hcz25_1 : w23.cell? ⟨gb233, 1, none⟩ = some (.int .i64 0) := (blk_cell BK233.out 1).trans rfl; have hfz25_0 := blk_frozen BK233.out 0; have hfz25_1 := blk_frozen BK233.out 1) | ((with_reducible refine gate_store (t := 33) (p := 13) rfl ?_); refine store_event (t := 33) (p := 13) (v := ?vo_w26) (w1 := ((w23.setCell ⟨gb233, 0, none⟩ (.int .i64 ((rd_T33 t229 x28_2).f0))).setCell ⟨gb233, 1, none⟩ (.int .i64 ((rd_T33 t229 x28_2).f1)))) ?hg ?ho ?hn ?hr ?_; (case ho => rfl); (case hg => rfl); (case hn => rfl); (case hr => first | (go_simp; done) | (go_simp; rfl)); intro w26 hw; have n0_ : Aside0 (Kd.R k50 50 w26 w.heap.size (fun _ => True) u9 x9_2) := ⟨(by rw [hw]; exact (by (with_reducible repeat (first | apply Kd.R_alloc | apply Kd.R_drewN | apply Kd.R_drew)); exact Kd.R_mono (Kd.R_far (p := ⟨gb233, 1, none⟩) (Kd.R_far (p := ⟨gb233, 0, none⟩) (Kd.R_types HO_9.out BK233.out (by decide)) (fun _ hk => hk.2) (.int .i64 ((rd_T33 t229 x28_2).f0))) (fun _ hk => hk.2) (.int .i64 ((rd_T33 t229 x28_2).f1))) (fun _ hk => trivial)))⟩; have n1_ : Aside0 (Kd.R k33 33 w26 w.heap.size (fun k_ => some k_ ≠ (.slice (some ad232) t229.length co15 : Value).ownBlock ∧ k_ ≠ gb228 ∧ k_ ≠ gb233) (.slice (some ad227) t224.length co7) t224) := ⟨(by rw [hw]; exact (by (with_reducible repeat (first | apply Kd.R_alloc | apply Kd.R_drewN | apply Kd.R_drew)); exact Kd.R_mono (Kd.R_far (p := ⟨gb233, 1, none⟩) (Kd.R_far (p := ⟨gb233, 0, none⟩) (Kd.R_mono HO_18.out (fun k_ hk => (⟨hk, hk.2⟩ : _ ∧ k_ ≠ gb233))) (fun _ hk => hk.2) (.int .i64 ((rd_T33 t229 x28_2).f0))) (fun _ hk => hk.2) (.int .i64 ((rd_T33 t229 x28_2).f1))) (fun _ hk => ⟨hk.1.1.1, ⟨hk.1.1.2, hk.1.2⟩⟩)))⟩; have n2_ : Aside0 (Kd.R k33 33 w26 w.heap.size (fun k_ => some k_ ≠ (.slice (some ad227) t224.length co7 : Value).ownBlock ∧ k_ ≠ gb228 ∧ k_ ≠ gb233) (.slice (some ad232) t229.length co15) t229) := ⟨(by rw [hw]; exact (by (with_reducible repeat (first | apply Kd.R_alloc | apply Kd.R_drewN | apply Kd.R_drew)); exact Kd.R_mono (Kd.R_far (p := ⟨gb233, 1, none⟩) (Kd.R_far (p := ⟨gb233, 0, none⟩) (Kd.R_mono HO_26.out (fun k_ hk => (⟨hk, hk.2⟩ : _ ∧ k_ ≠ gb233))) (fun _ hk => hk.2) (.int .i64 ((rd_T33 t229 x28_2).f0))) (fun _ hk => hk.2) (.int .i64 ((rd_T33 t229 x28_2).f1))) (fun _ hk => ⟨hk.1.1.1, ⟨hk.1.1.2, hk.1.2⟩⟩)))⟩; have n3_ : Aside0 (w26.heap[gb228]? = some (.cells #[.int .i64 ((rd_T33 t224 x20_1).f0), .int .i64 ((rd_T33 t224 x20_1).f1)] 33 (0, 0))) := ⟨(by rw [hw]; exact (by (with_reducible repeat (first | refine blk_drewN ?_ _ | refine blk_drew ?_ | refine blk_alloc ?_ _)); refine blk_far ?_ NB228_233.out _; (with_reducible repeat (first | refine blk_drewN ?_ _ | refine blk_drew ?_ | refine blk_alloc ?_ _)); refine blk_far ?_ NB228_233.out _; (with_reducible repeat (first | refine blk_drewN ?_ _ | refine blk_drew ?_ | refine blk_alloc ?_ _)); exact BK228.out))⟩; have n4_ : Aside0 (w26.heap[gb233]? = some (.cells #[.int .i64 ((rd_T33 t229 x28_2).f0), .int .i64 ((rd_T33 t229 x28_2).f1)] 33 (0, 0))) := ⟨(by rw [hw]; exact (by (with_reducible repeat (first | refine blk_drewN ?_ _ | refine blk_drew ?_ | refine blk_alloc ?_ _)); refine blk_put (cs := #[.int .i64 ((rd_T33 t229 x28_2).f0), .int .i64 0]) ?_ 1 _ rfl; (with_reducible repeat (first | refine blk_drewN ?_ _ | refine blk_drew ?_ | refine blk_alloc ?_ _)); refine blk_put (cs := #[.int .i64 0, .int .i64 0]) ?_ 0 _ rfl; (with_reducible repeat (first | refine blk_drewN ?_ _ | refine blk_drew ?_ | refine blk_alloc ?_ _)); exact BK233.out))⟩; have n5_ : Aside0 (Below w.heap.size w w26) := ⟨(by rw [hw]; exact (by repeat (first | (with_reducible first | exact HB.out | apply below_alloc | apply pw_below_drewN | apply below_drew1 | refine below_set ?_ GE228.out | refine below_set ?_ GE233.out) | exact HB.out)))⟩; clear hw; clear HO_9; clear HO_18; clear HO_26; clear BK228; clear BK233; clear HB; have HO_9 := n0_; have HO_18 := n1_; have HO_26 := n2_; have BK228 := n3_; have BK233 := n4_; have HB := n5_; clear n0_ n1_ n2_ n3_ n4_ n5_; have hcz27_0 : w26.cell? ⟨gb233, 0, none⟩ = some (.int .i64 ((rd_T33 t229 x28_2).f0)) := (blk_cell BK233.out 0).trans rfl; have hcz27_1 : w26.cell? ⟨gb233, 1, none⟩ = some (.int .i64 ((rd_T33 t229 x28_2).f1)) := (blk_cell BK233.out 1).trans rfl; have hfz27_0 := blk_frozen BK233.out 0; have hfz27_1 := blk_frozen BK233.out 1; have q28 : (((rd_T33 t229 x28_2).f1) : Int) ≤ ((l1.length : Int) : Int) := of_decide_eq_true (by first | (with_reducible assumption) | assumption); obtain ⟨i028, hi028, _, hsz28, _⟩ := info_parts info53; have hroom28 : l1.length ≤ c1 := HC1.out; have hC28 : Kd.C k53 _ A1 l1.length l1 := HR1.out; have ql28 : (((rd_T33 t229 x28_2).f0) : Int) ≤ (((rd_T33 t229 x28_2).f1) : Int) := of_decide_eq_true (by first | (with_reducible assumption) | assumption); have q028 : (0 : Int) ≤ (((rd_T33 t229 x28_2).f0) : Int) := of_decide_eq_true (by first | (with_reducible assumption) | assumption); have hcut28 := cut_mid (P := Try.prog) 34 53 .i64 .i64 Try.underlying34 hi028 3 hsz28 A1 l1.length c1 ((rd_T33 t229 x28_2).f0) ((rd_T33 t229 x28_2).f1) q028 ql28 q28 hroom28; have hr28 := Kd.C_mid (lo := (((rd_T33 t229 x28_2).f0) : Int).toNat) (hi := (((rd_T33 t229 x28_2).f1) : Int).toNat) (c := c1) hC28 (by omega) (by omega) hroom28; obtain ⟨A28, hA28⟩ : ∃ A1z_, A1z_ = (if c1 = (((rd_T33 t229 x28_2).f0) : Int).toNat then A1 else (A1 : Option Addr).map (·.add ((((rd_T33 t229 x28_2).f0) : Int).toNat * 3))) := ⟨_, rfl⟩; obtain ⟨c28, hc28⟩ : ∃ c1z_, c1z_ = c1 - (((rd_T33 t229 x28_2).f0) : Int).toNat := ⟨_, rfl⟩; have hy28 : y234.length = (((rd_T33 t229 x28_2).f1) : Int).toNat - (((rd_T33 t229 x28_2).f0) : Int).toNat := (by rw [Ny234.out, List.length_drop, List.length_take] <;> omega); rw [show ((l1).take (((rd_T33 t229 x28_2).f1) : Int).toNat).drop (((rd_T33 t229 x28_2).f0) : Int).toNat = y234 from Ny234.out.symm] at hr28; replace hr28 : Kd.C k53 _ A28 y234.length y234 := (by rw [hA28]; exact hr28); rw [← hy28, ← hA28, ← hc28] at hcut28; have HR237 := Aside0.mk hr28; have HC237 := Aside0.mk (show y234.length ≤ c28 from by rw [hy28, hc28]; exact Nat.sub_le_sub_right (Nat.le_trans (by omega) hroom28) _); clear hr28 hC28 hroom28 hi028 hsz28 hc28; have KY28 := Aside0.mk hy28; have KA28 := Aside0.mk hA28; clear hy28 hA28; replace q28 := eq_true q28))
              (try simp only [Act.put, List.setIfInBounds_toArray, List.set_cons_zero, List.set_cons_succ])
              go_cut [47] (fun v47 wc => ∃ (kq : Nat) (x47_21 : Bool), v47 = .bool x47_21 ∧ Aside0 (token_Words.j2 kq l0 l1 a2 a3 x9_2 y234 t224 (t224.length : Int) x20_1 t229 (t229.length : Int) x28_2 x47_21 = some r) ∧ Aside0 (kq ≤ k2) ∧ Aside0 (Kd.R k50 50 wc w.heap.size (fun _ => True) u9 x9_2) ∧ Aside0 (Kd.R k33 33 wc w.heap.size (fun k_ => some k_ ≠ ((.slice (some ad232) t229.length co15) : Value).ownBlock ∧ k_ ≠ gb228 ∧ k_ ≠ gb233) (.slice (some ad227) t224.length co7) t224) ∧ Aside0 (Kd.R k33 33 wc w.heap.size (fun k_ => some k_ ≠ ((.slice (some ad227) t224.length co7) : Value).ownBlock ∧ k_ ≠ gb228 ∧ k_ ≠ gb233) (.slice (some ad232) t229.length co15) t229) ∧ Aside0 (wc.heap[gb228]? = some (.cells #[.int .i64 ((rd_T33 t224 x20_1).f0), .int .i64 ((rd_T33 t224 x20_1).f1)] 33 (0, 0))) ∧ Aside0 (wc.heap[gb233]? = some (.cells #[.int .i64 ((rd_T33 t229 x28_2).f0), .int .i64 ((rd_T33 t229 x28_2).f1)] 33 (0, 0))) ∧ Aside0 (Below w.heap.size w wc))
              case first =>
               have H := HC22.out
               clear HC22
               by_cases c29 : (y234.length : Int) < a2
               ·rw [if_pos c29] at H
                have c29b0 : decide ((y234.length : Int) < a2) = true := decide_eq_true c29
                clear c29
                (first | rw [c29b0] | (simp only [i64_w, i32_w]; rw [c29b0]) | skip)
                have H' := Aside0.mk H
                clear H
                go_wp2
                go_meet
                case rel => exact ⟨_, (true), (by first | rfl | (simp; done) | (simp [*]; done)), H', ⟨by have := HK1.out; have := HK2.out; first | omega | exact Nat.le_refl _⟩, ⟨by (with_reducible repeat (first | apply Kd.R_alloc | apply Kd.R_drewN | apply Kd.R_drew)); exact HO_9.out⟩, ⟨by (with_reducible repeat (first | apply Kd.R_alloc | apply Kd.R_drewN | apply Kd.R_drew)); exact HO_18.out⟩, ⟨by (with_reducible repeat (first | apply Kd.R_alloc | apply Kd.R_drewN | apply Kd.R_drew)); exact HO_26.out⟩, ⟨by (with_reducible repeat (first | refine blk_drewN ?_ _ | refine blk_drew ?_ | refine blk_alloc ?_ _)); exact BK228.out⟩, ⟨by (with_reducible repeat (first | refine blk_drewN ?_ _ | refine blk_drew ?_ | refine blk_alloc ?_ _)); exact BK233.out⟩, ⟨by repeat (first | (with_reducible first | exact HB.out | apply below_alloc | apply pw_below_drewN | apply below_drew1 | refine below_set ?_ GE228.out | refine below_set ?_ GE233.out) | exact HB.out)⟩⟩
               ·rw [if_neg c29] at H
                have c29b0 : decide ((y234.length : Int) < a2) = false := decide_eq_false c29
                clear c29
                (first | rw [c29b0] | (simp only [i64_w, i32_w]; rw [c29b0]) | skip)
                have H' := Aside0.mk H
                clear H
                go_wp2
                go_meet
                case rel => exact ⟨_, (decide ((y234.length : Int) > a3)), (by first | rfl | (simp; done) | (simp [*]; done)), H', ⟨by have := HK1.out; have := HK2.out; first | omega | exact Nat.le_refl _⟩, ⟨by (with_reducible repeat (first | apply Kd.R_alloc | apply Kd.R_drewN | apply Kd.R_drew)); exact HO_9.out⟩, ⟨by (with_reducible repeat (first | apply Kd.R_alloc | apply Kd.R_drewN | apply Kd.R_drew)); exact HO_18.out⟩, ⟨by (with_reducible repeat (first | apply Kd.R_alloc | apply Kd.R_drewN | apply Kd.R_drew)); exact HO_26.out⟩, ⟨by (with_reducible repeat (first | refine blk_drewN ?_ _ | refine blk_drew ?_ | refine blk_alloc ?_ _)); exact BK228.out⟩, ⟨by (with_reducible repeat (first | refine blk_drewN ?_ _ | refine blk_drew ?_ | refine blk_alloc ?_ _)); exact BK233.out⟩, ⟨by repeat (first | (with_reducible first | exact HB.out | apply below_alloc | apply pw_below_drewN | apply below_drew1 | refine below_set ?_ GE228.out | refine below_set ?_ GE233.out) | exact HB.out)⟩⟩
              case rest =>
               clear HC22
               try clear c1
               try clear c2
               try clear p2
               try clear q2
               try clear hx2
               try clear c3
               try clear c8
               try clear c8b0
               try clear c9
               try clear c9b0
               try clear c10
               try clear c10b0
               try clear c16
               try clear c16b0
               try clear c17
               try clear c17b0
               try clear c18
               try clear c18b0
               try clear c19
               try clear c19b0
               try clear c19b1
               try clear c20
               try clear c20b0
               try clear c20b1
               try clear c21
               try clear c21b0
               try clear c21b1
               try clear p22
               try clear q22
               try clear hx22
               try clear p23
               try clear q23
               try clear hx23
               try clear c24
               try clear c27
               try clear c28
               try clear q28
               try clear c29
               try clear c29b0
               try clear hcz13_0
               try clear hcz13_1
               try clear hcz25_0
               try clear hcz25_1
               try clear hcz27_0
               try clear hcz27_1
               try clear hfz13_0
               try clear hfz13_1
               try clear hfz25_0
               try clear hfz25_1
               try clear hfz27_0
               try clear hfz27_1
               try clear hx227_0
               try clear hx227_1
               try clear hx232_0
               try clear hx232_1
               try clear p2
               try clear p227
               try clear p232
               try clear q028
               try clear q2
               try clear q227
               try clear q232
               try clear q28
               obtain ⟨kq, x47_21, rfl, HA, HJ21, HO_9, HO_18, HO_26, BK228, BK233, HB⟩ := hcut
               cases kq with
               | zero => exact absurd HA.out (by simp [token_Words.j2])
               | succ kj21 =>
                have H := HA.out
                clear HA
                simp only [token_Words.j2] at H
                by_cases c30 : x47_21 = true
                ·subst c30
                 have H1 : (token_Words.l1 kj21 l0 l1 a2 a3 x9_2 t224 (t224.length : Int) x20_1 t229 (t229.length : Int) (wrap64 (x28_2 + 1))) = some r := by rw [if_pos rfl] at H; exact H
                 clear H
                 have H := H1
                 clear H1
                 have H' := Aside0.mk H
                 clear H
                 go_wp2
                 go_roundg kj21
                 case measure => have := HK1.out; have := HK2.out; have := HJ21.out; omega
                 case rel => exact ⟨(x9_2), (wrap64 (x28_2 + 1)), (by first | rfl | (simp; done) | (simp [*]; done)), H', ⟨by have := HK1.out; have := HK2.out; have := HJ21.out; omega⟩, ⟨by (with_reducible repeat (first | apply Kd.R_alloc | apply Kd.R_drewN | apply Kd.R_drew)); exact HO_9.out⟩, ⟨by (with_reducible repeat (first | apply Kd.R_alloc | apply Kd.R_drewN | apply Kd.R_drew)); exact Kd.R_mono HO_18.out (fun _ hk => ⟨hk.1, hk.2.1⟩)⟩, ⟨by (with_reducible repeat (first | apply Kd.R_alloc | apply Kd.R_drewN | apply Kd.R_drew)); exact Kd.R_mono HO_26.out (fun _ hk => ⟨hk.1, hk.2.1⟩)⟩, ⟨by (with_reducible repeat (first | refine blk_drewN ?_ _ | refine blk_drew ?_ | refine blk_alloc ?_ _)); exact BK228.out⟩, ⟨by repeat (first | (with_reducible first | exact HB.out | apply below_alloc | apply pw_below_drewN | apply below_drew1 | refine below_set ?_ GE228.out | refine below_set ?_ GE233.out) | exact HB.out)⟩⟩
                ·replace c30 := Bool.eq_false_iff.mpr c30
                 subst c30
                 have H1 : (if 0 ≤ (wrap64 ((y234.length : Int) - 1)) then (if (wrap64 ((y234.length : Int) - 1)) < (y234.length : Int) then (if 0 < (y234.length : Int) then ((decode_Text.f kj21 y234).bind fun t243 => ((decode_Literal.f kj21 l0 y234).bind fun t244 => (if x9_2.length < 3518437208883 then (token_Words.l1 kj21 l0 l1 a2 a3 (x9_2 ++ [(⟨t243, (⟨(rd_T53 y234 0).f1.f0, wrap64 ((wrap64 (((rd_T53 y234 (wrap64 ((y234.length : Int) - 1))).f1.f0) + ((rd_T53 y234 (wrap64 ((y234.length : Int) - 1))).f1.f1))) - ((rd_T53 y234 0).f1.f0))⟩ : S48), t244⟩ : S50)]) t224 (t224.length : Int) x20_1 t229 (t229.length : Int) (wrap64 (x28_2 + 1))) else (none)))) else (none)) else (none)) else (none)) = some r := by rw [if_neg (show ¬ (false = true) by decide)] at H; exact H
                 clear H
                 have H := H1
                 clear H1
                 obtain ⟨ji31, hji31⟩ : ∃ j_ : Int, (wrap64 ((y234.length : Int) - 1)) = j_ := ⟨_, rfl⟩
                 replace H : (if 0 ≤ (ji31) then (if (ji31) < (y234.length : Int) then (if 0 < (y234.length : Int) then ((decode_Text.f kj21 y234).bind fun t243 => ((decode_Literal.f kj21 l0 y234).bind fun t244 => (if x9_2.length < 3518437208883 then (token_Words.l1 kj21 l0 l1 a2 a3 (x9_2 ++ [(⟨t243, (⟨(rd_T53 y234 0).f1.f0, wrap64 ((wrap64 (((rd_T53 y234 (ji31)).f1.f0) + ((rd_T53 y234 (ji31)).f1.f1))) - ((rd_T53 y234 0).f1.f0))⟩ : S48), t244⟩ : S50)]) t224 (t224.length : Int) x20_1 t229 (t229.length : Int) (wrap64 (x28_2 + 1))) else (none)))) else (none)) else (none)) else (none)) = some r := by first | (rw [hji31] at H; exact H) | (simp only [hji31] at H ⊢; exact H)
                 have hji31w : (IntKind.i64.wrap ((y234.length : Int) - 1)) = ji31 := (i64_w _).trans hji31
                 by_cases c32 : 0 ≤ (ji31)
                 ·rw [if_pos c32] at H
                  have c32b0 : decide (0 ≤ (ji31)) = true := decide_eq_true c32
                  clear c32
                  by_cases c33 : (ji31) < (y234.length : Int)
                  ·rw [if_pos c33] at H
                   have c33b0 : decide ((ji31) < (y234.length : Int)) = true := decide_eq_true c33
                   clear c33
                   by_cases c34 : 0 < (y234.length : Int)
                   ·rw [if_pos c34] at H
                    have c34b0 : decide (0 < (y234.length : Int)) = true := decide_eq_true c34
                    have c34b1 : decide (0 < y234.length) = true := decide_eq_true (by omega)
                    clear c34
                    replace H := Option.bind_eq_some_iff.mp H
                    obtain ⟨t243, A350, H⟩ := H
                    replace H : ((decode_Literal.f kj21 l0 y234).bind fun t244 => (if x9_2.length < 3518437208883 then (token_Words.l1 kj21 l0 l1 a2 a3 (x9_2 ++ [(⟨t243, (⟨(rd_T53 y234 0).f1.f0, wrap64 ((wrap64 (((rd_T53 y234 (ji31)).f1.f0) + ((rd_T53 y234 (ji31)).f1.f1))) - ((rd_T53 y234 0).f1.f0))⟩ : S48), t244⟩ : S50)]) t224 (t224.length : Int) x20_1 t229 (t229.length : Int) (wrap64 (x28_2 + 1))) else (none))) = some r := H
                    have A35 := Aside0.mk A350
                    clear A350
                    replace H := Option.bind_eq_some_iff.mp H
                    obtain ⟨t244, A360, H⟩ := H
                    replace H : (if x9_2.length < 3518437208883 then (token_Words.l1 kj21 l0 l1 a2 a3 (x9_2 ++ [(⟨t243, (⟨(rd_T53 y234 0).f1.f0, wrap64 ((wrap64 (((rd_T53 y234 (ji31)).f1.f0) + ((rd_T53 y234 (ji31)).f1.f1))) - ((rd_T53 y234 0).f1.f0))⟩ : S48), t244⟩ : S50)]) t224 (t224.length : Int) x20_1 t229 (t229.length : Int) (wrap64 (x28_2 + 1))) else (none)) = some r := H
                    have A36 := Aside0.mk A360
                    clear A360
                    by_cases c37 : x9_2.length < 3518437208883
                    ·rw [if_pos c37] at H
                     have LMc37 := Aside0.mk c37
                     clear c37
                     obtain ⟨y245, hy245⟩ : ∃ y_ : List (S50), y_ = (x9_2 ++ [(⟨t243, (⟨(rd_T53 y234 0).f1.f0, wrap64 ((wrap64 (((rd_T53 y234 (ji31)).f1.f0) + ((rd_T53 y234 (ji31)).f1.f1))) - ((rd_T53 y234 0).f1.f0))⟩ : S48), t244⟩ : S50)]) := ⟨_, rfl⟩
                     replace H : (token_Words.l1 kj21 l0 l1 a2 a3 y245 t224 (t224.length : Int) x20_1 t229 (t229.length : Int) (wrap64 (x28_2 + 1))) = some r := by first | (rw [hy245]; with_reducible exact H) | (have H2_ := (Option.bind_some _ _).symm.trans H; rw [hy245]; with_reducible exact H2_) | (have H2_ := (Option.bind_some _ _).symm.trans H; with_reducible exact H2_) | with_reducible exact H | (rw [hy245]; exact H) | exact H
                     have Ny245 := Aside0.mk hy245
                     clear hy245
                     have H' := Aside0.mk H
                     clear H
                     have p238 : 0 ≤ ((ji31) : Int) := of_decide_eq_true (by first | (with_reducible assumption) | assumption)
                     have q238 : (ji31) < (y234.length : Int) := of_decide_eq_true (by first | (with_reducible assumption) | assumption)
                     obtain ⟨ad238, e238, hx238_0, hx238_1, hx238_2⟩ := at_T53 HR237.out (ji31) p238 q238
                     cases e238
                     replace hx238_0 := (HB.out.cell (World.block_lt_of_cell? w _ hx238_0)).trans hx238_0
                     replace hx238_1 := (HB.out.cell (World.block_lt_of_cell? w _ hx238_1)).trans hx238_1
                     replace hx238_2 := (HB.out.cell (World.block_lt_of_cell? w _ hx238_2)).trans hx238_2
                     replace p238 := eq_true p238
                     replace q238 := eq_true q238
                     try go_wp2_with (first | ((with_reducible refine gate_dst (N := 15) rfl ?_); (try (refine gate_guard (by rfl) ?_; dsimp only)); refine box_event ?hg (N := 15) ?hd (cs := #[.int .i64 0, .int .i64 0]) (t := 48) ?hr ?_; (case hd => rfl); (case hg => rfl); (case hr => first | (go_simp; done) | (go_simp; rfl)); intro gb239 hg w38 hbox hb; have n0_ := Aside0.mk (Kd.R_below (by (with_reducible repeat (first | apply Kd.R_alloc | apply Kd.R_drewN | apply Kd.R_drew)); exact HO_9.out) hb); have n1_ := Aside0.mk (Kd.R_below (by (with_reducible repeat (first | apply Kd.R_alloc | apply Kd.R_drewN | apply Kd.R_drew)); exact HO_18.out) hb); have n2_ := Aside0.mk (Kd.R_below (by (with_reducible repeat (first | apply Kd.R_alloc | apply Kd.R_drewN | apply Kd.R_drew)); exact HO_26.out) hb); have n3_ := Aside0.mk (blk_below (g := gb228) (o := .cells #[.int .i64 ((rd_T33 t224 x20_1).f0), .int .i64 ((rd_T33 t224 x20_1).f1)] 33 (0, 0)) (by (with_reducible repeat (first | refine blk_drewN ?_ _ | refine blk_drew ?_ | refine blk_alloc ?_ _)); exact BK228.out) hb); have n4_ := Aside0.mk (blk_below (g := gb233) (o := .cells #[.int .i64 ((rd_T33 t229 x28_2).f0), .int .i64 ((rd_T33 t229 x28_2).f1)] 33 (0, 0)) (by (with_reducible repeat (first | refine blk_drewN ?_ _ | refine blk_drew ?_ | refine blk_alloc ?_ _)); exact BK233.out) hb); have n5_ := Aside0.mk (below_step (by repeat (first | (with_reducible first | exact HB.out | apply below_alloc | apply pw_below_drewN | apply below_drew1 | refine below_set ?_ GE228.out | refine below_set ?_ GE233.out) | exact HB.out)) hb); have n6_ := Aside0.mk (hbox); have n7_ := Aside0.mk ((by rw [hg]; exact (below_size (by repeat (first | (with_reducible first | exact HB.out | apply below_alloc | apply pw_below_drewN | apply below_drew1 | refine below_set ?_ GE228.out | refine below_set ?_ GE233.out) | exact HB.out))) : w.heap.size ≤ gb239)); have n8_ := Aside0.mk ((by rw [hg]; exact (below_size (by repeat (first | (with_reducible first | exact HB.out | apply below_alloc | apply pw_below_drewN | apply below_drew1 | refine below_set ?_ GE228.out | refine below_set ?_ GE233.out) | exact HB.out))) : w.heap.size ≤ gb239)); have n9_ := Aside0.mk ((by rw [hg]; exact Nat.ne_of_lt (blk_lt (g := gb228) (o := .cells #[.int .i64 ((rd_T33 t224 x20_1).f0), .int .i64 ((rd_T33 t224 x20_1).f1)] 33 (0, 0)) (by (with_reducible repeat (first | refine blk_drewN ?_ _ | refine blk_drew ?_ | refine blk_alloc ?_ _)); exact BK228.out)) : gb228 ≠ gb239)); have n10_ := Aside0.mk ((by rw [hg]; exact Nat.ne_of_gt (blk_lt (g := gb228) (o := .cells #[.int .i64 ((rd_T33 t224 x20_1).f0), .int .i64 ((rd_T33 t224 x20_1).f1)] 33 (0, 0)) (by (with_reducible repeat (first | refine blk_drewN ?_ _ | refine blk_drew ?_ | refine blk_alloc ?_ _)); exact BK228.out)) : gb239 ≠ gb228)); have n11_ := Aside0.mk ((by rw [hg]; exact Nat.ne_of_lt (blk_lt (g := gb233) (o := .cells #[.int .i64 ((rd_T33 t229 x28_2).f0), .int .i64 ((rd_T33 t229 x28_2).f1)] 33 (0, 0)) (by (with_reducible repeat (first | refine blk_drewN ?_ _ | refine blk_drew ?_ | refine blk_alloc ?_ _)); exact BK233.out)) : gb233 ≠ gb239)); have n12_ := Aside0.mk ((by rw [hg]; exact Nat.ne_of_gt (blk_lt (g := gb233) (o := .cells #[.int .i64 ((rd_T33 t229 x28_2).f0), .int .i64 ((rd_T33 t229 x28_2).f1)] 33 (0, 0)) (by (with_reducible repeat (first | refine blk_drewN ?_ _ | refine blk_drew ?_ | refine blk_alloc ?_ _)); exact BK233.out)) : gb239 ≠ gb233)); clear HO_9; clear HO_18; clear HO_26; clear BK228; clear BK233; clear HB; have HO_9 := n0_; have HO_18 := n1_; have HO_26 := n2_; have BK228 := n3_; have BK233 := n4_; have HB := n5_; have BK239 := n6_; have GW239 := n7_; have GE239 := n8_; have NB228_239 := n9_; have NB239_228 := n10_; have NB233_239 := n11_; have NB239_233 := n12_; clear n0_ n1_ n2_ n3_ n4_ n5_ n6_ n7_ n8_ n9_ n10_ n11_ n12_; clear hb hbox hg; have hnb39 := NB239_228.out; have hnc39 := NB228_239.out; have hnb40 := NB239_233.out; have hnc40 := NB233_239.out; have hcz41_0 : w38.cell? ⟨gb239, 0, none⟩ = some (.int .i64 0) := (blk_cell BK239.out 0).trans rfl; have hcz41_1 : w38.cell? ⟨gb239, 1, none⟩ = some (.int .i64 0) := (blk_cell BK239.out 1).trans rfl; have hfz41_0 := blk_frozen BK239.out 0; have hfz41_1 := blk_frozen BK239.out 1))
                     have n0_ : Aside0 (Kd.R k50 50 ((w38.setCell ⟨gb239, 0, none⟩ (.int .i64 ((rd_T53 y234 (ji31)).f1.f0))).setCell ⟨gb239, 1, none⟩ (.int .i64 ((rd_T53 y234 (ji31)).f1.f1))) w.heap.size (fun _ => True) u9 x9_2) := ⟨by (with_reducible repeat (first | apply Kd.R_alloc | apply Kd.R_drewN | apply Kd.R_drew)); exact Kd.R_mono (Kd.R_far (p := ⟨gb239, 1, none⟩) (Kd.R_far (p := ⟨gb239, 0, none⟩) (Kd.R_types HO_9.out BK239.out (by decide)) (fun _ hk => hk.2) (.int .i64 ((rd_T53 y234 (ji31)).f1.f0))) (fun _ hk => hk.2) (.int .i64 ((rd_T53 y234 (ji31)).f1.f1))) (fun _ hk => trivial)⟩
                     have n1_ : Aside0 (Kd.R k33 33 ((w38.setCell ⟨gb239, 0, none⟩ (.int .i64 ((rd_T53 y234 (ji31)).f1.f0))).setCell ⟨gb239, 1, none⟩ (.int .i64 ((rd_T53 y234 (ji31)).f1.f1))) w.heap.size (fun k_ => some k_ ≠ (.slice (some ad232) t229.length co15 : Value).ownBlock ∧ k_ ≠ gb228 ∧ k_ ≠ gb233) (.slice (some ad227) t224.length co7) t224) := ⟨by (with_reducible repeat (first | apply Kd.R_alloc | apply Kd.R_drewN | apply Kd.R_drew)); exact Kd.R_mono (Kd.R_far (p := ⟨gb239, 1, none⟩) (Kd.R_far (p := ⟨gb239, 0, none⟩) (Kd.R_types HO_18.out BK239.out (by decide)) (fun _ hk => hk.2) (.int .i64 ((rd_T53 y234 (ji31)).f1.f0))) (fun _ hk => hk.2) (.int .i64 ((rd_T53 y234 (ji31)).f1.f1))) (fun _ hk => ⟨hk.1.1, ⟨hk.1.2.1, hk.1.2.2⟩⟩)⟩
                     have n2_ : Aside0 (Kd.R k33 33 ((w38.setCell ⟨gb239, 0, none⟩ (.int .i64 ((rd_T53 y234 (ji31)).f1.f0))).setCell ⟨gb239, 1, none⟩ (.int .i64 ((rd_T53 y234 (ji31)).f1.f1))) w.heap.size (fun k_ => some k_ ≠ (.slice (some ad227) t224.length co7 : Value).ownBlock ∧ k_ ≠ gb228 ∧ k_ ≠ gb233) (.slice (some ad232) t229.length co15) t229) := ⟨by (with_reducible repeat (first | apply Kd.R_alloc | apply Kd.R_drewN | apply Kd.R_drew)); exact Kd.R_mono (Kd.R_far (p := ⟨gb239, 1, none⟩) (Kd.R_far (p := ⟨gb239, 0, none⟩) (Kd.R_types HO_26.out BK239.out (by decide)) (fun _ hk => hk.2) (.int .i64 ((rd_T53 y234 (ji31)).f1.f0))) (fun _ hk => hk.2) (.int .i64 ((rd_T53 y234 (ji31)).f1.f1))) (fun _ hk => ⟨hk.1.1, ⟨hk.1.2.1, hk.1.2.2⟩⟩)⟩
                     have n3_ : Aside0 (((w38.setCell ⟨gb239, 0, none⟩ (.int .i64 ((rd_T53 y234 (ji31)).f1.f0))).setCell ⟨gb239, 1, none⟩ (.int .i64 ((rd_T53 y234 (ji31)).f1.f1))).heap[gb228]? = some (.cells #[.int .i64 ((rd_T33 t224 x20_1).f0), .int .i64 ((rd_T33 t224 x20_1).f1)] 33 (0, 0))) := ⟨by (with_reducible repeat (first | refine blk_drewN ?_ _ | refine blk_drew ?_ | refine blk_alloc ?_ _)); refine blk_far ?_ NB228_239.out _; (with_reducible repeat (first | refine blk_drewN ?_ _ | refine blk_drew ?_ | refine blk_alloc ?_ _)); refine blk_far ?_ NB228_239.out _; (with_reducible repeat (first | refine blk_drewN ?_ _ | refine blk_drew ?_ | refine blk_alloc ?_ _)); exact BK228.out⟩
                     have n4_ : Aside0 (((w38.setCell ⟨gb239, 0, none⟩ (.int .i64 ((rd_T53 y234 (ji31)).f1.f0))).setCell ⟨gb239, 1, none⟩ (.int .i64 ((rd_T53 y234 (ji31)).f1.f1))).heap[gb233]? = some (.cells #[.int .i64 ((rd_T33 t229 x28_2).f0), .int .i64 ((rd_T33 t229 x28_2).f1)] 33 (0, 0))) := ⟨by (with_reducible repeat (first | refine blk_drewN ?_ _ | refine blk_drew ?_ | refine blk_alloc ?_ _)); refine blk_far ?_ NB233_239.out _; (with_reducible repeat (first | refine blk_drewN ?_ _ | refine blk_drew ?_ | refine blk_alloc ?_ _)); refine blk_far ?_ NB233_239.out _; (with_reducible repeat (first | refine blk_drewN ?_ _ | refine blk_drew ?_ | refine blk_alloc ?_ _)); exact BK233.out⟩
                     have n5_ : Aside0 (((w38.setCell ⟨gb239, 0, none⟩ (.int .i64 ((rd_T53 y234 (ji31)).f1.f0))).setCell ⟨gb239, 1, none⟩ (.int .i64 ((rd_T53 y234 (ji31)).f1.f1))).heap[gb239]? = some (.cells #[.int .i64 ((rd_T53 y234 (ji31)).f1.f0), .int .i64 ((rd_T53 y234 (ji31)).f1.f1)] 48 (0, 0))) := ⟨by (with_reducible repeat (first | refine blk_drewN ?_ _ | refine blk_drew ?_ | refine blk_alloc ?_ _)); refine blk_put (cs := #[.int .i64 ((rd_T53 y234 (ji31)).f1.f0), .int .i64 0]) ?_ 1 _ rfl; (with_reducible repeat (first | refine blk_drewN ?_ _ | refine blk_drew ?_ | refine blk_alloc ?_ _)); refine blk_put (cs := #[.int .i64 0, .int .i64 0]) ?_ 0 _ rfl; (with_reducible repeat (first | refine blk_drewN ?_ _ | refine blk_drew ?_ | refine blk_alloc ?_ _)); exact BK239.out⟩
                     have n6_ : Aside0 (Below w.heap.size w ((w38.setCell ⟨gb239, 0, none⟩ (.int .i64 ((rd_T53 y234 (ji31)).f1.f0))).setCell ⟨gb239, 1, none⟩ (.int .i64 ((rd_T53 y234 (ji31)).f1.f1)))) := ⟨by repeat (first | (with_reducible first | exact HB.out | apply below_alloc | apply pw_below_drewN | apply below_drew1 | refine below_set ?_ GE228.out | refine below_set ?_ GE233.out | refine below_set ?_ GE239.out) | exact HB.out)⟩
                     (try clear HO_9)
                     (try clear HO_18)
                     (try clear HO_26)
                     (try clear BK228)
                     (try clear BK233)
                     (try clear BK239)
                     (try clear HB)
                     generalize ((w38.setCell ⟨gb239, 0, none⟩ (.int .i64 ((rd_T53 y234 (ji31)).f1.f0))).setCell ⟨gb239, 1, none⟩ (.int .i64 ((rd_T53 y234 (ji31)).f1.f1))) = w42 at n0_ n1_ n2_ n3_ n4_ n5_ n6_ ⊢
                     have HO_9 := n0_
                     have HO_18 := n1_
                     have HO_26 := n2_
                     have BK228 := n3_
                     have BK233 := n4_
                     have BK239 := n5_
                     have HB := n6_
                     clear n0_ n1_ n2_ n3_ n4_ n5_ n6_
                     have n0_ := Aside0.mk (Kd.R_drew HO_9.out)
                     have n1_ := Aside0.mk (Kd.R_drew HO_18.out)
                     have n2_ := Aside0.mk (Kd.R_drew HO_26.out)
                     have n3_ := Aside0.mk (blk_drew BK228.out)
                     have n4_ := Aside0.mk (blk_drew BK233.out)
                     have n5_ := Aside0.mk (blk_drew BK239.out)
                     have n6_ := Aside0.mk (below_drew1 HB.out)
                     clear HO_9
                     clear HO_18
                     clear HO_26
                     clear BK228
                     clear BK233
                     clear BK239
                     clear HB
                     have HO_9 := n0_
                     have HO_18 := n1_
                     have HO_26 := n2_
                     have BK228 := n3_
                     have BK233 := n4_
                     have BK239 := n5_
                     have HB := n6_
                     clear n0_ n1_ n2_ n3_ n4_ n5_ n6_
                     have p240 : 0 ≤ (0 : Int) := (by omega)
                     have q240 : 0 < (y234.length : Int) := of_decide_eq_true (by first | (with_reducible assumption) | assumption)
                     obtain ⟨ad240, e240, hx240_0, hx240_1, hx240_2⟩ := at_T53 HR237.out 0 p240 q240
                     have hw240_2 := hx240_2
                     (try rw [show ((0 : Int)).toNat = 0 from rfl] at hw240_2)
                     (try rw [show 0 * 3 = 0 from rfl] at hw240_2)
                     (try rw [Addr.add_zero'] at hw240_2)
                     have hw240_1 := hx240_1
                     (try rw [show ((0 : Int)).toNat = 0 from rfl] at hw240_1)
                     (try rw [show 0 * 3 = 0 from rfl] at hw240_1)
                     (try rw [Addr.add_zero'] at hw240_1)
                     have hw240_0 := hx240_0
                     (try rw [show ((0 : Int)).toNat = 0 from rfl] at hw240_0)
                     (try rw [show 0 * 3 = 0 from rfl] at hw240_0)
                     (try rw [Addr.add_zero'] at hw240_0)
                     obtain rfl : ad238 = ad240 := (by injection e240)
                     have qi240 : (0 < y234.length) = True := eq_true (by omega)
                     (try rw [show ((0 : Int)).toNat = 0 from rfl] at hx240_0)
                     (try rw [show 0 * 3 = 0 from rfl] at hx240_0)
                     (try rw [Addr.add_zero'] at hx240_0)
                     (try rw [show ((0 : Int)).toNat = 0 from rfl] at hx240_1)
                     (try rw [show 0 * 3 = 0 from rfl] at hx240_1)
                     (try rw [Addr.add_zero'] at hx240_1)
                     (try rw [show ((0 : Int)).toNat = 0 from rfl] at hx240_2)
                     (try rw [show 0 * 3 = 0 from rfl] at hx240_2)
                     (try rw [Addr.add_zero'] at hx240_2)
                     replace hx240_0 := (HB.out.cell (World.block_lt_of_cell? w _ hx240_0)).trans hx240_0
                     replace hx240_1 := (HB.out.cell (World.block_lt_of_cell? w _ hx240_1)).trans hx240_1
                     replace hx240_2 := (HB.out.cell (World.block_lt_of_cell? w _ hx240_2)).trans hx240_2
                     replace p240 := eq_true p240
                     replace q240 := eq_true q240
                     have p241 : 0 ≤ (0 : Int) := (by omega)
                     have q241 : 0 < (y234.length : Int) := of_decide_eq_true (by first | (with_reducible assumption) | assumption)
                     obtain ⟨ad241, e241, hx241_0, hx241_1, hx241_2⟩ := at_T53 HR237.out 0 p241 q241
                     have hw241_2 := hx241_2
                     (try rw [show ((0 : Int)).toNat = 0 from rfl] at hw241_2)
                     (try rw [show 0 * 3 = 0 from rfl] at hw241_2)
                     (try rw [Addr.add_zero'] at hw241_2)
                     have hw241_1 := hx241_1
                     (try rw [show ((0 : Int)).toNat = 0 from rfl] at hw241_1)
                     (try rw [show 0 * 3 = 0 from rfl] at hw241_1)
                     (try rw [Addr.add_zero'] at hw241_1)
                     have hw241_0 := hx241_0
                     (try rw [show ((0 : Int)).toNat = 0 from rfl] at hw241_0)
                     (try rw [show 0 * 3 = 0 from rfl] at hw241_0)
                     (try rw [Addr.add_zero'] at hw241_0)
                     obtain rfl : ad238 = ad241 := (by injection e241)
                     have qi241 : (0 < y234.length) = True := eq_true (by omega)
                     (try rw [show ((0 : Int)).toNat = 0 from rfl] at hx241_0)
                     (try rw [show 0 * 3 = 0 from rfl] at hx241_0)
                     (try rw [Addr.add_zero'] at hx241_0)
                     (try rw [show ((0 : Int)).toNat = 0 from rfl] at hx241_1)
                     (try rw [show 0 * 3 = 0 from rfl] at hx241_1)
                     (try rw [Addr.add_zero'] at hx241_1)
                     (try rw [show ((0 : Int)).toNat = 0 from rfl] at hx241_2)
                     (try rw [show 0 * 3 = 0 from rfl] at hx241_2)
                     (try rw [Addr.add_zero'] at hx241_2)
                     replace hx241_0 := (HB.out.cell (World.block_lt_of_cell? w _ hx241_0)).trans hx241_0
                     replace hx241_1 := (HB.out.cell (World.block_lt_of_cell? w _ hx241_1)).trans hx241_1
                     replace hx241_2 := (HB.out.cell (World.block_lt_of_cell? w _ hx241_2)).trans hx241_2
                     replace p241 := eq_true p241
                     replace q241 := eq_true q241
                     refine start_ (n := 19) (S := fun w' => w'.cell? ⟨gb239, 0, none⟩ = some (.int .i64 ((rd_T53 y234 (ji31)).f1.f0)) ∧ w'.cell? ⟨gb239, 1, none⟩ = some (.int .i64 ((rd_T53 y234 (ji31)).f1.f1)) ∧ w'.cell? ad238 = some (.int .i32 ((rd_T53 y234 0).f0)) ∧ w'.cell? ⟨ad238.block, ad238.off + 1, none⟩ = some (.int .i64 ((rd_T53 y234 0).f1.f0)) ∧ w'.cell? ⟨ad238.block, ad238.off + 2, none⟩ = some (.int .i64 ((rd_T53 y234 0).f1.f1)) ∧ w'.cell? ad238 = some (.int .i32 ((rd_T53 y234 0).f0)) ∧ w'.cell? ⟨ad238.block, ad238.off + 1, none⟩ = some (.int .i64 ((rd_T53 y234 0).f1.f0)) ∧ w'.cell? ⟨ad238.block, ad238.off + 2, none⟩ = some (.int .i64 ((rd_T53 y234 0).f1.f1))) (ds := []) #[false, false, false, false, false, false, false, false, false, false, false, false, false, false, false, false, false, false, false] (by kernel_rfl) rfl rfl ⟨(blk_cell BK239.out 0).trans rfl, (blk_cell BK239.out 1).trans rfl, ((HB.out.cell (World.block_lt_of_cell? w _ hw240_0)).trans hw240_0), ((HB.out.cell (World.block_lt_of_cell? w _ hw240_1)).trans hw240_1), ((HB.out.cell (World.block_lt_of_cell? w _ hw240_2)).trans hw240_2), ((HB.out.cell (World.block_lt_of_cell? w _ hw241_0)).trans hw241_0), ((HB.out.cell (World.block_lt_of_cell? w _ hw241_1)).trans hw241_1), ((HB.out.cell (World.block_lt_of_cell? w _ hw241_2)).trans hw241_2)⟩ (fun hHeld => ?_); refine with_tabW token_Words.tab11 token_Words.bits11 (fun HT_ HW_ => ?_)
                     generalize w42.drew = w43 at HO_9 HO_18 HO_26 BK228 BK233 BK239 HB hx240_0 hx240_1 hx240_2 hx241_0 hx241_1 hx241_2 hHeld ⊢
                     refine pure_ (i := 0) (N := some 55) (v := ?_) (a' := ?_) #[true, false, false, false, false, false, false, false, false, false, false, false, false, false, false, false, false, false, false] rfl rfl (any_of HT_.out (by kernel_rfl)) (fun _ _ _ h => h) (Or.inl ⟨by rfl, ?_⟩) ?_ ?_
                     rotate_left
                     ·intro w'
                      go_simp
                      with_reducible rfl
                     rotate_left
                     ·simp only [Act.put, List.setIfInBounds_toArray, List.set_cons_zero, List.set_cons_succ, i64_w, i32_w]
                      rfl
                     refine pure_ (i := 1) (N := some 56) (v := ?_) (a' := ?_) #[true, true, false, false, false, false, false, false, false, false, false, false, false, false, false, false, false, false, false] rfl rfl (any_of HT_.out (by kernel_rfl)) (fun _ _ _ h => h) (Or.inl ⟨by rfl, ?_⟩) ?_ ?_
                     rotate_left
                     ·intro w'
                      go_simp
                      with_reducible rfl
                     rotate_left
                     ·simp only [Act.put, List.setIfInBounds_toArray, List.set_cons_zero, List.set_cons_succ, i64_w, i32_w]
                      rfl
                     refine pure_ (i := 2) (N := some 57) (v := ?_) (a' := ?_) #[true, true, true, false, false, false, false, false, false, false, false, false, false, false, false, false, false, false, false] rfl rfl (any_of HT_.out (by kernel_rfl)) (fun _ _ _ h => h) (Or.inl ⟨by rfl, ?_⟩) ?_ ?_
                     rotate_left
                     ·intro w'
                      go_simp
                      with_reducible rfl
                     rotate_left
                     ·simp only [Act.put, List.setIfInBounds_toArray, List.set_cons_zero, List.set_cons_succ, i64_w, i32_w]
                      rfl
                     refine pure_ (i := 3) (N := some 58) (v := ?_) (a' := ?_) #[true, true, true, true, false, false, false, false, false, false, false, false, false, false, false, false, false, false, false] rfl rfl (any_of HT_.out (by kernel_rfl)) (fun _ _ _ h => h) (Or.inl ⟨by rfl, ?_⟩) ?_ ?_
                     rotate_left
                     ·intro w'
                      go_simp
                      with_reducible rfl
                     rotate_left
                     ·simp only [Act.put, List.setIfInBounds_toArray, List.set_cons_zero, List.set_cons_succ, i64_w, i32_w]
                      rfl
                     refine pure_ (i := 5) (N := some 60) (v := ?_) (a' := ?_) #[true, true, true, true, false, true, false, false, false, false, false, false, false, false, false, false, false, false, false] rfl rfl (any_of HT_.out (by kernel_rfl)) (fun _ _ _ h => h) (Or.inl ⟨by rfl, ?_⟩) ?_ ?_
                     rotate_left
                     ·intro w'
                      go_simp
                      with_reducible rfl
                     rotate_left
                     ·simp only [Act.put, List.setIfInBounds_toArray, List.set_cons_zero, List.set_cons_succ, i64_w, i32_w]
                      rfl
                     refine pure_ (i := 7) (N := some 62) (v := ?_) (a' := ?_) #[true, true, true, true, false, true, false, true, false, false, false, false, false, false, false, false, false, false, false] rfl rfl (any_of HT_.out (by kernel_rfl)) (fun _ _ _ h => h) (Or.inl ⟨by rfl, ?_⟩) ?_ ?_
                     rotate_left
                     ·intro w'
                      go_simp
                      with_reducible rfl
                     rotate_left
                     ·simp only [Act.put, List.setIfInBounds_toArray, List.set_cons_zero, List.set_cons_succ, i64_w, i32_w]
                      rfl
                     refine pure_ (i := 10) (N := some 65) (v := ?_) (a' := ?_) #[true, true, true, true, false, true, false, true, false, false, true, false, false, false, false, false, false, false, false] rfl rfl (any_of HT_.out (by kernel_rfl)) (fun _ _ _ h => h) (Or.inl ⟨by rfl, ?_⟩) ?_ ?_
                     rotate_left
                     ·intro w'
                      go_simp
                      with_reducible rfl
                     rotate_left
                     ·simp only [Act.put, List.setIfInBounds_toArray, List.set_cons_zero, List.set_cons_succ, i64_w, i32_w]
                      rfl
                     refine pure_ (i := 11) (N := some 66) (v := ?_) (a' := ?_) #[true, true, true, true, false, true, false, true, false, false, true, true, false, false, false, false, false, false, false] rfl rfl (any_of HT_.out (by kernel_rfl)) (fun _ _ _ h => h) (Or.inl ⟨by rfl, ?_⟩) ?_ ?_
                     rotate_left
                     ·intro w'
                      go_simp
                      with_reducible rfl
                     rotate_left
                     ·simp only [Act.put, List.setIfInBounds_toArray, List.set_cons_zero, List.set_cons_succ, i64_w, i32_w]
                      rfl
                     refine pure_ (i := 12) (N := some 67) (v := ?_) (a' := ?_) #[true, true, true, true, false, true, false, true, false, false, true, true, true, false, false, false, false, false, false] rfl rfl (any_of HT_.out (by kernel_rfl)) (fun _ _ _ h => h) (Or.inl ⟨by rfl, ?_⟩) ?_ ?_
                     rotate_left
                     ·intro w'
                      go_simp
                      with_reducible rfl
                     rotate_left
                     ·simp only [Act.put, List.setIfInBounds_toArray, List.set_cons_zero, List.set_cons_succ, i64_w, i32_w]
                      rfl
                     refine pure_ (i := 13) (N := some 68) (v := ?_) (a' := ?_) #[true, true, true, true, false, true, false, true, false, false, true, true, true, true, false, false, false, false, false] rfl rfl (any_of HT_.out (by kernel_rfl)) (fun _ _ _ h => h) (Or.inl ⟨by rfl, ?_⟩) ?_ ?_
                     rotate_left
                     ·intro w'
                      go_simp
                      with_reducible rfl
                     rotate_left
                     ·simp only [Act.put, List.setIfInBounds_toArray, List.set_cons_zero, List.set_cons_succ, i64_w, i32_w]
                      rfl
                     refine take_ (i := 4) (N := some 59) (v := ?_) (a' := ?_) #[true, true, true, true, true, true, false, true, false, false, true, true, true, true, false, false, false, false, false] rfl rfl (take_ofW HT_.out HW_.out (by kernel_rfl)) (fun _ _ _ h => h) (Or.inl ⟨by rfl, ?_⟩) hHeld ?_ ?_
                     rotate_left
                     ·rintro w' ⟨s0, s1, s2, s3, s4, s5, s6, s7⟩
                      go_simp
                      with_reducible rfl
                     rotate_left
                     ·simp only [Act.put, List.setIfInBounds_toArray, List.set_cons_zero, List.set_cons_succ, i64_w, i32_w]
                      rfl
                     refine take_ (i := 6) (N := some 61) (v := ?_) (a' := ?_) #[true, true, true, true, true, true, true, true, false, false, true, true, true, true, false, false, false, false, false] rfl rfl (take_ofW HT_.out HW_.out (by kernel_rfl)) (fun _ _ _ h => h) (Or.inl ⟨by rfl, ?_⟩) hHeld ?_ ?_
                     rotate_left
                     ·rintro w' ⟨s0, s1, s2, s3, s4, s5, s6, s7⟩
                      go_simp
                      with_reducible rfl
                     rotate_left
                     ·simp only [Act.put, List.setIfInBounds_toArray, List.set_cons_zero, List.set_cons_succ, i64_w, i32_w]
                      rfl
                     refine take_ (i := 8) (N := some 63) (v := ?_) (a' := ?_) #[true, true, true, true, true, true, true, true, true, false, true, true, true, true, false, false, false, false, false] rfl rfl (take_ofW HT_.out HW_.out (by kernel_rfl)) (fun _ _ _ h => h) (Or.inl ⟨by rfl, ?_⟩) hHeld ?_ ?_
                     rotate_left
                     ·rintro w' ⟨s0, s1, s2, s3, s4, s5, s6, s7⟩
                      go_simp
                      with_reducible rfl
                     rotate_left
                     ·simp only [Act.put, List.setIfInBounds_toArray, List.set_cons_zero, List.set_cons_succ, i64_w, i32_w]
                      rfl
                     refine pure_ (i := 9) (N := some 64) (v := ?_) (a' := ?_) #[true, true, true, true, true, true, true, true, true, true, true, true, true, true, false, false, false, false, false] rfl rfl (any_of HT_.out (by kernel_rfl)) (fun _ _ _ h => h) (Or.inl ⟨by rfl, ?_⟩) ?_ ?_
                     rotate_left
                     ·intro w'
                      go_simp
                      with_reducible rfl
                     rotate_left
                     ·simp only [Act.put, List.setIfInBounds_toArray, List.set_cons_zero, List.set_cons_succ, i64_w, i32_w]
                      rfl
                     refine take_ (i := 14) (N := some 69) (v := ?_) (a' := ?_) #[true, true, true, true, true, true, true, true, true, true, true, true, true, true, true, false, false, false, false] rfl rfl (take_ofW HT_.out HW_.out (by kernel_rfl)) (fun _ _ _ h => h) (Or.inl ⟨by rfl, ?_⟩) hHeld ?_ ?_
                     rotate_left
                     ·rintro w' ⟨s0, s1, s2, s3, s4, s5, s6, s7⟩
                      go_simp
                      with_reducible rfl
                     rotate_left
                     ·simp only [Act.put, List.setIfInBounds_toArray, List.set_cons_zero, List.set_cons_succ, i64_w, i32_w]
                      rfl
                     refine pure_ (i := 15) (N := some 70) (v := ?_) (a' := ?_) #[true, true, true, true, true, true, true, true, true, true, true, true, true, true, true, true, false, false, false] rfl rfl (any_of HT_.out (by kernel_rfl)) (fun _ _ _ h => h) (Or.inl ⟨by rfl, ?_⟩) ?_ ?_
                     rotate_left
                     ·intro w'
                      go_simp
                      with_reducible rfl
                     rotate_left
                     ·simp only [Act.put, List.setIfInBounds_toArray, List.set_cons_zero, List.set_cons_succ, i64_w, i32_w]
                      rfl
                     refine pure_ (i := 16) (N := some 71) (v := ?_) (a' := ?_) #[true, true, true, true, true, true, true, true, true, true, true, true, true, true, true, true, true, false, false] rfl rfl (any_of HT_.out (by kernel_rfl)) (fun _ _ _ h => h) (Or.inl ⟨by rfl, ?_⟩) ?_ ?_
                     rotate_left
                     ·intro w'
                      go_simp
                      with_reducible rfl
                     rotate_left
                     ·simp only [Act.put, List.setIfInBounds_toArray, List.set_cons_zero, List.set_cons_succ, i64_w, i32_w]
                      rfl
                     refine one_ (i := 17) (N := some 16) #[true, true, true, true, true, true, true, true, true, true, true, true, true, true, true, true, true, true, false] rfl rfl (one_of HT_.out (by kernel_rfl)) (by decide) (fun K hK => ?_)
                     refine box_step ?hg (N := 16) ?hd (cs := #[.int .i64 0, .int .i64 0]) (t := 48) ?hr ?_; (case hd => rfl); (case hg => rfl); (case hr => first | (go_simp; done) | (go_simp; rfl))
                     intro gb242 hg w44 hbox hb
                     have n0_ := Aside0.mk (Kd.R_below (by (with_reducible repeat (first | apply Kd.R_alloc | apply Kd.R_drewN | apply Kd.R_drew)); exact HO_9.out) hb)
                     have n1_ := Aside0.mk (Kd.R_below (by (with_reducible repeat (first | apply Kd.R_alloc | apply Kd.R_drewN | apply Kd.R_drew)); exact HO_18.out) hb)
                     have n2_ := Aside0.mk (Kd.R_below (by (with_reducible repeat (first | apply Kd.R_alloc | apply Kd.R_drewN | apply Kd.R_drew)); exact HO_26.out) hb)
                     have n3_ := Aside0.mk (blk_below (g := gb228) (o := .cells #[.int .i64 ((rd_T33 t224 x20_1).f0), .int .i64 ((rd_T33 t224 x20_1).f1)] 33 (0, 0)) (by (with_reducible repeat (first | refine blk_drewN ?_ _ | refine blk_drew ?_ | refine blk_alloc ?_ _)); exact BK228.out) hb)
                     have n4_ := Aside0.mk (blk_below (g := gb233) (o := .cells #[.int .i64 ((rd_T33 t229 x28_2).f0), .int .i64 ((rd_T33 t229 x28_2).f1)] 33 (0, 0)) (by (with_reducible repeat (first | refine blk_drewN ?_ _ | refine blk_drew ?_ | refine blk_alloc ?_ _)); exact BK233.out) hb)
                     have n5_ := Aside0.mk (blk_below (g := gb239) (o := .cells #[.int .i64 ((rd_T53 y234 (ji31)).f1.f0), .int .i64 ((rd_T53 y234 (ji31)).f1.f1)] 48 (0, 0)) (by (with_reducible repeat (first | refine blk_drewN ?_ _ | refine blk_drew ?_ | refine blk_alloc ?_ _)); exact BK239.out) hb)
                     have n6_ := Aside0.mk (below_step (by repeat (first | (with_reducible first | exact HB.out | apply below_alloc | apply pw_below_drewN | apply below_drew1 | refine below_set ?_ GE228.out | refine below_set ?_ GE233.out | refine below_set ?_ GE239.out) | exact HB.out)) hb)
                     have n7_ := Aside0.mk (hbox)
                     have n8_ := Aside0.mk ((by rw [hg]; exact (below_size (by repeat (first | (with_reducible first | exact HB.out | apply below_alloc | apply pw_below_drewN | apply below_drew1 | refine below_set ?_ GE228.out | refine below_set ?_ GE233.out | refine below_set ?_ GE239.out) | exact HB.out))) : w.heap.size ≤ gb242))
                     have n9_ := Aside0.mk ((by rw [hg]; exact (below_size (by repeat (first | (with_reducible first | exact HB.out | apply below_alloc | apply pw_below_drewN | apply below_drew1 | refine below_set ?_ GE228.out | refine below_set ?_ GE233.out | refine below_set ?_ GE239.out) | exact HB.out))) : w.heap.size ≤ gb242))
                     have n10_ := Aside0.mk ((by rw [hg]; exact Nat.ne_of_lt (blk_lt (g := gb228) (o := .cells #[.int .i64 ((rd_T33 t224 x20_1).f0), .int .i64 ((rd_T33 t224 x20_1).f1)] 33 (0, 0)) (by (with_reducible repeat (first | refine blk_drewN ?_ _ | refine blk_drew ?_ | refine blk_alloc ?_ _)); exact BK228.out)) : gb228 ≠ gb242))
                     have n11_ := Aside0.mk ((by rw [hg]; exact Nat.ne_of_gt (blk_lt (g := gb228) (o := .cells #[.int .i64 ((rd_T33 t224 x20_1).f0), .int .i64 ((rd_T33 t224 x20_1).f1)] 33 (0, 0)) (by (with_reducible repeat (first | refine blk_drewN ?_ _ | refine blk_drew ?_ | refine blk_alloc ?_ _)); exact BK228.out)) : gb242 ≠ gb228))
                     have n12_ := Aside0.mk ((by rw [hg]; exact Nat.ne_of_lt (blk_lt (g := gb233) (o := .cells #[.int .i64 ((rd_T33 t229 x28_2).f0), .int .i64 ((rd_T33 t229 x28_2).f1)] 33 (0, 0)) (by (with_reducible repeat (first | refine blk_drewN ?_ _ | refine blk_drew ?_ | refine blk_alloc ?_ _)); exact BK233.out)) : gb233 ≠ gb242))
                     have n13_ := Aside0.mk ((by rw [hg]; exact Nat.ne_of_gt (blk_lt (g := gb233) (o := .cells #[.int .i64 ((rd_T33 t229 x28_2).f0), .int .i64 ((rd_T33 t229 x28_2).f1)] 33 (0, 0)) (by (with_reducible repeat (first | refine blk_drewN ?_ _ | refine blk_drew ?_ | refine blk_alloc ?_ _)); exact BK233.out)) : gb242 ≠ gb233))
                     have n14_ := Aside0.mk ((by rw [hg]; exact Nat.ne_of_lt (blk_lt (g := gb239) (o := .cells #[.int .i64 ((rd_T53 y234 (ji31)).f1.f0), .int .i64 ((rd_T53 y234 (ji31)).f1.f1)] 48 (0, 0)) (by (with_reducible repeat (first | refine blk_drewN ?_ _ | refine blk_drew ?_ | refine blk_alloc ?_ _)); exact BK239.out)) : gb239 ≠ gb242))
                     have n15_ := Aside0.mk ((by rw [hg]; exact Nat.ne_of_gt (blk_lt (g := gb239) (o := .cells #[.int .i64 ((rd_T53 y234 (ji31)).f1.f0), .int .i64 ((rd_T53 y234 (ji31)).f1.f1)] 48 (0, 0)) (by (with_reducible repeat (first | refine blk_drewN ?_ _ | refine blk_drew ?_ | refine blk_alloc ?_ _)); exact BK239.out)) : gb242 ≠ gb239))
                     clear HO_9
                     clear HO_18
                     clear HO_26
                     clear BK228
                     clear BK233
                     clear BK239
                     clear HB
                     have HO_9 := n0_
                     have HO_18 := n1_
                     have HO_26 := n2_
                     have BK228 := n3_
                     have BK233 := n4_
                     have BK239 := n5_
                     have HB := n6_
                     have BK242 := n7_
                     have GW242 := n8_
                     have GE242 := n9_
                     have NB228_242 := n10_
                     have NB242_228 := n11_
                     have NB233_242 := n12_
                     have NB242_233 := n13_
                     have NB239_242 := n14_
                     have NB242_239 := n15_
                     clear n0_ n1_ n2_ n3_ n4_ n5_ n6_ n7_ n8_ n9_ n10_ n11_ n12_ n13_ n14_ n15_
                     clear hb hbox hg
                     refine hK.out _ _ ⟨(blk_cell BK239.out 0).trans rfl, (blk_cell BK239.out 1).trans rfl, ((HB.out.cell (World.block_lt_of_cell? w _ hw240_0)).trans hw240_0), ((HB.out.cell (World.block_lt_of_cell? w _ hw240_1)).trans hw240_1), ((HB.out.cell (World.block_lt_of_cell? w _ hw240_2)).trans hw240_2), ((HB.out.cell (World.block_lt_of_cell? w _ hw241_0)).trans hw241_0), ((HB.out.cell (World.block_lt_of_cell? w _ hw241_1)).trans hw241_1), ((HB.out.cell (World.block_lt_of_cell? w _ hw241_2)).trans hw241_2)⟩ (fun hHeld => ?_)
                     clear hK K
                     refine norm_ (a' := ?_) ?_ ?_
                     rotate_left
                     ·show Act.put _ (some 16) _ = _
                      simp only [Act.put, List.setIfInBounds_toArray, List.set_cons_zero, List.set_cons_succ, i64_w, i32_w]
                      rfl
                     refine one_ (i := 18) (N := none) #[true, true, true, true, true, true, true, true, true, true, true, true, true, true, true, true, true, true, true] rfl rfl (one_of HT_.out (by kernel_rfl)) (by decide) (fun K hK => ?_)
                     have hs45 : w44.cell? ⟨gb242, 0, none⟩ = some (.int .i64 0) := (blk_cell BK242.out 0).trans rfl
                     have hfs45 := blk_frozen BK242.out 0
                     have hns45_0 := NB228_242.out
                     have hns45_1 := NB233_242.out
                     have hns45_2 := NB239_242.out
                     have hms45_0 := NB242_228.out
                     have hms45_1 := NB242_233.out
                     have hms45_2 := NB242_239.out
                     have hs46 : w44.cell? ⟨gb242, 1, none⟩ = some (.int .i64 0) := (blk_cell BK242.out 1).trans rfl
                     have hfs46 := blk_frozen BK242.out 1
                     have hns46_0 := NB228_242.out
                     have hns46_1 := NB233_242.out
                     have hns46_2 := NB239_242.out
                     have hms46_0 := NB242_228.out
                     have hms46_1 := NB242_233.out
                     have hms46_2 := NB242_239.out
                     refine skip_ (w1 := ?_) (by rfl) rfl ?_ ?_
                     rotate_left
                     ·go_simp
                      rfl
                     refine hK.out _ _ ⟨((cell_far (p := ⟨gb242, _, none⟩) NB239_242.out _).trans (((cell_far (p := ⟨gb242, _, none⟩) NB239_242.out _).trans (hHeld.1)))), ((cell_far (p := ⟨gb242, _, none⟩) NB239_242.out _).trans (((cell_far (p := ⟨gb242, _, none⟩) NB239_242.out _).trans (hHeld.2.1)))), ((cell_far (p := ⟨gb242, _, none⟩) (by first | exact Nat.ne_of_lt (Nat.lt_of_lt_of_le (by have := World.block_lt_of_cell? _ _ hw240_0; first | rwa [add_block] at this | exact this) GW242.out) | (rw [add_block]; exact Nat.ne_of_lt (Nat.lt_of_lt_of_le (by have := World.block_lt_of_cell? _ _ hw240_0; first | rwa [add_block] at this | exact this) GW242.out)) | (show (Addr.add _ _).block ≠ _; rw [add_block]; exact Nat.ne_of_lt (Nat.lt_of_lt_of_le (by have := World.block_lt_of_cell? _ _ hw240_0; first | rwa [add_block] at this | exact this) GW242.out)) | (dsimp only; exact Nat.ne_of_lt (Nat.lt_of_lt_of_le (by have := World.block_lt_of_cell? _ _ hw240_0; first | rwa [add_block] at this | exact this) GW242.out))) _).trans (((cell_far (p := ⟨gb242, _, none⟩) (by first | exact Nat.ne_of_lt (Nat.lt_of_lt_of_le (by have := World.block_lt_of_cell? _ _ hw240_0; first | rwa [add_block] at this | exact this) GW242.out) | (rw [add_block]; exact Nat.ne_of_lt (Nat.lt_of_lt_of_le (by have := World.block_lt_of_cell? _ _ hw240_0; first | rwa [add_block] at this | exact this) GW242.out)) | (show (Addr.add _ _).block ≠ _; rw [add_block]; exact Nat.ne_of_lt (Nat.lt_of_lt_of_le (by have := World.block_lt_of_cell? _ _ hw240_0; first | rwa [add_block] at this | exact this) GW242.out)) | (dsimp only; exact Nat.ne_of_lt (Nat.lt_of_lt_of_le (by have := World.block_lt_of_cell? _ _ hw240_0; first | rwa [add_block] at this | exact this) GW242.out))) _).trans (hHeld.2.2.1)))), ((cell_far (p := ⟨gb242, _, none⟩) (by first | exact Nat.ne_of_lt (Nat.lt_of_lt_of_le (by have := World.block_lt_of_cell? _ _ hw240_1; first | rwa [add_block] at this | exact this) GW242.out) | (rw [add_block]; exact Nat.ne_of_lt (Nat.lt_of_lt_of_le (by have := World.block_lt_of_cell? _ _ hw240_1; first | rwa [add_block] at this | exact this) GW242.out)) | (show (Addr.add _ _).block ≠ _; rw [add_block]; exact Nat.ne_of_lt (Nat.lt_of_lt_of_le (by have := World.block_lt_of_cell? _ _ hw240_1; first | rwa [add_block] at this | exact this) GW242.out)) | (dsimp only; exact Nat.ne_of_lt (Nat.lt_of_lt_of_le (by have := World.block_lt_of_cell? _ _ hw240_1; first | rwa [add_block] at this | exact this) GW242.out))) _).trans (((cell_far (p := ⟨gb242, _, none⟩) (by first | exact Nat.ne_of_lt (Nat.lt_of_lt_of_le (by have := World.block_lt_of_cell? _ _ hw240_1; first | rwa [add_block] at this | exact this) GW242.out) | (rw [add_block]; exact Nat.ne_of_lt (Nat.lt_of_lt_of_le (by have := World.block_lt_of_cell? _ _ hw240_1; first | rwa [add_block] at this | exact this) GW242.out)) | (show (Addr.add _ _).block ≠ _; rw [add_block]; exact Nat.ne_of_lt (Nat.lt_of_lt_of_le (by have := World.block_lt_of_cell? _ _ hw240_1; first | rwa [add_block] at this | exact this) GW242.out)) | (dsimp only; exact Nat.ne_of_lt (Nat.lt_of_lt_of_le (by have := World.block_lt_of_cell? _ _ hw240_1; first | rwa [add_block] at this | exact this) GW242.out))) _).trans (hHeld.2.2.2.1)))), ((cell_far (p := ⟨gb242, _, none⟩) (by first | exact Nat.ne_of_lt (Nat.lt_of_lt_of_le (by have := World.block_lt_of_cell? _ _ hw240_2; first | rwa [add_block] at this | exact this) GW242.out) | (rw [add_block]; exact Nat.ne_of_lt (Nat.lt_of_lt_of_le (by have := World.block_lt_of_cell? _ _ hw240_2; first | rwa [add_block] at this | exact this) GW242.out)) | (show (Addr.add _ _).block ≠ _; rw [add_block]; exact Nat.ne_of_lt (Nat.lt_of_lt_of_le (by have := World.block_lt_of_cell? _ _ hw240_2; first | rwa [add_block] at this | exact this) GW242.out)) | (dsimp only; exact Nat.ne_of_lt (Nat.lt_of_lt_of_le (by have := World.block_lt_of_cell? _ _ hw240_2; first | rwa [add_block] at this | exact this) GW242.out))) _).trans (((cell_far (p := ⟨gb242, _, none⟩) (by first | exact Nat.ne_of_lt (Nat.lt_of_lt_of_le (by have := World.block_lt_of_cell? _ _ hw240_2; first | rwa [add_block] at this | exact this) GW242.out) | (rw [add_block]; exact Nat.ne_of_lt (Nat.lt_of_lt_of_le (by have := World.block_lt_of_cell? _ _ hw240_2; first | rwa [add_block] at this | exact this) GW242.out)) | (show (Addr.add _ _).block ≠ _; rw [add_block]; exact Nat.ne_of_lt (Nat.lt_of_lt_of_le (by have := World.block_lt_of_cell? _ _ hw240_2; first | rwa [add_block] at this | exact this) GW242.out)) | (dsimp only; exact Nat.ne_of_lt (Nat.lt_of_lt_of_le (by have := World.block_lt_of_cell? _ _ hw240_2; first | rwa [add_block] at this | exact this) GW242.out))) _).trans (hHeld.2.2.2.2.1)))), ((cell_far (p := ⟨gb242, _, none⟩) (by first | exact Nat.ne_of_lt (Nat.lt_of_lt_of_le (by have := World.block_lt_of_cell? _ _ hw241_0; first | rwa [add_block] at this | exact this) GW242.out) | (rw [add_block]; exact Nat.ne_of_lt (Nat.lt_of_lt_of_le (by have := World.block_lt_of_cell? _ _ hw241_0; first | rwa [add_block] at this | exact this) GW242.out)) | (show (Addr.add _ _).block ≠ _; rw [add_block]; exact Nat.ne_of_lt (Nat.lt_of_lt_of_le (by have := World.block_lt_of_cell? _ _ hw241_0; first | rwa [add_block] at this | exact this) GW242.out)) | (dsimp only; exact Nat.ne_of_lt (Nat.lt_of_lt_of_le (by have := World.block_lt_of_cell? _ _ hw241_0; first | rwa [add_block] at this | exact this) GW242.out))) _).trans (((cell_far (p := ⟨gb242, _, none⟩) (by first | exact Nat.ne_of_lt (Nat.lt_of_lt_of_le (by have := World.block_lt_of_cell? _ _ hw241_0; first | rwa [add_block] at this | exact this) GW242.out) | (rw [add_block]; exact Nat.ne_of_lt (Nat.lt_of_lt_of_le (by have := World.block_lt_of_cell? _ _ hw241_0; first | rwa [add_block] at this | exact this) GW242.out)) | (show (Addr.add _ _).block ≠ _; rw [add_block]; exact Nat.ne_of_lt (Nat.lt_of_lt_of_le (by have := World.block_lt_of_cell? _ _ hw241_0; first | rwa [add_block] at this | exact this) GW242.out)) | (dsimp only; exact Nat.ne_of_lt (Nat.lt_of_lt_of_le (by have := World.block_lt_of_cell? _ _ hw241_0; first | rwa [add_block] at this | exact this) GW242.out))) _).trans (hHeld.2.2.2.2.2.1)))), ((cell_far (p := ⟨gb242, _, none⟩) (by first | exact Nat.ne_of_lt (Nat.lt_of_lt_of_le (by have := World.block_lt_of_cell? _ _ hw241_1; first | rwa [add_block] at this | exact this) GW242.out) | (rw [add_block]; exact Nat.ne_of_lt (Nat.lt_of_lt_of_le (by have := World.block_lt_of_cell? _ _ hw241_1; first | rwa [add_block] at this | exact this) GW242.out)) | (show (Addr.add _ _).block ≠ _; rw [add_block]; exact Nat.ne_of_lt (Nat.lt_of_lt_of_le (by have := World.block_lt_of_cell? _ _ hw241_1; first | rwa [add_block] at this | exact this) GW242.out)) | (dsimp only; exact Nat.ne_of_lt (Nat.lt_of_lt_of_le (by have := World.block_lt_of_cell? _ _ hw241_1; first | rwa [add_block] at this | exact this) GW242.out))) _).trans (((cell_far (p := ⟨gb242, _, none⟩) (by first | exact Nat.ne_of_lt (Nat.lt_of_lt_of_le (by have := World.block_lt_of_cell? _ _ hw241_1; first | rwa [add_block] at this | exact this) GW242.out) | (rw [add_block]; exact Nat.ne_of_lt (Nat.lt_of_lt_of_le (by have := World.block_lt_of_cell? _ _ hw241_1; first | rwa [add_block] at this | exact this) GW242.out)) | (show (Addr.add _ _).block ≠ _; rw [add_block]; exact Nat.ne_of_lt (Nat.lt_of_lt_of_le (by have := World.block_lt_of_cell? _ _ hw241_1; first | rwa [add_block] at this | exact this) GW242.out)) | (dsimp only; exact Nat.ne_of_lt (Nat.lt_of_lt_of_le (by have := World.block_lt_of_cell? _ _ hw241_1; first | rwa [add_block] at this | exact this) GW242.out))) _).trans (hHeld.2.2.2.2.2.2.1)))), ((cell_far (p := ⟨gb242, _, none⟩) (by first | exact Nat.ne_of_lt (Nat.lt_of_lt_of_le (by have := World.block_lt_of_cell? _ _ hw241_2; first | rwa [add_block] at this | exact this) GW242.out) | (rw [add_block]; exact Nat.ne_of_lt (Nat.lt_of_lt_of_le (by have := World.block_lt_of_cell? _ _ hw241_2; first | rwa [add_block] at this | exact this) GW242.out)) | (show (Addr.add _ _).block ≠ _; rw [add_block]; exact Nat.ne_of_lt (Nat.lt_of_lt_of_le (by have := World.block_lt_of_cell? _ _ hw241_2; first | rwa [add_block] at this | exact this) GW242.out)) | (dsimp only; exact Nat.ne_of_lt (Nat.lt_of_lt_of_le (by have := World.block_lt_of_cell? _ _ hw241_2; first | rwa [add_block] at this | exact this) GW242.out))) _).trans (((cell_far (p := ⟨gb242, _, none⟩) (by first | exact Nat.ne_of_lt (Nat.lt_of_lt_of_le (by have := World.block_lt_of_cell? _ _ hw241_2; first | rwa [add_block] at this | exact this) GW242.out) | (rw [add_block]; exact Nat.ne_of_lt (Nat.lt_of_lt_of_le (by have := World.block_lt_of_cell? _ _ hw241_2; first | rwa [add_block] at this | exact this) GW242.out)) | (show (Addr.add _ _).block ≠ _; rw [add_block]; exact Nat.ne_of_lt (Nat.lt_of_lt_of_le (by have := World.block_lt_of_cell? _ _ hw241_2; first | rwa [add_block] at this | exact this) GW242.out)) | (dsimp only; exact Nat.ne_of_lt (Nat.lt_of_lt_of_le (by have := World.block_lt_of_cell? _ _ hw241_2; first | rwa [add_block] at this | exact this) GW242.out))) _).trans (hHeld.2.2.2.2.2.2.2))))⟩ (fun hHeld => ?_)
                     clear hK K
                     refine done_ (done_of HT_.out (by kernel_rfl)) ?_
                     try go_wp2
                     have n0_ : Aside0 (Kd.R k50 50 ((w44.setCell ⟨gb242, 0, none⟩ (.int .i64 ((rd_T53 y234 0).f1.f0))).setCell ⟨gb242, 1, none⟩ (.int .i64 (wrap64 ((wrap64 (((rd_T53 y234 (ji31)).f1.f0) + ((rd_T53 y234 (ji31)).f1.f1))) - ((rd_T53 y234 0).f1.f0))))) w.heap.size (fun _ => True) u9 x9_2) := ⟨by (with_reducible repeat (first | apply Kd.R_alloc | apply Kd.R_drewN | apply Kd.R_drew)); exact Kd.R_mono (Kd.R_far (p := ⟨gb242, 1, none⟩) (Kd.R_far (p := ⟨gb242, 0, none⟩) (Kd.R_types HO_9.out BK242.out (by decide)) (fun _ hk => hk.2) (.int .i64 ((rd_T53 y234 0).f1.f0))) (fun _ hk => hk.2) (.int .i64 (wrap64 ((wrap64 (((rd_T53 y234 (ji31)).f1.f0) + ((rd_T53 y234 (ji31)).f1.f1))) - ((rd_T53 y234 0).f1.f0))))) (fun _ hk => trivial)⟩
                     have n1_ : Aside0 (Kd.R k33 33 ((w44.setCell ⟨gb242, 0, none⟩ (.int .i64 ((rd_T53 y234 0).f1.f0))).setCell ⟨gb242, 1, none⟩ (.int .i64 (wrap64 ((wrap64 (((rd_T53 y234 (ji31)).f1.f0) + ((rd_T53 y234 (ji31)).f1.f1))) - ((rd_T53 y234 0).f1.f0))))) w.heap.size (fun k_ => some k_ ≠ (.slice (some ad232) t229.length co15 : Value).ownBlock ∧ k_ ≠ gb228 ∧ k_ ≠ gb233) (.slice (some ad227) t224.length co7) t224) := ⟨by (with_reducible repeat (first | apply Kd.R_alloc | apply Kd.R_drewN | apply Kd.R_drew)); exact Kd.R_mono (Kd.R_far (p := ⟨gb242, 1, none⟩) (Kd.R_far (p := ⟨gb242, 0, none⟩) (Kd.R_types HO_18.out BK242.out (by decide)) (fun _ hk => hk.2) (.int .i64 ((rd_T53 y234 0).f1.f0))) (fun _ hk => hk.2) (.int .i64 (wrap64 ((wrap64 (((rd_T53 y234 (ji31)).f1.f0) + ((rd_T53 y234 (ji31)).f1.f1))) - ((rd_T53 y234 0).f1.f0))))) (fun _ hk => ⟨hk.1.1, ⟨hk.1.2.1, hk.1.2.2⟩⟩)⟩
                     have n2_ : Aside0 (Kd.R k33 33 ((w44.setCell ⟨gb242, 0, none⟩ (.int .i64 ((rd_T53 y234 0).f1.f0))).setCell ⟨gb242, 1, none⟩ (.int .i64 (wrap64 ((wrap64 (((rd_T53 y234 (ji31)).f1.f0) + ((rd_T53 y234 (ji31)).f1.f1))) - ((rd_T53 y234 0).f1.f0))))) w.heap.size (fun k_ => some k_ ≠ (.slice (some ad227) t224.length co7 : Value).ownBlock ∧ k_ ≠ gb228 ∧ k_ ≠ gb233) (.slice (some ad232) t229.length co15) t229) := ⟨by (with_reducible repeat (first | apply Kd.R_alloc | apply Kd.R_drewN | apply Kd.R_drew)); exact Kd.R_mono (Kd.R_far (p := ⟨gb242, 1, none⟩) (Kd.R_far (p := ⟨gb242, 0, none⟩) (Kd.R_types HO_26.out BK242.out (by decide)) (fun _ hk => hk.2) (.int .i64 ((rd_T53 y234 0).f1.f0))) (fun _ hk => hk.2) (.int .i64 (wrap64 ((wrap64 (((rd_T53 y234 (ji31)).f1.f0) + ((rd_T53 y234 (ji31)).f1.f1))) - ((rd_T53 y234 0).f1.f0))))) (fun _ hk => ⟨hk.1.1, ⟨hk.1.2.1, hk.1.2.2⟩⟩)⟩
                     have n3_ : Aside0 (((w44.setCell ⟨gb242, 0, none⟩ (.int .i64 ((rd_T53 y234 0).f1.f0))).setCell ⟨gb242, 1, none⟩ (.int .i64 (wrap64 ((wrap64 (((rd_T53 y234 (ji31)).f1.f0) + ((rd_T53 y234 (ji31)).f1.f1))) - ((rd_T53 y234 0).f1.f0))))).heap[gb228]? = some (.cells #[.int .i64 ((rd_T33 t224 x20_1).f0), .int .i64 ((rd_T33 t224 x20_1).f1)] 33 (0, 0))) := ⟨by (with_reducible repeat (first | refine blk_drewN ?_ _ | refine blk_drew ?_ | refine blk_alloc ?_ _)); refine blk_far ?_ NB228_242.out _; (with_reducible repeat (first | refine blk_drewN ?_ _ | refine blk_drew ?_ | refine blk_alloc ?_ _)); refine blk_far ?_ NB228_242.out _; (with_reducible repeat (first | refine blk_drewN ?_ _ | refine blk_drew ?_ | refine blk_alloc ?_ _)); exact BK228.out⟩
                     have n4_ : Aside0 (((w44.setCell ⟨gb242, 0, none⟩ (.int .i64 ((rd_T53 y234 0).f1.f0))).setCell ⟨gb242, 1, none⟩ (.int .i64 (wrap64 ((wrap64 (((rd_T53 y234 (ji31)).f1.f0) + ((rd_T53 y234 (ji31)).f1.f1))) - ((rd_T53 y234 0).f1.f0))))).heap[gb233]? = some (.cells #[.int .i64 ((rd_T33 t229 x28_2).f0), .int .i64 ((rd_T33 t229 x28_2).f1)] 33 (0, 0))) := ⟨by (with_reducible repeat (first | refine blk_drewN ?_ _ | refine blk_drew ?_ | refine blk_alloc ?_ _)); refine blk_far ?_ NB233_242.out _; (with_reducible repeat (first | refine blk_drewN ?_ _ | refine blk_drew ?_ | refine blk_alloc ?_ _)); refine blk_far ?_ NB233_242.out _; (with_reducible repeat (first | refine blk_drewN ?_ _ | refine blk_drew ?_ | refine blk_alloc ?_ _)); exact BK233.out⟩
                     have n5_ : Aside0 (((w44.setCell ⟨gb242, 0, none⟩ (.int .i64 ((rd_T53 y234 0).f1.f0))).setCell ⟨gb242, 1, none⟩ (.int .i64 (wrap64 ((wrap64 (((rd_T53 y234 (ji31)).f1.f0) + ((rd_T53 y234 (ji31)).f1.f1))) - ((rd_T53 y234 0).f1.f0))))).heap[gb239]? = some (.cells #[.int .i64 ((rd_T53 y234 (ji31)).f1.f0), .int .i64 ((rd_T53 y234 (ji31)).f1.f1)] 48 (0, 0))) := ⟨by (with_reducible repeat (first | refine blk_drewN ?_ _ | refine blk_drew ?_ | refine blk_alloc ?_ _)); refine blk_far ?_ NB239_242.out _; (with_reducible repeat (first | refine blk_drewN ?_ _ | refine blk_drew ?_ | refine blk_alloc ?_ _)); refine blk_far ?_ NB239_242.out _; (with_reducible repeat (first | refine blk_drewN ?_ _ | refine blk_drew ?_ | refine blk_alloc ?_ _)); exact BK239.out⟩
                     have n6_ : Aside0 (((w44.setCell ⟨gb242, 0, none⟩ (.int .i64 ((rd_T53 y234 0).f1.f0))).setCell ⟨gb242, 1, none⟩ (.int .i64 (wrap64 ((wrap64 (((rd_T53 y234 (ji31)).f1.f0) + ((rd_T53 y234 (ji31)).f1.f1))) - ((rd_T53 y234 0).f1.f0))))).heap[gb242]? = some (.cells #[.int .i64 ((rd_T53 y234 0).f1.f0), .int .i64 (wrap64 ((wrap64 (((rd_T53 y234 (ji31)).f1.f0) + ((rd_T53 y234 (ji31)).f1.f1))) - ((rd_T53 y234 0).f1.f0)))] 48 (0, 0))) := ⟨by (with_reducible repeat (first | refine blk_drewN ?_ _ | refine blk_drew ?_ | refine blk_alloc ?_ _)); refine blk_put (cs := #[.int .i64 ((rd_T53 y234 0).f1.f0), .int .i64 0]) ?_ 1 _ rfl; (with_reducible repeat (first | refine blk_drewN ?_ _ | refine blk_drew ?_ | refine blk_alloc ?_ _)); refine blk_put (cs := #[.int .i64 0, .int .i64 0]) ?_ 0 _ rfl; (with_reducible repeat (first | refine blk_drewN ?_ _ | refine blk_drew ?_ | refine blk_alloc ?_ _)); exact BK242.out⟩
                     have n7_ : Aside0 (Below w.heap.size w ((w44.setCell ⟨gb242, 0, none⟩ (.int .i64 ((rd_T53 y234 0).f1.f0))).setCell ⟨gb242, 1, none⟩ (.int .i64 (wrap64 ((wrap64 (((rd_T53 y234 (ji31)).f1.f0) + ((rd_T53 y234 (ji31)).f1.f1))) - ((rd_T53 y234 0).f1.f0)))))) := ⟨by repeat (first | (with_reducible first | exact HB.out | apply below_alloc | apply pw_below_drewN | apply below_drew1 | refine below_set ?_ GE228.out | refine below_set ?_ GE233.out | refine below_set ?_ GE239.out | refine below_set ?_ GE242.out) | exact HB.out)⟩
                     (try clear HO_9)
                     (try clear HO_18)
                     (try clear HO_26)
                     (try clear BK228)
                     (try clear BK233)
                     (try clear BK239)
                     (try clear BK242)
                     (try clear HB)
                     generalize ((w44.setCell ⟨gb242, 0, none⟩ (.int .i64 ((rd_T53 y234 0).f1.f0))).setCell ⟨gb242, 1, none⟩ (.int .i64 (wrap64 ((wrap64 (((rd_T53 y234 (ji31)).f1.f0) + ((rd_T53 y234 (ji31)).f1.f1))) - ((rd_T53 y234 0).f1.f0))))) = w47 at n0_ n1_ n2_ n3_ n4_ n5_ n6_ n7_ ⊢
                     have HO_9 := n0_
                     have HO_18 := n1_
                     have HO_26 := n2_
                     have BK228 := n3_
                     have BK233 := n4_
                     have BK239 := n5_
                     have BK242 := n6_
                     have HB := n7_
                     clear n0_ n1_ n2_ n3_ n4_ n5_ n6_ n7_
                     have n0_ := Aside0.mk (Kd.R_drew HO_9.out)
                     have n1_ := Aside0.mk (Kd.R_drew HO_18.out)
                     have n2_ := Aside0.mk (Kd.R_drew HO_26.out)
                     have n3_ := Aside0.mk (blk_drew BK228.out)
                     have n4_ := Aside0.mk (blk_drew BK233.out)
                     have n5_ := Aside0.mk (blk_drew BK239.out)
                     have n6_ := Aside0.mk (blk_drew BK242.out)
                     have n7_ := Aside0.mk (below_drew1 HB.out)
                     clear HO_9
                     clear HO_18
                     clear HO_26
                     clear BK228
                     clear BK233
                     clear BK239
                     clear BK242
                     clear HB
                     have HO_9 := n0_
                     have HO_18 := n1_
                     have HO_26 := n2_
                     have BK228 := n3_
                     have BK233 := n4_
                     have BK239 := n5_
                     have BK242 := n6_
                     have HB := n7_
                     clear n0_ n1_ n2_ n3_ n4_ n5_ n6_ n7_
                     refine start_ (n := 11) (S := fun w' => w'.cell? ⟨gb242, 0, none⟩ = some (.int .i64 ((rd_T53 y234 0).f1.f0)) ∧ w'.cell? ⟨gb242, 1, none⟩ = some (.int .i64 (wrap64 ((wrap64 (((rd_T53 y234 (ji31)).f1.f0) + ((rd_T53 y234 (ji31)).f1.f1))) - ((rd_T53 y234 0).f1.f0))))) (ds := []) #[false, false, false, false, false, false, false, false, false, false, false] (by kernel_rfl) rfl rfl ⟨(blk_cell BK242.out 0).trans rfl, (blk_cell BK242.out 1).trans rfl⟩ (fun hHeld => ?_); refine with_tabW token_Words.tab12 token_Words.bits12 (fun HT_ HW_ => ?_)
                     generalize w47.drew = w48 at HO_9 HO_18 HO_26 BK228 BK233 BK239 BK242 HB hHeld ⊢
                     refine pure_ (i := 0) (N := some 72) (v := ?_) (a' := ?_) #[true, false, false, false, false, false, false, false, false, false, false] rfl rfl (any_of HT_.out (by kernel_rfl)) (fun _ _ _ h => h) (Or.inl ⟨by rfl, ?_⟩) ?_ ?_
                     rotate_left
                     ·intro w'
                      go_simp
                      with_reducible rfl
                     rotate_left
                     ·simp only [Act.put, List.setIfInBounds_toArray, List.set_cons_zero, List.set_cons_succ, i64_w, i32_w]
                      rfl
                     refine pure_ (i := 1) (N := some 73) (v := ?_) (a' := ?_) #[true, true, false, false, false, false, false, false, false, false, false] rfl rfl (any_of HT_.out (by kernel_rfl)) (fun _ _ _ h => h) (Or.inl ⟨by rfl, ?_⟩) ?_ ?_
                     rotate_left
                     ·intro w'
                      go_simp
                      with_reducible rfl
                     rotate_left
                     ·simp only [Act.put, List.setIfInBounds_toArray, List.set_cons_zero, List.set_cons_succ, i64_w, i32_w]
                      rfl
                     refine pure_ (i := 4) (N := some 76) (v := ?_) (a' := ?_) #[true, true, false, false, true, false, false, false, false, false, false] rfl rfl (any_of HT_.out (by kernel_rfl)) (fun _ _ _ h => h) (Or.inl ⟨by rfl, ?_⟩) ?_ ?_
                     rotate_left
                     ·intro w'
                      go_simp
                      with_reducible rfl
                     rotate_left
                     ·simp only [Act.put, List.setIfInBounds_toArray, List.set_cons_zero, List.set_cons_succ, i64_w, i32_w]
                      rfl
                     refine pure_ (i := 5) (N := some 77) (v := ?_) (a' := ?_) #[true, true, false, false, true, true, false, false, false, false, false] rfl rfl (any_of HT_.out (by kernel_rfl)) (fun _ _ _ h => h) (Or.inl ⟨by rfl, ?_⟩) ?_ ?_
                     rotate_left
                     ·intro w'
                      go_simp
                      with_reducible rfl
                     rotate_left
                     ·simp only [Act.put, List.setIfInBounds_toArray, List.set_cons_zero, List.set_cons_succ, i64_w, i32_w]
                      rfl
                     refine take_ (i := 3) (N := some 75) (v := ?_) (a' := ?_) #[true, true, false, true, true, true, false, false, false, false, false] rfl rfl (take_ofW HT_.out HW_.out (by kernel_rfl)) (fun _ _ _ h => h) (Or.inl ⟨by rfl, ?_⟩) hHeld ?_ ?_
                     rotate_left
                     ·rintro w' ⟨s0, s1⟩
                      go_simp
                      with_reducible rfl
                     rotate_left
                     ·simp only [Act.put, List.setIfInBounds_toArray, List.set_cons_zero, List.set_cons_succ, i64_w, i32_w]
                      rfl
                     refine one_ (i := 2) (N := some 74) #[true, true, true, true, true, true, false, false, false, false, false] rfl rfl (one_of HT_.out (by kernel_rfl)) (by decide) (fun K hK => ?_)
                     refine goes_ Try.func42 (by kernel_rfl) rfl #[.slice (some ad238) y234.length c28] (by rfl) rfl rfl (by (try simp only [List.map_toArray, List.map_cons, List.map_nil]); first | done | rfl | (simp only [List.length_drop, List.length_take]; rfl)) ?_
                     with_reducible refine (decode_Text.calls kj21 _ _ y234 t243 _ ?side1 ?side2 A35.out).mono ?_
                     (case side1 => repeat (first | exact (Kd.C_below HR237.out HB.out) | (with_reducible refine Kd.C_alloc ?_ _) | (with_reducible refine Kd.C_drewN ?_ _) | (with_reducible refine Kd.C_drew ?_)))
                     (case side2 => exact HC237.out)
                     rintro e w49 ⟨rfl, hb⟩
                     refine ⟨_, rfl, ?_⟩
                     have n0_ := Aside0.mk (Kd.R_below (by (with_reducible repeat (first | apply Kd.R_alloc | apply Kd.R_drewN | apply Kd.R_drew)); exact HO_9.out) hb)
                     have n1_ := Aside0.mk (Kd.R_below (by (with_reducible repeat (first | apply Kd.R_alloc | apply Kd.R_drewN | apply Kd.R_drew)); exact HO_18.out) hb)
                     have n2_ := Aside0.mk (Kd.R_below (by (with_reducible repeat (first | apply Kd.R_alloc | apply Kd.R_drewN | apply Kd.R_drew)); exact HO_26.out) hb)
                     have n3_ := Aside0.mk (blk_below (g := gb228) (o := .cells #[.int .i64 ((rd_T33 t224 x20_1).f0), .int .i64 ((rd_T33 t224 x20_1).f1)] 33 (0, 0)) (by (with_reducible repeat (first | refine blk_drewN ?_ _ | refine blk_drew ?_ | refine blk_alloc ?_ _)); exact BK228.out) hb)
                     have n4_ := Aside0.mk (blk_below (g := gb233) (o := .cells #[.int .i64 ((rd_T33 t229 x28_2).f0), .int .i64 ((rd_T33 t229 x28_2).f1)] 33 (0, 0)) (by (with_reducible repeat (first | refine blk_drewN ?_ _ | refine blk_drew ?_ | refine blk_alloc ?_ _)); exact BK233.out) hb)
                     have n5_ := Aside0.mk (blk_below (g := gb239) (o := .cells #[.int .i64 ((rd_T53 y234 (ji31)).f1.f0), .int .i64 ((rd_T53 y234 (ji31)).f1.f1)] 48 (0, 0)) (by (with_reducible repeat (first | refine blk_drewN ?_ _ | refine blk_drew ?_ | refine blk_alloc ?_ _)); exact BK239.out) hb)
                     have n6_ := Aside0.mk (blk_below (g := gb242) (o := .cells #[.int .i64 ((rd_T53 y234 0).f1.f0), .int .i64 (wrap64 ((wrap64 (((rd_T53 y234 (ji31)).f1.f0) + ((rd_T53 y234 (ji31)).f1.f1))) - ((rd_T53 y234 0).f1.f0)))] 48 (0, 0)) (by (with_reducible repeat (first | refine blk_drewN ?_ _ | refine blk_drew ?_ | refine blk_alloc ?_ _)); exact BK242.out) hb)
                     have n7_ := Aside0.mk (below_step (by repeat (first | (with_reducible first | exact HB.out | apply below_alloc | apply pw_below_drewN | apply below_drew1 | refine below_set ?_ GE228.out | refine below_set ?_ GE233.out | refine below_set ?_ GE239.out | refine below_set ?_ GE242.out) | exact HB.out)) hb)
                     clear HO_9
                     clear HO_18
                     clear HO_26
                     clear BK228
                     clear BK233
                     clear BK239
                     clear BK242
                     clear HB
                     have HO_9 := n0_
                     have HO_18 := n1_
                     have HO_26 := n2_
                     have BK228 := n3_
                     have BK233 := n4_
                     have BK239 := n5_
                     have BK242 := n6_
                     have HB := n7_
                     clear n0_ n1_ n2_ n3_ n4_ n5_ n6_ n7_
                     (try clear hb)
                     (try clear hb2)
                     (try clear hk)
                     (try clear hi)
                     refine hK.out _ _ ⟨(blk_cell BK242.out 0).trans rfl, (blk_cell BK242.out 1).trans rfl⟩ (fun hHeld => ?_)
                     clear hK K
                     refine norm_ (a' := ?_) ?_ ?_
                     rotate_left
                     ·show Act.put _ (some 74) _ = _
                      simp only [Act.put, List.setIfInBounds_toArray, List.set_cons_zero, List.set_cons_succ, i64_w, i32_w]
                      rfl
                     refine one_ (i := 6) (N := some 78) #[true, true, true, true, true, true, true, false, false, false, false] rfl rfl (one_of HT_.out (by kernel_rfl)) (by decide) (fun K hK => ?_)
                     refine goes_ Try.func43 (by kernel_rfl) rfl #[.slice A0 l0.length c0, .slice (some ad238) y234.length c28] (by rfl) rfl rfl (by (try simp only [List.map_toArray, List.map_cons, List.map_nil]); first | done | rfl | (simp only [List.length_drop, List.length_take]; rfl)) ?_
                     with_reducible refine (decode_Literal.calls kj21 _ _ l0 _ _ y234 t244 _ ?side1 ?side2 ?side3 ?side4 A36.out).mono ?_
                     (case side1 => repeat (first | exact (Kd.C_below HR0.out HB.out) | (with_reducible refine Kd.C_alloc ?_ _) | (with_reducible refine Kd.C_drewN ?_ _) | (with_reducible refine Kd.C_drew ?_)))
                     (case side2 => exact HC0.out)
                     (case side3 => repeat (first | exact (Kd.C_below HR237.out HB.out) | (with_reducible refine Kd.C_alloc ?_ _) | (with_reducible refine Kd.C_drewN ?_ _) | (with_reducible refine Kd.C_drew ?_)))
                     (case side4 => exact HC237.out)
                     rintro e w50 ⟨rfl, hb⟩
                     refine ⟨_, rfl, ?_⟩
                     have n0_ := Aside0.mk (Kd.R_below (by (with_reducible repeat (first | apply Kd.R_alloc | apply Kd.R_drewN | apply Kd.R_drew)); exact HO_9.out) hb)
                     have n1_ := Aside0.mk (Kd.R_below (by (with_reducible repeat (first | apply Kd.R_alloc | apply Kd.R_drewN | apply Kd.R_drew)); exact HO_18.out) hb)
                     have n2_ := Aside0.mk (Kd.R_below (by (with_reducible repeat (first | apply Kd.R_alloc | apply Kd.R_drewN | apply Kd.R_drew)); exact HO_26.out) hb)
                     have n3_ := Aside0.mk (blk_below (g := gb228) (o := .cells #[.int .i64 ((rd_T33 t224 x20_1).f0), .int .i64 ((rd_T33 t224 x20_1).f1)] 33 (0, 0)) (by (with_reducible repeat (first | refine blk_drewN ?_ _ | refine blk_drew ?_ | refine blk_alloc ?_ _)); exact BK228.out) hb)
                     have n4_ := Aside0.mk (blk_below (g := gb233) (o := .cells #[.int .i64 ((rd_T33 t229 x28_2).f0), .int .i64 ((rd_T33 t229 x28_2).f1)] 33 (0, 0)) (by (with_reducible repeat (first | refine blk_drewN ?_ _ | refine blk_drew ?_ | refine blk_alloc ?_ _)); exact BK233.out) hb)
                     have n5_ := Aside0.mk (blk_below (g := gb239) (o := .cells #[.int .i64 ((rd_T53 y234 (ji31)).f1.f0), .int .i64 ((rd_T53 y234 (ji31)).f1.f1)] 48 (0, 0)) (by (with_reducible repeat (first | refine blk_drewN ?_ _ | refine blk_drew ?_ | refine blk_alloc ?_ _)); exact BK239.out) hb)
                     have n6_ := Aside0.mk (blk_below (g := gb242) (o := .cells #[.int .i64 ((rd_T53 y234 0).f1.f0), .int .i64 (wrap64 ((wrap64 (((rd_T53 y234 (ji31)).f1.f0) + ((rd_T53 y234 (ji31)).f1.f1))) - ((rd_T53 y234 0).f1.f0)))] 48 (0, 0)) (by (with_reducible repeat (first | refine blk_drewN ?_ _ | refine blk_drew ?_ | refine blk_alloc ?_ _)); exact BK242.out) hb)
                     have n7_ := Aside0.mk (below_step (by repeat (first | (with_reducible first | exact HB.out | apply below_alloc | apply pw_below_drewN | apply below_drew1 | refine below_set ?_ GE228.out | refine below_set ?_ GE233.out | refine below_set ?_ GE239.out | refine below_set ?_ GE242.out) | exact HB.out)) hb)
                     clear HO_9
                     clear HO_18
                     clear HO_26
                     clear BK228
                     clear BK233
                     clear BK239
                     clear BK242
                     clear HB
                     have HO_9 := n0_
                     have HO_18 := n1_
                     have HO_26 := n2_
                     have BK228 := n3_
                     have BK233 := n4_
                     have BK239 := n5_
                     have BK242 := n6_
                     have HB := n7_
                     clear n0_ n1_ n2_ n3_ n4_ n5_ n6_ n7_
                     (try clear hb)
                     (try clear hb2)
                     (try clear hk)
                     (try clear hi)
                     refine hK.out _ _ ⟨(blk_cell BK242.out 0).trans rfl, (blk_cell BK242.out 1).trans rfl⟩ (fun hHeld => ?_)
                     clear hK K
                     refine norm_ (a' := ?_) ?_ ?_
                     rotate_left
                     ·show Act.put _ (some 78) _ = _
                      simp only [Act.put, List.setIfInBounds_toArray, List.set_cons_zero, List.set_cons_succ, i64_w, i32_w]
                      rfl
                     refine pure_ (i := 7) (N := some 79) (v := ?_) (a' := ?_) #[true, true, true, true, true, true, true, true, false, false, false] rfl rfl (any_of HT_.out (by kernel_rfl)) (fun _ _ _ h => h) (Or.inl ⟨by rfl, ?_⟩) ?_ ?_
                     rotate_left
                     ·intro w'
                      go_simp
                      with_reducible rfl
                     rotate_left
                     ·simp only [Act.put, List.setIfInBounds_toArray, List.set_cons_zero, List.set_cons_succ, i64_w, i32_w]
                      rfl
                     refine one_ (i := 8) (N := some 80) #[true, true, true, true, true, true, true, true, true, false, false] rfl rfl (one_of HT_.out (by kernel_rfl)) (by decide) (fun K hK => ?_)
                     refine value_ (w1 := ?_) (v := ?_) (by rfl) rfl ?_ ?_
                     rotate_left 2
                     ·go_simp
                      constructor
                      ·rfl
                      ·rfl
                     refine hK.out _ _ ⟨(blk_cell (blk_alloc BK242.out _) 0).trans rfl, (blk_cell (blk_alloc BK242.out _) 1).trans rfl⟩ (fun hHeld => ?_)
                     clear hK K
                     refine norm_ (a' := ?_) ?_ ?_
                     rotate_left
                     ·show Act.put _ (some 80) _ = _
                      simp only [Act.put, List.setIfInBounds_toArray, List.set_cons_zero, List.set_cons_succ, i64_w, i32_w]
                      rfl
                     refine one_ (i := 9) (N := some 81) #[true, true, true, true, true, true, true, true, true, true, false] rfl rfl (one_of HT_.out (by kernel_rfl)) (by decide) (fun K hK => ?_)
                     refine Kd.R_append_step k50 (w0 := w) w.heap.size (by rfl) (.tmp 72) (.tmp 80) 45 50 (.agg #[(.string ⟨#[]⟩), (.int .i64 0), (.int .i64 0), (.bool false)]) 40 rfl Try.underlying45 info50 rfl (by decide) (by omega) u9 x9_2 (⟨t243, (⟨(rd_T53 y234 0).f1.f0, wrap64 ((wrap64 (((rd_T53 y234 (ji31)).f1.f0) + ((rd_T53 y234 (ji31)).f1.f1))) - ((rd_T53 y234 0).f1.f0))⟩ : S48), t244⟩ : S50) [.string t243, .int .i64 ((rd_T53 y234 0).f1.f0), .int .i64 (wrap64 ((wrap64 (((rd_T53 y234 (ji31)).f1.f0) + ((rd_T53 y234 (ji31)).f1.f1))) - ((rd_T53 y234 0).f1.f0))), .bool t244] (fun _ => True) (fun _ => False) rfl rfl ?aP (fun _ hk => hk.elim) ?aF ?aO ?aB ?aS ?aL ?_
                     (case aP => exact k50_mkM _ _ _ (⟨t243, (⟨(rd_T53 y234 0).f1.f0, wrap64 ((wrap64 (((rd_T53 y234 (ji31)).f1.f0) + ((rd_T53 y234 (ji31)).f1.f1))) - ((rd_T53 y234 0).f1.f0))⟩ : S48), t244⟩ : S50))
                     (case aB => exact (by repeat (first | (with_reducible first | exact HB.out | apply below_alloc | apply pw_below_drewN | apply below_drew1 | refine below_set ?_ GE228.out | refine below_set ?_ GE233.out | refine below_set ?_ GE239.out | refine below_set ?_ GE242.out) | exact HB.out)))
                     (case aF => exact (fun _ _ => trivial))
                     (case aO => exact (by (with_reducible repeat (first | apply Kd.R_alloc | apply Kd.R_drewN | apply Kd.R_drew)); exact HO_9.out))
                     (case aS => exact (below_size (by repeat (first | (with_reducible first | exact HB.out | apply below_alloc | apply pw_below_drewN | apply below_drew1 | refine below_set ?_ GE228.out | refine below_set ?_ GE233.out | refine below_set ?_ GE239.out | refine below_set ?_ GE242.out) | exact HB.out))))
                     (case aL => have := LMc37.out; omega)
                     intro v246 w51 ho hb hg hat
                     rw [← Ny245.out] at ho
                     have n0_ := Aside0.mk (Kd.R_over' (by (with_reducible repeat (first | apply Kd.R_alloc | apply Kd.R_drewN | apply Kd.R_drew)); exact HO_18.out) (Kd.R_typed (by (with_reducible repeat (first | apply Kd.R_alloc | apply Kd.R_drewN | apply Kd.R_drew)); exact HO_9.out)) (by decide) hg)
                     have n1_ := Aside0.mk (Kd.R_over' (by (with_reducible repeat (first | apply Kd.R_alloc | apply Kd.R_drewN | apply Kd.R_drew)); exact HO_26.out) (Kd.R_typed (by (with_reducible repeat (first | apply Kd.R_alloc | apply Kd.R_drewN | apply Kd.R_drew)); exact HO_9.out)) (by decide) hg)
                     have n2_ := Aside0.mk (blk_grown (g := gb228) (o := .cells #[.int .i64 ((rd_T33 t224 x20_1).f0), .int .i64 ((rd_T33 t224 x20_1).f1)] 33 (0, 0)) (by (with_reducible repeat (first | refine blk_drewN ?_ _ | refine blk_drew ?_ | refine blk_alloc ?_ _)); exact BK228.out) hg (Kd.R_ne HO_9.out BK228.out (by decide)))
                     have n3_ := Aside0.mk (blk_grown (g := gb233) (o := .cells #[.int .i64 ((rd_T33 t229 x28_2).f0), .int .i64 ((rd_T33 t229 x28_2).f1)] 33 (0, 0)) (by (with_reducible repeat (first | refine blk_drewN ?_ _ | refine blk_drew ?_ | refine blk_alloc ?_ _)); exact BK233.out) hg (Kd.R_ne HO_9.out BK233.out (by decide)))
                     have n4_ := Aside0.mk (blk_grown (g := gb239) (o := .cells #[.int .i64 ((rd_T53 y234 (ji31)).f1.f0), .int .i64 ((rd_T53 y234 (ji31)).f1.f1)] 48 (0, 0)) (by (with_reducible repeat (first | refine blk_drewN ?_ _ | refine blk_drew ?_ | refine blk_alloc ?_ _)); exact BK239.out) hg (Kd.R_ne HO_9.out BK239.out (by decide)))
                     have n5_ := Aside0.mk (blk_grown (g := gb242) (o := .cells #[.int .i64 ((rd_T53 y234 0).f1.f0), .int .i64 (wrap64 ((wrap64 (((rd_T53 y234 (ji31)).f1.f0) + ((rd_T53 y234 (ji31)).f1.f1))) - ((rd_T53 y234 0).f1.f0)))] 48 (0, 0)) (by (with_reducible repeat (first | refine blk_drewN ?_ _ | refine blk_drew ?_ | refine blk_alloc ?_ _)); exact BK242.out) hg (Kd.R_ne HO_9.out BK242.out (by decide)))
                     have n6_ := Aside0.mk (hb)
                     have n7_ := Aside0.mk (ho)
                     clear HO_18
                     clear HO_26
                     clear BK228
                     clear BK233
                     clear BK239
                     clear BK242
                     clear HB
                     clear HO_9
                     have HO_18 := n0_
                     have HO_26 := n1_
                     have BK228 := n2_
                     have BK233 := n3_
                     have BK239 := n4_
                     have BK242 := n5_
                     have HB := n6_
                     have HO247 := n7_
                     clear n0_ n1_ n2_ n3_ n4_ n5_ n6_ n7_
                     clear ho hb hg hat
                     refine hK.out _ _ ⟨(blk_cell BK242.out 0).trans rfl, (blk_cell BK242.out 1).trans rfl⟩ (fun hHeld => ?_)
                     clear hK K
                     refine norm_ (a' := ?_) ?_ ?_
                     rotate_left
                     ·show Act.put _ (some 81) _ = _
                      simp only [Act.put, List.setIfInBounds_toArray, List.set_cons_zero, List.set_cons_succ, i64_w, i32_w]
                      rfl
                     refine pure_ (i := 10) (N := some 9) (v := ?_) (a' := ?_) #[true, true, true, true, true, true, true, true, true, true, true] rfl rfl (any_of HT_.out (by kernel_rfl)) (fun _ _ _ h => h) (Or.inl ⟨by rfl, ?_⟩) ?_ ?_
                     rotate_left
                     ·intro w'
                      go_simp
                      with_reducible rfl
                     rotate_left
                     ·simp only [Act.put, List.setIfInBounds_toArray, List.set_cons_zero, List.set_cons_succ, i64_w, i32_w]
                      rfl
                     refine done_ (done_of HT_.out (by kernel_rfl)) ?_
                     try go_wp2
                     go_roundg kj21
                     case measure => have := HK1.out; have := HK2.out; have := HJ21.out; omega
                     case rel => exact ⟨(y245), (wrap64 (x28_2 + 1)), (by first | rfl | (simp; done) | (simp [*]; done)), H', ⟨by have := HK1.out; have := HK2.out; have := HJ21.out; omega⟩, ⟨by (with_reducible repeat (first | apply Kd.R_alloc | apply Kd.R_drewN | apply Kd.R_drew)); exact HO247.out⟩, ⟨by (with_reducible repeat (first | apply Kd.R_alloc | apply Kd.R_drewN | apply Kd.R_drew)); exact Kd.R_mono HO_18.out (fun _ hk => ⟨hk.1, hk.2.1⟩)⟩, ⟨by (with_reducible repeat (first | apply Kd.R_alloc | apply Kd.R_drewN | apply Kd.R_drew)); exact Kd.R_mono HO_26.out (fun _ hk => ⟨hk.1, hk.2.1⟩)⟩, ⟨by (with_reducible repeat (first | refine blk_drewN ?_ _ | refine blk_drew ?_ | refine blk_alloc ?_ _)); exact BK228.out⟩, ⟨by repeat (first | (with_reducible first | exact HB.out | apply below_alloc | apply pw_below_drewN | apply below_drew1 | refine below_set ?_ GE228.out | refine below_set ?_ GE233.out | refine below_set ?_ GE239.out | refine below_set ?_ GE242.out) | exact HB.out)⟩⟩
                    ·rw [if_neg c37] at H
                     exact absurd H (by simp)
                   ·rw [if_neg c34] at H
                    exact absurd H (by simp)
                  ·rw [if_neg c33] at H
                   exact absurd H (by simp)
                 ·rw [if_neg c32] at H
                  exact absurd H (by simp)
             ·rw [if_neg c21] at H
              exact absurd H (by simp)
            ·rw [if_neg c20] at H
             exact absurd H (by simp)
           ·rw [if_neg c19] at H
            exact absurd H (by simp)
          ·rw [if_neg c18] at H
           exact absurd H (by simp)
         ·rw [if_neg c17] at H
          exact absurd H (by simp)
        ·rw [if_neg c16] at H
         have c16b0 : decide (x28_2 < (t229.length : Int)) = false := decide_eq_false c16
         clear c16
         have H' := Aside0.mk H
         clear H
         go_wp2
         go_roundg k2
         case measure => have := HK1.out; have := HK2.out; omega
         case rel => exact ⟨(x9_2), (wrap64 (x20_1 + 1)), (by first | rfl | (simp; done) | (simp [*]; done)), H', ⟨by have := HK1.out; have := HK2.out; omega⟩, ⟨by (with_reducible repeat (first | apply Kd.R_alloc | apply Kd.R_drewN | apply Kd.R_drew)); exact HO_9.out⟩, ⟨by (with_reducible repeat (first | apply Kd.R_alloc | apply Kd.R_drewN | apply Kd.R_drew)); exact Kd.R_mono HO_18.out (fun _ hk => trivial)⟩, ⟨by repeat (first | (with_reducible first | exact HB.out | apply below_alloc | apply pw_below_drewN | apply below_drew1 | refine below_set ?_ GE228.out) | exact HB.out)⟩⟩
     ·rw [if_neg c10] at H
      exact absurd H (by simp)
    ·rw [if_neg c9] at H
     exact absurd H (by simp)
   ·rw [if_neg c8] at H
    have c8b0 : decide (x20_1 < (t224.length : Int)) = false := decide_eq_false c8
    clear c8
    obtain rfl := Option.some.inj H
    go_wp2
    go_ret
    exact ⟨_, by first | rfl | (simp [errW_none, errW_some] <;> rfl) | (simp [*, errW_none, errW_some] <;> rfl), by (with_reducible repeat (first | apply Kd.R_alloc | apply Kd.R_drewN | apply Kd.R_drew)); exact HO_9.out, by repeat (first | (with_reducible first | exact HB.out | apply below_alloc | apply pw_below_drewN | apply below_drew1) | exact HB.out)⟩

end Go.Proofs.Ytmnohlmdckcdeaa.PTokenCases
