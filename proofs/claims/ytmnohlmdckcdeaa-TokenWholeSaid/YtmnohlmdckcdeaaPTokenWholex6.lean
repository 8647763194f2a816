-- Laid by a program of ours (the kit's print with words and contracts of our own beside it).
import Derived.Test.YtmnohlmdckcdeaaPTokenWholex0
import Derived.Test.YtmnohlmdckcdeaaPTokenWholex2
import Derived.Test.YtmnohlmdckcdeaaPTokenWholex3
import Derived.Test.YtmnohlmdckcdeaaPTokenWholex4
import Derived.Test.YtmnohlmdckcdeaaPTokenWholex5
namespace Go.Proofs.Ytmnohlmdckcdeaa.PTokenWhole
open Go.RowKit Go.Proofs.Ytmnohlmdckcdeaa.X Go.Proofs.YtmnohlmdckcdeaaW.PrintWords Go.Proofs.YtmnohlmdckcdeaaW.PrintLast Go.Proofs.YtmnohlmdckcdeaaW.PrintMore
attribute [local go_sem] max2_int min2_int max_two min_two max_three min_three max_four min_four   -- for this text's walks alone
set_option linter.unusedVariables false
set_option linter.unusedSimpArgs false

/-! ### token_Words: function 32 -/
mutual
def token_Words.l0 : Nat → List Int → List (S53) → Int → Int → List (S50) → List (S33) → Int → Int → Option ((List (S50)))
 | 0, _, _, _, _, _, _, _, _ => none
 | k + 1, x0, x1, x2, x3, x9, x18, x19, x20 => if x20 < x19 then (if 0 ≤ x20 then (if x20 < (x18.length : Int) then ((token_Split.f k x1 ((rd_T33 x18 x20).f0) ((rd_T33 x18 x20).f1)).bind fun t194 => (token_Words.l1 k x0 x1 x2 x3 x9 x18 x19 x20 t194 (t194.length : Int) 0)) else (none)) else (none)) else (some x9)
def token_Words.l1 : Nat → List Int → List (S53) → Int → Int → List (S50) → List (S33) → Int → Int → List (S33) → Int → Int → Option ((List (S50)))
 | 0, _, _, _, _, _, _, _, _, _, _, _ => none
 | k + 1, x0, x1, x2, x3, x9, x18, x19, x20, x26, x27, x28 => if x28 < x27 then (if 0 ≤ x28 then (if x28 < (x26.length : Int) then (if 0 ≤ ((rd_T33 x26 x28).f0) then (if ((rd_T33 x26 x28).f0) ≤ ((rd_T33 x26 x28).f1) then (if ((rd_T33 x26 x28).f1) ≤ (x1.length : Int) then ((some ((x1.take (((rd_T33 x26 x28).f1) : Int).toNat).drop (((rd_T33 x26 x28).f0) : Int).toNat : List (S53))).bind fun y199 => (if (y199.length : Int) < x2 then (token_Words.j2 k x0 x1 x2 x3 x9 y199 x18 x19 x20 x26 x27 x28 true) else (token_Words.j2 k x0 x1 x2 x3 x9 y199 x18 x19 x20 x26 x27 x28 (decide ((y199.length : Int) > x3))))) else (none)) else (none)) else (none)) else (none)) else (none)) else (token_Words.l0 k x0 x1 x2 x3 x9 x18 x19 (wrap64 (x20 + 1)))
def token_Words.j2 : Nat → List Int → List (S53) → Int → Int → List (S50) → List (S53) → List (S33) → Int → Int → List (S33) → Int → Int → Bool → Option ((List (S50)))
 | 0, _, _, _, _, _, _, _, _, _, _, _, _, _ => none
 | k + 1, x0, x1, x2, x3, x9, x14, x18, x19, x20, x26, x27, x28, x47 => if x47 = true then (token_Words.l1 k x0 x1 x2 x3 x9 x18 x19 x20 x26 x27 (wrap64 (x28 + 1))) else (if 0 ≤ (wrap64 ((x14.length : Int) - 1)) then (if (wrap64 ((x14.length : Int) - 1)) < (x14.length : Int) then (if 0 < (x14.length : Int) then ((decode_Text.f k x14).bind fun t208 => ((decode_Literal.f k x0 x14).bind fun t209 => (if x9.length < 3518437208883 then (token_Words.l1 k x0 x1 x2 x3 (x9 ++ [(⟨t208, (⟨(rd_T53 x14 0).f1.f0, wrap64 ((wrap64 (((rd_T53 x14 (wrap64 ((x14.length : Int) - 1))).f1.f0) + ((rd_T53 x14 (wrap64 ((x14.length : Int) - 1))).f1.f1))) - ((rd_T53 x14 0).f1.f0))⟩ : S48), t209⟩ : S50)]) x18 x19 x20 x26 x27 (wrap64 (x28 + 1))) else (none)))) else (none)) else (none)) else (none))
end
def token_Words.f (k : Nat) (l0 : List Int) (l1 : List (S53)) (a2 : Int) (a3 : Int) : Option ((List (S50))) := (token_Runs.f k l1).bind fun t189 => (token_Words.l0 k l0 l1 a2 a3 ([] : List (S50)) t189 (t189.length : Int) 0)
theorem token_Words.mono_l : ∀ k, (∀ y0 y1 y2 y3 y4 y5 y6 y7, LeO (token_Words.l0 k y0 y1 y2 y3 y4 y5 y6 y7) (token_Words.l0 (k + 1) y0 y1 y2 y3 y4 y5 y6 y7)) ∧ (∀ y0 y1 y2 y3 y4 y5 y6 y7 y8 y9 y10, LeO (token_Words.l1 k y0 y1 y2 y3 y4 y5 y6 y7 y8 y9 y10) (token_Words.l1 (k + 1) y0 y1 y2 y3 y4 y5 y6 y7 y8 y9 y10)) ∧ (∀ y0 y1 y2 y3 y4 y5 y6 y7 y8 y9 y10 y11 y12, LeO (token_Words.j2 k y0 y1 y2 y3 y4 y5 y6 y7 y8 y9 y10 y11 y12) (token_Words.j2 (k + 1) y0 y1 y2 y3 y4 y5 y6 y7 y8 y9 y10 y11 y12))
 | 0 => ⟨fun _ _ _ _ _ _ _ _ r h => by simp [token_Words.l0] at h, fun _ _ _ _ _ _ _ _ _ _ _ r h => by simp [token_Words.l1] at h, fun _ _ _ _ _ _ _ _ _ _ _ _ _ r h => by simp [token_Words.j2] at h⟩
 | k + 1 => by
  obtain ⟨ih0, ih1, ih2⟩ := token_Words.mono_l k
  refine ⟨?_, ?_, ?_⟩
  ·intro y0 y1 y2 y3 y4 y5 y6 y7
   unfold token_Words.l0
   repeat' first
   | (with_reducible exact ih0 _ _ _ _ _ _ _ _)
   | (with_reducible exact ih1 _ _ _ _ _ _ _ _ _ _ _)
   | (with_reducible exact ih2 _ _ _ _ _ _ _ _ _ _ _ _ _)
   | (with_reducible exact decode_Literal.mono _ _ _)
   | (with_reducible exact decode_Text.mono _ _)
   | (with_reducible exact token_Runs.mono _ _)
   | (with_reducible exact token_Split.mono _ _ _ _)
   | (with_reducible exact LeO.refl _)
   | (with_reducible exact LeO.none _)
   | (with_reducible refine LeO.ite ?_ ?_)
   | (with_reducible refine LeO.bind ?_ (fun _ => ?_))
   | exact ih0 _ _ _ _ _ _ _ _
   | exact ih1 _ _ _ _ _ _ _ _ _ _ _
   | exact ih2 _ _ _ _ _ _ _ _ _ _ _ _ _
   | exact decode_Literal.mono _ _ _
   | exact decode_Text.mono _ _
   | exact token_Runs.mono _ _
   | exact token_Split.mono _ _ _ _
   | exact LeO.none _
   | refine LeO.ite ?_ ?_
   | refine LeO.bind ?_ (fun _ => ?_)
  ·intro y0 y1 y2 y3 y4 y5 y6 y7 y8 y9 y10
   unfold token_Words.l1
   repeat' first
   | (with_reducible exact ih0 _ _ _ _ _ _ _ _)
   | (with_reducible exact ih1 _ _ _ _ _ _ _ _ _ _ _)
   | (with_reducible exact ih2 _ _ _ _ _ _ _ _ _ _ _ _ _)
   | (with_reducible exact decode_Literal.mono _ _ _)
   | (with_reducible exact decode_Text.mono _ _)
   | (with_reducible exact token_Runs.mono _ _)
   | (with_reducible exact token_Split.mono _ _ _ _)
   | (with_reducible exact LeO.refl _)
   | (with_reducible exact LeO.none _)
   | (with_reducible refine LeO.ite ?_ ?_)
   | (with_reducible refine LeO.bind ?_ (fun _ => ?_))
   | exact ih0 _ _ _ _ _ _ _ _
   | exact ih1 _ _ _ _ _ _ _ _ _ _ _
   | exact ih2 _ _ _ _ _ _ _ _ _ _ _ _ _
   | exact decode_Literal.mono _ _ _
   | exact decode_Text.mono _ _
   | exact token_Runs.mono _ _
   | exact token_Split.mono _ _ _ _
   | exact LeO.none _
   | refine LeO.ite ?_ ?_
   | refine LeO.bind ?_ (fun _ => ?_)
  ·intro y0 y1 y2 y3 y4 y5 y6 y7 y8 y9 y10 y11 y12
   unfold token_Words.j2
   repeat' first
   | (with_reducible exact ih0 _ _ _ _ _ _ _ _)
   | (with_reducible exact ih1 _ _ _ _ _ _ _ _ _ _ _)
   | (with_reducible exact ih2 _ _ _ _ _ _ _ _ _ _ _ _ _)
   | (with_reducible exact decode_Literal.mono _ _ _)
   | (with_reducible exact decode_Text.mono _ _)
   | (with_reducible exact token_Runs.mono _ _)
   | (with_reducible exact token_Split.mono _ _ _ _)
   | (with_reducible exact LeO.refl _)
   | (with_reducible exact LeO.none _)
   | (with_reducible refine LeO.ite ?_ ?_)
   | (with_reducible refine LeO.bind ?_ (fun _ => ?_))
   | exact ih0 _ _ _ _ _ _ _ _
   | exact ih1 _ _ _ _ _ _ _ _ _ _ _
   | exact ih2 _ _ _ _ _ _ _ _ _ _ _ _ _
   | exact decode_Literal.mono _ _ _
   | exact decode_Text.mono _ _
   | exact token_Runs.mono _ _
   | exact token_Split.mono _ _ _ _
   | exact LeO.none _
   | refine LeO.ite ?_ ?_
   | refine LeO.bind ?_ (fun _ => ?_)
theorem token_Words.mono : ∀ a0 a1 a2 a3 k, LeO (token_Words.f k a0 a1 a2 a3) (token_Words.f (k + 1) a0 a1 a2 a3) := by
 intro a0 a1 a2 a3 k
 obtain ⟨ih0, ih1, ih2⟩ := token_Words.mono_l k
 unfold token_Words.f
 repeat' first
   | (with_reducible exact ih0 _ _ _ _ _ _ _ _)
   | (with_reducible exact ih1 _ _ _ _ _ _ _ _ _ _ _)
   | (with_reducible exact ih2 _ _ _ _ _ _ _ _ _ _ _ _ _)
   | (with_reducible exact decode_Literal.mono _ _ _)
   | (with_reducible exact decode_Text.mono _ _)
   | (with_reducible exact token_Runs.mono _ _)
   | (with_reducible exact token_Split.mono _ _ _ _)
   | (with_reducible exact LeO.refl _)
   | (with_reducible exact LeO.none _)
   | (with_reducible refine LeO.ite ?_ ?_)
   | (with_reducible refine LeO.bind ?_ (fun _ => ?_))
   | exact ih0 _ _ _ _ _ _ _ _
   | exact ih1 _ _ _ _ _ _ _ _ _ _ _
   | exact ih2 _ _ _ _ _ _ _ _ _ _ _ _ _
   | exact decode_Literal.mono _ _ _
   | exact decode_Text.mono _ _
   | exact token_Runs.mono _ _
   | exact token_Split.mono _ _ _ _
   | exact LeO.none _
   | refine LeO.ite ?_ ?_
   | refine LeO.bind ?_ (fun _ => ?_)
def token_Words.T11 : Bool × List (List Nat × List Nat) := (true, [([], []), ([0], [0]), ([1], [1]), ([2], [2]), ([3], [3]), ([], []), ([5], [5]), ([], []), ([7], [7]), ([6, 8], [6, 8]), ([], []), ([10], [10]), ([11], [11]), ([12], [12]), ([13], [13]), ([9, 14], [9, 14]), ([4, 15], [4, 15]), ([], []), ([17, 16, 0, 1, 2, 3, 4, 5, 6, 7, 8, 9, 10, 11, 12, 13, 14, 15, 16, 17], [16, 17])])
def token_Words.B11 : List Nat := [0, 1, 3, 7, 15, 0, 32, 0, 128, 480, 0, 1024, 3072, 7168, 15360, 32736, 65535, 0, 262143]
theorem token_Words.tab11 : rtab .any (opsOf Try.f32 11) = token_Words.T11 := by kernel_rfl
theorem token_Words.bits11 : waitsOk token_Words.T11.2 token_Words.B11 = true := by kernel_rfl
def token_Words.T12 : Bool × List (List Nat × List Nat) := (true, [([], []), ([], []), ([1], [1]), ([], []), ([], []), ([], []), ([4, 5, 2], [4, 5]), ([2, 3, 6], [2, 3, 6]), ([7], [7]), ([0, 8, 6], [0, 8]), ([9, 9, 0, 1, 2, 3, 4, 5, 6, 7, 8, 9], [0, 9])])
def token_Words.B12 : List Nat := [0, 0, 2, 0, 0, 0, 54, 126, 254, 511, 1023]
theorem token_Words.tab12 : rtab .any (opsOf Try.f32 12) = token_Words.T12 := by kernel_rfl
theorem token_Words.bits12 : waitsOk token_Words.T12.2 token_Words.B12 = true := by kernel_rfl
set_option maxHeartbeats 8000000 in
set_option maxRecDepth 100000 in
theorem token_Words.calls (k : Nat) (A0 : Option Addr) (c0 : Nat) (l0 : List Int) (A1 : Option Addr) (c1 : Nat) (l1 : List (S53)) (a2 : Int) (a3 : Int) (r : List (S50)) (w : World) (hr0 : Kd.C (Kd.int .u8) w A0 l0.length l0) (hc0 : l0.length ≤ c0) (hr1 : Kd.C k53 w A1 l1.length l1) (hc1 : l1.length ≤ c1) (h : token_Words.f k l0 l1 a2 a3 = some r) :
  Calls Try.prog 32 #[.slice A0 l0.length c0, .slice A1 l1.length c1, .int .i64 a2, .int .i64 a3] w fun e w' => ∃ v0_ : Value, e = .returned (v0_) ∧ Kd.R k50 50 w' w.heap.size (fun _ => True) v0_ r ∧ Below w.heap.size w w' := by
 have hu33 := Try.underlying33
 have hu48 := Try.underlying48
 have hu50 := Try.underlying50
 have HR0 := Aside0.mk hr0
 have HC0 := Aside0.mk hc0
 clear hr0 hc0
 have HR1 := Aside0.mk hr1
 have HC1 := Aside0.mk hc1
 clear hr1 hc1
 have HB := Aside0.mk (Below.refl w.heap.size w)
 have H : ((token_Runs.f k l1).bind fun t189 => (token_Words.l0 k l0 l1 a2 a3 ([] : List (S50)) t189 (t189.length : Int) 0)) = some r := h
 clear h
 replace H := Option.bind_eq_some_iff.mp H
 obtain ⟨t189, A50, H⟩ := H
 replace H : (token_Words.l0 k l0 l1 a2 a3 ([] : List (S50)) t189 (t189.length : Int) 0) = some r := H
 have A5 := Aside0.mk A50
 clear A50
 have H' := Aside0.mk H
 clear H
 go_enter Try.func32, Try.ntmps32
 go_wp2_with (first | ((with_reducible refine gate_callee (f := 27) rfl ?_); refine goesL_ (some 18) rfl rfl Try.func27 (by kernel_rfl) rfl #[.slice A1 l1.length c1] rfl (by (try simp only [List.map_toArray, List.map_cons, List.map_nil]); first | done | rfl | (simp only [List.length_drop, List.length_take]; rfl)) ?_; (with_reducible refine (token_Runs.calls k _ _ l1 t189 _ ?side1 ?side2 A5.out).mono ?_); (case side1 => repeat (first | exact HR1.out | (with_reducible refine Kd.C_alloc ?_ _) | (with_reducible refine Kd.C_drewN ?_ _) | (with_reducible refine Kd.C_drew ?_))); (case side2 => exact HC1.out); rintro e w6 ⟨v190, rfl, ho0, hb⟩; refine ⟨_, rfl, ?_⟩; have n0_ := Aside0.mk (Kd.R_lower ho0 (below_size (by repeat (first | (with_reducible first | exact HB.out | apply below_alloc | apply pw_below_drewN | apply below_drew1) | exact HB.out)))); have n1_ := Aside0.mk (below_step (by repeat (first | (with_reducible first | exact HB.out | apply below_alloc | apply pw_below_drewN | apply below_drew1) | exact HB.out)) hb); clear HB; have HO191 := n0_; have HB := n1_; clear n0_ n1_; (try clear hb); (try clear hb2); (try clear hk); (try clear hi); (try clear ho0); obtain ⟨Ao7, co7, eo7⟩ := Kd.R_slice HO191.out; subst eo7))
 go_loopg [9, 20] k (fun kq v9 v20 w' => ∃ (x9_1 : List (S50)) (x20_1 : Int), v20 = .int .i64 x20_1 ∧ Aside0 (token_Words.l0 kq l0 l1 a2 a3 x9_1 t189 (t189.length : Int) x20_1 = some r) ∧ Aside0 (kq ≤ k) ∧ Aside0 (Kd.R k50 50 w' w.heap.size (fun _ => True) v9 x9_1) ∧ Aside0 (Kd.R k33 33 w' w.heap.size (fun _ => True) (.slice Ao7 t189.length co7) t189) ∧ Aside0 (Below w.heap.size w w'))
 case atStart => exact ⟨(([] : List (S50))), (0), (by first | rfl | (simp; done) | (simp [*]; done)), H', ⟨Nat.le_refl _⟩, ⟨by first | exact Kd.R_nil _ _ _ _ _ | exact Kd.N_nil _ _ _ _ _ | exact Kd.V_nil _ _ _ _ _ | exact Kd.Q_nil _ _ _ _ _ | exact Kd.S_nil _ _ _ _ _⟩, ⟨by (with_reducible repeat (first | apply Kd.R_alloc | apply Kd.R_drewN | apply Kd.R_drew)); exact HO191.out⟩, ⟨by repeat (first | (with_reducible first | exact HB.out | apply below_alloc | apply pw_below_drewN | apply below_drew1) | exact HB.out)⟩⟩
 case round =>
  clear H'
  try clear c1
  try clear c2
  try clear p2
  try clear c3
  obtain ⟨x9_1, x20_1, rfl, HA, HK1, HO_9, HO_18, HB⟩ := hrel
  cases gk with
  | zero => exact absurd HA.out (by simp [token_Words.l0])
  | succ k1 =>
   have H := HA.out
   clear HA
   simp only [token_Words.l0] at H
   by_cases c8 : x20_1 < (t189.length : Int)
   ·rw [if_pos c8] at H
    have c8b0 : decide (x20_1 < (t189.length : Int)) = true := decide_eq_true c8
    clear c8
    by_cases c9 : 0 ≤ x20_1
    ·rw [if_pos c9] at H
     have c9b0 : decide (0 ≤ x20_1) = true := decide_eq_true c9
     clear c9
     by_cases c10 : x20_1 < (t189.length : Int)
     ·rw [if_pos c10] at H
      have c10b0 : decide (x20_1 < (t189.length : Int)) = true := decide_eq_true c10
      clear c10
      replace H := Option.bind_eq_some_iff.mp H
      obtain ⟨t194, A110, H⟩ := H
      replace H : (token_Words.l1 k1 l0 l1 a2 a3 x9_1 t189 (t189.length : Int) x20_1 t194 (t194.length : Int) 0) = some r := H
      have A11 := Aside0.mk A110
      clear A110
      have H' := Aside0.mk H
      clear H
      have p192 : 0 ≤ (x20_1 : Int) := of_decide_eq_true (by first | (with_reducible assumption) | assumption)
      have q192 : x20_1 < (t189.length : Int) := of_decide_eq_true (by first | (with_reducible assumption) | assumption)
      obtain ⟨ad192, e192, hx192_0, hx192_1⟩ := at_T33 (Kd.R_reads' HO_18.out).2.2 x20_1 p192 q192
      cases e192
      replace p192 := eq_true p192
      replace q192 := eq_true q192
      go_wp2_with (first | ((with_reducible refine gate_dst (N := 11) rfl ?_); (try (refine gate_guard (by rfl) ?_; dsimp only)); refine box_event ?hg (N := 11) ?hd (cs := #[.int .i64 0, .int .i64 0]) (t := 33) ?hr ?_; (case hd => rfl); (case hg => rfl); (case hr => first | (go_simp; done) | (go_simp; rfl)); intro gb193 hg w12 hbox hb; have n0_ := Aside0.mk (Kd.R_below (by (with_reducible repeat (first | apply Kd.R_alloc | apply Kd.R_drewN | apply Kd.R_drew)); exact HO_9.out) hb); have n1_ := Aside0.mk (Kd.R_below (Kd.R_elderB (by (with_reducible repeat (first | apply Kd.R_alloc | apply Kd.R_drewN | apply Kd.R_drew)); exact HO_18.out) gb193 (Nat.le_of_eq hg.symm)) hb); have n2_ := Aside0.mk (below_step (by repeat (first | (with_reducible first | exact HB.out | apply below_alloc | apply pw_below_drewN | apply below_drew1) | exact HB.out)) hb); have n3_ := Aside0.mk (hbox); have n4_ := Aside0.mk ((by rw [hg]; exact (below_size (by repeat (first | (with_reducible first | exact HB.out | apply below_alloc | apply pw_below_drewN | apply below_drew1) | exact HB.out))) : w.heap.size ≤ gb193)); have n5_ := Aside0.mk ((by rw [hg]; exact (below_size (by repeat (first | (with_reducible first | exact HB.out | apply below_alloc | apply pw_below_drewN | apply below_drew1) | exact HB.out))) : w.heap.size ≤ gb193)); clear HO_9; clear HO_18; clear HB; have HO_9 := n0_; have HO_18 := n1_; have HB := n2_; have BK193 := n3_; have GW193 := n4_; have GE193 := n5_; clear n0_ n1_ n2_ n3_ n4_ n5_; clear hb hbox hg; have hcz13_0 : w12.cell? ⟨gb193, 0, none⟩ = some (.int .i64 0) := (blk_cell BK193.out 0).trans rfl; have hcz13_1 : w12.cell? ⟨gb193, 1, none⟩ = some (.int .i64 0) := (blk_cell BK193.out 1).trans rfl; have hfz13_0 := blk_frozen BK193.out 0; have hfz13_1 := blk_frozen BK193.out 1) | ((with_reducible refine gate_callee (f := 30) rfl ?_); refine goesL_ (some 26) rfl rfl Try.func30 (by kernel_rfl) rfl #[.slice A1 l1.length c1, .agg #[.int .i64 ((rd_T33 t189 x20_1).f0), .int .i64 ((rd_T33 t189 x20_1).f1)]] rfl (by (try simp only [List.map_toArray, List.map_cons, List.map_nil]); first | done | rfl | (simp only [List.length_drop, List.length_take]; rfl)) ?_; (with_reducible refine (token_Split.calls k1 _ _ l1 ((rd_T33 t189 x20_1).f0) ((rd_T33 t189 x20_1).f1) t194 _ ?side1 ?side2 A11.out).mono ?_); (case side1 => exact Kd.C_below HR1.out (by repeat (first | (with_reducible first | exact HB.out | apply below_alloc | apply pw_below_drewN | apply below_drew1 | refine below_set ?_ GE193.out) | exact HB.out))); (case side2 => exact HC1.out); rintro e w14 ⟨v195, rfl, ho0, hb⟩; refine ⟨_, rfl, ?_⟩; have n0_ := Aside0.mk (Kd.R_below (by (with_reducible repeat (first | apply Kd.R_alloc | apply Kd.R_drewN | apply Kd.R_drew)); exact (Kd.R_mono (Kd.R_far (p := ⟨gb193, 1, none⟩) (Kd.R_far (p := ⟨gb193, 0, none⟩) (Kd.R_types HO_9.out BK193.out (by decide)) (fun _ hk => hk.2) (.int .i64 ((rd_T33 t189 x20_1).f0))) (fun _ hk => hk.2) (.int .i64 ((rd_T33 t189 x20_1).f1))) (fun _ h_ => h_.1))) hb); have n1_ := Aside0.mk (Kd.R_elder' (by (with_reducible repeat (first | apply Kd.R_alloc | apply Kd.R_drewN | apply Kd.R_drew)); exact (Kd.R_mono (Kd.R_far (p := ⟨gb193, 1, none⟩) (Kd.R_far (p := ⟨gb193, 0, none⟩) (Kd.R_mono HO_18.out (fun k_ hk => (⟨hk, hk.2⟩ : _ ∧ k_ ≠ gb193))) (fun _ hk => hk.2) (.int .i64 ((rd_T33 t189 x20_1).f0))) (fun _ hk => hk.2) (.int .i64 ((rd_T33 t189 x20_1).f1))) (fun _ h_ => h_.1))) (Kd.R_base ho0) hb); have n2_ := Aside0.mk (Kd.R_lower (Kd.R_newB (Kd.R_new' ho0 (Kd.R_lt (by (with_reducible repeat (first | apply Kd.R_alloc | apply Kd.R_drewN | apply Kd.R_drew)); exact (Kd.R_mono (Kd.R_far (p := ⟨gb193, 1, none⟩) (Kd.R_far (p := ⟨gb193, 0, none⟩) (Kd.R_mono HO_18.out (fun k_ hk => (⟨hk, hk.2⟩ : _ ∧ k_ ≠ gb193))) (fun _ hk => hk.2) (.int .i64 ((rd_T33 t189 x20_1).f0))) (fun _ hk => hk.2) (.int .i64 ((rd_T33 t189 x20_1).f1))) (fun _ h_ => h_.1))))) (g := gb193) (o := .cells #[.int .i64 ((rd_T33 t189 x20_1).f0), .int .i64 ((rd_T33 t189 x20_1).f1)] 33 (0, 0)) (by (with_reducible repeat (first | refine blk_drewN ?_ _ | refine blk_drew ?_ | refine blk_alloc ?_ _)); refine blk_put (cs := #[.int .i64 ((rd_T33 t189 x20_1).f0), .int .i64 0]) ?_ 1 _ rfl; (with_reducible repeat (first | refine blk_drewN ?_ _ | refine blk_drew ?_ | refine blk_alloc ?_ _)); refine blk_put (cs := #[.int .i64 0, .int .i64 0]) ?_ 0 _ rfl; (with_reducible repeat (first | refine blk_drewN ?_ _ | refine blk_drew ?_ | refine blk_alloc ?_ _)); exact BK193.out)) (below_size (by repeat (first | (with_reducible first | exact HB.out | apply below_alloc | apply pw_below_drewN | apply below_drew1 | refine below_set ?_ GE193.out) | exact HB.out)))); have n3_ := Aside0.mk (blk_below (g := gb193) (o := .cells #[.int .i64 ((rd_T33 t189 x20_1).f0), .int .i64 ((rd_T33 t189 x20_1).f1)] 33 (0, 0)) (by (with_reducible repeat (first | refine blk_drewN ?_ _ | refine blk_drew ?_ | refine blk_alloc ?_ _)); refine blk_put (cs := #[.int .i64 ((rd_T33 t189 x20_1).f0), .int .i64 0]) ?_ 1 _ rfl; (with_reducible repeat (first | refine blk_drewN ?_ _ | refine blk_drew ?_ | refine blk_alloc ?_ _)); refine blk_put (cs := #[.int .i64 0, .int .i64 0]) ?_ 0 _ rfl; (with_reducible repeat (first | refine blk_drewN ?_ _ | refine blk_drew ?_ | refine blk_alloc ?_ _)); exact BK193.out) hb); have n4_ := Aside0.mk (below_step (by repeat (first | (with_reducible first | exact HB.out | apply below_alloc | apply pw_below_drewN | apply below_drew1 | refine below_set ?_ GE193.out) | exact HB.out)) hb); clear HO_9; clear HO_18; clear BK193; clear HB; have HO_9 := n0_; have HO_18 := n1_; have HO196 := n2_; have BK193 := n3_; have HB := n4_; clear n0_ n1_ n2_ n3_ n4_; (try clear hb); (try clear hb2); (try clear hk); (try clear hi); (try clear ho0); obtain ⟨Ao15, co15, eo15⟩ := Kd.R_slice HO196.out; subst eo15))
      go_loopg [9, 28] k1 (fun kq v9 v28 w' => ∃ (x9_2 : List (S50)) (x28_2 : Int), v28 = .int .i64 x28_2 ∧ Aside0 (token_Words.l1 kq l0 l1 a2 a3 x9_2 t189 (t189.length : Int) x20_1 t194 (t194.length : Int) x28_2 = some r) ∧ Aside0 (kq ≤ k1) ∧ Aside0 (Kd.R k50 50 w' w.heap.size (fun _ => True) v9 x9_2) ∧ Aside0 (Kd.R k33 33 w' w.heap.size (fun k_ => some k_ ≠ ((.slice Ao15 t194.length co15) : Value).ownBlock ∧ k_ ≠ gb193) (.slice (some ad192) t189.length co7) t189) ∧ Aside0 (Kd.R k33 33 w' w.heap.size (fun k_ => some k_ ≠ ((.slice (some ad192) t189.length co7) : Value).ownBlock ∧ k_ ≠ gb193) (.slice Ao15 t194.length co15) t194) ∧ Aside0 (w'.heap[gb193]? = some (.cells #[.int .i64 ((rd_T33 t189 x20_1).f0), .int .i64 ((rd_T33 t189 x20_1).f1)] 33 (0, 0))) ∧ Aside0 (Below w.heap.size w w'))
      case atStart => exact ⟨(x9_1), (0), (by first | rfl | (simp; done) | (simp [*]; done)), H', ⟨Nat.le_refl _⟩, ⟨by (with_reducible repeat (first | apply Kd.R_alloc | apply Kd.R_drewN | apply Kd.R_drew)); exact HO_9.out⟩, ⟨by (with_reducible repeat (first | apply Kd.R_alloc | apply Kd.R_drewN | apply Kd.R_drew)); exact Kd.R_mono HO_18.out (fun _ hk => ⟨hk.2, hk.1.2⟩)⟩, ⟨by (with_reducible repeat (first | apply Kd.R_alloc | apply Kd.R_drewN | apply Kd.R_drew)); exact Kd.R_mono HO196.out (fun _ hk => ⟨hk.1.2, hk.2⟩)⟩, ⟨by (with_reducible repeat (first | refine blk_drewN ?_ _ | refine blk_drew ?_ | refine blk_alloc ?_ _)); exact BK193.out⟩, ⟨by repeat (first | (with_reducible first | exact HB.out | apply below_alloc | apply pw_below_drewN | apply below_drew1 | refine below_set ?_ GE193.out) | exact HB.out)⟩⟩
      case round =>
       clear H'
       try clear c1
       try clear p1
       try clear q1
       try clear hx1
       try clear c2
       try clear p2
       try clear c3
       try clear c8
       try clear c8b0
       try clear c9
       try clear c9b0
       try clear c10
       try clear c10b0
       try clear hcz13_0
       try clear hcz13_1
       try clear hfz13_0
       try clear hfz13_1
       try clear hx192_0
       try clear hx192_1
       try clear p192
       try clear p2
       try clear q192
       obtain ⟨x9_2, x28_2, rfl, HA, HK2, HO_9, HO_18, HO_26, BK193, HB⟩ := hrel
       cases gk with
       | zero => exact absurd HA.out (by simp [token_Words.l1])
       | succ k2 =>
        have H := HA.out
        clear HA
        simp only [token_Words.l1] at H
        by_cases c16 : x28_2 < (t194.length : Int)
        ·rw [if_pos c16] at H
         have c16b0 : decide (x28_2 < (t194.length : Int)) = true := decide_eq_true c16
         clear c16
         by_cases c17 : 0 ≤ x28_2
         ·rw [if_pos c17] at H
          have c17b0 : decide (0 ≤ x28_2) = true := decide_eq_true c17
          clear c17
          by_cases c18 : x28_2 < (t194.length : Int)
          ·rw [if_pos c18] at H
           have c18b0 : decide (x28_2 < (t194.length : Int)) = true := decide_eq_true c18
           clear c18
           by_cases c19 : 0 ≤ ((rd_T33 t194 x28_2).f0)
           ·rw [if_pos c19] at H
            have c19b0 := eq_true c19
            have c19b1 : decide (0 ≤ ((rd_T33 t194 x28_2).f0)) = true := decide_eq_true c19
            clear c19
            by_cases c20 : ((rd_T33 t194 x28_2).f0) ≤ ((rd_T33 t194 x28_2).f1)
            ·rw [if_pos c20] at H
             have c20b0 := eq_true c20
             have c20b1 : decide (((rd_T33 t194 x28_2).f0) ≤ ((rd_T33 t194 x28_2).f1)) = true := decide_eq_true c20
             clear c20
             by_cases c21 : ((rd_T33 t194 x28_2).f1) ≤ (l1.length : Int)
             ·rw [if_pos c21] at H
              have c21b0 := eq_true c21
              have c21b1 : decide (((rd_T33 t194 x28_2).f1) ≤ (l1.length : Int)) = true := decide_eq_true c21
              clear c21
              obtain ⟨y199, hy199⟩ : ∃ y_ : List (S53), y_ = ((l1.take (((rd_T33 t194 x28_2).f1) : Int).toNat).drop (((rd_T33 t194 x28_2).f0) : Int).toNat) := ⟨_, rfl⟩
              replace H : (if (y199.length : Int) < a2 then (token_Words.j2 k2 l0 l1 a2 a3 x9_2 y199 t189 (t189.length : Int) x20_1 t194 (t194.length : Int) x28_2 true) else (token_Words.j2 k2 l0 l1 a2 a3 x9_2 y199 t189 (t189.length : Int) x20_1 t194 (t194.length : Int) x28_2 (decide ((y199.length : Int) > a3)))) = some r := by first | (rw [hy199]; with_reducible exact H) | (have H2_ := (Option.bind_some _ _).symm.trans H; rw [hy199]; with_reducible exact H2_) | (have H2_ := (Option.bind_some _ _).symm.trans H; with_reducible exact H2_) | with_reducible exact H | (rw [hy199]; exact H) | exact H
              have Ny199 := Aside0.mk hy199
              clear hy199
              have HC22 := Aside0.mk H
              clear H
              have p197 : 0 ≤ (x28_2 : Int) := of_decide_eq_true (by first | (with_reducible assumption) | assumption)
              have q197 : x28_2 < (t194.length : Int) := of_decide_eq_true (by first | (with_reducible assumption) | assumption)
              obtain ⟨ad197, e197, hx197_0, hx197_1⟩ := at_T33 (Kd.R_reads' HO_26.out).2.2 x28_2 p197 q197
              cases e197
              replace p197 := eq_true p197
              replace q197 := eq_true q197
              go_upto_region 9 with (first | ((with_reducible refine gate_dst (N := 13) rfl ?_); (try (refine gate_guard (by rfl) ?_; dsimp only)); refine box_event ?hg (N := 13) ?hd (cs := #[.int .i64 0, .int .i64 0]) (t := 33) ?hr ?_; (case hd => rfl); (case hg => rfl); (case hr => first | (go_simp; done) | (go_simp; rfl)); intro gb198 hg w23 hbox hb; have n0_ := Aside0.mk (Kd.R_below (by (with_reducible repeat (first | apply Kd.R_alloc | apply Kd.R_drewN | apply Kd.R_drew)); exact HO_9.out) hb); have n1_ := Aside0.mk (Kd.R_below (Kd.R_elderB (by (with_reducible repeat (first | apply Kd.R_alloc | apply Kd.R_drewN | apply Kd.R_drew)); exact HO_18.out) gb198 (Nat.le_of_eq hg.symm)) hb); have n2_ := Aside0.mk (Kd.R_below (Kd.R_elderB (by (with_reducible repeat (first | apply Kd.R_alloc | apply Kd.R_drewN | apply Kd.R_drew)); exact HO_26.out) gb198 (Nat.le_of_eq hg.symm)) hb); have n3_ := Aside0.mk (blk_below (g := gb193) (o := .cells #[.int .i64 ((rd_T33 t189 x20_1).f0), .int .i64 ((rd_T33 t189 x20_1).f1)] 33 (0, 0)) (by (with_reducible repeat (first | refine blk_drewN ?_ _ | refine blk_drew ?_ | refine blk_alloc ?_ _)); exact BK193.out) hb); have n4_ := Aside0.mk (below_step (by repeat (first | (with_reducible first | exact HB.out | apply below_alloc | apply pw_below_drewN | apply below_drew1 | refine below_set ?_ GE193.out) | exact HB.out)) hb); have n5_ := Aside0.mk (hbox); have n6_ := Aside0.mk ((by rw [hg]; exact (below_size (by repeat (first | (with_reducible first | exact HB.out | apply below_alloc | apply pw_below_drewN | apply below_drew1 | refine below_set ?_ GE193.out) | exact HB.out))) : w.heap.size ≤ gb198)); have n7_ := Aside0.mk ((by rw [hg]; exact (below_size (by repeat (first | (with_reducible first | exact HB.out | apply below_alloc | apply pw_below_drewN | apply below_drew1 | refine below_set ?_ GE193.out) | exact HB.out))) : w.heap.size ≤ gb198)); have n8_ := Aside0.mk ((by rw [hg]; exact Nat.ne_of_lt (blk_lt (g := gb193) (o := .cells #[.int .i64 ((rd_T33 t189 x20_1).f0), .int .i64 ((rd_T33 t189 x20_1).f1)] 33 (0, 0)) (by (with_reducible repeat (first | refine blk_drewN ?_ _ | refine blk_drew ?_ | refine blk_alloc ?_ _)); exact BK193.out)) : gb193 ≠ gb198)); have n9_ := Aside0.mk ((by rw [hg]; exact Nat.ne_of_gt (blk_lt (g := gb193) (o := .cells #[.int .i64 ((rd_T33 t189 x20_1).f0), .int .i64 ((rd_T33 t189 x20_1).f1)] 33 (0, 0)) (by (with_reducible repeat (first | refine blk_drewN ?_ _ | refine blk_drew ?_ | refine blk_alloc ?_ _)); exact BK193.out)) : gb198 ≠ gb193)); clear HO_9; clear HO_18; clear HO_26; clear BK193; clear HB; have HO_9 := n0_; have HO_18 := n1_; have HO_26 := n2_; have BK193 := n3_; have HB := n4_; have BK198 := n5_; have GW198 := n6_; have GE198 := n7_; have NB193_198 := n8_; have NB198_193 := n9_; clear n0_ n1_ n2_ n3_ n4_ n5_ n6_ n7_ n8_ n9_; clear hb hbox hg; have hnb24 := NB198_193.out; have hnc24 := NB193_198.out; have hcz25_0 : w23.cell? ⟨gb198, 0, none⟩ = some (.int .i64 0) := (blk_cell BK198.out 0).trans rfl; have hcz25_1 : w23.cell? ⟨gb198, 1, none⟩ = some (.int .i64 0) := (blk_cell BK198.out 1).trans rfl; have hfz25_0 := blk_frozen BK198.out 0; have hfz25_1 := blk_frozen BK198.out 1) | ((with_reducible refine gate_store (t := 33) (p := 13) rfl ?_); refine store_event (t := 33) (p := 13) (v := ?vo_w26) (w1 := ((w23.setCell ⟨gb198, 0, none⟩ (.int .i64 ((rd_T33 t194 x28_2).f0))).setCell ⟨gb198, 1, none⟩ (.int .i64 ((rd_T33 t194 x28_2).f1)))) ?hg ?ho ?hn ?hr ?_; (case ho => rfl); (case hg => rfl); (case hn => rfl); (case hr => first | (go_simp; done) | (go_simp; rfl)); intro w26 hw; have n0_ : Aside0 (Kd.R k50 50 w26 w.heap.size (fun _ => True) u9 x9_2) := ⟨(by rw [hw]; exact (by (with_reducible repeat (first | apply Kd.R_alloc | apply Kd.R_drewN | apply Kd.R_drew)); exact Kd.R_mono (Kd.R_far (p := ⟨gb198, 1, none⟩) (Kd.R_far (p := ⟨gb198, 0, none⟩) (Kd.R_types HO_9.out BK198.out (by decide)) (fun _ hk => hk.2) (.int .i64 ((rd_T33 t194 x28_2).f0))) (fun _ hk => hk.2) (.int .i64 ((rd_T33 t194 x28_2).f1))) (fun _ hk => trivial)))⟩; have n1_ : Aside0 (Kd.R k33 33 w26 w.heap.size (fun k_ => some k_ ≠ (.slice (some ad197) t194.length co15 : Value).ownBlock ∧ k_ ≠ gb193 ∧ k_ ≠ gb198) (.slice (some ad192) t189.length co7) t189) := ⟨(by rw [hw]; exact (by (with_reducible repeat (first | apply Kd.R_alloc | apply Kd.R_drewN | apply Kd.R_drew)); exact Kd.R_mono (Kd.R_far (p := ⟨gb198, 1, none⟩) (Kd.R_far (p := ⟨gb198, 0, none⟩) (Kd.R_mono HO_18.out (fun k_ hk => (⟨hk, hk.2⟩ : _ ∧ k_ ≠ gb198))) (fun _ hk => hk.2) (.int .i64 ((rd_T33 t194 x28_2).f0))) (fun _ hk => hk.2) (.int .i64 ((rd_T33 t194 x28_2).f1))) (fun _ hk => ⟨hk.1.1.1, ⟨hk.1.1.2, hk.1.2⟩⟩)))⟩; have n2_ : Aside0 (Kd.R k33 33 w26 w.heap.size (fun k_ => some k_ ≠ (.slice (some ad192) t189.length co7 : Value).ownBlock ∧ k_ ≠ gb193 ∧ k_ ≠ gb198) (.slice (some ad197) t194.length co15) t194) := ⟨(by rw [hw]; exact (by (with_reducible repeat (first | apply Kd.R_alloc | apply Kd.R_drewN | apply Kd.R_drew)); exact Kd.R_mono (Kd.R_far (p := ⟨gb198, 1, none⟩) (Kd.R_far (p := ⟨gb198, 0, none⟩) (Kd.R_mono HO_26.out (fun k_ hk => (⟨hk, hk.2⟩ : _ ∧ k_ ≠ gb198))) (fun _ hk => hk.2) (.int .i64 ((rd_T33 t194 x28_2).f0))) (fun _ hk => hk.2) (.int .i64 ((rd_T33 t194 x28_2).f1))) (fun _ hk => ⟨hk.1.1.1, ⟨hk.1.1.2, hk.1.2⟩⟩)))⟩; have n3_ : Aside0 (w26.heap[gb193]? = some (.cells #[.int .i64 ((rd_T33 t189 x20_1).f0), .int .i64 ((rd_T33 t189 x20_1).f1)] 33 (0, 0))) := ⟨(by rw [hw]; exact (by (with_reducible repeat (first | refine blk_drewN ?_ _ | refine blk_drew ?_ | refine blk_alloc ?_ _)); refine blk_far ?_ NB193_198.out _; (with_reducible repeat (first | refine blk_drewN ?_ _ | refine blk_drew ?_ | refine blk_alloc ?_ _)); refine blk_far ?_ NB193_198.out _; (with_reducible repeat (first | refine blk_drewN ?_ _ | refine blk_drew ?_ | refine blk_alloc ?_ _)); exact BK193.out))⟩; have n4_ : Aside0 (w26.heap[gb198]? = some (.cells #[.int .i64 ((rd_T33 t194 x28_2).f0), .int .i64 ((rd_T33 t194 x28_2).f1)] 33 (0, 0))) := ⟨(by rw [hw]; exact (by (with_reducible repeat (first | refine blk_drewN ?_ _ | refine blk_drew ?_ | refine blk_alloc ?_ _)); refine blk_put (cs := #[.int .i64 ((rd_T33 t194 x28_2).f0), .int .i64 0]) ?_ 1 _ rfl; (with_reducible repeat (first | refine blk_drewN ?_ _ | refine blk_drew ?_ | refine blk_alloc ?_ _)); refine blk_put (cs := #[.int .i64 0, .int .i64 0]) ?_ 0 _ rfl; (with_reducible repeat (first | refine blk_drewN ?_ _ | refine blk_drew ?_ | refine blk_alloc ?_ _)); exact BK198.out))⟩; have n5_ : Aside0 (Below w.heap.size w w26) := ⟨(by rw [hw]; exact (by repeat (first | (with_reducible first | exact HB.out | apply below_alloc | apply pw_below_drewN | apply below_drew1 | refine below_set ?_ GE193.out | refine below_set ?_ GE198.out) | exact HB.out)))⟩; clear hw; clear HO_9; clear HO_18; clear HO_26; clear BK193; clear BK198; clear HB; have HO_9 := n0_; have HO_18 := n1_; have HO_26 := n2_; have BK193 := n3_; have BK198 := n4_; have HB := n5_; clear n0_ n1_ n2_ n3_ n4_ n5_; have hcz27_0 : w26.cell? ⟨gb198, 0, none⟩ = some (.int .i64 ((rd_T33 t194 x28_2).f0)) := (blk_cell BK198.out 0).trans rfl; have hcz27_1 : w26.cell? ⟨gb198, 1, none⟩ = some (.int .i64 ((rd_T33 t194 x28_2).f1)) := (blk_cell BK198.out 1).trans rfl; have hfz27_0 := blk_frozen BK198.out 0; have hfz27_1 := blk_frozen BK198.out 1; have q28 : (((rd_T33 t194 x28_2).f1) : Int) ≤ ((l1.length : Int) : Int) := of_decide_eq_true (by first | (with_reducible assumption) | assumption); obtain ⟨i028, hi028, _, hsz28, _⟩ := info_parts info53; have hroom28 : l1.length ≤ c1 := HC1.out; have hC28 : Kd.C k53 _ A1 l1.length l1 := HR1.out; have ql28 : (((rd_T33 t194 x28_2).f0) : Int) ≤ (((rd_T33 t194 x28_2).f1) : Int) := of_decide_eq_true (by first | (with_reducible assumption) | assumption); have q028 : (0 : Int) ≤ (((rd_T33 t194 x28_2).f0) : Int) := of_decide_eq_true (by first | (with_reducible assumption) | assumption); have hcut28 := cut_mid (P := Try.prog) 34 53 .i64 .i64 Try.underlying34 hi028 3 hsz28 A1 l1.length c1 ((rd_T33 t194 x28_2).f0) ((rd_T33 t194 x28_2).f1) q028 ql28 q28 hroom28; have hr28 := Kd.C_mid (lo := (((rd_T33 t194 x28_2).f0) : Int).toNat) (hi := (((rd_T33 t194 x28_2).f1) : Int).toNat) (c := c1) hC28 (by omega) (by omega) hroom28; obtain ⟨A28, hA28⟩ : ∃ A1z_, A1z_ = (if c1 = (((rd_T33 t194 x28_2).f0) : Int).toNat then A1 else (A1 : Option Addr).map (·.add ((((rd_T33 t194 x28_2).f0) : Int).toNat * 3))) := ⟨_, rfl⟩; obtain ⟨c28, hc28⟩ : ∃ c1z_, c1z_ = c1 - (((rd_T33 t194 x28_2).f0) : Int).toNat := ⟨_, rfl⟩; have hy28 : y199.length = (((rd_T33 t194 x28_2).f1) : Int).toNat - (((rd_T33 t194 x28_2).f0) : Int).toNat := (by rw [Ny199.out, List.length_drop, List.length_take] <;> omega); rw [show ((l1).take (((rd_T33 t194 x28_2).f1) : Int).toNat).drop (((rd_T33 t194 x28_2).f0) : Int).toNat = y199 from Ny199.out.symm] at hr28; replace hr28 : Kd.C k53 _ A28 y199.length y199 := (by rw [hA28]; exact hr28); rw [← hy28, ← hA28, ← hc28] at hcut28; have HR202 := Aside0.mk hr28; have HC202 := Aside0.mk (show y199.length ≤ c28 from by rw [hy28, hc28]; exact Nat.sub_le_sub_right (Nat.le_trans (by omega) hroom28) _); clear hr28 hC28 hroom28 hi028 hsz28 hc28; have KY28 := Aside0.mk hy28; have KA28 := Aside0.mk hA28; clear hy28 hA28; replace q28 := eq_true q28))
              (try simp only [Act.put, List.setIfInBounds_toArray, List.set_cons_zero, List.set_cons_succ])
              go_cut [47] (fun v47 wc => ∃ (kq : Nat) (x47_21 : Bool), v47 = .bool x47_21 ∧ Aside0 (token_Words.j2 kq l0 l1 a2 a3 x9_2 y199 t189 (t189.length : Int) x20_1 t194 (t194.length : Int) x28_2 x47_21 = some r) ∧ Aside0 (kq ≤ k2) ∧ Aside0 (Kd.R k50 50 wc w.heap.size (fun _ => True) u9 x9_2) ∧ Aside0 (Kd.R k33 33 wc w.heap.size (fun k_ => some k_ ≠ ((.slice (some ad197) t194.length co15) : Value).ownBlock ∧ k_ ≠ gb193 ∧ k_ ≠ gb198) (.slice (some ad192) t189.length co7) t189) ∧ Aside0 (Kd.R k33 33 wc w.heap.size (fun k_ => some k_ ≠ ((.slice (some ad192) t189.length co7) : Value).ownBlock ∧ k_ ≠ gb193 ∧ k_ ≠ gb198) (.slice (some ad197) t194.length co15) t194) ∧ Aside0 (wc.heap[gb193]? = some (.cells #[.int .i64 ((rd_T33 t189 x20_1).f0), .int .i64 ((rd_T33 t189 x20_1).f1)] 33 (0, 0))) ∧ Aside0 (wc.heap[gb198]? = some (.cells #[.int .i64 ((rd_T33 t194 x28_2).f0), .int .i64 ((rd_T33 t194 x28_2).f1)] 33 (0, 0))) ∧ Aside0 (Below w.heap.size w wc))
              case first =>
               have H := HC22.out
               clear HC22
               by_cases c29 : (y199.length : Int) < a2
               ·rw [if_pos c29] at H
                have c29b0 : decide ((y199.length : Int) < a2) = true := decide_eq_true c29
                clear c29
                (first | rw [c29b0] | (simp only [i64_w, i32_w]; rw [c29b0]) | skip)
                have H' := Aside0.mk H
                clear H
                go_wp2
                go_meet
                case rel => exact ⟨_, (true), (by first | rfl | (simp; done) | (simp [*]; done)), H', ⟨by have := HK1.out; have := HK2.out; first | omega | exact Nat.le_refl _⟩, ⟨by (with_reducible repeat (first | apply Kd.R_alloc | apply Kd.R_drewN | apply Kd.R_drew)); exact HO_9.out⟩, ⟨by (with_reducible repeat (first | apply Kd.R_alloc | apply Kd.R_drewN | apply Kd.R_drew)); exact HO_18.out⟩, ⟨by (with_reducible repeat (first | apply Kd.R_alloc | apply Kd.R_drewN | apply Kd.R_drew)); exact HO_26.out⟩, ⟨by (with_reducible repeat (first | refine blk_drewN ?_ _ | refine blk_drew ?_ | refine blk_alloc ?_ _)); exact BK193.out⟩, ⟨by (with_reducible repeat (first | refine blk_drewN ?_ _ | refine blk_drew ?_ | refine blk_alloc ?_ _)); exact BK198.out⟩, ⟨by repeat (first | (with_reducible first | exact HB.out | apply below_alloc | apply pw_below_drewN | apply below_drew1 | refine below_set ?_ GE193.out | refine below_set ?_ GE198.out) | exact HB.out)⟩⟩
               ·rw [if_neg c29] at H
                have c29b0 : decide ((y199.length : Int) < a2) = false := decide_eq_false c29
                clear c29
                (first | rw [c29b0] | (simp only [i64_w, i32_w]; rw [c29b0]) | skip)
                have H' := Aside0.mk H
                clear H
                go_wp2
                go_meet
                case rel => exact ⟨_, (decide ((y199.length : Int) > a3)), (by first | rfl | (simp; done) | (simp [*]; done)), H', ⟨by have := HK1.out; have := HK2.out; first | omega | exact Nat.le_refl _⟩, ⟨by (with_reducible repeat (first | apply Kd.R_alloc | apply Kd.R_drewN | apply Kd.R_drew)); exact HO_9.out⟩, ⟨by (with_reducible repeat (first | apply Kd.R_alloc | apply Kd.R_drewN | apply Kd.R_drew)); exact HO_18.out⟩, ⟨by (with_reducible repeat (first | apply Kd.R_alloc | apply Kd.R_drewN | apply Kd.R_drew)); exact HO_26.out⟩, ⟨by (with_reducible repeat (first | refine blk_drewN ?_ _ | refine blk_drew ?_ | refine blk_alloc ?_ _)); exact BK193.out⟩, ⟨by (with_reducible repeat (first | refine blk_drewN ?_ _ | refine blk_drew ?_ | refine blk_alloc ?_ _)); exact BK198.out⟩, ⟨by repeat (first | (with_reducible first | exact HB.out | apply below_alloc | apply pw_below_drewN | apply below_drew1 | refine below_set ?_ GE193.out | refine below_set ?_ GE198.out) | exact HB.out)⟩⟩
              case rest =>
               clear HC22
               try clear c1
               try clear p1
               try clear q1
               try clear hx1
               try clear c2
               try clear p2
               try clear q2
               try clear c3
               try clear c8
               try clear c8b0
               try clear c9
               try clear c9b0
               try clear c10
               try clear c10b0
               try clear c16
               try clear c16b0
               try clear c17
               try clear c17b0
               try clear c18
               try clear c18b0
               try clear c19
               try clear c19b0
               try clear c19b1
               try clear p19
               try clear q19
               try clear hx19
               try clear c20
               try clear c20b0
               try clear c20b1
               try clear c21
               try clear c21b0
               try clear c21b1
               try clear c24
               try clear c27
               try clear c28
               try clear q28
               try clear c29
               try clear c29b0
               try clear hcz13_0
               try clear hcz13_1
               try clear hcz25_0
               try clear hcz25_1
               try clear hcz27_0
               try clear hcz27_1
               try clear hfz13_0
               try clear hfz13_1
               try clear hfz25_0
               try clear hfz25_1
               try clear hfz27_0
               try clear hfz27_1
               try clear hx192_0
               try clear hx192_1
               try clear hx197_0
               try clear hx197_1
               try clear p1
               try clear p192
               try clear p197
               try clear p2
               try clear q028
               try clear q1
               try clear q192
               try clear q197
               try clear q28
               obtain ⟨kq, x47_21, rfl, HA, HJ21, HO_9, HO_18, HO_26, BK193, BK198, HB⟩ := hcut
               cases kq with
               | zero => exact absurd HA.out (by simp [token_Words.j2])
               | succ kj21 =>
                have H := HA.out
                clear HA
                simp only [token_Words.j2] at H
                by_cases c30 : x47_21 = true
                ·subst c30
                 have H1 : (token_Words.l1 kj21 l0 l1 a2 a3 x9_2 t189 (t189.length : Int) x20_1 t194 (t194.length : Int) (wrap64 (x28_2 + 1))) = some r := by rw [if_pos rfl] at H; exact H
                 clear H
                 have H := H1
                 clear H1
                 have H' := Aside0.mk H
                 clear H
                 go_wp2
                 go_roundg kj21
                 case measure => have := HK1.out; have := HK2.out; have := HJ21.out; omega
                 case rel => exact ⟨(x9_2), (wrap64 (x28_2 + 1)), (by first | rfl | (simp; done) | (simp [*]; done)), H', ⟨by have := HK1.out; have := HK2.out; have := HJ21.out; omega⟩, ⟨by (with_reducible repeat (first | apply Kd.R_alloc | apply Kd.R_drewN | apply Kd.R_drew)); exact HO_9.out⟩, ⟨by (with_reducible repeat (first | apply Kd.R_alloc | apply Kd.R_drewN | apply Kd.R_drew)); exact Kd.R_mono HO_18.out (fun _ hk => ⟨hk.1, hk.2.1⟩)⟩, ⟨by (with_reducible repeat (first | apply Kd.R_alloc | apply Kd.R_drewN | apply Kd.R_drew)); exact Kd.R_mono HO_26.out (fun _ hk => ⟨hk.1, hk.2.1⟩)⟩, ⟨by (with_reducible repeat (first | refine blk_drewN ?_ _ | refine blk_drew ?_ | refine blk_alloc ?_ _)); exact BK193.out⟩, ⟨by repeat (first | (with_reducible first | exact HB.out | apply below_alloc | apply pw_below_drewN | apply below_drew1 | refine below_set ?_ GE193.out | refine below_set ?_ GE198.out) | exact HB.out)⟩⟩
                ·replace c30 := Bool.eq_false_iff.mpr c30
                 subst c30
                 have H1 : (if 0 ≤ (wrap64 ((y199.length : Int) - 1)) then (if (wrap64 ((y199.length : Int) - 1)) < (y199.length : Int) then (if 0 < (y199.length : Int) then ((decode_Text.f kj21 y199).bind fun t208 => ((decode_Literal.f kj21 l0 y199).bind fun t209 => (if x9_2.length < 3518437208883 then (token_Words.l1 kj21 l0 l1 a2 a3 (x9_2 ++ [(⟨t208, (⟨(rd_T53 y199 0).f1.f0, wrap64 ((wrap64 (((rd_T53 y199 (wrap64 ((y199.length : Int) - 1))).f1.f0) + ((rd_T53 y199 (wrap64 ((y199.length : Int) - 1))).f1.f1))) - ((rd_T53 y199 0).f1.f0))⟩ : S48), t209⟩ : S50)]) t189 (t189.length : Int) x20_1 t194 (t194.length : Int) (wrap64 (x28_2 + 1))) else (none)))) else (none)) else (none)) else (none)) = some r := by rw [if_neg (show ¬ (false = true) by decide)] at H; exact H
                 clear H
                 have H := H1
                 clear H1
                 obtain ⟨ji31, hji31⟩ : ∃ j_ : Int, (wrap64 ((y199.length : Int) - 1)) = j_ := ⟨_, rfl⟩
                 replace H : (if 0 ≤ (ji31) then (if (ji31) < (y199.length : Int) then (if 0 < (y199.length : Int) then ((decode_Text.f kj21 y199).bind fun t208 => ((decode_Literal.f kj21 l0 y199).bind fun t209 => (if x9_2.length < 3518437208883 then (token_Words.l1 kj21 l0 l1 a2 a3 (x9_2 ++ [(⟨t208, (⟨(rd_T53 y199 0).f1.f0, wrap64 ((wrap64 (((rd_T53 y199 (ji31)).f1.f0) + ((rd_T53 y199 (ji31)).f1.f1))) - ((rd_T53 y199 0).f1.f0))⟩ : S48), t209⟩ : S50)]) t189 (t189.length : Int) x20_1 t194 (t194.length : Int) (wrap64 (x28_2 + 1))) else (none)))) else (none)) else (none)) else (none)) = some r := by first | (rw [hji31] at H; exact H) | (simp only [hji31] at H ⊢; exact H)
                 have hji31w : (IntKind.i64.wrap ((y199.length : Int) - 1)) = ji31 := (i64_w _).trans hji31
                 by_cases c32 : 0 ≤ (ji31)
                 ·rw [if_pos c32] at H
                  have c32b0 : decide (0 ≤ (ji31)) = true := decide_eq_true c32
                  clear c32
                  by_cases c33 : (ji31) < (y199.length : Int)
                  ·rw [if_pos c33] at H
                   have c33b0 : decide ((ji31) < (y199.length : Int)) = true := decide_eq_true c33
                   clear c33
                   by_cases c34 : 0 < (y199.length : Int)
                   ·rw [if_pos c34] at H
                    have c34b0 : decide (0 < (y199.length : Int)) = true := decide_eq_true c34
                    have c34b1 : decide (0 < y199.length) = true := decide_eq_true (by omega)
                    clear c34
                    replace H := Option.bind_eq_some_iff.mp H
                    obtain ⟨t208, A350, H⟩ := H
                    replace H : ((decode_Literal.f kj21 l0 y199).bind fun t209 => (if x9_2.length < 3518437208883 then (token_Words.l1 kj21 l0 l1 a2 a3 (x9_2 ++ [(⟨t208, (⟨(rd_T53 y199 0).f1.f0, wrap64 ((wrap64 (((rd_T53 y199 (ji31)).f1.f0) + ((rd_T53 y199 (ji31)).f1.f1))) - ((rd_T53 y199 0).f1.f0))⟩ : S48), t209⟩ : S50)]) t189 (t189.length : Int) x20_1 t194 (t194.length : Int) (wrap64 (x28_2 + 1))) else (none))) = some r := H
                    have A35 := Aside0.mk A350
                    clear A350
                    replace H := Option.bind_eq_some_iff.mp H
                    obtain ⟨t209, A360, H⟩ := H
                    replace H : (if x9_2.length < 3518437208883 then (token_Words.l1 kj21 l0 l1 a2 a3 (x9_2 ++ [(⟨t208, (⟨(rd_T53 y199 0).f1.f0, wrap64 ((wrap64 (((rd_T53 y199 (ji31)).f1.f0) + ((rd_T53 y199 (ji31)).f1.f1))) - ((rd_T53 y199 0).f1.f0))⟩ : S48), t209⟩ : S50)]) t189 (t189.length : Int) x20_1 t194 (t194.length : Int) (wrap64 (x28_2 + 1))) else (none)) = some r := H
                    have A36 := Aside0.mk A360
                    clear A360
                    by_cases c37 : x9_2.length < 3518437208883
                    ·rw [if_pos c37] at H
                     have LMc37 := Aside0.mk c37
                     clear c37
                     obtain ⟨y210, hy210⟩ : ∃ y_ : List (S50), y_ = (x9_2 ++ [(⟨t208, (⟨(rd_T53 y199 0).f1.f0, wrap64 ((wrap64 (((rd_T53 y199 (ji31)).f1.f0) + ((rd_T53 y199 (ji31)).f1.f1))) - ((rd_T53 y199 0).f1.f0))⟩ : S48), t209⟩ : S50)]) := ⟨_, rfl⟩
                     replace H : (token_Words.l1 kj21 l0 l1 a2 a3 y210 t189 (t189.length : Int) x20_1 t194 (t194.length : Int) (wrap64 (x28_2 + 1))) = some r := by first | (rw [hy210]; with_reducible exact H) | (have H2_ := (Option.bind_some _ _).symm.trans H; rw [hy210]; with_reducible exact H2_) | (have H2_ := (Option.bind_some _ _).symm.trans H; with_reducible exact H2_) | with_reducible exact H | (rw [hy210]; exact H) | exact H
                     have Ny210 := Aside0.mk hy210
                     clear hy210
                     have H' := Aside0.mk H
                     clear H
                     have p203 : 0 ≤ ((ji31) : Int) := of_decide_eq_true (by first | (with_reducible assumption) | assumption)
                     have q203 : (ji31) < (y199.length : Int) := of_decide_eq_true (by first | (with_reducible assumption) | assumption)
                     obtain ⟨ad203, e203, hx203_0, hx203_1, hx203_2⟩ := at_T53 HR202.out (ji31) p203 q203
                     cases e203
                     replace hx203_0 := (HB.out.cell (World.block_lt_of_cell? w _ hx203_0)).trans hx203_0
                     replace hx203_1 := (HB.out.cell (World.block_lt_of_cell? w _ hx203_1)).trans hx203_1
                     replace hx203_2 := (HB.out.cell (World.block_lt_of_cell? w _ hx203_2)).trans hx203_2
                     replace p203 := eq_true p203
                     replace q203 := eq_true q203
                     try go_wp2_with (first | ((with_reducible refine gate_dst (N := 15) rfl ?_); (try (refine gate_guard (by rfl) ?_; dsimp only)); refine box_event ?hg (N := 15) ?hd (cs := #[.int .i64 0, .int .i64 0]) (t := 48) ?hr ?_; (case hd => rfl); (case hg => rfl); (case hr => first | (go_simp; done) | (go_simp; rfl)); intro gb204 hg w38 hbox hb; have n0_ := Aside0.mk (Kd.R_below (by (with_reducible repeat (first | apply Kd.R_alloc | apply Kd.R_drewN | apply Kd.R_drew)); exact HO_9.out) hb); have n1_ := Aside0.mk (Kd.R_below (by (with_reducible repeat (first | apply Kd.R_alloc | apply Kd.R_drewN | apply Kd.R_drew)); exact HO_18.out) hb); have n2_ := Aside0.mk (Kd.R_below (by (with_reducible repeat (first | apply Kd.R_alloc | apply Kd.R_drewN | apply Kd.R_drew)); exact HO_26.out) hb); have n3_ := Aside0.mk (blk_below (g := gb193) (o := .cells #[.int .i64 ((rd_T33 t189 x20_1).f0), .int .i64 ((rd_T33 t189 x20_1).f1)] 33 (0, 0)) (by (with_reducible repeat (first | refine blk_drewN ?_ _ | refine blk_drew ?_ | refine blk_alloc ?_ _)); exact BK193.out) hb); have n4_ := Aside0.mk (blk_below (g := gb198) (o := .cells #[.int .i64 ((rd_T33 t194 x28_2).f0), .int .i64 ((rd_T33 t194 x28_2).f1)] 33 (0, 0)) (by (with_reducible repeat (first | refine blk_drewN ?_ _ | refine blk_drew ?_ | refine blk_alloc ?_ _)); exact BK198.out) hb); have n5_ := Aside0.mk (below_step (by repeat (first | (with_reducible first | exact HB.out | apply below_alloc | apply pw_below_drewN | apply below_drew1 | refine below_set ?_ GE193.out | refine below_set ?_ GE198.out) | exact HB.out)) hb); have n6_ := Aside0.mk (hbox); have n7_ := Aside0.mk ((by rw [hg]; exact (below_size (by repeat (first | (with_reducible first | exact HB.out | apply below_alloc | apply pw_below_drewN | apply below_drew1 | refine below_set ?_ GE193.out | refine below_set ?_ GE198.out) | exact HB.out))) : w.heap.size ≤ gb204)); have n8_ := Aside0.mk ((by rw [hg]; exact (below_size (by repeat (first | (with_reducible first | exact HB.out | apply below_alloc | apply pw_below_drewN | apply below_drew1 | refine below_set ?_ GE193.out | refine below_set ?_ GE198.out) | exact HB.out))) : w.heap.size ≤ gb204)); have n9_ := Aside0.mk ((by rw [hg]; exact Nat.ne_of_lt (blk_lt (g := gb193) (o := .cells #[.int .i64 ((rd_T33 t189 x20_1).f0), .int .i64 ((rd_T33 t189 x20_1).f1)] 33 (0, 0)) (by (with_reducible repeat (first | refine blk_drewN ?_ _ | refine blk_drew ?_ | refine blk_alloc ?_ _)); exact BK193.out)) : gb193 ≠ gb204)); have n10_ := Aside0.mk ((by rw [hg]; exact Nat.ne_of_gt (blk_lt (g := gb193) (o := .cells #[.int .i64 ((rd_T33 t189 x20_1).f0), .int .i64 ((rd_T33 t189 x20_1).f1)] 33 (0, 0)) (by (with_reducible repeat (first | refine blk_drewN ?_ _ | refine blk_drew ?_ | refine blk_alloc ?_ _)); exact BK193.out)) : gb204 ≠ gb193)); have n11_ := Aside0.mk ((by rw [hg]; exact Nat.ne_of_lt (blk_lt (g := gb198) (o := .cells #[.int .i64 ((rd_T33 t194 x28_2).f0), .int .i64 ((rd_T33 t194 x28_2).f1)] 33 (0, 0)) (by (with_reducible repeat (first | refine blk_drewN ?_ _ | refine blk_drew ?_ | refine blk_alloc ?_ _)); exact BK198.out)) : gb198 ≠ gb204)); have n12_ := Aside0.mk ((by rw [hg]; exact Nat.ne_of_gt (blk_lt (g := gb198) (o := .cells #[.int .i64 ((rd_T33 t194 x28_2).f0), .int .i64 ((rd_T33 t194 x28_2).f1)] 33 (0, 0)) (by (with_reducible repeat (first | refine blk_drewN ?_ _ | refine blk_drew ?_ | refine blk_alloc ?_ _)); exact BK198.out)) : gb204 ≠ gb198)); clear HO_9; clear HO_18; clear HO_26; clear BK193; clear BK198; clear HB; have HO_9 := n0_; have HO_18 := n1_; have HO_26 := n2_; have BK193 := n3_; have BK198 := n4_; have HB := n5_; have BK204 := n6_; have GW204 := n7_; have GE204 := n8_; have NB193_204 := n9_; have NB204_193 := n10_; have NB198_204 := n11_; have NB204_198 := n12_; clear n0_ n1_ n2_ n3_ n4_ n5_ n6_ n7_ n8_ n9_ n10_ n11_ n12_; clear hb hbox hg; have hnb39 := NB204_193.out; have hnc39 := NB193_204.out; have hnb40 := NB204_198.out; have hnc40 := NB198_204.out; have hcz41_0 : w38.cell? ⟨gb204, 0, none⟩ = some (.int .i64 0) := (blk_cell BK204.out 0).trans rfl; have hcz41_1 : w38.cell? ⟨gb204, 1, none⟩ = some (.int .i64 0) := (blk_cell BK204.out 1).trans rfl; have hfz41_0 := blk_frozen BK204.out 0; have hfz41_1 := blk_frozen BK204.out 1))
                     have n0_ : Aside0 (Kd.R k50 50 ((w38.setCell ⟨gb204, 0, none⟩ (.int .i64 ((rd_T53 y199 (ji31)).f1.f0))).setCell ⟨gb204, 1, none⟩ (.int .i64 ((rd_T53 y199 (ji31)).f1.f1))) w.heap.size (fun _ => True) u9 x9_2) := ⟨by (with_reducible repeat (first | apply Kd.R_alloc | apply Kd.R_drewN | apply Kd.R_drew)); exact Kd.R_mono (Kd.R_far (p := ⟨gb204, 1, none⟩) (Kd.R_far (p := ⟨gb204, 0, none⟩) (Kd.R_types HO_9.out BK204.out (by decide)) (fun _ hk => hk.2) (.int .i64 ((rd_T53 y199 (ji31)).f1.f0))) (fun _ hk => hk.2) (.int .i64 ((rd_T53 y199 (ji31)).f1.f1))) (fun _ hk => trivial)⟩
                     have n1_ : Aside0 (Kd.R k33 33 ((w38.setCell ⟨gb204, 0, none⟩ (.int .i64 ((rd_T53 y199 (ji31)).f1.f0))).setCell ⟨gb204, 1, none⟩ (.int .i64 ((rd_T53 y199 (ji31)).f1.f1))) w.heap.size (fun k_ => some k_ ≠ (.slice (some ad197) t194.length co15 : Value).ownBlock ∧ k_ ≠ gb193 ∧ k_ ≠ gb198) (.slice (some ad192) t189.length co7) t189) := ⟨by (with_reducible repeat (first | apply Kd.R_alloc | apply Kd.R_drewN | apply Kd.R_drew)); exact Kd.R_mono (Kd.R_far (p := ⟨gb204, 1, none⟩) (Kd.R_far (p := ⟨gb204, 0, none⟩) (Kd.R_types HO_18.out BK204.out (by decide)) (fun _ hk => hk.2) (.int .i64 ((rd_T53 y199 (ji31)).f1.f0))) (fun _ hk => hk.2) (.int .i64 ((rd_T53 y199 (ji31)).f1.f1))) (fun _ hk => ⟨hk.1.1, ⟨hk.1.2.1, hk.1.2.2⟩⟩)⟩
                     have n2_ : Aside0 (Kd.R k33 33 ((w38.setCell ⟨gb204, 0, none⟩ (.int .i64 ((rd_T53 y199 (ji31)).f1.f0))).setCell ⟨gb204, 1, none⟩ (.int .i64 ((rd_T53 y199 (ji31)).f1.f1))) w.heap.size (fun k_ => some k_ ≠ (.slice (some ad192) t189.length co7 : Value).ownBlock ∧ k_ ≠ gb193 ∧ k_ ≠ gb198) (.slice (some ad197) t194.length co15) t194) := ⟨by (with_reducible repeat (first | apply Kd.R_alloc | apply Kd.R_drewN | apply Kd.R_drew)); exact Kd.R_mono (Kd.R_far (p := ⟨gb204, 1, none⟩) (Kd.R_far (p := ⟨gb204, 0, none⟩) (Kd.R_types HO_26.out BK204.out (by decide)) (fun _ hk => hk.2) (.int .i64 ((rd_T53 y199 (ji31)).f1.f0))) (fun _ hk => hk.2) (.int .i64 ((rd_T53 y199 (ji31)).f1.f1))) (fun _ hk => ⟨hk.1.1, ⟨hk.1.2.1, hk.1.2.2⟩⟩)⟩
                     have n3_ : Aside0 (((w38.setCell ⟨gb204, 0, none⟩ (.int .i64 ((rd_T53 y199 (ji31)).f1.f0))).setCell ⟨gb204, 1, none⟩ (.int .i64 ((rd_T53 y199 (ji31)).f1.f1))).heap[gb193]? = some (.cells #[.int .i64 ((rd_T33 t189 x20_1).f0), .int .i64 ((rd_T33 t189 x20_1).f1)] 33 (0, 0))) := ⟨by (with_reducible repeat (first | refine blk_drewN ?_ _ | refine blk_drew ?_ | refine blk_alloc ?_ _)); refine blk_far ?_ NB193_204.out _; (with_reducible repeat (first | refine blk_drewN ?_ _ | refine blk_drew ?_ | refine blk_alloc ?_ _)); refine blk_far ?_ NB193_204.out _; (with_reducible repeat (first | refine blk_drewN ?_ _ | refine blk_drew ?_ | refine blk_alloc ?_ _)); exact BK193.out⟩
                     have n4_ : Aside0 (((w38.setCell ⟨gb204, 0, none⟩ (.int .i64 ((rd_T53 y199 (ji31)).f1.f0))).setCell ⟨gb204, 1, none⟩ (.int .i64 ((rd_T53 y199 (ji31)).f1.f1))).heap[gb198]? = some (.cells #[.int .i64 ((rd_T33 t194 x28_2).f0), .int .i64 ((rd_T33 t194 x28_2).f1)] 33 (0, 0))) := ⟨by (with_reducible repeat (first | refine blk_drewN ?_ _ | refine blk_drew ?_ | refine blk_alloc ?_ _)); refine blk_far ?_ NB198_204.out _; (with_reducible repeat (first | refine blk_drewN ?_ _ | refine blk_drew ?_ | refine blk_alloc ?_ _)); refine blk_far ?_ NB198_204.out _; (with_reducible repeat (first | refine blk_drewN ?_ _ | refine blk_drew ?_ | refine blk_alloc ?_ _)); exact BK198.out⟩
                     have n5_ : Aside0 (((w38.setCell ⟨gb204, 0, none⟩ (.int .i64 ((rd_T53 y199 (ji31)).f1.f0))).setCell ⟨gb204, 1, none⟩ (.int .i64 ((rd_T53 y199 (ji31)).f1.f1))).heap[gb204]? = some (.cells #[.int .i64 ((rd_T53 y199 (ji31)).f1.f0), .int .i64 ((rd_T53 y199 (ji31)).f1.f1)] 48 (0, 0))) := ⟨by (with_reducible repeat (first | refine blk_drewN ?_ _ | refine blk_drew ?_ | refine blk_alloc ?_ _)); refine blk_put (cs := #[.int .i64 ((rd_T53 y199 (ji31)).f1.f0), .int .i64 0]) ?_ 1 _ rfl; (with_reducible repeat (first | refine blk_drewN ?_ _ | refine blk_drew ?_ | refine blk_alloc ?_ _)); refine blk_put (cs := #[.int .i64 0, .int .i64 0]) ?_ 0 _ rfl; (with_reducible repeat (first | refine blk_drewN ?_ _ | refine blk_drew ?_ | refine blk_alloc ?_ _)); exact BK204.out⟩
                     have n6_ : Aside0 (Below w.heap.size w ((w38.setCell ⟨gb204, 0, none⟩ (.int .i64 ((rd_T53 y199 (ji31)).f1.f0))).setCell ⟨gb204, 1, none⟩ (.int .i64 ((rd_T53 y199 (ji31)).f1.f1)))) := ⟨by repeat (first | (with_reducible first | exact HB.out | apply below_alloc | apply pw_below_drewN | apply below_drew1 | refine below_set ?_ GE193.out | refine below_set ?_ GE198.out | refine below_set ?_ GE204.out) | exact HB.out)⟩
                     (try clear HO_9)
                     (try clear HO_18)
                     (try clear HO_26)
                     (try clear BK193)
                     (try clear BK198)
                     (try clear BK204)
                     (try clear HB)
                     generalize ((w38.setCell ⟨gb204, 0, none⟩ (.int .i64 ((rd_T53 y199 (ji31)).f1.f0))).setCell ⟨gb204, 1, none⟩ (.int .i64 ((rd_T53 y199 (ji31)).f1.f1))) = w42 at n0_ n1_ n2_ n3_ n4_ n5_ n6_ ⊢
                     have HO_9 := n0_
                     have HO_18 := n1_
                     have HO_26 := n2_
                     have BK193 := n3_
                     have BK198 := n4_
                     have BK204 := n5_
                     have HB := n6_
                     clear n0_ n1_ n2_ n3_ n4_ n5_ n6_
                     have n0_ := Aside0.mk (Kd.R_drew HO_9.out)
                     have n1_ := Aside0.mk (Kd.R_drew HO_18.out)
                     have n2_ := Aside0.mk (Kd.R_drew HO_26.out)
                     have n3_ := Aside0.mk (blk_drew BK193.out)
                     have n4_ := Aside0.mk (blk_drew BK198.out)
                     have n5_ := Aside0.mk (blk_drew BK204.out)
                     have n6_ := Aside0.mk (below_drew1 HB.out)
                     clear HO_9
                     clear HO_18
                     clear HO_26
                     clear BK193
                     clear BK198
                     clear BK204
                     clear HB
                     have HO_9 := n0_
                     have HO_18 := n1_
                     have HO_26 := n2_
                     have BK193 := n3_
                     have BK198 := n4_
                     have BK204 := n5_
                     have HB := n6_
                     clear n0_ n1_ n2_ n3_ n4_ n5_ n6_
                     have p205 : 0 ≤ (0 : Int) := (by omega)
                     have q205 : 0 < (y199.length : Int) := of_decide_eq_true (by first | (with_reducible assumption) | assumption)
                     obtain ⟨ad205, e205, hx205_0, hx205_1, hx205_2⟩ := at_T53 HR202.out 0 p205 q205
                     have hw205_2 := hx205_2
                     (try rw [show ((0 : Int)).toNat = 0 from rfl] at hw205_2)
                     (try rw [show 0 * 3 = 0 from rfl] at hw205_2)
                     (try rw [Addr.add_zero'] at hw205_2)
                     have hw205_1 := hx205_1
                     (try rw [show ((0 : Int)).toNat = 0 from rfl] at hw205_1)
                     (try rw [show 0 * 3 = 0 from rfl] at hw205_1)
                     (try rw [Addr.add_zero'] at hw205_1)
                     have hw205_0 := hx205_0
                     (try rw [show ((0 : Int)).toNat = 0 from rfl] at hw205_0)
                     (try rw [show 0 * 3 = 0 from rfl] at hw205_0)
                     (try rw [Addr.add_zero'] at hw205_0)
                     obtain rfl : ad203 = ad205 := (by injection e205)
                     have qi205 : (0 < y199.length) = True := eq_true (by omega)
                     (try rw [show ((0 : Int)).toNat = 0 from rfl] at hx205_0)
                     (try rw [show 0 * 3 = 0 from rfl] at hx205_0)
                     (try rw [Addr.add_zero'] at hx205_0)
                     (try rw [show ((0 : Int)).toNat = 0 from rfl] at hx205_1)
                     (try rw [show 0 * 3 = 0 from rfl] at hx205_1)
                     (try rw [Addr.add_zero'] at hx205_1)
                     (try rw [show ((0 : Int)).toNat = 0 from rfl] at hx205_2)
                     (try rw [show 0 * 3 = 0 from rfl] at hx205_2)
                     (try rw [Addr.add_zero'] at hx205_2)
                     replace hx205_0 := (HB.out.cell (World.block_lt_of_cell? w _ hx205_0)).trans hx205_0
                     replace hx205_1 := (HB.out.cell (World.block_lt_of_cell? w _ hx205_1)).trans hx205_1
                     replace hx205_2 := (HB.out.cell (World.block_lt_of_cell? w _ hx205_2)).trans hx205_2
                     replace p205 := eq_true p205
                     replace q205 := eq_true q205
                     have p206 : 0 ≤ (0 : Int) := (by omega)
                     have q206 : 0 < (y199.length : Int) := of_decide_eq_true (by first | (with_reducible assumption) | assumption)
                     obtain ⟨ad206, e206, hx206_0, hx206_1, hx206_2⟩ := at_T53 HR202.out 0 p206 q206
                     have hw206_2 := hx206_2
                     (try rw [show ((0 : Int)).toNat = 0 from rfl] at hw206_2)
                     (try rw [show 0 * 3 = 0 from rfl] at hw206_2)
                     (try rw [Addr.add_zero'] at hw206_2)
                     have hw206_1 := hx206_1
                     (try rw [show ((0 : Int)).toNat = 0 from rfl] at hw206_1)
                     (try rw [show 0 * 3 = 0 from rfl] at hw206_1)
                     (try rw [Addr.add_zero'] at hw206_1)
                     have hw206_0 := hx206_0
                     (try rw [show ((0 : Int)).toNat = 0 from rfl] at hw206_0)
                     (try rw [show 0 * 3 = 0 from rfl] at hw206_0)
                     (try rw [Addr.add_zero'] at hw206_0)
                     obtain rfl : ad203 = ad206 := (by injection e206)
                     have qi206 : (0 < y199.length) = True := eq_true (by omega)
                     (try rw [show ((0 : Int)).toNat = 0 from rfl] at hx206_0)
                     (try rw [show 0 * 3 = 0 from rfl] at hx206_0)
                     (try rw [Addr.add_zero'] at hx206_0)
                     (try rw [show ((0 : Int)).toNat = 0 from rfl] at hx206_1)
                     (try rw [show 0 * 3 = 0 from rfl] at hx206_1)
                     (try rw [Addr.add_zero'] at hx206_1)
                     (try rw [show ((0 : Int)).toNat = 0 from rfl] at hx206_2)
                     (try rw [show 0 * 3 = 0 from rfl] at hx206_2)
                     (try rw [Addr.add_zero'] at hx206_2)
                     replace hx206_0 := (HB.out.cell (World.block_lt_of_cell? w _ hx206_0)).trans hx206_0
                     replace hx206_1 := (HB.out.cell (World.block_lt_of_cell? w _ hx206_1)).trans hx206_1
                     replace hx206_2 := (HB.out.cell (World.block_lt_of_cell? w _ hx206_2)).trans hx206_2
                     replace p206 := eq_true p206
                     replace q206 := eq_true q206
                     refine start_ (n := 19) (S := fun w' => w'.cell? ⟨gb204, 0, none⟩ = some (.int .i64 ((rd_T53 y199 (ji31)).f1.f0)) ∧ w'.cell? ⟨gb204, 1, none⟩ = some (.int .i64 ((rd_T53 y199 (ji31)).f1.f1)) ∧ w'.cell? ad203 = some (.int .i32 ((rd_T53 y199 0).f0)) ∧ w'.cell? ⟨ad203.block, ad203.off + 1, none⟩ = some (.int .i64 ((rd_T53 y199 0).f1.f0)) ∧ w'.cell? ⟨ad203.block, ad203.off + 2, none⟩ = some (.int .i64 ((rd_T53 y199 0).f1.f1)) ∧ w'.cell? ad203 = some (.int .i32 ((rd_T53 y199 0).f0)) ∧ w'.cell? ⟨ad203.block, ad203.off + 1, none⟩ = some (.int .i64 ((rd_T53 y199 0).f1.f0)) ∧ w'.cell? ⟨ad203.block, ad203.off + 2, none⟩ = some (.int .i64 ((rd_T53 y199 0).f1.f1))) (ds := []) #[false, false, false, false, false, false, false, false, false, false, false, false, false, false, false, false, false, false, false] (by kernel_rfl) rfl rfl ⟨(blk_cell BK204.out 0).trans rfl, (blk_cell BK204.out 1).trans rfl, ((HB.out.cell (World.block_lt_of_cell? w _ hw205_0)).trans hw205_0), ((HB.out.cell (World.block_lt_of_cell? w _ hw205_1)).trans hw205_1), ((HB.out.cell (World.block_lt_of_cell? w _ hw205_2)).trans hw205_2), ((HB.out.cell (World.block_lt_of_cell? w _ hw206_0)).trans hw206_0), ((HB.out.cell (World.block_lt_of_cell? w _ hw206_1)).trans hw206_1), ((HB.out.cell (World.block_lt_of_cell? w _ hw206_2)).trans hw206_2)⟩ (fun hHeld => ?_); refine with_tabW token_Words.tab11 token_Words.bits11 (fun HT_ HW_ => ?_)
                     generalize w42.drew = w43 at HO_9 HO_18 HO_26 BK193 BK198 BK204 HB hx205_0 hx205_1 hx205_2 hx206_0 hx206_1 hx206_2 hHeld ⊢
                     refine pure_ (i := 0) (N := some 55) (v := ?_) (a' := ?_) #[true, false, false, false, false, false, false, false, false, false, false, false, false, false, false, false, false, false, false] rfl rfl (any_of HT_.out (by kernel_rfl)) (fun _ _ _ h => h) (Or.inl ⟨by rfl, ?_⟩) ?_ ?_
                     rotate_left
                     ·intro w'
                      go_simp
                      with_reducible rfl
                     rotate_left
                     ·simp only [Act.put, List.setIfInBounds_toArray, List.set_cons_zero, List.set_cons_succ, i64_w, i32_w]
                      rfl
                     refine pure_ (i := 1) (N := some 56) (v := ?_) (a' := ?_) #[true, true, false, false, false, false, false, false, false, false, false, false, false, false, false, false, false, false, false] rfl rfl (any_of HT_.out (by kernel_rfl)) (fun _ _ _ h => h) (Or.inl ⟨by rfl, ?_⟩) ?_ ?_
                     rotate_left
                     ·intro w'
                      go_simp
                      with_reducible rfl
                     rotate_left
                     ·simp only [Act.put, List.setIfInBounds_toArray, List.set_cons_zero, List.set_cons_succ, i64_w, i32_w]
                      rfl
                     refine pure_ (i := 2) (N := some 57) (v := ?_) (a' := ?_) #[true, true, true, false, false, false, false, false, false, false, false, false, false, false, false, false, false, false, false] rfl rfl (any_of HT_.out (by kernel_rfl)) (fun _ _ _ h => h) (Or.inl ⟨by rfl, ?_⟩) ?_ ?_
                     rotate_left
                     ·intro w'
                      go_simp
                      with_reducible rfl
                     rotate_left
                     ·simp only [Act.put, List.setIfInBounds_toArray, List.set_cons_zero, List.set_cons_succ, i64_w, i32_w]
                      rfl
                     refine pure_ (i := 3) (N := some 58) (v := ?_) (a' := ?_) #[true, true, true, true, false, false, false, false, false, false, false, false, false, false, false, false, false, false, false] rfl rfl (any_of HT_.out (by kernel_rfl)) (fun _ _ _ h => h) (Or.inl ⟨by rfl, ?_⟩) ?_ ?_
                     rotate_left
                     ·intro w'
                      go_simp
                      with_reducible rfl
                     rotate_left
                     ·simp only [Act.put, List.setIfInBounds_toArray, List.set_cons_zero, List.set_cons_succ, i64_w, i32_w]
                      rfl
                     refine pure_ (i := 5) (N := some 60) (v := ?_) (a' := ?_) #[true, true, true, true, false, true, false, false, false, false, false, false, false, false, false, false, false, false, false] rfl rfl (any_of HT_.out (by kernel_rfl)) (fun _ _ _ h => h) (Or.inl ⟨by rfl, ?_⟩) ?_ ?_
                     rotate_left
                     ·intro w'
                      go_simp
                      with_reducible rfl
                     rotate_left
                     ·simp only [Act.put, List.setIfInBounds_toArray, List.set_cons_zero, List.set_cons_succ, i64_w, i32_w]
                      rfl
                     refine pure_ (i := 7) (N := some 62) (v := ?_) (a' := ?_) #[true, true, true, true, false, true, false, true, false, false, false, false, false, false, false, false, false, false, false] rfl rfl (any_of HT_.out (by kernel_rfl)) (fun _ _ _ h => h) (Or.inl ⟨by rfl, ?_⟩) ?_ ?_
                     rotate_left
                     ·intro w'
                      go_simp
                      with_reducible rfl
                     rotate_left
                     ·simp only [Act.put, List.setIfInBounds_toArray, List.set_cons_zero, List.set_cons_succ, i64_w, i32_w]
                      rfl
                     refine pure_ (i := 10) (N := some 65) (v := ?_) (a' := ?_) #[true, true, true, true, false, true, false, true, false, false, true, false, false, false, false, false, false, false, false] rfl rfl (any_of HT_.out (by kernel_rfl)) (fun _ _ _ h => h) (Or.inl ⟨by rfl, ?_⟩) ?_ ?_
                     rotate_left
                     ·intro w'
                      go_simp
                      with_reducible rfl
                     rotate_left
                     ·simp only [Act.put, List.setIfInBounds_toArray, List.set_cons_zero, List.set_cons_succ, i64_w, i32_w]
                      rfl
                     refine pure_ (i := 11) (N := some 66) (v := ?_) (a' := ?_) #[true, true, true, true, false, true, false, true, false, false, true, true, false, false, false, false, false, false, false] rfl rfl (any_of HT_.out (by kernel_rfl)) (fun _ _ _ h => h) (Or.inl ⟨by rfl, ?_⟩) ?_ ?_
                     rotate_left
                     ·intro w'
                      go_simp
                      with_reducible rfl
                     rotate_left
                     ·simp only [Act.put, List.setIfInBounds_toArray, List.set_cons_zero, List.set_cons_succ, i64_w, i32_w]
                      rfl
                     refine pure_ (i := 12) (N := some 67) (v := ?_) (a' := ?_) #[true, true, true, true, false, true, false, true, false, false, true, true, true, false, false, false, false, false, false] rfl rfl (any_of HT_.out (by kernel_rfl)) (fun _ _ _ h => h) (Or.inl ⟨by rfl, ?_⟩) ?_ ?_
                     rotate_left
                     ·intro w'
                      go_simp
                      with_reducible rfl
                     rotate_left
                     ·simp only [Act.put, List.setIfInBounds_toArray, List.set_cons_zero, List.set_cons_succ, i64_w, i32_w]
                      rfl
                     refine pure_ (i := 13) (N := some 68) (v := ?_) (a' := ?_) #[true, true, true, true, false, true, false, true, false, false, true, true, true, true, false, false, false, false, false] rfl rfl (any_of HT_.out (by kernel_rfl)) (fun _ _ _ h => h) (Or.inl ⟨by rfl, ?_⟩) ?_ ?_
                     rotate_left
                     ·intro w'
                      go_simp
                      with_reducible rfl
                     rotate_left
                     ·simp only [Act.put, List.setIfInBounds_toArray, List.set_cons_zero, List.set_cons_succ, i64_w, i32_w]
                      rfl
                     refine take_ (i := 4) (N := some 59) (v := ?_) (a' := ?_) #[true, true, true, true, true, true, false, true, false, false, true, true, true, true, false, false, false, false, false] rfl rfl (take_ofW HT_.out HW_.out (by kernel_rfl)) (fun _ _ _ h => h) (Or.inl ⟨by rfl, ?_⟩) hHeld ?_ ?_
                     rotate_left
                     ·rintro w' ⟨s0, s1, s2, s3, s4, s5, s6, s7⟩
                      go_simp
                      with_reducible rfl
                     rotate_left
                     ·simp only [Act.put, List.setIfInBounds_toArray, List.set_cons_zero, List.set_cons_succ, i64_w, i32_w]
                      rfl
                     refine take_ (i := 6) (N := some 61) (v := ?_) (a' := ?_) #[true, true, true, true, true, true, true, true, false, false, true, true, true, true, false, false, false, false, false] rfl rfl (take_ofW HT_.out HW_.out (by kernel_rfl)) (fun _ _ _ h => h) (Or.inl ⟨by rfl, ?_⟩) hHeld ?_ ?_
                     rotate_left
                     ·rintro w' ⟨s0, s1, s2, s3, s4, s5, s6, s7⟩
                      go_simp
                      with_reducible rfl
                     rotate_left
                     ·simp only [Act.put, List.setIfInBounds_toArray, List.set_cons_zero, List.set_cons_succ, i64_w, i32_w]
                      rfl
                     refine take_ (i := 8) (N := some 63) (v := ?_) (a' := ?_) #[true, true, true, true, true, true, true, true, true, false, true, true, true, true, false, false, false, false, false] rfl rfl (take_ofW HT_.out HW_.out (by kernel_rfl)) (fun _ _ _ h => h) (Or.inl ⟨by rfl, ?_⟩) hHeld ?_ ?_
                     rotate_left
                     ·rintro w' ⟨s0, s1, s2, s3, s4, s5, s6, s7⟩
                      go_simp
                      with_reducible rfl
                     rotate_left
                     ·simp only [Act.put, List.setIfInBounds_toArray, List.set_cons_zero, List.set_cons_succ, i64_w, i32_w]
                      rfl
                     refine pure_ (i := 9) (N := some 64) (v := ?_) (a' := ?_) #[true, true, true, true, true, true, true, true, true, true, true, true, true, true, false, false, false, false, false] rfl rfl (any_of HT_.out (by kernel_rfl)) (fun _ _ _ h => h) (Or.inl ⟨by rfl, ?_⟩) ?_ ?_
                     rotate_left
                     ·intro w'
                      go_simp
                      with_reducible rfl
                     rotate_left
                     ·simp only [Act.put, List.setIfInBounds_toArray, List.set_cons_zero, List.set_cons_succ, i64_w, i32_w]
                      rfl
                     refine take_ (i := 14) (N := some 69) (v := ?_) (a' := ?_) #[true, true, true, true, true, true, true, true, true, true, true, true, true, true, true, false, false, false, false] rfl rfl (take_ofW HT_.out HW_.out (by kernel_rfl)) (fun _ _ _ h => h) (Or.inl ⟨by rfl, ?_⟩) hHeld ?_ ?_
                     rotate_left
                     ·rintro w' ⟨s0, s1, s2, s3, s4, s5, s6, s7⟩
                      go_simp
                      with_reducible rfl
                     rotate_left
                     ·simp only [Act.put, List.setIfInBounds_toArray, List.set_cons_zero, List.set_cons_succ, i64_w, i32_w]
                      rfl
                     refine pure_ (i := 15) (N := some 70) (v := ?_) (a' := ?_) #[true, true, true, true, true, true, true, true, true, true, true, true, true, true, true, true, false, false, false] rfl rfl (any_of HT_.out (by kernel_rfl)) (fun _ _ _ h => h) (Or.inl ⟨by rfl, ?_⟩) ?_ ?_
                     rotate_left
                     ·intro w'
                      go_simp
                      with_reducible rfl
                     rotate_left
                     ·simp only [Act.put, List.setIfInBounds_toArray, List.set_cons_zero, List.set_cons_succ, i64_w, i32_w]
                      rfl
                     refine pure_ (i := 16) (N := some 71) (v := ?_) (a' := ?_) #[true, true, true, true, true, true, true, true, true, true, true, true, true, true, true, true, true, false, false] rfl rfl (any_of HT_.out (by kernel_rfl)) (fun _ _ _ h => h) (Or.inl ⟨by rfl, ?_⟩) ?_ ?_
                     rotate_left
                     ·intro w'
                      go_simp
                      with_reducible rfl
                     rotate_left
                     ·simp only [Act.put, List.setIfInBounds_toArray, List.set_cons_zero, List.set_cons_succ, i64_w, i32_w]
                      rfl
                     refine one_ (i := 17) (N := some 16) #[true, true, true, true, true, true, true, true, true, true, true, true, true, true, true, true, true, true, false] rfl rfl (one_of HT_.out (by kernel_rfl)) (by decide) (fun K hK => ?_)
                     refine box_step ?hg (N := 16) ?hd (cs := #[.int .i64 0, .int .i64 0]) (t := 48) ?hr ?_; (case hd => rfl); (case hg => rfl); (case hr => first | (go_simp; done) | (go_simp; rfl))
                     intro gb207 hg w44 hbox hb
                     have n0_ := Aside0.mk (Kd.R_below (by (with_reducible repeat (first | apply Kd.R_alloc | apply Kd.R_drewN | apply Kd.R_drew)); exact HO_9.out) hb)
                     have n1_ := Aside0.mk (Kd.R_below (by (with_reducible repeat (first | apply Kd.R_alloc | apply Kd.R_drewN | apply Kd.R_drew)); exact HO_18.out) hb)
                     have n2_ := Aside0.mk (Kd.R_below (by (with_reducible repeat (first | apply Kd.R_alloc | apply Kd.R_drewN | apply Kd.R_drew)); exact HO_26.out) hb)
                     have n3_ := Aside0.mk (blk_below (g := gb193) (o := .cells #[.int .i64 ((rd_T33 t189 x20_1).f0), .int .i64 ((rd_T33 t189 x20_1).f1)] 33 (0, 0)) (by (with_reducible repeat (first | refine blk_drewN ?_ _ | refine blk_drew ?_ | refine blk_alloc ?_ _)); exact BK193.out) hb)
                     have n4_ := Aside0.mk (blk_below (g := gb198) (o := .cells #[.int .i64 ((rd_T33 t194 x28_2).f0), .int .i64 ((rd_T33 t194 x28_2).f1)] 33 (0, 0)) (by (with_reducible repeat (first | refine blk_drewN ?_ _ | refine blk_drew ?_ | refine blk_alloc ?_ _)); exact BK198.out) hb)
                     have n5_ := Aside0.mk (blk_below (g := gb204) (o := .cells #[.int .i64 ((rd_T53 y199 (ji31)).f1.f0), .int .i64 ((rd_T53 y199 (ji31)).f1.f1)] 48 (0, 0)) (by (with_reducible repeat (first | refine blk_drewN ?_ _ | refine blk_drew ?_ | refine blk_alloc ?_ _)); exact BK204.out) hb)
                     have n6_ := Aside0.mk (below_step (by repeat (first | (with_reducible first | exact HB.out | apply below_alloc | apply pw_below_drewN | apply below_drew1 | refine below_set ?_ GE193.out | refine below_set ?_ GE198.out | refine below_set ?_ GE204.out) | exact HB.out)) hb)
                     have n7_ := Aside0.mk (hbox)
                     have n8_ := Aside0.mk ((by rw [hg]; exact (below_size (by repeat (first | (with_reducible first | exact HB.out | apply below_alloc | apply pw_below_drewN | apply below_drew1 | refine below_set ?_ GE193.out | refine below_set ?_ GE198.out | refine below_set ?_ GE204.out) | exact HB.out))) : w.heap.size ≤ gb207))
                     have n9_ := Aside0.mk ((by rw [hg]; exact (below_size (by repeat (first | (with_reducible first | exact HB.out | apply below_alloc | apply pw_below_drewN | apply below_drew1 | refine below_set ?_ GE193.out | refine below_set ?_ GE198.out | refine below_set ?_ GE204.out) | exact HB.out))) : w.heap.size ≤ gb207))
                     have n10_ := Aside0.mk ((by rw [hg]; exact Nat.ne_of_lt (blk_lt (g := gb193) (o := .cells #[.int .i64 ((rd_T33 t189 x20_1).f0), .int .i64 ((rd_T33 t189 x20_1).f1)] 33 (0, 0)) (by (with_reducible repeat (first | refine blk_drewN ?_ _ | refine blk_drew ?_ | refine blk_alloc ?_ _)); exact BK193.out)) : gb193 ≠ gb207))
                     have n11_ := Aside0.mk ((by rw [hg]; exact Nat.ne_of_gt (blk_lt (g := gb193) (o := .cells #[.int .i64 ((rd_T33 t189 x20_1).f0), .int .i64 ((rd_T33 t189 x20_1).f1)] 33 (0, 0)) (by (with_reducible repeat (first | refine blk_drewN ?_ _ | refine blk_drew ?_ | refine blk_alloc ?_ _)); exact BK193.out)) : gb207 ≠ gb193))
                     have n12_ := Aside0.mk ((by rw [hg]; exact Nat.ne_of_lt (blk_lt (g := gb198) (o := .cells #[.int .i64 ((rd_T33 t194 x28_2).f0), .int .i64 ((rd_T33 t194 x28_2).f1)] 33 (0, 0)) (by (with_reducible repeat (first | refine blk_drewN ?_ _ | refine blk_drew ?_ | refine blk_alloc ?_ _)); exact BK198.out)) : gb198 ≠ gb207))
                     have n13_ := Aside0.mk ((by rw [hg]; exact Nat.ne_of_gt (blk_lt (g := gb198) (o := .cells #[.int .i64 ((rd_T33 t194 x28_2).f0), .int .i64 ((rd_T33 t194 x28_2).f1)] 33 (0, 0)) (by (with_reducible repeat (first | refine blk_drewN ?_ _ | refine blk_drew ?_ | refine blk_alloc ?_ _)); exact BK198.out)) : gb207 ≠ gb198))
                     have n14_ := Aside0.mk ((by rw [hg]; exact Nat.ne_of_lt (blk_lt (g := gb204) (o := .cells #[.int .i64 ((rd_T53 y199 (ji31)).f1.f0), .int .i64 ((rd_T53 y199 (ji31)).f1.f1)] 48 (0, 0)) (by (with_reducible repeat (first | refine blk_drewN ?_ _ | refine blk_drew ?_ | refine blk_alloc ?_ _)); exact BK204.out)) : gb204 ≠ gb207))
                     have n15_ := Aside0.mk ((by rw [hg]; exact Nat.ne_of_gt (blk_lt (g := gb204) (o := .cells #[.int .i64 ((rd_T53 y199 (ji31)).f1.f0), .int .i64 ((rd_T53 y199 (ji31)).f1.f1)] 48 (0, 0)) (by (with_reducible repeat (first | refine blk_drewN ?_ _ | refine blk_drew ?_ | refine blk_alloc ?_ _)); exact BK204.out)) : gb207 ≠ gb204))
                     clear HO_9
                     clear HO_18
                     clear HO_26
                     clear BK193
                     clear BK198
                     clear BK204
                     clear HB
                     have HO_9 := n0_
                     have HO_18 := n1_
                     have HO_26 := n2_
                     have BK193 := n3_
                     have BK198 := n4_
                     have BK204 := n5_
                     have HB := n6_
                     have BK207 := n7_
                     have GW207 := n8_
                     have GE207 := n9_
                     have NB193_207 := n10_
                     have NB207_193 := n11_
                     have NB198_207 := n12_
                     have NB207_198 := n13_
                     have NB204_207 := n14_
                     have NB207_204 := n15_
                     clear n0_ n1_ n2_ n3_ n4_ n5_ n6_ n7_ n8_ n9_ n10_ n11_ n12_ n13_ n14_ n15_
                     clear hb hbox hg
                     refine hK.out _ _ ⟨(blk_cell BK204.out 0).trans rfl, (blk_cell BK204.out 1).trans rfl, ((HB.out.cell (World.block_lt_of_cell? w _ hw205_0)).trans hw205_0), ((HB.out.cell (World.block_lt_of_cell? w _ hw205_1)).trans hw205_1), ((HB.out.cell (World.block_lt_of_cell? w _ hw205_2)).trans hw205_2), ((HB.out.cell (World.block_lt_of_cell? w _ hw206_0)).trans hw206_0), ((HB.out.cell (World.block_lt_of_cell? w _ hw206_1)).trans hw206_1), ((HB.out.cell (World.block_lt_of_cell? w _ hw206_2)).trans hw206_2)⟩ (fun hHeld => ?_)
                     clear hK K
                     refine norm_ (a' := ?_) ?_ ?_
                     rotate_left
                     ·show Act.put _ (some 16) _ = _
                      simp only [Act.put, List.setIfInBounds_toArray, List.set_cons_zero, List.set_cons_succ, i64_w, i32_w]
                      rfl
                     refine one_ (i := 18) (N := none) #[true, true, true, true, true, true, true, true, true, true, true, true, true, true, true, true, true, true, true] rfl rfl (one_of HT_.out (by kernel_rfl)) (by decide) (fun K hK => ?_)
                     have hs45 : w44.cell? ⟨gb207, 0, none⟩ = some (.int .i64 0) := (blk_cell BK207.out 0).trans rfl
                     have hfs45 := blk_frozen BK207.out 0
                     have hns45_0 := NB193_207.out
                     have hns45_1 := NB198_207.out
                     have hns45_2 := NB204_207.out
                     have hms45_0 := NB207_193.out
                     have hms45_1 := NB207_198.out
                     have hms45_2 := NB207_204.out
                     have hs46 : w44.cell? ⟨gb207, 1, none⟩ = some (.int .i64 0) := (blk_cell BK207.out 1).trans rfl
                     have hfs46 := blk_frozen BK207.out 1
                     have hns46_0 := NB193_207.out
                     have hns46_1 := NB198_207.out
                     have hns46_2 := NB204_207.out
                     have hms46_0 := NB207_193.out
                     have hms46_1 := NB207_198.out
                     have hms46_2 := NB207_204.out
                     refine skip_ (w1 := ?_) (by rfl) rfl ?_ ?_
                     rotate_left
                     ·go_simp
                      rfl
                     refine hK.out _ _ ⟨((cell_far (p := ⟨gb207, _, none⟩) NB204_207.out _).trans (((cell_far (p := ⟨gb207, _, none⟩) NB204_207.out _).trans (hHeld.1)))), ((cell_far (p := ⟨gb207, _, none⟩) NB204_207.out _).trans (((cell_far (p := ⟨gb207, _, none⟩) NB204_207.out _).trans (hHeld.2.1)))), ((cell_far (p := ⟨gb207, _, none⟩) (by first | exact Nat.ne_of_lt (Nat.lt_of_lt_of_le (by have := World.block_lt_of_cell? _ _ hw205_0; first | rwa [add_block] at this | exact this) GW207.out) | (rw [add_block]; exact Nat.ne_of_lt (Nat.lt_of_lt_of_le (by have := World.block_lt_of_cell? _ _ hw205_0; first | rwa [add_block] at this | exact this) GW207.out)) | (show (Addr.add _ _).block ≠ _; rw [add_block]; exact Nat.ne_of_lt (Nat.lt_of_lt_of_le (by have := World.block_lt_of_cell? _ _ hw205_0; first | rwa [add_block] at this | exact this) GW207.out)) | (dsimp only; exact Nat.ne_of_lt (Nat.lt_of_lt_of_le (by have := World.block_lt_of_cell? _ _ hw205_0; first | rwa [add_block] at this | exact this) GW207.out))) _).trans (((cell_far (p := ⟨gb207, _, none⟩) (by first | exact Nat.ne_of_lt (Nat.lt_of_lt_of_le (by have := World.block_lt_of_cell? _ _ hw205_0; first | rwa [add_block] at this | exact this) GW207.out) | (rw [add_block]; exact Nat.ne_of_lt (Nat.lt_of_lt_of_le (by have := World.block_lt_of_cell? _ _ hw205_0; first | rwa [add_block] at this | exact this) GW207.out)) | (show (Addr.add _ _).block ≠ _; rw [add_block]; exact Nat.ne_of_lt (Nat.lt_of_lt_of_le (by have := World.block_lt_of_cell? _ _ hw205_0; first | rwa [add_block] at this | exact this) GW207.out)) | (dsimp only; exact Nat.ne_of_lt (Nat.lt_of_lt_of_le (by have := World.block_lt_of_cell? _ _ hw205_0; first | rwa [add_block] at this | exact this) GW207.out))) _).trans (hHeld.2.2.1)))), ((cell_far (p := ⟨gb207, _, none⟩) (by first | exact Nat.ne_of_lt (Nat.lt_of_lt_of_le (by have := World.block_lt_of_cell? _ _ hw205_1; first | rwa [add_block] at this | exact this) GW207.out) | (rw [add_block]; exact Nat.ne_of_lt (Nat.lt_of_lt_of_le (by have := World.block_lt_of_cell? _ _ hw205_1; first | rwa [add_block] at this | exact this) GW207.out)) | (show (Addr.add _ _).block ≠ _; rw [add_block]; exact Nat.ne_of_lt (Nat.lt_of_lt_of_le (by have := World.block_lt_of_cell? _ _ hw205_1; first | rwa [add_block] at this | exact this) GW207.out)) | (dsimp only; exact Nat.ne_of_lt (Nat.lt_of_lt_of_le (by have := World.block_lt_of_cell? _ _ hw205_1; first | rwa [add_block] at this | exact this) GW207.out))) _).trans (((cell_far (p := ⟨gb207, _, none⟩) (by first | exact Nat.ne_of_lt (Nat.lt_of_lt_of_le (by have := World.block_lt_of_cell? _ _ hw205_1; first | rwa [add_block] at this | exact this) GW207.out) | (rw [add_block]; exact Nat.ne_of_lt (Nat.lt_of_lt_of_le (by have := World.block_lt_of_cell? _ _ hw205_1; first | rwa [add_block] at this | exact this) GW207.out)) | (show (Addr.add _ _).block ≠ _; rw [add_block]; exact Nat.ne_of_lt (Nat.lt_of_lt_of_le (by have := World.block_lt_of_cell? _ _ hw205_1; first | rwa [add_block] at this | exact this) GW207.out)) | (dsimp only; exact Nat.ne_of_lt (Nat.lt_of_lt_of_le (by have := World.block_lt_of_cell? _ _ hw205_1; first | rwa [add_block] at this | exact this) GW207.out))) _).trans (hHeld.2.2.2.1)))), ((cell_far (p := ⟨gb207, _, none⟩) (by first | exact Nat.ne_of_lt (Nat.lt_of_lt_of_le (by have := World.block_lt_of_cell? _ _ hw205_2; first | rwa [add_block] at this | exact this) GW207.out) | (rw [add_block]; exact Nat.ne_of_lt (Nat.lt_of_lt_of_le (by have := World.block_lt_of_cell? _ _ hw205_2; first | rwa [add_block] at this | exact this) GW207.out)) | (show (Addr.add _ _).block ≠ _; rw [add_block]; exact Nat.ne_of_lt (Nat.lt_of_lt_of_le (by have := World.block_lt_of_cell? _ _ hw205_2; first | rwa [add_block] at this | exact this) GW207.out)) | (dsimp only; exact Nat.ne_of_lt (Nat.lt_of_lt_of_le (by have := World.block_lt_of_cell? _ _ hw205_2; first | rwa [add_block] at this | exact this) GW207.out))) _).trans (((cell_far (p := ⟨gb207, _, none⟩) (by first | exact Nat.ne_of_lt (Nat.lt_of_lt_of_le (by have := World.block_lt_of_cell? _ _ hw205_2; first | rwa [add_block] at this | exact this) GW207.out) | (rw [add_block]; exact Nat.ne_of_lt (Nat.lt_of_lt_of_le (by have := World.block_lt_of_cell? _ _ hw205_2; first | rwa [add_block] at this | exact this) GW207.out)) | (show (Addr.add _ _).block ≠ _; rw [add_block]; exact Nat.ne_of_lt (Nat.lt_of_lt_of_le (by have := World.block_lt_of_cell? _ _ hw205_2; first | rwa [add_block] at this | exact this) GW207.out)) | (dsimp only; exact Nat.ne_of_lt (Nat.lt_of_lt_of_le (by have := World.block_lt_of_cell? _ _ hw205_2; first | rwa [add_block] at this | exact this) GW207.out))) _).trans (hHeld.2.2.2.2.1)))), ((cell_far (p := ⟨gb207, _, none⟩) (by first | exact Nat.ne_of_lt (Nat.lt_of_lt_of_le (by have := World.block_lt_of_cell? _ _ hw206_0; first | rwa [add_block] at this | exact this) GW207.out) | (rw [add_block]; exact Nat.ne_of_lt (Nat.lt_of_lt_of_le (by have := World.block_lt_of_cell? _ _ hw206_0; first | rwa [add_block] at this | exact this) GW207.out)) | (show (Addr.add _ _).block ≠ _; rw [add_block]; exact Nat.ne_of_lt (Nat.lt_of_lt_of_le (by have := World.block_lt_of_cell? _ _ hw206_0; first | rwa [add_block] at this | exact this) GW207.out)) | (dsimp only; exact Nat.ne_of_lt (Nat.lt_of_lt_of_le (by have := World.block_lt_of_cell? _ _ hw206_0; first | rwa [add_block] at this | exact this) GW207.out))) _).trans (((cell_far (p := ⟨gb207, _, none⟩) (by first | exact Nat.ne_of_lt (Nat.lt_of_lt_of_le (by have := World.block_lt_of_cell? _ _ hw206_0; first | rwa [add_block] at this | exact this) GW207.out) | (rw [add_block]; exact Nat.ne_of_lt (Nat.lt_of_lt_of_le (by have := World.block_lt_of_cell? _ _ hw206_0; first | rwa [add_block] at this | exact this) GW207.out)) | (show (Addr.add _ _).block ≠ _; rw [add_block]; exact Nat.ne_of_lt (Nat.lt_of_lt_of_le (by have := World.block_lt_of_cell? _ _ hw206_0; first | rwa [add_block] at this | exact this) GW207.out)) | (dsimp only; exact Nat.ne_of_lt (Nat.lt_of_lt_of_le (by have := World.block_lt_of_cell? _ _ hw206_0; first | rwa [add_block] at this | exact this) GW207.out))) _).trans (hHeld.2.2.2.2.2.1)))), ((cell_far (p := ⟨gb207, _, none⟩) (by first | exact Nat.ne_of_lt (Nat.lt_of_lt_of_le (by have := World.block_lt_of_cell? _ _ hw206_1; first | rwa [add_block] at this | exact this) GW207.out) | (rw [add_block]; exact Nat.ne_of_lt (Nat.lt_of_lt_of_le (by have := World.block_lt_of_cell? _ _ hw206_1; first | rwa [add_block] at this | exact this) GW207.out)) | (show (Addr.add _ _).block ≠ _; rw [add_block]; exact Nat.ne_of_lt (Nat.lt_of_lt_of_le (by have := World.block_lt_of_cell? _ _ hw206_1; first | rwa [add_block] at this | exact this) GW207.out)) | (dsimp only; exact Nat.ne_of_lt (Nat.lt_of_lt_of_le (by have := World.block_lt_of_cell? _ _ hw206_1; first | rwa [add_block] at this | exact this) GW207.out))) _).trans (((cell_far (p := ⟨gb207, _, none⟩) (by first | exact Nat.ne_of_lt (Nat.lt_of_lt_of_le (by have := World.block_lt_of_cell? _ _ hw206_1; first | rwa [add_block] at this | exact this) GW207.out) | (rw [add_block]; exact Nat.ne_of_lt (Nat.lt_of_lt_of_le (by have := World.block_lt_of_cell? _ _ hw206_1; first | rwa [add_block] at this | exact this) GW207.out)) | (show (Addr.add _ _).block ≠ _; rw [add_block]; exact Nat.ne_of_lt (Nat.lt_of_lt_of_le (by have := World.block_lt_of_cell? _ _ hw206_1; first | rwa [add_block] at this | exact this) GW207.out)) | (dsimp only; exact Nat.ne_of_lt (Nat.lt_of_lt_of_le (by have := World.block_lt_of_cell? _ _ hw206_1; first | rwa [add_block] at this | exact this) GW207.out))) _).trans (hHeld.2.2.2.2.2.2.1)))), ((cell_far (p := ⟨gb207, _, none⟩) (by first | exact Nat.ne_of_lt (Nat.lt_of_lt_of_le (by have := World.block_lt_of_cell? _ _ hw206_2; first | rwa [add_block] at this | exact this) GW207.out) | (rw [add_block]; exact Nat.ne_of_lt (Nat.lt_of_lt_of_le (by have := World.block_lt_of_cell? _ _ hw206_2; first | rwa [add_block] at this | exact this) GW207.out)) | (show (Addr.add _ _).block ≠ _; rw [add_block]; exact Nat.ne_of_lt (Nat.lt_of_lt_of_le (by have := World.block_lt_of_cell? _ _ hw206_2; first | rwa [add_block] at this | exact this) GW207.out)) | (dsimp only; exact Nat.ne_of_lt (Nat.lt_of_lt_of_le (by have := World.block_lt_of_cell? _ _ hw206_2; first | rwa [add_block] at this | exact this) GW207.out))) _).trans (((cell_far (p := ⟨gb207, _, none⟩) (by first | exact Nat.ne_of_lt (Nat.lt_of_lt_of_le (by have := World.block_lt_of_cell? _ _ hw206_2; first | rwa [add_block] at this | exact this) GW207.out) | (rw [add_block]; exact Nat.ne_of_lt (Nat.lt_of_lt_of_le (by have := World.block_lt_of_cell? _ _ hw206_2; first | rwa [add_block] at this | exact this) GW207.out)) | (show (Addr.add _ _).block ≠ _; rw [add_block]; exact Nat.ne_of_lt (Nat.lt_of_lt_of_le (by have := World.block_lt_of_cell? _ _ hw206_2; first | rwa [add_block] at this | exact this) GW207.out)) | (dsimp only; exact Nat.ne_of_lt (Nat.lt_of_lt_of_le (by have := World.block_lt_of_cell? _ _ hw206_2; first | rwa [add_block] at this | exact this) GW207.out))) _).trans (hHeld.2.2.2.2.2.2.2))))⟩ (fun hHeld => ?_)
                     clear hK K
                     refine done_ (done_of HT_.out (by kernel_rfl)) ?_
                     try go_wp2
                     have n0_ : Aside0 (Kd.R k50 50 ((w44.setCell ⟨gb207, 0, none⟩ (.int .i64 ((rd_T53 y199 0).f1.f0))).setCell ⟨gb207, 1, none⟩ (.int .i64 (wrap64 ((wrap64 (((rd_T53 y199 (ji31)).f1.f0) + ((rd_T53 y199 (ji31)).f1.f1))) - ((rd_T53 y199 0).f1.f0))))) w.heap.size (fun _ => True) u9 x9_2) := ⟨by (with_reducible repeat (first | apply Kd.R_alloc | apply Kd.R_drewN | apply Kd.R_drew)); exact Kd.R_mono (Kd.R_far (p := ⟨gb207, 1, none⟩) (Kd.R_far (p := ⟨gb207, 0, none⟩) (Kd.R_types HO_9.out BK207.out (by decide)) (fun _ hk => hk.2) (.int .i64 ((rd_T53 y199 0).f1.f0))) (fun _ hk => hk.2) (.int .i64 (wrap64 ((wrap64 (((rd_T53 y199 (ji31)).f1.f0) + ((rd_T53 y199 (ji31)).f1.f1))) - ((rd_T53 y199 0).f1.f0))))) (fun _ hk => trivial)⟩
                     have n1_ : Aside0 (Kd.R k33 33 ((w44.setCell ⟨gb207, 0, none⟩ (.int .i64 ((rd_T53 y199 0).f1.f0))).setCell ⟨gb207, 1, none⟩ (.int .i64 (wrap64 ((wrap64 (((rd_T53 y199 (ji31)).f1.f0) + ((rd_T53 y199 (ji31)).f1.f1))) - ((rd_T53 y199 0).f1.f0))))) w.heap.size (fun k_ => some k_ ≠ (.slice (some ad197) t194.length co15 : Value).ownBlock ∧ k_ ≠ gb193 ∧ k_ ≠ gb198) (.slice (some ad192) t189.length co7) t189) := ⟨by (with_reducible repeat (first | apply Kd.R_alloc | apply Kd.R_drewN | apply Kd.R_drew)); exact Kd.R_mono (Kd.R_far (p := ⟨gb207, 1, none⟩) (Kd.R_far (p := ⟨gb207, 0, none⟩) (Kd.R_types HO_18.out BK207.out (by decide)) (fun _ hk => hk.2) (.int .i64 ((rd_T53 y199 0).f1.f0))) (fun _ hk => hk.2) (.int .i64 (wrap64 ((wrap64 (((rd_T53 y199 (ji31)).f1.f0) + ((rd_T53 y199 (ji31)).f1.f1))) - ((rd_T53 y199 0).f1.f0))))) (fun _ hk => ⟨hk.1.1, ⟨hk.1.2.1, hk.1.2.2⟩⟩)⟩
                     have n2_ : Aside0 (Kd.R k33 33 ((w44.setCell ⟨gb207, 0, none⟩ (.int .i64 ((rd_T53 y199 0).f1.f0))).setCell ⟨gb207, 1, none⟩ (.int .i64 (wrap64 ((wrap64 (((rd_T53 y199 (ji31)).f1.f0) + ((rd_T53 y199 (ji31)).f1.f1))) - ((rd_T53 y199 0).f1.f0))))) w.heap.size (fun k_ => some k_ ≠ (.slice (some ad192) t189.length co7 : Value).ownBlock ∧ k_ ≠ gb193 ∧ k_ ≠ gb198) (.slice (some ad197) t194.length co15) t194) := ⟨by (with_reducible repeat (first | apply Kd.R_alloc | apply Kd.R_drewN | apply Kd.R_drew)); exact Kd.R_mono (Kd.R_far (p := ⟨gb207, 1, none⟩) (Kd.R_far (p := ⟨gb207, 0, none⟩) (Kd.R_types HO_26.out BK207.out (by decide)) (fun _ hk => hk.2) (.int .i64 ((rd_T53 y199 0).f1.f0))) (fun _ hk => hk.2) (.int .i64 (wrap64 ((wrap64 (((rd_T53 y199 (ji31)).f1.f0) + ((rd_T53 y199 (ji31)).f1.f1))) - ((rd_T53 y199 0).f1.f0))))) (fun _ hk => ⟨hk.1.1, ⟨hk.1.2.1, hk.1.2.2⟩⟩)⟩
                     have n3_ : Aside0 (((w44.setCell ⟨gb207, 0, none⟩ (.int .i64 ((rd_T53 y199 0).f1.f0))).setCell ⟨gb207, 1, none⟩ (.int .i64 (wrap64 ((wrap64 (((rd_T53 y199 (ji31)).f1.f0) + ((rd_T53 y199 (ji31)).f1.f1))) - ((rd_T53 y199 0).f1.f0))))).heap[gb193]? = some (.cells #[.int .i64 ((rd_T33 t189 x20_1).f0), .int .i64 ((rd_T33 t189 x20_1).f1)] 33 (0, 0))) := ⟨by (with_reducible repeat (first | refine blk_drewN ?_ _ | refine blk_drew ?_ | refine blk_alloc ?_ _)); refine blk_far ?_ NB193_207.out _; (with_reducible repeat (first | refine blk_drewN ?_ _ | refine blk_drew ?_ | refine blk_alloc ?_ _)); refine blk_far ?_ NB193_207.out _; (with_reducible repeat (first | refine blk_drewN ?_ _ | refine blk_drew ?_ | refine blk_alloc ?_ _)); exact BK193.out⟩
                     have n4_ : Aside0 (((w44.setCell ⟨gb207, 0, none⟩ (.int .i64 ((rd_T53 y199 0).f1.f0))).setCell ⟨gb207, 1, none⟩ (.int .i64 (wrap64 ((wrap64 (((rd_T53 y199 (ji31)).f1.f0) + ((rd_T53 y199 (ji31)).f1.f1))) - ((rd_T53 y199 0).f1.f0))))).heap[gb198]? = some (.cells #[.int .i64 ((rd_T33 t194 x28_2).f0), .int .i64 ((rd_T33 t194 x28_2).f1)] 33 (0, 0))) := ⟨by (with_reducible repeat (first | refine blk_drewN ?_ _ | refine blk_drew ?_ | refine blk_alloc ?_ _)); refine blk_far ?_ NB198_207.out _; (with_reducible repeat (first | refine blk_drewN ?_ _ | refine blk_drew ?_ | refine blk_alloc ?_ _)); refine blk_far ?_ NB198_207.out _; (with_reducible repeat (first | refine blk_drewN ?_ _ | refine blk_drew ?_ | refine blk_alloc ?_ _)); exact BK198.out⟩
                     have n5_ : Aside0 (((w44.setCell ⟨gb207, 0, none⟩ (.int .i64 ((rd_T53 y199 0).f1.f0))).setCell ⟨gb207, 1, none⟩ (.int .i64 (wrap64 ((wrap64 (((rd_T53 y199 (ji31)).f1.f0) + ((rd_T53 y199 (ji31)).f1.f1))) - ((rd_T53 y199 0).f1.f0))))).heap[gb204]? = some (.cells #[.int .i64 ((rd_T53 y199 (ji31)).f1.f0), .int .i64 ((rd_T53 y199 (ji31)).f1.f1)] 48 (0, 0))) := ⟨by (with_reducible repeat (first | refine blk_drewN ?_ _ | refine blk_drew ?_ | refine blk_alloc ?_ _)); refine blk_far ?_ NB204_207.out _; (with_reducible repeat (first | refine blk_drewN ?_ _ | refine blk_drew ?_ | refine blk_alloc ?_ _)); refine blk_far ?_ NB204_207.out _; (with_reducible repeat (first | refine blk_drewN ?_ _ | refine blk_drew ?_ | refine blk_alloc ?_ _)); exact BK204.out⟩
                     have n6_ : Aside0 (((w44.setCell ⟨gb207, 0, none⟩ (.int .i64 ((rd_T53 y199 0).f1.f0))).setCell ⟨gb207, 1, none⟩ (.int .i64 (wrap64 ((wrap64 (((rd_T53 y199 (ji31)).f1.f0) + ((rd_T53 y199 (ji31)).f1.f1))) - ((rd_T53 y199 0).f1.f0))))).heap[gb207]? = some (.cells #[.int .i64 ((rd_T53 y199 0).f1.f0), .int .i64 (wrap64 ((wrap64 (((rd_T53 y199 (ji31)).f1.f0) + ((rd_T53 y199 (ji31)).f1.f1))) - ((rd_T53 y199 0).f1.f0)))] 48 (0, 0))) := ⟨by (with_reducible repeat (first | refine blk_drewN ?_ _ | refine blk_drew ?_ | refine blk_alloc ?_ _)); refine blk_put (cs := #[.int .i64 ((rd_T53 y199 0).f1.f0), .int .i64 0]) ?_ 1 _ rfl; (with_reducible repeat (first | refine blk_drewN ?_ _ | refine blk_drew ?_ | refine blk_alloc ?_ _)); refine blk_put (cs := #[.int .i64 0, .int .i64 0]) ?_ 0 _ rfl; (with_reducible repeat (first | refine blk_drewN ?_ _ | refine blk_drew ?_ | refine blk_alloc ?_ _)); exact BK207.out⟩
                     have n7_ : Aside0 (Below w.heap.size w ((w44.setCell ⟨gb207, 0, none⟩ (.int .i64 ((rd_T53 y199 0).f1.f0))).setCell ⟨gb207, 1, none⟩ (.int .i64 (wrap64 ((wrap64 (((rd_T53 y199 (ji31)).f1.f0) + ((rd_T53 y199 (ji31)).f1.f1))) - ((rd_T53 y199 0).f1.f0)))))) := ⟨by repeat (first | (with_reducible first | exact HB.out | apply below_alloc | apply pw_below_drewN | apply below_drew1 | refine below_set ?_ GE193.out | refine below_set ?_ GE198.out | refine below_set ?_ GE204.out | refine below_set ?_ GE207.out) | exact HB.out)⟩
                     (try clear HO_9)
                     (try clear HO_18)
                     (try clear HO_26)
                     (try clear BK193)
                     (try clear BK198)
                     (try clear BK204)
                     (try clear BK207)
                     (try clear HB)
                     generalize ((w44.setCell ⟨gb207, 0, none⟩ (.int .i64 ((rd_T53 y199 0).f1.f0))).setCell ⟨gb207, 1, none⟩ (.int .i64 (wrap64 ((wrap64 (((rd_T53 y199 (ji31)).f1.f0) + ((rd_T53 y199 (ji31)).f1.f1))) - ((rd_T53 y199 0).f1.f0))))) = w47 at n0_ n1_ n2_ n3_ n4_ n5_ n6_ n7_ ⊢
                     have HO_9 := n0_
                     have HO_18 := n1_
                     have HO_26 := n2_
                     have BK193 := n3_
                     have BK198 := n4_
                     have BK204 := n5_
                     have BK207 := n6_
                     have HB := n7_
                     clear n0_ n1_ n2_ n3_ n4_ n5_ n6_ n7_
                     have n0_ := Aside0.mk (Kd.R_drew HO_9.out)
                     have n1_ := Aside0.mk (Kd.R_drew HO_18.out)
                     have n2_ := Aside0.mk (Kd.R_drew HO_26.out)
                     have n3_ := Aside0.mk (blk_drew BK193.out)
                     have n4_ := Aside0.mk (blk_drew BK198.out)
                     have n5_ := Aside0.mk (blk_drew BK204.out)
                     have n6_ := Aside0.mk (blk_drew BK207.out)
                     have n7_ := Aside0.mk (below_drew1 HB.out)
                     clear HO_9
                     clear HO_18
                     clear HO_26
                     clear BK193
                     clear BK198
                     clear BK204
                     clear BK207
                     clear HB
                     have HO_9 := n0_
                     have HO_18 := n1_
                     have HO_26 := n2_
                     have BK193 := n3_
                     have BK198 := n4_
                     have BK204 := n5_
                     have BK207 := n6_
                     have HB := n7_
                     clear n0_ n1_ n2_ n3_ n4_ n5_ n6_ n7_
                     refine start_ (n := 11) (S := fun w' => w'.cell? ⟨gb207, 0, none⟩ = some (.int .i64 ((rd_T53 y199 0).f1.f0)) ∧ w'.cell? ⟨gb207, 1, none⟩ = some (.int .i64 (wrap64 ((wrap64 (((rd_T53 y199 (ji31)).f1.f0) + ((rd_T53 y199 (ji31)).f1.f1))) - ((rd_T53 y199 0).f1.f0))))) (ds := []) #[false, false, false, false, false, false, false, false, false, false, false] (by kernel_rfl) rfl rfl ⟨(blk_cell BK207.out 0).trans rfl, (blk_cell BK207.out 1).trans rfl⟩ (fun hHeld => ?_); refine with_tabW token_Words.tab12 token_Words.bits12 (fun HT_ HW_ => ?_)
                     generalize w47.drew = w48 at HO_9 HO_18 HO_26 BK193 BK198 BK204 BK207 HB hHeld ⊢
                     refine pure_ (i := 0) (N := some 72) (v := ?_) (a' := ?_) #[true, false, false, false, false, false, false, false, false, false, false] rfl rfl (any_of HT_.out (by kernel_rfl)) (fun _ _ _ h => h) (Or.inl ⟨by rfl, ?_⟩) ?_ ?_
                     rotate_left
                     ·intro w'
                      go_simp
                      with_reducible rfl
                     rotate_left
                     ·simp only [Act.put, List.setIfInBounds_toArray, List.set_cons_zero, List.set_cons_succ, i64_w, i32_w]
                      rfl
                     refine pure_ (i := 1) (N := some 73) (v := ?_) (a' := ?_) #[true, true, false, false, false, false, false, false, false, false, false] rfl rfl (any_of HT_.out (by kernel_rfl)) (fun _ _ _ h => h) (Or.inl ⟨by rfl, ?_⟩) ?_ ?_
                     rotate_left
                     ·intro w'
                      go_simp
                      with_reducible rfl
                     rotate_left
                     ·simp only [Act.put, List.setIfInBounds_toArray, List.set_cons_zero, List.set_cons_succ, i64_w, i32_w]
                      rfl
                     refine pure_ (i := 4) (N := some 76) (v := ?_) (a' := ?_) #[true, true, false, false, true, false, false, false, false, false, false] rfl rfl (any_of HT_.out (by kernel_rfl)) (fun _ _ _ h => h) (Or.inl ⟨by rfl, ?_⟩) ?_ ?_
                     rotate_left
                     ·intro w'
                      go_simp
                      with_reducible rfl
                     rotate_left
                     ·simp only [Act.put, List.setIfInBounds_toArray, List.set_cons_zero, List.set_cons_succ, i64_w, i32_w]
                      rfl
                     refine pure_ (i := 5) (N := some 77) (v := ?_) (a' := ?_) #[true, true, false, false, true, true, false, false, false, false, false] rfl rfl (any_of HT_.out (by kernel_rfl)) (fun _ _ _ h => h) (Or.inl ⟨by rfl, ?_⟩) ?_ ?_
                     rotate_left
                     ·intro w'
                      go_simp
                      with_reducible rfl
                     rotate_left
                     ·simp only [Act.put, List.setIfInBounds_toArray, List.set_cons_zero, List.set_cons_succ, i64_w, i32_w]
                      rfl
                     refine take_ (i := 3) (N := some 75) (v := ?_) (a' := ?_) #[true, true, false, true, true, true, false, false, false, false, false] rfl rfl (take_ofW HT_.out HW_.out (by kernel_rfl)) (fun _ _ _ h => h) (Or.inl ⟨by rfl, ?_⟩) hHeld ?_ ?_
                     rotate_left
                     ·rintro w' ⟨s0, s1⟩
                      go_simp
                      with_reducible rfl
                     rotate_left
                     ·simp only [Act.put, List.setIfInBounds_toArray, List.set_cons_zero, List.set_cons_succ, i64_w, i32_w]
                      rfl
                     refine one_ (i := 2) (N := some 74) #[true, true, true, true, true, true, false, false, false, false, false] rfl rfl (one_of HT_.out (by kernel_rfl)) (by decide) (fun K hK => ?_)
                     refine goes_ Try.func42 (by kernel_rfl) rfl #[.slice (some ad203) y199.length c28] (by rfl) rfl rfl (by (try simp only [List.map_toArray, List.map_cons, List.map_nil]); first | done | rfl | (simp only [List.length_drop, List.length_take]; rfl)) ?_
                     with_reducible refine (decode_Text.calls kj21 _ _ y199 t208 _ ?side1 ?side2 A35.out).mono ?_
                     (case side1 => repeat (first | exact (Kd.C_below HR202.out HB.out) | (with_reducible refine Kd.C_alloc ?_ _) | (with_reducible refine Kd.C_drewN ?_ _) | (with_reducible refine Kd.C_drew ?_)))
                     (case side2 => exact HC202.out)
                     rintro e w49 ⟨rfl, hb⟩
                     refine ⟨_, rfl, ?_⟩
                     have n0_ := Aside0.mk (Kd.R_below (by (with_reducible repeat (first | apply Kd.R_alloc | apply Kd.R_drewN | apply Kd.R_drew)); exact HO_9.out) hb)
                     have n1_ := Aside0.mk (Kd.R_below (by (with_reducible repeat (first | apply Kd.R_alloc | apply Kd.R_drewN | apply Kd.R_drew)); exact HO_18.out) hb)
                     have n2_ := Aside0.mk (Kd.R_below (by (with_reducible repeat (first | apply Kd.R_alloc | apply Kd.R_drewN | apply Kd.R_drew)); exact HO_26.out) hb)
                     have n3_ := Aside0.mk (blk_below (g := gb193) (o := .cells #[.int .i64 ((rd_T33 t189 x20_1).f0), .int .i64 ((rd_T33 t189 x20_1).f1)] 33 (0, 0)) (by (with_reducible repeat (first | refine blk_drewN ?_ _ | refine blk_drew ?_ | refine blk_alloc ?_ _)); exact BK193.out) hb)
                     have n4_ := Aside0.mk (blk_below (g := gb198) (o := .cells #[.int .i64 ((rd_T33 t194 x28_2).f0), .int .i64 ((rd_T33 t194 x28_2).f1)] 33 (0, 0)) (by (with_reducible repeat (first | refine blk_drewN ?_ _ | refine blk_drew ?_ | refine blk_alloc ?_ _)); exact BK198.out) hb)
                     have n5_ := Aside0.mk (blk_below (g := gb204) (o := .cells #[.int .i64 ((rd_T53 y199 (ji31)).f1.f0), .int .i64 ((rd_T53 y199 (ji31)).f1.f1)] 48 (0, 0)) (by (with_reducible repeat (first | refine blk_drewN ?_ _ | refine blk_drew ?_ | refine blk_alloc ?_ _)); exact BK204.out) hb)
                     have n6_ := Aside0.mk (blk_below (g := gb207) (o := .cells #[.int .i64 ((rd_T53 y199 0).f1.f0), .int .i64 (wrap64 ((wrap64 (((rd_T53 y199 (ji31)).f1.f0) + ((rd_T53 y199 (ji31)).f1.f1))) - ((rd_T53 y199 0).f1.f0)))] 48 (0, 0)) (by (with_reducible repeat (first | refine blk_drewN ?_ _ | refine blk_drew ?_ | refine blk_alloc ?_ _)); exact BK207.out) hb)
                     have n7_ := Aside0.mk (below_step (by repeat (first | (with_reducible first | exact HB.out | apply below_alloc | apply pw_below_drewN | apply below_drew1 | refine below_set ?_ GE193.out | refine below_set ?_ GE198.out | refine below_set ?_ GE204.out | refine below_set ?_ GE207.out) | exact HB.out)) hb)
                     clear HO_9
                     clear HO_18
                     clear HO_26
                     clear BK193
                     clear BK198
                     clear BK204
                     clear BK207
                     clear HB
                     have HO_9 := n0_
                     have HO_18 := n1_
                     have HO_26 := n2_
                     have BK193 := n3_
                     have BK198 := n4_
                     have BK204 := n5_
                     have BK207 := n6_
                     have HB := n7_
                     clear n0_ n1_ n2_ n3_ n4_ n5_ n6_ n7_
                     (try clear hb)
                     (try clear hb2)
                     (try clear hk)
                     (try clear hi)
                     refine hK.out _ _ ⟨(blk_cell BK207.out 0).trans rfl, (blk_cell BK207.out 1).trans rfl⟩ (fun hHeld => ?_)
                     clear hK K
                     refine norm_ (a' := ?_) ?_ ?_
                     rotate_left
                     ·show Act.put _ (some 74) _ = _
                      simp only [Act.put, List.setIfInBounds_toArray, List.set_cons_zero, List.set_cons_succ, i64_w, i32_w]
                      rfl
                     refine one_ (i := 6) (N := some 78) #[true, true, true, true, true, true, true, false, false, false, false] rfl rfl (one_of HT_.out (by kernel_rfl)) (by decide) (fun K hK => ?_)
                     refine goes_ Try.func43 (by kernel_rfl) rfl #[.slice A0 l0.length c0, .slice (some ad203) y199.length c28] (by rfl) rfl rfl (by (try simp only [List.map_toArray, List.map_cons, List.map_nil]); first | done | rfl | (simp only [List.length_drop, List.length_take]; rfl)) ?_
                     with_reducible refine (decode_Literal.calls kj21 _ _ l0 _ _ y199 t209 _ ?side1 ?side2 ?side3 ?side4 A36.out).mono ?_
                     (case side1 => repeat (first | exact (Kd.C_below HR0.out HB.out) | (with_reducible refine Kd.C_alloc ?_ _) | (with_reducible refine Kd.C_drewN ?_ _) | (with_reducible refine Kd.C_drew ?_)))
                     (case side2 => exact HC0.out)
                     (case side3 => repeat (first | exact (Kd.C_below HR202.out HB.out) | (with_reducible refine Kd.C_alloc ?_ _) | (with_reducible refine Kd.C_drewN ?_ _) | (with_reducible refine Kd.C_drew ?_)))
                     (case side4 => exact HC202.out)
                     rintro e w50 ⟨rfl, hb⟩
                     refine ⟨_, rfl, ?_⟩
                     have n0_ := Aside0.mk (Kd.R_below (by (with_reducible repeat (first | apply Kd.R_alloc | apply Kd.R_drewN | apply Kd.R_drew)); exact HO_9.out) hb)
                     have n1_ := Aside0.mk (Kd.R_below (by (with_reducible repeat (first | apply Kd.R_alloc | apply Kd.R_drewN | apply Kd.R_drew)); exact HO_18.out) hb)
                     have n2_ := Aside0.mk (Kd.R_below (by (with_reducible repeat (first | apply Kd.R_alloc | apply Kd.R_drewN | apply Kd.R_drew)); exact HO_26.out) hb)
                     have n3_ := Aside0.mk (blk_below (g := gb193) (o := .cells #[.int .i64 ((rd_T33 t189 x20_1).f0), .int .i64 ((rd_T33 t189 x20_1).f1)] 33 (0, 0)) (by (with_reducible repeat (first | refine blk_drewN ?_ _ | refine blk_drew ?_ | refine blk_alloc ?_ _)); exact BK193.out) hb)
                     have n4_ := Aside0.mk (blk_below (g := gb198) (o := .cells #[.int .i64 ((rd_T33 t194 x28_2).f0), .int .i64 ((rd_T33 t194 x28_2).f1)] 33 (0, 0)) (by (with_reducible repeat (first | refine blk_drewN ?_ _ | refine blk_drew ?_ | refine blk_alloc ?_ _)); exact BK198.out) hb)
                     have n5_ := Aside0.mk (blk_below (g := gb204) (o := .cells #[.int .i64 ((rd_T53 y199 (ji31)).f1.f0), .int .i64 ((rd_T53 y199 (ji31)).f1.f1)] 48 (0, 0)) (by (with_reducible repeat (first | refine blk_drewN ?_ _ | refine blk_drew ?_ | refine blk_alloc ?_ _)); exact BK204.out) hb)
                     have n6_ := Aside0.mk (blk_below (g := gb207) (o := .cells #[.int .i64 ((rd_T53 y199 0).f1.f0), .int .i64 (wrap64 ((wrap64 (((rd_T53 y199 (ji31)).f1.f0) + ((rd_T53 y199 (ji31)).f1.f1))) - ((rd_T53 y199 0).f1.f0)))] 48 (0, 0)) (by (with_reducible repeat (first | refine blk_drewN ?_ _ | refine blk_drew ?_ | refine blk_alloc ?_ _)); exact BK207.out) hb)
                     have n7_ := Aside0.mk (below_step (by repeat (first | (with_reducible first | exact HB.out | apply below_alloc | apply pw_below_drewN | apply below_drew1 | refine below_set ?_ GE193.out | refine below_set ?_ GE198.out | refine below_set ?_ GE204.out | refine below_set ?_ GE207.out) | exact HB.out)) hb)
                     clear HO_9
                     clear HO_18
                     clear HO_26
                     clear BK193
                     clear BK198
                     clear BK204
                     clear BK207
                     clear HB
                     have HO_9 := n0_
                     have HO_18 := n1_
                     have HO_26 := n2_
                     have BK193 := n3_
                     have BK198 := n4_
                     have BK204 := n5_
                     have BK207 := n6_
                     have HB := n7_
                     clear n0_ n1_ n2_ n3_ n4_ n5_ n6_ n7_
                     (try clear hb)
                     (try clear hb2)
                     (try clear hk)
                     (try clear hi)
                     refine hK.out _ _ ⟨(blk_cell BK207.out 0).trans rfl, (blk_cell BK207.out 1).trans rfl⟩ (fun hHeld => ?_)
                     clear hK K
                     refine norm_ (a' := ?_) ?_ ?_
                     rotate_left
                     ·show Act.put _ (some 78) _ = _
                      simp only [Act.put, List.setIfInBounds_toArray, List.set_cons_zero, List.set_cons_succ, i64_w, i32_w]
                      rfl
                     refine pure_ (i := 7) (N := some 79) (v := ?_) (a' := ?_) #[true, true, true, true, true, true, true, true, false, false, false] rfl rfl (any_of HT_.out (by kernel_rfl)) (fun _ _ _ h => h) (Or.inl ⟨by rfl, ?_⟩) ?_ ?_
                     rotate_left
                     ·intro w'
                      go_simp
                      with_reducible rfl
                     rotate_left
                     ·simp only [Act.put, List.setIfInBounds_toArray, List.set_cons_zero, List.set_cons_succ, i64_w, i32_w]
                      rfl
                     refine one_ (i := 8) (N := some 80) #[true, true, true, true, true, true, true, true, true, false, false] rfl rfl (one_of HT_.out (by kernel_rfl)) (by decide) (fun K hK => ?_)
                     refine value_ (w1 := ?_) (v := ?_) (by rfl) rfl ?_ ?_
                     rotate_left 2
                     ·go_simp
                      constructor
                      ·rfl
                      ·rfl
                     refine hK.out _ _ ⟨(blk_cell (blk_alloc BK207.out _) 0).trans rfl, (blk_cell (blk_alloc BK207.out _) 1).trans rfl⟩ (fun hHeld => ?_)
                     clear hK K
                     refine norm_ (a' := ?_) ?_ ?_
                     rotate_left
                     ·show Act.put _ (some 80) _ = _
                      simp only [Act.put, List.setIfInBounds_toArray, List.set_cons_zero, List.set_cons_succ, i64_w, i32_w]
                      rfl
                     refine one_ (i := 9) (N := some 81) #[true, true, true, true, true, true, true, true, true, true, false] rfl rfl (one_of HT_.out (by kernel_rfl)) (by decide) (fun K hK => ?_)
                     refine Kd.R_append_step k50 (w0 := w) w.heap.size (by rfl) (.tmp 72) (.tmp 80) 45 50 (.agg #[(.string ⟨#[]⟩), (.int .i64 0), (.int .i64 0), (.bool false)]) 40 rfl Try.underlying45 info50 rfl (by decide) (by omega) u9 x9_2 (⟨t208, (⟨(rd_T53 y199 0).f1.f0, wrap64 ((wrap64 (((rd_T53 y199 (ji31)).f1.f0) + ((rd_T53 y199 (ji31)).f1.f1))) - ((rd_T53 y199 0).f1.f0))⟩ : S48), t209⟩ : S50) [.string t208, .int .i64 ((rd_T53 y199 0).f1.f0), .int .i64 (wrap64 ((wrap64 (((rd_T53 y199 (ji31)).f1.f0) + ((rd_T53 y199 (ji31)).f1.f1))) - ((rd_T53 y199 0).f1.f0))), .bool t209] (fun _ => True) (fun _ => False) rfl rfl ?aP (fun _ hk => hk.elim) ?aF ?aO ?aB ?aS ?aL ?_
                     (case aP => exact k50_mkM _ _ _ (⟨t208, (⟨(rd_T53 y199 0).f1.f0, wrap64 ((wrap64 (((rd_T53 y199 (ji31)).f1.f0) + ((rd_T53 y199 (ji31)).f1.f1))) - ((rd_T53 y199 0).f1.f0))⟩ : S48), t209⟩ : S50))
                     (case aB => exact (by repeat (first | (with_reducible first | exact HB.out | apply below_alloc | apply pw_below_drewN | apply below_drew1 | refine below_set ?_ GE193.out | refine below_set ?_ GE198.out | refine below_set ?_ GE204.out | refine below_set ?_ GE207.out) | exact HB.out)))
                     (case aF => exact (fun _ _ => trivial))
                     (case aO => exact (by (with_reducible repeat (first | apply Kd.R_alloc | apply Kd.R_drewN | apply Kd.R_drew)); exact HO_9.out))
                     (case aS => exact (below_size (by repeat (first | (with_reducible first | exact HB.out | apply below_alloc | apply pw_below_drewN | apply below_drew1 | refine below_set ?_ GE193.out | refine below_set ?_ GE198.out | refine below_set ?_ GE204.out | refine below_set ?_ GE207.out) | exact HB.out))))
                     (case aL => have := LMc37.out; omega)
                     intro v211 w51 ho hb hg hat
                     rw [← Ny210.out] at ho
                     have n0_ := Aside0.mk (Kd.R_over' (by (with_reducible repeat (first | apply Kd.R_alloc | apply Kd.R_drewN | apply Kd.R_drew)); exact HO_18.out) (Kd.R_typed (by (with_reducible repeat (first | apply Kd.R_alloc | apply Kd.R_drewN | apply Kd.R_drew)); exact HO_9.out)) (by decide) hg)
                     have n1_ := Aside0.mk (Kd.R_over' (by (with_reducible repeat (first | apply Kd.R_alloc | apply Kd.R_drewN | apply Kd.R_drew)); exact HO_26.out) (Kd.R_typed (by (with_reducible repeat (first | apply Kd.R_alloc | apply Kd.R_drewN | apply Kd.R_drew)); exact HO_9.out)) (by decide) hg)
                     have n2_ := Aside0.mk (blk_grown (g := gb193) (o := .cells #[.int .i64 ((rd_T33 t189 x20_1).f0), .int .i64 ((rd_T33 t189 x20_1).f1)] 33 (0, 0)) (by (with_reducible repeat (first | refine blk_drewN ?_ _ | refine blk_drew ?_ | refine blk_alloc ?_ _)); exact BK193.out) hg (Kd.R_ne HO_9.out BK193.out (by decide)))
                     have n3_ := Aside0.mk (blk_grown (g := gb198) (o := .cells #[.int .i64 ((rd_T33 t194 x28_2).f0), .int .i64 ((rd_T33 t194 x28_2).f1)] 33 (0, 0)) (by (with_reducible repeat (first | refine blk_drewN ?_ _ | refine blk_drew ?_ | refine blk_alloc ?_ _)); exact BK198.out) hg (Kd.R_ne HO_9.out BK198.out (by decide)))
                     have n4_ := Aside0.mk (blk_grown (g := gb204) (o := .cells #[.int .i64 ((rd_T53 y199 (ji31)).f1.f0), .int .i64 ((rd_T53 y199 (ji31)).f1.f1)] 48 (0, 0)) (by (with_reducible repeat (first | refine blk_drewN ?_ _ | refine blk_drew ?_ | refine blk_alloc ?_ _)); exact BK204.out) hg (Kd.R_ne HO_9.out BK204.out (by decide)))
                     have n5_ := Aside0.mk (blk_grown (g := gb207) (o := .cells #[.int .i64 ((rd_T53 y199 0).f1.f0), .int .i64 (wrap64 ((wrap64 (((rd_T53 y199 (ji31)).f1.f0) + ((rd_T53 y199 (ji31)).f1.f1))) - ((rd_T53 y199 0).f1.f0)))] 48 (0, 0)) (by (with_reducible repeat (first | refine blk_drewN ?_ _ | refine blk_drew ?_ | refine blk_alloc ?_ _)); exact BK207.out) hg (Kd.R_ne HO_9.out BK207.out (by decide)))
                     have n6_ := Aside0.mk (hb)
                     have n7_ := Aside0.mk (ho)
                     clear HO_18
                     clear HO_26
                     clear BK193
                     clear BK198
                     clear BK204
                     clear BK207
                     clear HB
                     clear HO_9
                     have HO_18 := n0_
                     have HO_26 := n1_
                     have BK193 := n2_
                     have BK198 := n3_
                     have BK204 := n4_
                     have BK207 := n5_
                     have HB := n6_
                     have HO212 := n7_
                     clear n0_ n1_ n2_ n3_ n4_ n5_ n6_ n7_
                     clear ho hb hg hat
                     refine hK.out _ _ ⟨(blk_cell BK207.out 0).trans rfl, (blk_cell BK207.out 1).trans rfl⟩ (fun hHeld => ?_)
                     clear hK K
                     refine norm_ (a' := ?_) ?_ ?_
                     rotate_left
                     ·show Act.put _ (some 81) _ = _
                      simp only [Act.put, List.setIfInBounds_toArray, List.set_cons_zero, List.set_cons_succ, i64_w, i32_w]
                      rfl
                     refine pure_ (i := 10) (N := some 9) (v := ?_) (a' := ?_) #[true, true, true, true, true, true, true, true, true, true, true] rfl rfl (any_of HT_.out (by kernel_rfl)) (fun _ _ _ h => h) (Or.inl ⟨by rfl, ?_⟩) ?_ ?_
                     rotate_left
                     ·intro w'
                      go_simp
                      with_reducible rfl
                     rotate_left
                     ·simp only [Act.put, List.setIfInBounds_toArray, List.set_cons_zero, List.set_cons_succ, i64_w, i32_w]
                      rfl
                     refine done_ (done_of HT_.out (by kernel_rfl)) ?_
                     try go_wp2
                     go_roundg kj21
                     case measure => have := HK1.out; have := HK2.out; have := HJ21.out; omega
                     case rel => exact ⟨(y210), (wrap64 (x28_2 + 1)), (by first | rfl | (simp; done) | (simp [*]; done)), H', ⟨by have := HK1.out; have := HK2.out; have := HJ21.out; omega⟩, ⟨by (with_reducible repeat (first | apply Kd.R_alloc | apply Kd.R_drewN | apply Kd.R_drew)); exact HO212.out⟩, ⟨by (with_reducible repeat (first | apply Kd.R_alloc | apply Kd.R_drewN | apply Kd.R_drew)); exact Kd.R_mono HO_18.out (fun _ hk => ⟨hk.1, hk.2.1⟩)⟩, ⟨by (with_reducible repeat (first | apply Kd.R_alloc | apply Kd.R_drewN | apply Kd.R_drew)); exact Kd.R_mono HO_26.out (fun _ hk => ⟨hk.1, hk.2.1⟩)⟩, ⟨by (with_reducible repeat (first | refine blk_drewN ?_ _ | refine blk_drew ?_ | refine blk_alloc ?_ _)); exact BK193.out⟩, ⟨by repeat (first | (with_reducible first | exact HB.out | apply below_alloc | apply pw_below_drewN | apply below_drew1 | refine below_set ?_ GE193.out | refine below_set ?_ GE198.out | refine below_set ?_ GE204.out | refine below_set ?_ GE207.out) | exact HB.out)⟩⟩
                    ·rw [if_neg c37] at H
                     exact absurd H (by simp)
                   ·rw [if_neg c34] at H
                    exact absurd H (by simp)
                  ·rw [if_neg c33] at H
                   exact absurd H (by simp)
                 ·rw [if_neg c32] at H
                  exact absurd H (by simp)
             ·rw [if_neg c21] at H
              exact absurd H (by simp)
            ·rw [if_neg c20] at H
             exact absurd H (by simp)
           ·rw [if_neg c19] at H
            exact absurd H (by simp)
          ·rw [if_neg c18] at H
           exact absurd H (by simp)
         ·rw [if_neg c17] at H
          exact absurd H (by simp)
        ·rw [if_neg c16] at H
         have c16b0 : decide (x28_2 < (t194.length : Int)) = false := decide_eq_false c16
         clear c16
         have H' := Aside0.mk H
         clear H
         go_wp2
         go_roundg k2
         case measure => have := HK1.out; have := HK2.out; omega
         case rel => exact ⟨(x9_2), (wrap64 (x20_1 + 1)), (by first | rfl | (simp; done) | (simp [*]; done)), H', ⟨by have := HK1.out; have := HK2.out; omega⟩, ⟨by (with_reducible repeat (first | apply Kd.R_alloc | apply Kd.R_drewN | apply Kd.R_drew)); exact HO_9.out⟩, ⟨by (with_reducible repeat (first | apply Kd.R_alloc | apply Kd.R_drewN | apply Kd.R_drew)); exact Kd.R_mono HO_18.out (fun _ hk => trivial)⟩, ⟨by repeat (first | (with_reducible first | exact HB.out | apply below_alloc | apply pw_below_drewN | apply below_drew1 | refine below_set ?_ GE193.out) | exact HB.out)⟩⟩
     ·rw [if_neg c10] at H
      exact absurd H (by simp)
    ·rw [if_neg c9] at H
     exact absurd H (by simp)
   ·rw [if_neg c8] at H
    have c8b0 : decide (x20_1 < (t189.length : Int)) = false := decide_eq_false c8
    clear c8
    obtain rfl := Option.some.inj H
    go_wp2
    go_ret
    exact ⟨_, by first | rfl | (simp [errW_none, errW_some] <;> rfl) | (simp [*, errW_none, errW_some] <;> rfl), by (with_reducible repeat (first | apply Kd.R_alloc | apply Kd.R_drewN | apply Kd.R_drew)); exact HO_9.out, by repeat (first | (with_reducible first | exact HB.out | apply below_alloc | apply pw_below_drewN | apply below_drew1) | exact HB.out)⟩

end Go.Proofs.Ytmnohlmdckcdeaa.PTokenWhole
