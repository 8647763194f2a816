-- Laid by a program of ours (the kit's print with words and contracts of our own beside it).
import Derived.Test.YtekalnhackjldaaDoorPTokenWordsx0
import Derived.Test.YtekalnhackjldaaDoorXSq
import Derived.Test.YtekalnhackjldaaDoorPTokenWordsx7
import Derived.Test.YtekalnhackjldaaDoorPTokenWordsx8
import Derived.Test.YtekalnhackjldaaDoorPTokenWordsx9
import Derived.Test.YtekalnhackjldaaDoorPTokenWordsx10
namespace Go.Proofs.YtekalnhackjldaaDoor.PTokenWords
open Go.RowKit Go.Proofs.YtekalnhackjldaaDoor.X Go.Proofs.YtekalnhackjldaaDoorW.PrintWords Go.Proofs.YtekalnhackjldaaDoorW.PrintLast Go.Proofs.YtekalnhackjldaaDoorW.PrintMore
attribute [local go_sem] max2_int min2_int max_two min_two max_three min_three max_four min_four   -- for this text's walks alone
set_option linter.unusedVariables false
set_option linter.unusedSimpArgs false

/-! ### token_Words: function 31 -/
mutual
def token_Words.l0 : Nat → List Int → List (S45) → Int → Int → List (S90) → List (S93) → Int → Int → Option ((List (S90)))
 | 0, _, _, _, _, _, _, _, _ => none
 | k + 1, x0, x1, x2, x3, x9, x18, x19, x20 => if x20 < x19 then (if 0 ≤ x20 then (if x20 < (x18.length : Int) then ((token_Split.f k x1 ((rd_T93 x18 x20).f0) ((rd_T93 x18 x20).f1)).bind fun t247 => (token_Words.l1 k x0 x1 x2 x3 x9 x18 x19 x20 t247 (t247.length : Int) 0)) else (none)) else (none)) else (some x9)
def token_Words.l1 : Nat → List Int → List (S45) → Int → Int → List (S90) → List (S93) → Int → Int → List (S93) → Int → Int → Option ((List (S90)))
 | 0, _, _, _, _, _, _, _, _, _, _, _ => none
 | k + 1, x0, x1, x2, x3, x9, x18, x19, x20, x26, x27, x28 => if x28 < x27 then (if 0 ≤ x28 then (if x28 < (x26.length : Int) then (if 0 ≤ ((rd_T93 x26 x28).f0) then (if ((rd_T93 x26 x28).f0) ≤ ((rd_T93 x26 x28).f1) then (if ((rd_T93 x26 x28).f1) ≤ (x1.length : Int) then ((some ((x1.take (((rd_T93 x26 x28).f1) : Int).toNat).drop (((rd_T93 x26 x28).f0) : Int).toNat : List (S45))).bind fun y252 => (if (y252.length : Int) < x2 then (token_Words.j2 k x0 x1 x2 x3 x9 y252 x18 x19 x20 x26 x27 x28 true) else (token_Words.j2 k x0 x1 x2 x3 x9 y252 x18 x19 x20 x26 x27 x28 (decide ((y252.length : Int) > x3))))) else (none)) else (none)) else (none)) else (none)) else (none)) else (token_Words.l0 k x0 x1 x2 x3 x9 x18 x19 (wrap64 (x20 + 1)))
def token_Words.j2 : Nat → List Int → List (S45) → Int → Int → List (S90) → List (S45) → List (S93) → Int → Int → List (S93) → Int → Int → Bool → Option ((List (S90)))
 | 0, _, _, _, _, _, _, _, _, _, _, _, _, _ => none
 | k + 1, x0, x1, x2, x3, x9, x14, x18, x19, x20, x26, x27, x28, x47 => if x47 = true then (token_Words.l1 k x0 x1 x2 x3 x9 x18 x19 x20 x26 x27 (wrap64 (x28 + 1))) else (if 0 ≤ (wrap64 ((x14.length : Int) - 1)) then (if (wrap64 ((x14.length : Int) - 1)) < (x14.length : Int) then (if 0 < (x14.length : Int) then ((decode_Text.f k x14).bind fun t261 => ((decode_Literal.f k x0 x14).bind fun t262 => (if x9.length < 3518437208883 then (token_Words.l1 k x0 x1 x2 x3 (x9 ++ [(⟨t261, (⟨(rd_T45 x14 0).f1.f0, wrap64 ((wrap64 (((rd_T45 x14 (wrap64 ((x14.length : Int) - 1))).f1.f0) + ((rd_T45 x14 (wrap64 ((x14.length : Int) - 1))).f1.f1))) - ((rd_T45 x14 0).f1.f0))⟩ : S40), t262⟩ : S90)]) x18 x19 x20 x26 x27 (wrap64 (x28 + 1))) else (none)))) else (none)) else (none)) else (none))
end
def token_Words.f (k : Nat) (l0 : List Int) (l1 : List (S45)) (a2 : Int) (a3 : Int) : Option ((List (S90))) := (token_Runs.f k l1).bind fun t242 => (token_Words.l0 k l0 l1 a2 a3 ([] : List (S90)) t242 (t242.length : Int) 0)
theorem token_Words.mono_l : ∀ k, (∀ y0 y1 y2 y3 y4 y5 y6 y7, LeO (token_Words.l0 k y0 y1 y2 y3 y4 y5 y6 y7) (token_Words.l0 (k + 1) y0 y1 y2 y3 y4 y5 y6 y7)) ∧ (∀ y0 y1 y2 y3 y4 y5 y6 y7 y8 y9 y10, LeO (token_Words.l1 k y0 y1 y2 y3 y4 y5 y6 y7 y8 y9 y10) (token_Words.l1 (k + 1) y0 y1 y2 y3 y4 y5 y6 y7 y8 y9 y10)) ∧ (∀ y0 y1 y2 y3 y4 y5 y6 y7 y8 y9 y10 y11 y12, LeO (token_Words.j2 k y0 y1 y2 y3 y4 y5 y6 y7 y8 y9 y10 y11 y12) (token_Words.j2 (k + 1) y0 y1 y2 y3 y4 y5 y6 y7 y8 y9 y10 y11 y12))
 | 0 => ⟨fun _ _ _ _ _ _ _ _ r h => by simp [token_Words.l0] at h, fun _ _ _ _ _ _ _ _ _ _ _ r h => by simp [token_Words.l1] at h, fun _ _ _ _ _ _ _ _ _ _ _ _ _ r h => by simp [token_Words.j2] at h⟩
 | k + 1 => by
  obtain ⟨ih0, ih1, ih2⟩ := token_Words.mono_l k
  refine ⟨?_, ?_, ?_⟩
  ·intro y0 y1 y2 y3 y4 y5 y6 y7
   unfold token_Words.l0
   repeat' first
   | (with_reducible exact ih0 _ _ _ _ _ _ _ _)
   | (with_reducible exact ih1 _ _ _ _ _ _ _ _ _ _ _)
   | (with_reducible exact ih2 _ _ _ _ _ _ _ _ _ _ _ _ _)
   | (with_reducible exact decode_Literal.mono _ _ _)
   | (with_reducible exact decode_Text.mono _ _)
   | (with_reducible exact token_Runs.mono _ _)
   | (with_reducible exact token_Split.mono _ _ _ _)
   | (with_reducible exact LeO.refl _)
   | (with_reducible exact LeO.none _)
   | (with_reducible refine LeO.ite ?_ ?_)
   | (with_reducible refine LeO.bind ?_ (fun _ => ?_))
  ·intro y0 y1 y2 y3 y4 y5 y6 y7 y8 y9 y10
   unfold token_Words.l1
   repeat' first
   | (with_reducible exact ih0 _ _ _ _ _ _ _ _)
   | (with_reducible exact ih1 _ _ _ _ _ _ _ _ _ _ _)
   | (with_reducible exact ih2 _ _ _ _ _ _ _ _ _ _ _ _ _)
   | (with_reducible exact decode_Literal.mono _ _ _)
   | (with_reducible exact decode_Text.mono _ _)
   | (with_reducible exact token_Runs.mono _ _)
   | (with_reducible exact token_Split.mono _ _ _ _)
   | (with_reducible exact LeO.refl _)
   | (with_reducible exact LeO.none _)
   | (with_reducible refine LeO.ite ?_ ?_)
   | (with_reducible refine LeO.bind ?_ (fun _ => ?_))
  ·intro y0 y1 y2 y3 y4 y5 y6 y7 y8 y9 y10 y11 y12
   unfold token_Words.j2
   repeat' first
   | (with_reducible exact ih0 _ _ _ _ _ _ _ _)
   | (with_reducible exact ih1 _ _ _ _ _ _ _ _ _ _ _)
   | (with_reducible exact ih2 _ _ _ _ _ _ _ _ _ _ _ _ _)
   | (with_reducible exact decode_Literal.mono _ _ _)
   | (with_reducible exact decode_Text.mono _ _)
   | (with_reducible exact token_Runs.mono _ _)
   | (with_reducible exact token_Split.mono _ _ _ _)
   | (with_reducible exact LeO.refl _)
   | (with_reducible exact LeO.none _)
   | (with_reducible refine LeO.ite ?_ ?_)
   | (with_reducible refine LeO.bind ?_ (fun _ => ?_))
theorem token_Words.mono : ∀ a0 a1 a2 a3 k, LeO (token_Words.f k a0 a1 a2 a3) (token_Words.f (k + 1) a0 a1 a2 a3) := by
 intro a0 a1 a2 a3 k
 obtain ⟨ih0, ih1, ih2⟩ := token_Words.mono_l k
 unfold token_Words.f
 repeat' first
   | (with_reducible exact ih0 _ _ _ _ _ _ _ _)
   | (with_reducible exact ih1 _ _ _ _ _ _ _ _ _ _ _)
   | (with_reducible exact ih2 _ _ _ _ _ _ _ _ _ _ _ _ _)
   | (with_reducible exact decode_Literal.mono _ _ _)
   | (with_reducible exact decode_Text.mono _ _)
   | (with_reducible exact token_Runs.mono _ _)
   | (with_reducible exact token_Split.mono _ _ _ _)
   | (with_reducible exact LeO.refl _)
   | (with_reducible exact LeO.none _)
   | (with_reducible refine LeO.ite ?_ ?_)
   | (with_reducible refine LeO.bind ?_ (fun _ => ?_))
def token_Words.T11 : Bool × List (List Nat × List Nat) := (true, [([], []), ([0], [0]), ([1], [1]), ([2], [2]), ([3], [3]), ([], []), ([5], [5]), ([], []), ([7], [7]), ([6, 8], [6, 8]), ([], []), ([10], [10]), ([11], [11]), ([12], [12]), ([13], [13]), ([9, 14], [9, 14]), ([4, 15], [4, 15]), ([], []), ([17, 16, 0, 1, 2, 3, 4, 5, 6, 7, 8, 9, 10, 11, 12, 13, 14, 15, 16, 17], [16, 17])])
def token_Words.B11 : List Nat := [0, 1, 3, 7, 15, 0, 32, 0, 128, 480, 0, 1024, 3072, 7168, 15360, 32736, 65535, 0, 262143]
theorem token_Words.tab11 : rtab .any (opsOf Tryd.f31 11) = token_Words.T11 := by kernel_rfl
theorem token_Words.bits11 : waitsOk token_Words.T11.2 token_Words.B11 = true := by kernel_rfl
def token_Words.T12 : Bool × List (List Nat × List Nat) := (true, [([], []), ([], []), ([1], [1]), ([], []), ([], []), ([], []), ([4, 5, 2], [4, 5]), ([2, 3, 6], [2, 3, 6]), ([7], [7]), ([0, 8, 6], [0, 8]), ([9, 9, 0, 1, 2, 3, 4, 5, 6, 7, 8, 9], [0, 9])])
def token_Words.B12 : List Nat := [0, 0, 2, 0, 0, 0, 54, 126, 254, 511, 1023]
theorem token_Words.tab12 : rtab .any (opsOf Tryd.f31 12) = token_Words.T12 := by kernel_rfl
theorem token_Words.bits12 : waitsOk token_Words.T12.2 token_Words.B12 = true := by kernel_rfl
set_option maxHeartbeats 8000000 in
set_option maxRecDepth 100000 in
theorem token_Words.calls (k : Nat) (A0 : Option Addr) (c0 : Nat) (l0 : List Int) (A1 : Option Addr) (c1 : Nat) (l1 : List (S45)) (a2 : Int) (a3 : Int) (r : List (S90)) (w : World) (hr0 : Kd.C (Kd.int .u8) w A0 l0.length l0) (hc0 : l0.length ≤ c0) (hr1 : Kd.C k45 w A1 l1.length l1) (hc1 : l1.length ≤ c1) (h : token_Words.f k l0 l1 a2 a3 = some r) :
  Calls Tryd.prog 31 #[.slice A0 l0.length c0, .slice A1 l1.length c1, .int .i64 a2, .int .i64 a3] w fun e w' => ∃ v0_ : Value, e = .returned (v0_) ∧ Kd.R k90 90 w' w.heap.size (fun _ => True) v0_ r ∧ Below w.heap.size w w' := by
 have hu93 := Tryd.underlying93
 have hu40 := Tryd.underlying40
 have hu90 := Tryd.underlying90
 have HR0 := Aside0.mk hr0
 have HC0 := Aside0.mk hc0
 clear hr0 hc0
 have HR1 := Aside0.mk hr1
 have HC1 := Aside0.mk hc1
 clear hr1 hc1
 have HB := Aside0.mk (Below.refl w.heap.size w)
 have H : ((token_Runs.f k l1).bind fun t242 => (token_Words.l0 k l0 l1 a2 a3 ([] : List (S90)) t242 (t242.length : Int) 0)) = some r := h
 clear h
 replace H := Option.bind_eq_some_iff.mp H
 obtain ⟨t242, A50, H⟩ := H
 replace H : (token_Words.l0 k l0 l1 a2 a3 ([] : List (S90)) t242 (t242.length : Int) 0) = some r := H
 have A5 := Aside0.mk A50
 clear A50
 have H' := Aside0.mk H
 clear H
 go_enter Tryd.func31, Tryd.ntmps31
 go_wp2_with (first | ((with_reducible refine gate_callee (f := 47) rfl ?_); refine goesL_ (some 18) rfl rfl Tryd.func47 (by kernel_rfl) rfl #[.slice A1 l1.length c1] rfl (by (try simp only [List.map_toArray, List.map_cons, List.map_nil]); first | done | rfl | (simp only [List.length_drop, List.length_take]; rfl)) ?_; (with_reducible refine (token_Runs.calls k _ _ l1 t242 _ ?side1 ?side2 A5.out).mono ?_); (case side1 => repeat (first | exact HR1.out | (with_reducible refine Kd.C_alloc ?_ _) | (with_reducible refine Kd.C_drewN ?_ _) | (with_reducible refine Kd.C_drew ?_))); (case side2 => exact HC1.out); rintro e w6 ⟨v243, rfl, ho0, hb⟩; refine ⟨_, rfl, ?_⟩; have n0_ := Aside0.mk (Kd.R_lower ho0 (below_size (by repeat (first | (with_reducible first | exact HB.out | apply below_alloc | apply pw_below_drewN | apply below_drew1) | exact HB.out)))); have n1_ := Aside0.mk (below_step (by repeat (first | (with_reducible first | exact HB.out | apply below_alloc | apply pw_below_drewN | apply below_drew1) | exact HB.out)) hb); clear HB; have HO244 := n0_; have HB := n1_; clear n0_ n1_; (try clear hb); (try clear hb2); (try clear hk); (try clear hi); (try clear ho0); obtain ⟨Ao7, co7, eo7⟩ := Kd.R_slice HO244.out; subst eo7))
 go_loopg [9, 20] k (fun kq v9 v20 w' => ∃ (x9_1 : List (S90)) (x20_1 : Int), v20 = .int .i64 x20_1 ∧ Aside0 (token_Words.l0 kq l0 l1 a2 a3 x9_1 t242 (t242.length : Int) x20_1 = some r) ∧ Aside0 (kq ≤ k) ∧ Aside0 (Kd.R k90 90 w' w.heap.size (fun _ => True) v9 x9_1) ∧ Aside0 (Kd.R k93 93 w' w.heap.size (fun _ => True) (.slice Ao7 t242.length co7) t242) ∧ Aside0 (Below w.heap.size w w'))
 case atStart => exact ⟨(([] : List (S90))), (0), (by first | rfl | (simp; done) | (simp [*]; done) | (simp [wrap64, wrap32]; done)), H', ⟨Nat.le_refl _⟩, ⟨by first | exact Kd.R_nil _ _ _ _ _ | exact Kd.N_nil _ _ _ _ _ | exact Kd.V_nil _ _ _ _ _ | exact Kd.Q_nil _ _ _ _ _ | exact Kd.S_nil _ _ _ _ _⟩, ⟨by (with_reducible repeat (first | apply Kd.R_alloc | apply Kd.R_drewN | apply Kd.R_drew)); exact HO244.out⟩, ⟨by repeat (first | (with_reducible first | exact HB.out | apply below_alloc | apply pw_below_drewN | apply below_drew1) | exact HB.out)⟩⟩
 case round =>
  clear H'
  (try clear c1); (try clear p2); (try clear c3); (try clear c4)
  obtain ⟨x9_1, x20_1, rfl, HA, HK1, HO_9, HO_18, HB⟩ := hrel
  cases gk with
  | zero => exact absurd HA.out (by simp [token_Words.l0])
  | succ k1 =>
   have H := HA.out
   clear HA
   simp only [token_Words.l0] at H
   by_cases c8 : x20_1 < (t242.length : Int)
   ·rw [if_pos c8] at H
    have c8b0 : decide (x20_1 < (t242.length : Int)) = true := decide_eq_true c8
    clear c8
    by_cases c9 : 0 ≤ x20_1
    ·rw [if_pos c9] at H
     have c9b0 : decide (0 ≤ x20_1) = true := decide_eq_true c9
     clear c9
     by_cases c10 : x20_1 < (t242.length : Int)
     ·rw [if_pos c10] at H
      have c10b0 : decide (x20_1 < (t242.length : Int)) = true := decide_eq_true c10
      clear c10
      replace H := Option.bind_eq_some_iff.mp H
      obtain ⟨t247, A110, H⟩ := H
      replace H : (token_Words.l1 k1 l0 l1 a2 a3 x9_1 t242 (t242.length : Int) x20_1 t247 (t247.length : Int) 0) = some r := H
      have A11 := Aside0.mk A110
      clear A110
      have H' := Aside0.mk H
      clear H
      have p245 : 0 ≤ (x20_1 : Int) := of_decide_eq_true (by first | (with_reducible assumption) | assumption)
      have q245 : x20_1 < (t242.length : Int) := of_decide_eq_true (by first | (with_reducible assumption) | assumption)
      obtain ⟨ad245, e245, hx245_0, hx245_1⟩ := at_T93 (Kd.R_reads' HO_18.out).2.2 x20_1 p245 q245
      cases e245
      replace p245 := eq_true p245
      replace q245 := eq_true q245
      go_wp2_with (first | ((with_reducible refine gate_dst (N := 11) rfl ?_); (try (refine gate_guard (by rfl) ?_; dsimp only)); refine box_event ?hg (N := 11) ?hd (cs := #[.int .i64 0, .int .i64 0]) (t := 93) ?hr ?_; (case hd => rfl); (case hg => rfl); (case hr => first | (go_simp; done) | (go_simp; rfl)); intro gb246 hg w12 hbox hb; have n0_ := Aside0.mk (Kd.R_below (by (with_reducible repeat (first | apply Kd.R_alloc | apply Kd.R_drewN | apply Kd.R_drew)); exact HO_9.out) hb); have n1_ := Aside0.mk (Kd.R_below (Kd.R_elderB (by (with_reducible repeat (first | apply Kd.R_alloc | apply Kd.R_drewN | apply Kd.R_drew)); exact HO_18.out) gb246 (Nat.le_of_eq hg.symm)) hb); have n2_ := Aside0.mk (below_step (by repeat (first | (with_reducible first | exact HB.out | apply below_alloc | apply pw_below_drewN | apply below_drew1) | exact HB.out)) hb); have n3_ := Aside0.mk (hbox); have n4_ := Aside0.mk ((by rw [hg]; exact (below_size (by repeat (first | (with_reducible first | exact HB.out | apply below_alloc | apply pw_below_drewN | apply below_drew1) | exact HB.out))) : w.heap.size ≤ gb246)); have n5_ := Aside0.mk ((by rw [hg]; exact (below_size (by repeat (first | (with_reducible first | exact HB.out | apply below_alloc | apply pw_below_drewN | apply below_drew1) | exact HB.out))) : w.heap.size ≤ gb246)); clear HO_9; clear HO_18; clear HB; have HO_9 := n0_; have HO_18 := n1_; have HB := n2_; have BK246 := n3_; have GW246 := n4_; have GE246 := n5_; clear n0_ n1_ n2_ n3_ n4_ n5_; clear hb hbox hg; have hcz13_0 : w12.cell? ⟨gb246, 0, none⟩ = some (.int .i64 0) := (blk_cell BK246.out 0).trans rfl; have hcz13_1 : w12.cell? ⟨gb246, 1, none⟩ = some (.int .i64 0) := (blk_cell BK246.out 1).trans rfl; have hfz13_0 := blk_frozen BK246.out 0; have hfz13_1 := blk_frozen BK246.out 1) | ((with_reducible refine gate_callee (f := 48) rfl ?_); refine goesL_ (some 26) rfl rfl Tryd.func48 (by kernel_rfl) rfl #[.slice A1 l1.length c1, .agg #[.int .i64 ((rd_T93 t242 x20_1).f0), .int .i64 ((rd_T93 t242 x20_1).f1)]] rfl (by (try simp only [List.map_toArray, List.map_cons, List.map_nil]); first | done | rfl | (simp only [List.length_drop, List.length_take]; rfl)) ?_; (with_reducible refine (token_Split.calls k1 _ _ l1 ((rd_T93 t242 x20_1).f0) ((rd_T93 t242 x20_1).f1) t247 _ ?side1 ?side2 A11.out).mono ?_); (case side1 => exact Kd.C_below HR1.out (by repeat (first | (with_reducible first | exact HB.out | apply below_alloc | apply pw_below_drewN | apply below_drew1 | refine below_set ?_ GE246.out) | exact HB.out))); (case side2 => exact HC1.out); rintro e w14 ⟨v248, rfl, ho0, hb⟩; refine ⟨_, rfl, ?_⟩; have n0_ := Aside0.mk (Kd.R_below (by (with_reducible repeat (first | apply Kd.R_alloc | apply Kd.R_drewN | apply Kd.R_drew)); exact (Kd.R_mono (Kd.R_far (p := ⟨gb246, 1, none⟩) (Kd.R_far (p := ⟨gb246, 0, none⟩) (Kd.R_types HO_9.out BK246.out (by decide)) (fun _ hk => hk.2) (.int .i64 ((rd_T93 t242 x20_1).f0))) (fun _ hk => hk.2) (.int .i64 ((rd_T93 t242 x20_1).f1))) (fun _ h_ => h_.1))) hb); have n1_ := Aside0.mk (Kd.R_elder' (by (with_reducible repeat (first | apply Kd.R_alloc | apply Kd.R_drewN | apply Kd.R_drew)); exact (Kd.R_mono (Kd.R_far (p := ⟨gb246, 1, none⟩) (Kd.R_far (p := ⟨gb246, 0, none⟩) (Kd.R_mono HO_18.out (fun k_ hk => (⟨hk, hk.2⟩ : _ ∧ k_ ≠ gb246))) (fun _ hk => hk.2) (.int .i64 ((rd_T93 t242 x20_1).f0))) (fun _ hk => hk.2) (.int .i64 ((rd_T93 t242 x20_1).f1))) (fun _ h_ => h_.1))) (Kd.R_base ho0) hb); have n2_ := Aside0.mk (Kd.R_lower (Kd.R_newB (Kd.R_new' ho0 (Kd.R_lt (by (with_reducible repeat (first | apply Kd.R_alloc | apply Kd.R_drewN | apply Kd.R_drew)); exact (Kd.R_mono (Kd.R_far (p := ⟨gb246, 1, none⟩) (Kd.R_far (p := ⟨gb246, 0, none⟩) (Kd.R_mono HO_18.out (fun k_ hk => (⟨hk, hk.2⟩ : _ ∧ k_ ≠ gb246))) (fun _ hk => hk.2) (.int .i64 ((rd_T93 t242 x20_1).f0))) (fun _ hk => hk.2) (.int .i64 ((rd_T93 t242 x20_1).f1))) (fun _ h_ => h_.1))))) (g := gb246) (o := .cells #[.int .i64 ((rd_T93 t242 x20_1).f0), .int .i64 ((rd_T93 t242 x20_1).f1)] 93 (0, 0)) (by (with_reducible repeat (first | refine blk_drewN ?_ _ | refine blk_drew ?_ | refine blk_alloc ?_ _)); refine blk_put (cs := #[.int .i64 ((rd_T93 t242 x20_1).f0), .int .i64 0]) ?_ 1 _ rfl; (with_reducible repeat (first | refine blk_drewN ?_ _ | refine blk_drew ?_ | refine blk_alloc ?_ _)); refine blk_put (cs := #[.int .i64 0, .int .i64 0]) ?_ 0 _ rfl; (with_reducible repeat (first | refine blk_drewN ?_ _ | refine blk_drew ?_ | refine blk_alloc ?_ _)); exact BK246.out)) (below_size (by repeat (first | (with_reducible first | exact HB.out | apply below_alloc | apply pw_below_drewN | apply below_drew1 | refine below_set ?_ GE246.out) | exact HB.out)))); have n3_ := Aside0.mk (blk_below (g := gb246) (o := .cells #[.int .i64 ((rd_T93 t242 x20_1).f0), .int .i64 ((rd_T93 t242 x20_1).f1)] 93 (0, 0)) (by (with_reducible repeat (first | refine blk_drewN ?_ _ | refine blk_drew ?_ | refine blk_alloc ?_ _)); refine blk_put (cs := #[.int .i64 ((rd_T93 t242 x20_1).f0), .int .i64 0]) ?_ 1 _ rfl; (with_reducible repeat (first | refine blk_drewN ?_ _ | refine blk_drew ?_ | refine blk_alloc ?_ _)); refine blk_put (cs := #[.int .i64 0, .int .i64 0]) ?_ 0 _ rfl; (with_reducible repeat (first | refine blk_drewN ?_ _ | refine blk_drew ?_ | refine blk_alloc ?_ _)); exact BK246.out) hb); have n4_ := Aside0.mk (below_step (by repeat (first | (with_reducible first | exact HB.out | apply below_alloc | apply pw_below_drewN | apply below_drew1 | refine below_set ?_ GE246.out) | exact HB.out)) hb); clear HO_9; clear HO_18; clear BK246; clear HB; have HO_9 := n0_; have HO_18 := n1_; have HO249 := n2_; have BK246 := n3_; have HB := n4_; clear n0_ n1_ n2_ n3_ n4_; (try clear hb); (try clear hb2); (try clear hk); (try clear hi); (try clear ho0); obtain ⟨Ao15, co15, eo15⟩ := Kd.R_slice HO249.out; subst eo15))
      go_loopg [9, 28] k1 (fun kq v9 v28 w' => ∃ (x9_2 : List (S90)) (x28_2 : Int), v28 = .int .i64 x28_2 ∧ Aside0 (token_Words.l1 kq l0 l1 a2 a3 x9_2 t242 (t242.length : Int) x20_1 t247 (t247.length : Int) x28_2 = some r) ∧ Aside0 (kq ≤ k1) ∧ Aside0 (Kd.R k90 90 w' w.heap.size (fun _ => True) v9 x9_2) ∧ Aside0 (Kd.R k93 93 w' w.heap.size (fun k_ => some k_ ≠ ((.slice Ao15 t247.length co15) : Value).ownBlock ∧ k_ ≠ gb246) (.slice (some ad245) t242.length co7) t242) ∧ Aside0 (Kd.R k93 93 w' w.heap.size (fun k_ => some k_ ≠ ((.slice (some ad245) t242.length co7) : Value).ownBlock ∧ k_ ≠ gb246) (.slice Ao15 t247.length co15) t247) ∧ Aside0 (w'.heap[gb246]? = some (.cells #[.int .i64 ((rd_T93 t242 x20_1).f0), .int .i64 ((rd_T93 t242 x20_1).f1)] 93 (0, 0))) ∧ Aside0 (Below w.heap.size w w'))
      case atStart => exact ⟨(x9_1), (0), (by first | rfl | (simp; done) | (simp [*]; done) | (simp [wrap64, wrap32]; done)), H', ⟨Nat.le_refl _⟩, ⟨by (with_reducible repeat (first | apply Kd.R_alloc | apply Kd.R_drewN | apply Kd.R_drew)); exact HO_9.out⟩, ⟨by (with_reducible repeat (first | apply Kd.R_alloc | apply Kd.R_drewN | apply Kd.R_drew)); exact Kd.R_mono HO_18.out (fun _ hk => ⟨hk.2, hk.1.2⟩)⟩, ⟨by (with_reducible repeat (first | apply Kd.R_alloc | apply Kd.R_drewN | apply Kd.R_drew)); exact Kd.R_mono HO249.out (fun _ hk => ⟨hk.1.2, hk.2⟩)⟩, ⟨by (with_reducible repeat (first | refine blk_drewN ?_ _ | refine blk_drew ?_ | refine blk_alloc ?_ _)); exact BK246.out⟩, ⟨by repeat (first | (with_reducible first | exact HB.out | apply below_alloc | apply pw_below_drewN | apply below_drew1 | refine below_set ?_ GE246.out) | exact HB.out)⟩⟩
      case round =>
       clear H'
       (try clear c1); (try clear p2); (try clear q2); (try clear hx2); (try clear c3); (try clear c4); (try clear c8); (try clear c8b0); (try clear c9); (try clear c9b0); (try clear c10); (try clear c10b0); (try clear hcz13_0); (try clear hcz13_1); (try clear hfz13_0); (try clear hfz13_1); (try clear hx245_0); (try clear hx245_1); (try clear p2); (try clear p245); (try clear q245)
       obtain ⟨x9_2, x28_2, rfl, HA, HK2, HO_9, HO_18, HO_26, BK246, HB⟩ := hrel
       cases gk with
       | zero => exact absurd HA.out (by simp [token_Words.l1])
       | succ k2 =>
        have H := HA.out
        clear HA
        simp only [token_Words.l1] at H
        by_cases c16 : x28_2 < (t247.length : Int)
        ·rw [if_pos c16] at H
         have c16b0 : decide (x28_2 < (t247.length : Int)) = true := decide_eq_true c16
         clear c16
         by_cases c17 : 0 ≤ x28_2
         ·rw [if_pos c17] at H
          have c17b0 : decide (0 ≤ x28_2) = true := decide_eq_true c17
          clear c17
          by_cases c18 : x28_2 < (t247.length : Int)
          ·rw [if_pos c18] at H
           have c18b0 : decide (x28_2 < (t247.length : Int)) = true := decide_eq_true c18
           clear c18
           by_cases c19 : 0 ≤ ((rd_T93 t247 x28_2).f0)
           ·rw [if_pos c19] at H
            have c19b0 := eq_true c19
            have c19b1 : decide (0 ≤ ((rd_T93 t247 x28_2).f0)) = true := decide_eq_true c19
            clear c19
            by_cases c20 : ((rd_T93 t247 x28_2).f0) ≤ ((rd_T93 t247 x28_2).f1)
            ·rw [if_pos c20] at H
             have c20b0 := eq_true c20
             have c20b1 : decide (((rd_T93 t247 x28_2).f0) ≤ ((rd_T93 t247 x28_2).f1)) = true := decide_eq_true c20
             clear c20
             by_cases c21 : ((rd_T93 t247 x28_2).f1) ≤ (l1.length : Int)
             ·rw [if_pos c21] at H
              have c21b0 := eq_true c21
              have c21b1 : decide (((rd_T93 t247 x28_2).f1) ≤ (l1.length : Int)) = true := decide_eq_true c21
              clear c21
              obtain ⟨y252, hy252⟩ : ∃ y_ : List (S45), y_ = ((l1.take (((rd_T93 t247 x28_2).f1) : Int).toNat).drop (((rd_T93 t247 x28_2).f0) : Int).toNat) := ⟨_, rfl⟩
              replace H : (if (y252.length : Int) < a2 then (token_Words.j2 k2 l0 l1 a2 a3 x9_2 y252 t242 (t242.length : Int) x20_1 t247 (t247.length : Int) x28_2 true) else (token_Words.j2 k2 l0 l1 a2 a3 x9_2 y252 t242 (t242.length : Int) x20_1 t247 (t247.length : Int) x28_2 (decide ((y252.length : Int) > a3)))) = some r := by first | (rw [hy252]; with_reducible exact H) | (have H2_ := (Option.bind_some _ _).symm.trans H; rw [hy252]; with_reducible exact H2_) | (have H2_ := (Option.bind_some _ _).symm.trans H; with_reducible exact H2_) | with_reducible exact H | (rw [hy252]; exact H) | exact H
              have Ny252 := Aside0.mk hy252
              clear hy252
              have HC22 := Aside0.mk H
              clear H
              have p250 : 0 ≤ (x28_2 : Int) := of_decide_eq_true (by first | (with_reducible assumption) | assumption)
              have q250 : x28_2 < (t247.length : Int) := of_decide_eq_true (by first | (with_reducible assumption) | assumption)
              obtain ⟨ad250, e250, hx250_0, hx250_1⟩ := at_T93 (Kd.R_reads' HO_26.out).2.2 x28_2 p250 q250
              cases e250
              replace p250 := eq_true p250
              replace q250 := eq_true q250
              go_upto_region 9 with (first | ((with_reducible refine gate_dst (N := 13) rfl ?_); (try (refine gate_guard (by rfl) ?_; dsimp only)); refine box_event ?hg (N := 13) ?hd (cs := #[.int .i64 0, .int .i64 0]) (t := 93) ?hr ?_; (case hd => rfl); (case hg => rfl); (case hr => first | (go_simp; done) | (go_simp; rfl)); intro gb251 hg w23 hbox hb; have n0_ := Aside0.mk (Kd.R_below (by (with_reducible repeat (first | apply Kd.R_alloc | apply Kd.R_drewN | apply Kd.R_drew)); exact HO_9.out) hb); have n1_ := Aside0.mk (Kd.R_below (Kd.R_elderB (by (with_reducible repeat (first | apply Kd.R_alloc | apply Kd.R_drewN | apply Kd.R_drew)); exact HO_18.out) gb251 (Nat.le_of_eq hg.symm)) hb); have n2_ := Aside0.mk (Kd.R_below (Kd.R_elderB (by (with_reducible repeat (first | apply Kd.R_alloc | apply Kd.R_drewN | apply Kd.R_drew)); exact HO_26.out) gb251 (Nat.le_of_eq hg.symm)) hb); have n3_ := Aside0.mk (blk_below (g := gb246) (o := .cells #[.int .i64 ((rd_T93 t242 x20_1).f0), .int .i64 ((rd_T93 t242 x20_1).f1)] 93 (0, 0)) (by (with_reducible repeat (first | refine blk_drewN ?_ _ | refine blk_drew ?_ | refine blk_alloc ?_ _)); exact BK246.out) hb); have n4_ := Aside0.mk (below_step (by repeat (first | (with_reducible first | exact HB.out | apply below_alloc | apply pw_below_drewN | apply below_drew1 | refine below_set ?_ GE246.out) | exact HB.out)) hb); have n5_ := Aside0.mk (hbox); have n6_ := Aside0.mk ((by rw [hg]; exact (below_size (by repeat (first | (with_reducible first | exact HB.out | apply below_alloc | apply pw_below_drewN | apply below_drew1 | refine below_set ?_ GE246.out) | exact HB.out))) : w.heap.size ≤ gb251)); have n7_ := Aside0.mk ((by rw [hg]; exact (below_size (by repeat (first | (with_reducible first | exact HB.out | apply below_alloc | apply pw_below_drewN | apply below_drew1 | refine below_set ?_ GE246.out) | exact HB.out))) : w.heap.size ≤ gb251)); have n8_ := Aside0.mk ((by rw [hg]; exact Nat.ne_of_lt (blk_lt (g := gb246) (o := .cells #[.int .i64 ((rd_T93 t242 x20_1).f0), .int .i64 ((rd_T93 t242 x20_1).f1)] 93 (0, 0)) (by (with_reducible repeat (first | refine blk_drewN ?_ _ | refine blk_drew ?_ | refine blk_alloc ?_ _)); exact BK246.out)) : gb246 ≠ gb251)); have n9_ := Aside0.mk ((by rw [hg]; exact Nat.ne_of_gt (blk_lt (g := gb246) (o := .cells #[.int .i64 ((rd_T93 t242 x20_1).f0), .int .i64 ((rd_T93 t242 x20_1).f1)] 93 (0, 0)) (by (with_reducible repeat (first | refine blk_drewN ?_ _ | refine blk_drew ?_ | refine blk_alloc ?_ _)); exact BK246.out)) : gb251 ≠ gb246)); clear HO_9; clear HO_18; clear HO_26; clear BK246; clear HB; have HO_9 := n0_; have HO_18 := n1_; have HO_26 := n2_; have BK246 := n3_; have HB := n4_; have BK251 := n5_; have GW251 := n6_; have GE251 := n7_; have NB246_251 := n8_; have NB251_246 := n9_; clear n0_ n1_ n2_ n3_ n4_ n5_ n6_ n7_ n8_ n9_; clear hb hbox hg; have hnb24 := NB251_246.out; have hnc24 := NB246_251.out; have hcz25_0 : w23.cell? ⟨gb251, 0, none⟩ = some (.int .i64 0) := (blk_cell BK251.out 0).trans rfl; have hcz25_1 : w23.cell? ⟨gb251, 1, none⟩ = some (.int .i64 0) := (blk_cell BK251.out 1).trans rfl; have hfz25_0 := blk_frozen BK251.out 0; have hfz25_1 := blk_frozen BK251.out 1) | ((with_reducible refine gate_store (t := 93) (p := 13) rfl ?_); refine store_event (t := 93) (p := 13) (v := ?vo_w26) (w1 := ((w23.setCell ⟨gb251, 0, none⟩ (.int .i64 ((rd_T93 t247 x28_2).f0))).setCell ⟨gb251, 1, none⟩ (.int .i64 ((rd_T93 t247 x28_2).f1)))) ?hg ?ho ?hn ?hr ?_; (case ho => rfl); (case hg => rfl); (case hn => rfl); (case hr => first | (go_simp; done) | (go_simp; rfl)); intro w26 hw; have n0_ : Aside0 (Kd.R k90 90 w26 w.heap.size (fun _ => True) u9 x9_2) := ⟨(by rw [hw]; exact (by (with_reducible repeat (first | apply Kd.R_alloc | apply Kd.R_drewN | apply Kd.R_drew)); exact Kd.R_mono (Kd.R_far (p := ⟨gb251, 1, none⟩) (Kd.R_far (p := ⟨gb251, 0, none⟩) (Kd.R_types HO_9.out BK251.out (by decide)) (fun _ hk => hk.2) (.int .i64 ((rd_T93 t247 x28_2).f0))) (fun _ hk => hk.2) (.int .i64 ((rd_T93 t247 x28_2).f1))) (fun _ hk => trivial)))⟩; have n1_ : Aside0 (Kd.R k93 93 w26 w.heap.size (fun k_ => some k_ ≠ (.slice (some ad250) t247.length co15 : Value).ownBlock ∧ k_ ≠ gb246 ∧ k_ ≠ gb251) (.slice (some ad245) t242.length co7) t242) := ⟨(by rw [hw]; exact (by (with_reducible repeat (first | apply Kd.R_alloc | apply Kd.R_drewN | apply Kd.R_drew)); exact Kd.R_mono (Kd.R_far (p := ⟨gb251, 1, none⟩) (Kd.R_far (p := ⟨gb251, 0, none⟩) (Kd.R_mono HO_18.out (fun k_ hk => (⟨hk, hk.2⟩ : _ ∧ k_ ≠ gb251))) (fun _ hk => hk.2) (.int .i64 ((rd_T93 t247 x28_2).f0))) (fun _ hk => hk.2) (.int .i64 ((rd_T93 t247 x28_2).f1))) (fun _ hk => ⟨hk.1.1.1, ⟨hk.1.1.2, hk.1.2⟩⟩)))⟩; have n2_ : Aside0 (Kd.R k93 93 w26 w.heap.size (fun k_ => some k_ ≠ (.slice (some ad245) t242.length co7 : Value).ownBlock ∧ k_ ≠ gb246 ∧ k_ ≠ gb251) (.slice (some ad250) t247.length co15) t247) := ⟨(by rw [hw]; exact (by (with_reducible repeat (first | apply Kd.R_alloc | apply Kd.R_drewN | apply Kd.R_drew)); exact Kd.R_mono (Kd.R_far (p := ⟨gb251, 1, none⟩) (Kd.R_far (p := ⟨gb251, 0, none⟩) (Kd.R_mono HO_26.out (fun k_ hk => (⟨hk, hk.2⟩ : _ ∧ k_ ≠ gb251))) (fun _ hk => hk.2) (.int .i64 ((rd_T93 t247 x28_2).f0))) (fun _ hk => hk.2) (.int .i64 ((rd_T93 t247 x28_2).f1))) (fun _ hk => ⟨hk.1.1.1, ⟨hk.1.1.2, hk.1.2⟩⟩)))⟩; have n3_ : Aside0 (w26.heap[gb246]? = some (.cells #[.int .i64 ((rd_T93 t242 x20_1).f0), .int .i64 ((rd_T93 t242 x20_1).f1)] 93 (0, 0))) := ⟨(by rw [hw]; exact (by (with_reducible repeat (first | refine blk_drewN ?_ _ | refine blk_drew ?_ | refine blk_alloc ?_ _)); refine blk_far ?_ NB246_251.out _; (with_reducible repeat (first | refine blk_drewN ?_ _ | refine blk_drew ?_ | refine blk_alloc ?_ _)); refine blk_far ?_ NB246_251.out _; (with_reducible repeat (first | refine blk_drewN ?_ _ | refine blk_drew ?_ | refine blk_alloc ?_ _)); exact BK246.out))⟩; have n4_ : Aside0 (w26.heap[gb251]? = some (.cells #[.int .i64 ((rd_T93 t247 x28_2).f0), .int .i64 ((rd_T93 t247 x28_2).f1)] 93 (0, 0))) := ⟨(by rw [hw]; exact (by (with_reducible repeat (first | refine blk_drewN ?_ _ | refine blk_drew ?_ | refine blk_alloc ?_ _)); refine blk_put (cs := #[.int .i64 ((rd_T93 t247 x28_2).f0), .int .i64 0]) ?_ 1 _ rfl; (with_reducible repeat (first | refine blk_drewN ?_ _ | refine blk_drew ?_ | refine blk_alloc ?_ _)); refine blk_put (cs := #[.int .i64 0, .int .i64 0]) ?_ 0 _ rfl; (with_reducible repeat (first | refine blk_drewN ?_ _ | refine blk_drew ?_ | refine blk_alloc ?_ _)); exact BK251.out))⟩; have n5_ : Aside0 (Below w.heap.size w w26) := ⟨(by rw [hw]; exact (by repeat (first | (with_reducible first | exact HB.out | apply below_alloc | apply pw_below_drewN | apply below_drew1 | refine below_set ?_ GE246.out | refine below_set ?_ GE251.out) | exact HB.out)))⟩; clear hw; clear HO_9; clear HO_18; clear HO_26; clear BK246; clear BK251; clear HB; have HO_9 := n0_; have HO_18 := n1_; have HO_26 := n2_; have BK246 := n3_; have BK251 := n4_; have HB := n5_; clear n0_ n1_ n2_ n3_ n4_ n5_; have hcz27_0 : w26.cell? ⟨gb251, 0, none⟩ = some (.int .i64 ((rd_T93 t247 x28_2).f0)) := (blk_cell BK251.out 0).trans rfl; have hcz27_1 : w26.cell? ⟨gb251, 1, none⟩ = some (.int .i64 ((rd_T93 t247 x28_2).f1)) := (blk_cell BK251.out 1).trans rfl; have hfz27_0 := blk_frozen BK251.out 0; have hfz27_1 := blk_frozen BK251.out 1; have q28 : (((rd_T93 t247 x28_2).f1) : Int) ≤ ((l1.length : Int) : Int) := of_decide_eq_true (by first | (with_reducible assumption) | assumption); obtain ⟨i028, hi028, _, hsz28, _⟩ := info_parts info45; have hroom28 : l1.length ≤ c1 := HC1.out; have hC28 : Kd.C k45 _ A1 l1.length l1 := HR1.out; have ql28 : (((rd_T93 t247 x28_2).f0) : Int) ≤ (((rd_T93 t247 x28_2).f1) : Int) := of_decide_eq_true (by first | (with_reducible assumption) | assumption); have q028 : (0 : Int) ≤ (((rd_T93 t247 x28_2).f0) : Int) := of_decide_eq_true (by first | (with_reducible assumption) | assumption); have hcut28 := cut_mid (P := Tryd.prog) 34 45 .i64 .i64 Tryd.underlying34 hi028 3 hsz28 A1 l1.length c1 ((rd_T93 t247 x28_2).f0) ((rd_T93 t247 x28_2).f1) q028 ql28 q28 hroom28; have hr28 := Kd.C_mid (lo := (((rd_T93 t247 x28_2).f0) : Int).toNat) (hi := (((rd_T93 t247 x28_2).f1) : Int).toNat) (c := c1) hC28 (by omega) (by omega) hroom28; obtain ⟨A28, hA28⟩ : ∃ A1z_, A1z_ = (if c1 = (((rd_T93 t247 x28_2).f0) : Int).toNat then A1 else (A1 : Option Addr).map (·.add ((((rd_T93 t247 x28_2).f0) : Int).toNat * 3))) := ⟨_, rfl⟩; obtain ⟨c28, hc28⟩ : ∃ c1z_, c1z_ = c1 - (((rd_T93 t247 x28_2).f0) : Int).toNat := ⟨_, rfl⟩; have hy28 : y252.length = (((rd_T93 t247 x28_2).f1) : Int).toNat - (((rd_T93 t247 x28_2).f0) : Int).toNat := (by rw [Ny252.out, List.length_drop, List.length_take] <;> omega); rw [show ((l1).take (((rd_T93 t247 x28_2).f1) : Int).toNat).drop (((rd_T93 t247 x28_2).f0) : Int).toNat = y252 from Ny252.out.symm] at hr28; replace hr28 : Kd.C k45 _ A28 y252.length y252 := (by rw [hA28]; exact hr28); rw [← hy28, ← hA28, ← hc28] at hcut28; have HR255 := Aside0.mk hr28; have HC255 := Aside0.mk (show y252.length ≤ c28 from by rw [hy28, hc28]; exact Nat.sub_le_sub_right (Nat.le_trans (by omega) hroom28) _); clear hr28 hC28 hroom28 hi028 hsz28 hc28; have KY28 := Aside0.mk hy28; have KA28 := Aside0.mk hA28; clear hy28 hA28; replace q28 := eq_true q28))
              (try simp only [Act.put, List.setIfInBounds_toArray, List.set_cons_zero, List.set_cons_succ])
              go_cut [47] (fun v47 wc => ∃ (kq : Nat) (x47_21 : Bool), v47 = .bool x47_21 ∧ Aside0 (token_Words.j2 kq l0 l1 a2 a3 x9_2 y252 t242 (t242.length : Int) x20_1 t247 (t247.length : Int) x28_2 x47_21 = some r) ∧ Aside0 (kq ≤ k2) ∧ Aside0 (Kd.R k90 90 wc w.heap.size (fun _ => True) u9 x9_2) ∧ Aside0 (Kd.R k93 93 wc w.heap.size (fun k_ => some k_ ≠ ((.slice (some ad250) t247.length co15) : Value).ownBlock ∧ k_ ≠ gb246 ∧ k_ ≠ gb251) (.slice (some ad245) t242.length co7) t242) ∧ Aside0 (Kd.R k93 93 wc w.heap.size (fun k_ => some k_ ≠ ((.slice (some ad245) t242.length co7) : Value).ownBlock ∧ k_ ≠ gb246 ∧ k_ ≠ gb251) (.slice (some ad250) t247.length co15) t247) ∧ Aside0 (wc.heap[gb246]? = some (.cells #[.int .i64 ((rd_T93 t242 x20_1).f0), .int .i64 ((rd_T93 t242 x20_1).f1)] 93 (0, 0))) ∧ Aside0 (wc.heap[gb251]? = some (.cells #[.int .i64 ((rd_T93 t247 x28_2).f0), .int .i64 ((rd_T93 t247 x28_2).f1)] 93 (0, 0))) ∧ Aside0 (Below w.heap.size w wc))
              case first =>
               have H := HC22.out
               clear HC22
               by_cases c29 : (y252.length : Int) < a2
               ·rw [if_pos c29] at H
                have c29b0 : decide ((y252.length : Int) < a2) = true := decide_eq_true c29
                clear c29
                (first | rw [c29b0] | (simp only [i64_w, i32_w]; rw [c29b0]) | skip)
                have H' := Aside0.mk H
                clear H
                go_wp2
                go_meet
                case rel => exact ⟨_, (true), (by first | rfl | (simp; done) | (simp [*]; done) | (simp [wrap64, wrap32]; done)), H', ⟨by have := HK1.out; have := HK2.out; first | omega | exact Nat.le_refl _⟩, ⟨by (with_reducible repeat (first | apply Kd.R_alloc | apply Kd.R_drewN | apply Kd.R_drew)); exact HO_9.out⟩, ⟨by (with_reducible repeat (first | apply Kd.R_alloc | apply Kd.R_drewN | apply Kd.R_drew)); exact HO_18.out⟩, ⟨by (with_reducible repeat (first | apply Kd.R_alloc | apply Kd.R_drewN | apply Kd.R_drew)); exact HO_26.out⟩, ⟨by (with_reducible repeat (first | refine blk_drewN ?_ _ | refine blk_drew ?_ | refine blk_alloc ?_ _)); exact BK246.out⟩, ⟨by (with_reducible repeat (first | refine blk_drewN ?_ _ | refine blk_drew ?_ | refine blk_alloc ?_ _)); exact BK251.out⟩, ⟨by repeat (first | (with_reducible first | exact HB.out | apply below_alloc | apply pw_below_drewN | apply below_drew1 | refine below_set ?_ GE246.out | refine below_set ?_ GE251.out) | exact HB.out)⟩⟩
               ·rw [if_neg c29] at H
                have c29b0 : decide ((y252.length : Int) < a2) = false := decide_eq_false c29
                clear c29
                (first | rw [c29b0] | (simp only [i64_w, i32_w]; rw [c29b0]) | skip)
                have H' := Aside0.mk H
                clear H
                go_wp2
                go_meet
                case rel => exact ⟨_, (decide ((y252.length : Int) > a3)), (by first | rfl | (simp; done) | (simp [*]; done) | (simp [wrap64, wrap32]; done)), H', ⟨by have := HK1.out; have := HK2.out; first | omega | exact Nat.le_refl _⟩, ⟨by (with_reducible repeat (first | apply Kd.R_alloc | apply Kd.R_drewN | apply Kd.R_drew)); exact HO_9.out⟩, ⟨by (with_reducible repeat (first | apply Kd.R_alloc | apply Kd.R_drewN | apply Kd.R_drew)); exact HO_18.out⟩, ⟨by (with_reducible repeat (first | apply Kd.R_alloc | apply Kd.R_drewN | apply Kd.R_drew)); exact HO_26.out⟩, ⟨by (with_reducible repeat (first | refine blk_drewN ?_ _ | refine blk_drew ?_ | refine blk_alloc ?_ _)); exact BK246.out⟩, ⟨by (with_reducible repeat (first | refine blk_drewN ?_ _ | refine blk_drew ?_ | refine blk_alloc ?_ _)); exact BK251.out⟩, ⟨by repeat (first | (with_reducible first | exact HB.out | apply below_alloc | apply pw_below_drewN | apply below_drew1 | refine below_set ?_ GE246.out | refine below_set ?_ GE251.out) | exact HB.out)⟩⟩
              case rest =>
               clear HC22
               (try clear c1); (try clear c2); (try clear p2); (try clear q2); (try clear hx2); (try clear c3); (try clear c4); (try clear c8); (try clear c8b0); (try clear c9); (try clear c9b0); (try clear c10); (try clear c10b0); (try clear c16); (try clear c16b0); (try clear c17); (try clear c17b0); (try clear c18); (try clear c18b0); (try clear c19); (try clear c19b0); (try clear c19b1); (try clear c20); (try clear c20b0); (try clear c20b1); (try clear c21); (try clear c21b0); (try clear c21b1); (try clear c24); (try clear p24); (try clear q24); (try clear hx24); (try clear p25); (try clear q25); (try clear hx25); (try clear c28); (try clear q28); (try clear c29); (try clear c29b0); (try clear hcz13_0); (try clear hcz13_1); (try clear hcz25_0); (try clear hcz25_1); (try clear hcz27_0); (try clear hcz27_1); (try clear hfz13_0); (try clear hfz13_1); (try clear hfz25_0); (try clear hfz25_1); (try clear hfz27_0); (try clear hfz27_1); (try clear hx245_0); (try clear hx245_1); (try clear hx250_0); (try clear hx250_1); (try clear p2); (try clear p245); (try clear p250); (try clear q028); (try clear q2); (try clear q245); (try clear q250); (try clear q28)
               obtain ⟨kq, x47_21, rfl, HA, HJ21, HO_9, HO_18, HO_26, BK246, BK251, HB⟩ := hcut
               cases kq with
               | zero => exact absurd HA.out (by simp [token_Words.j2])
               | succ kj21 =>
                have H := HA.out
                clear HA
                simp only [token_Words.j2] at H
                by_cases c30 : x47_21 = true
                ·subst c30
                 have H1 : (token_Words.l1 kj21 l0 l1 a2 a3 x9_2 t242 (t242.length : Int) x20_1 t247 (t247.length : Int) (wrap64 (x28_2 + 1))) = some r := by rw [if_pos rfl] at H; exact H
                 clear H
                 have H := H1
                 clear H1
                 have H' := Aside0.mk H
                 clear H
                 go_wp2
                 go_roundg kj21
                 case measure => have := HK1.out; have := HK2.out; have := HJ21.out; omega
                 case rel => exact ⟨(x9_2), (wrap64 (x28_2 + 1)), (by first | rfl | (simp; done) | (simp [*]; done) | (simp [wrap64, wrap32]; done)), H', ⟨by have := HK1.out; have := HK2.out; have := HJ21.out; omega⟩, ⟨by (with_reducible repeat (first | apply Kd.R_alloc | apply Kd.R_drewN | apply Kd.R_drew)); exact HO_9.out⟩, ⟨by (with_reducible repeat (first | apply Kd.R_alloc | apply Kd.R_drewN | apply Kd.R_drew)); exact Kd.R_mono HO_18.out (fun _ hk => ⟨hk.1, hk.2.1⟩)⟩, ⟨by (with_reducible repeat (first | apply Kd.R_alloc | apply Kd.R_drewN | apply Kd.R_drew)); exact Kd.R_mono HO_26.out (fun _ hk => ⟨hk.1, hk.2.1⟩)⟩, ⟨by (with_reducible repeat (first | refine blk_drewN ?_ _ | refine blk_drew ?_ | refine blk_alloc ?_ _)); exact BK246.out⟩, ⟨by repeat (first | (with_reducible first | exact HB.out | apply below_alloc | apply pw_below_drewN | apply below_drew1 | refine below_set ?_ GE246.out | refine below_set ?_ GE251.out) | exact HB.out)⟩⟩
                ·replace c30 := Bool.eq_false_iff.mpr c30
                 subst c30
                 have H1 : (if 0 ≤ (wrap64 ((y252.length : Int) - 1)) then (if (wrap64 ((y252.length : Int) - 1)) < (y252.length : Int) then (if 0 < (y252.length : Int) then ((decode_Text.f kj21 y252).bind fun t261 => ((decode_Literal.f kj21 l0 y252).bind fun t262 => (if x9_2.length < 3518437208883 then (token_Words.l1 kj21 l0 l1 a2 a3 (x9_2 ++ [(⟨t261, (⟨(rd_T45 y252 0).f1.f0, wrap64 ((wrap64 (((rd_T45 y252 (wrap64 ((y252.length : Int) - 1))).f1.f0) + ((rd_T45 y252 (wrap64 ((y252.length : Int) - 1))).f1.f1))) - ((rd_T45 y252 0).f1.f0))⟩ : S40), t262⟩ : S90)]) t242 (t242.length : Int) x20_1 t247 (t247.length : Int) (wrap64 (x28_2 + 1))) else (none)))) else (none)) else (none)) else (none)) = some r := by rw [if_neg (show ¬ (false = true) by decide)] at H; exact H
                 clear H
                 have H := H1
                 clear H1
                 obtain ⟨ji31, hji31⟩ : ∃ j_ : Int, (wrap64 ((y252.length : Int) - 1)) = j_ := ⟨_, rfl⟩
                 replace H : (if 0 ≤ (ji31) then (if (ji31) < (y252.length : Int) then (if 0 < (y252.length : Int) then ((decode_Text.f kj21 y252).bind fun t261 => ((decode_Literal.f kj21 l0 y252).bind fun t262 => (if x9_2.length < 3518437208883 then (token_Words.l1 kj21 l0 l1 a2 a3 (x9_2 ++ [(⟨t261, (⟨(rd_T45 y252 0).f1.f0, wrap64 ((wrap64 (((rd_T45 y252 (ji31)).f1.f0) + ((rd_T45 y252 (ji31)).f1.f1))) - ((rd_T45 y252 0).f1.f0))⟩ : S40), t262⟩ : S90)]) t242 (t242.length : Int) x20_1 t247 (t247.length : Int) (wrap64 (x28_2 + 1))) else (none)))) else (none)) else (none)) else (none)) = some r := by first | (rw [hji31] at H; exact H) | (simp only [hji31] at H ⊢; exact H)
                 have hji31w : (IntKind.i64.wrap ((y252.length : Int) - 1)) = ji31 := (i64_w _).trans hji31
                 by_cases c32 : 0 ≤ (ji31)
                 ·rw [if_pos c32] at H
                  have c32b0 : decide (0 ≤ (ji31)) = true := decide_eq_true c32
                  clear c32
                  by_cases c33 : (ji31) < (y252.length : Int)
                  ·rw [if_pos c33] at H
                   have c33b0 : decide ((ji31) < (y252.length : Int)) = true := decide_eq_true c33
                   clear c33
                   by_cases c34 : 0 < (y252.length : Int)
                   ·rw [if_pos c34] at H
                    have c34b0 : decide (0 < (y252.length : Int)) = true := decide_eq_true c34
                    have c34b1 : decide (0 < y252.length) = true := decide_eq_true (by omega)
                    clear c34
                    replace H := Option.bind_eq_some_iff.mp H
                    obtain ⟨t261, A350, H⟩ := H
                    replace H : ((decode_Literal.f kj21 l0 y252).bind fun t262 => (if x9_2.length < 3518437208883 then (token_Words.l1 kj21 l0 l1 a2 a3 (x9_2 ++ [(⟨t261, (⟨(rd_T45 y252 0).f1.f0, wrap64 ((wrap64 (((rd_T45 y252 (ji31)).f1.f0) + ((rd_T45 y252 (ji31)).f1.f1))) - ((rd_T45 y252 0).f1.f0))⟩ : S40), t262⟩ : S90)]) t242 (t242.length : Int) x20_1 t247 (t247.length : Int) (wrap64 (x28_2 + 1))) else (none))) = some r := H
                    have A35 := Aside0.mk A350
                    clear A350
                    replace H := Option.bind_eq_some_iff.mp H
                    obtain ⟨t262, A360, H⟩ := H
                    replace H : (if x9_2.length < 3518437208883 then (token_Words.l1 kj21 l0 l1 a2 a3 (x9_2 ++ [(⟨t261, (⟨(rd_T45 y252 0).f1.f0, wrap64 ((wrap64 (((rd_T45 y252 (ji31)).f1.f0) + ((rd_T45 y252 (ji31)).f1.f1))) - ((rd_T45 y252 0).f1.f0))⟩ : S40), t262⟩ : S90)]) t242 (t242.length : Int) x20_1 t247 (t247.length : Int) (wrap64 (x28_2 + 1))) else (none)) = some r := H
                    have A36 := Aside0.mk A360
                    clear A360
                    by_cases c37 : x9_2.length < 3518437208883
                    ·rw [if_pos c37] at H
                     have LMc37 := Aside0.mk c37
                     clear c37
                     obtain ⟨y263, hy263⟩ : ∃ y_ : List (S90), y_ = (x9_2 ++ [(⟨t261, (⟨(rd_T45 y252 0).f1.f0, wrap64 ((wrap64 (((rd_T45 y252 (ji31)).f1.f0) + ((rd_T45 y252 (ji31)).f1.f1))) - ((rd_T45 y252 0).f1.f0))⟩ : S40), t262⟩ : S90)]) := ⟨_, rfl⟩
                     replace H : (token_Words.l1 kj21 l0 l1 a2 a3 y263 t242 (t242.length : Int) x20_1 t247 (t247.length : Int) (wrap64 (x28_2 + 1))) = some r := by first | (rw [hy263]; with_reducible exact H) | (have H2_ := (Option.bind_some _ _).symm.trans H; rw [hy263]; with_reducible exact H2_) | (have H2_ := (Option.bind_some _ _).symm.trans H; with_reducible exact H2_) | with_reducible exact H | (rw [hy263]; exact H) | exact H
                     have Ny263 := Aside0.mk hy263
                     clear hy263
                     have H' := Aside0.mk H
                     clear H
                     have p256 : 0 ≤ ((ji31) : Int) := of_decide_eq_true (by first | (with_reducible assumption) | assumption)
                     have q256 : (ji31) < (y252.length : Int) := of_decide_eq_true (by first | (with_reducible assumption) | assumption)
                     obtain ⟨ad256, e256, hx256_0, hx256_1, hx256_2⟩ := at_T45 HR255.out (ji31) p256 q256
                     cases e256
                     replace hx256_0 := (HB.out.cell (World.block_lt_of_cell? w _ hx256_0)).trans hx256_0
                     replace hx256_1 := (HB.out.cell (World.block_lt_of_cell? w _ hx256_1)).trans hx256_1
                     replace hx256_2 := (HB.out.cell (World.block_lt_of_cell? w _ hx256_2)).trans hx256_2
                     replace p256 := eq_true p256
                     replace q256 := eq_true q256
                     try go_wp2_with (first | ((with_reducible refine gate_dst (N := 15) rfl ?_); (try (refine gate_guard (by rfl) ?_; dsimp only)); refine box_event ?hg (N := 15) ?hd (cs := #[.int .i64 0, .int .i64 0]) (t := 40) ?hr ?_; (case hd => rfl); (case hg => rfl); (case hr => first | (go_simp; done) | (go_simp; rfl)); intro gb257 hg w38 hbox hb; have n0_ := Aside0.mk (Kd.R_below (by (with_reducible repeat (first | apply Kd.R_alloc | apply Kd.R_drewN | apply Kd.R_drew)); exact HO_9.out) hb); have n1_ := Aside0.mk (Kd.R_below (by (with_reducible repeat (first | apply Kd.R_alloc | apply Kd.R_drewN | apply Kd.R_drew)); exact HO_18.out) hb); have n2_ := Aside0.mk (Kd.R_below (by (with_reducible repeat (first | apply Kd.R_alloc | apply Kd.R_drewN | apply Kd.R_drew)); exact HO_26.out) hb); have n3_ := Aside0.mk (blk_below (g := gb246) (o := .cells #[.int .i64 ((rd_T93 t242 x20_1).f0), .int .i64 ((rd_T93 t242 x20_1).f1)] 93 (0, 0)) (by (with_reducible repeat (first | refine blk_drewN ?_ _ | refine blk_drew ?_ | refine blk_alloc ?_ _)); exact BK246.out) hb); have n4_ := Aside0.mk (blk_below (g := gb251) (o := .cells #[.int .i64 ((rd_T93 t247 x28_2).f0), .int .i64 ((rd_T93 t247 x28_2).f1)] 93 (0, 0)) (by (with_reducible repeat (first | refine blk_drewN ?_ _ | refine blk_drew ?_ | refine blk_alloc ?_ _)); exact BK251.out) hb); have n5_ := Aside0.mk (below_step (by repeat (first | (with_reducible first | exact HB.out | apply below_alloc | apply pw_below_drewN | apply below_drew1 | refine below_set ?_ GE246.out | refine below_set ?_ GE251.out) | exact HB.out)) hb); have n6_ := Aside0.mk (hbox); have n7_ := Aside0.mk ((by rw [hg]; exact (below_size (by repeat (first | (with_reducible first | exact HB.out | apply below_alloc | apply pw_below_drewN | apply below_drew1 | refine below_set ?_ GE246.out | refine below_set ?_ GE251.out) | exact HB.out))) : w.heap.size ≤ gb257)); have n8_ := Aside0.mk ((by rw [hg]; exact (below_size (by repeat (first | (with_reducible first | exact HB.out | apply below_alloc | apply pw_below_drewN | apply below_drew1 | refine below_set ?_ GE246.out | refine below_set ?_ GE251.out) | exact HB.out))) : w.heap.size ≤ gb257)); have n9_ := Aside0.mk ((by rw [hg]; exact Nat.ne_of_lt (blk_lt (g := gb246) (o := .cells #[.int .i64 ((rd_T93 t242 x20_1).f0), .int .i64 ((rd_T93 t242 x20_1).f1)] 93 (0, 0)) (by (with_reducible repeat (first | refine blk_drewN ?_ _ | refine blk_drew ?_ | refine blk_alloc ?_ _)); exact BK246.out)) : gb246 ≠ gb257)); have n10_ := Aside0.mk ((by rw [hg]; exact Nat.ne_of_gt (blk_lt (g := gb246) (o := .cells #[.int .i64 ((rd_T93 t242 x20_1).f0), .int .i64 ((rd_T93 t242 x20_1).f1)] 93 (0, 0)) (by (with_reducible repeat (first | refine blk_drewN ?_ _ | refine blk_drew ?_ | refine blk_alloc ?_ _)); exact BK246.out)) : gb257 ≠ gb246)); have n11_ := Aside0.mk ((by rw [hg]; exact Nat.ne_of_lt (blk_lt (g := gb251) (o := .cells #[.int .i64 ((rd_T93 t247 x28_2).f0), .int .i64 ((rd_T93 t247 x28_2).f1)] 93 (0, 0)) (by (with_reducible repeat (first | refine blk_drewN ?_ _ | refine blk_drew ?_ | refine blk_alloc ?_ _)); exact BK251.out)) : gb251 ≠ gb257)); have n12_ := Aside0.mk ((by rw [hg]; exact Nat.ne_of_gt (blk_lt (g := gb251) (o := .cells #[.int .i64 ((rd_T93 t247 x28_2).f0), .int .i64 ((rd_T93 t247 x28_2).f1)] 93 (0, 0)) (by (with_reducible repeat (first | refine blk_drewN ?_ _ | refine blk_drew ?_ | refine blk_alloc ?_ _)); exact BK251.out)) : gb257 ≠ gb251)); clear HO_9; clear HO_18; clear HO_26; clear BK246; clear BK251; clear HB; have HO_9 := n0_; have HO_18 := n1_; have HO_26 := n2_; have BK246 := n3_; have BK251 := n4_; have HB := n5_; have BK257 := n6_; have GW257 := n7_; have GE257 := n8_; have NB246_257 := n9_; have NB257_246 := n10_; have NB251_257 := n11_; have NB257_251 := n12_; clear n0_ n1_ n2_ n3_ n4_ n5_ n6_ n7_ n8_ n9_ n10_ n11_ n12_; clear hb hbox hg; have hnb39 := NB257_246.out; have hnc39 := NB246_257.out; have hnb40 := NB257_251.out; have hnc40 := NB251_257.out; have hcz41_0 : w38.cell? ⟨gb257, 0, none⟩ = some (.int .i64 0) := (blk_cell BK257.out 0).trans rfl; have hcz41_1 : w38.cell? ⟨gb257, 1, none⟩ = some (.int .i64 0) := (blk_cell BK257.out 1).trans rfl; have hfz41_0 := blk_frozen BK257.out 0; have hfz41_1 := blk_frozen BK257.out 1))
                     have n0_ : Aside0 (Kd.R k90 90 ((w38.setCell ⟨gb257, 0, none⟩ (.int .i64 ((rd_T45 y252 (ji31)).f1.f0))).setCell ⟨gb257, 1, none⟩ (.int .i64 ((rd_T45 y252 (ji31)).f1.f1))) w.heap.size (fun _ => True) u9 x9_2) := ⟨by (with_reducible repeat (first | apply Kd.R_alloc | apply Kd.R_drewN | apply Kd.R_drew)); exact Kd.R_mono (Kd.R_far (p := ⟨gb257, 1, none⟩) (Kd.R_far (p := ⟨gb257, 0, none⟩) (Kd.R_types HO_9.out BK257.out (by decide)) (fun _ hk => hk.2) (.int .i64 ((rd_T45 y252 (ji31)).f1.f0))) (fun _ hk => hk.2) (.int .i64 ((rd_T45 y252 (ji31)).f1.f1))) (fun _ hk => trivial)⟩
                     have n1_ : Aside0 (Kd.R k93 93 ((w38.setCell ⟨gb257, 0, none⟩ (.int .i64 ((rd_T45 y252 (ji31)).f1.f0))).setCell ⟨gb257, 1, none⟩ (.int .i64 ((rd_T45 y252 (ji31)).f1.f1))) w.heap.size (fun k_ => some k_ ≠ (.slice (some ad250) t247.length co15 : Value).ownBlock ∧ k_ ≠ gb246 ∧ k_ ≠ gb251) (.slice (some ad245) t242.length co7) t242) := ⟨by (with_reducible repeat (first | apply Kd.R_alloc | apply Kd.R_drewN | apply Kd.R_drew)); exact Kd.R_mono (Kd.R_far (p := ⟨gb257, 1, none⟩) (Kd.R_far (p := ⟨gb257, 0, none⟩) (Kd.R_types HO_18.out BK257.out (by decide)) (fun _ hk => hk.2) (.int .i64 ((rd_T45 y252 (ji31)).f1.f0))) (fun _ hk => hk.2) (.int .i64 ((rd_T45 y252 (ji31)).f1.f1))) (fun _ hk => ⟨hk.1.1, ⟨hk.1.2.1, hk.1.2.2⟩⟩)⟩
                     have n2_ : Aside0 (Kd.R k93 93 ((w38.setCell ⟨gb257, 0, none⟩ (.int .i64 ((rd_T45 y252 (ji31)).f1.f0))).setCell ⟨gb257, 1, none⟩ (.int .i64 ((rd_T45 y252 (ji31)).f1.f1))) w.heap.size (fun k_ => some k_ ≠ (.slice (some ad245) t242.length co7 : Value).ownBlock ∧ k_ ≠ gb246 ∧ k_ ≠ gb251) (.slice (some ad250) t247.length co15) t247) := ⟨by (with_reducible repeat (first | apply Kd.R_alloc | apply Kd.R_drewN | apply Kd.R_drew)); exact Kd.R_mono (Kd.R_far (p := ⟨gb257, 1, none⟩) (Kd.R_far (p := ⟨gb257, 0, none⟩) (Kd.R_types HO_26.out BK257.out (by decide)) (fun _ hk => hk.2) (.int .i64 ((rd_T45 y252 (ji31)).f1.f0))) (fun _ hk => hk.2) (.int .i64 ((rd_T45 y252 (ji31)).f1.f1))) (fun _ hk => ⟨hk.1.1, ⟨hk.1.2.1, hk.1.2.2⟩⟩)⟩
                     have n3_ : Aside0 (((w38.setCell ⟨gb257, 0, none⟩ (.int .i64 ((rd_T45 y252 (ji31)).f1.f0))).setCell ⟨gb257, 1, none⟩ (.int .i64 ((rd_T45 y252 (ji31)).f1.f1))).heap[gb246]? = some (.cells #[.int .i64 ((rd_T93 t242 x20_1).f0), .int .i64 ((rd_T93 t242 x20_1).f1)] 93 (0, 0))) := ⟨by (with_reducible repeat (first | refine blk_drewN ?_ _ | refine blk_drew ?_ | refine blk_alloc ?_ _)); refine blk_far ?_ NB246_257.out _; (with_reducible repeat (first | refine blk_drewN ?_ _ | refine blk_drew ?_ | refine blk_alloc ?_ _)); refine blk_far ?_ NB246_257.out _; (with_reducible repeat (first | refine blk_drewN ?_ _ | refine blk_drew ?_ | refine blk_alloc ?_ _)); exact BK246.out⟩
                     have n4_ : Aside0 (((w38.setCell ⟨gb257, 0, none⟩ (.int .i64 ((rd_T45 y252 (ji31)).f1.f0))).setCell ⟨gb257, 1, none⟩ (.int .i64 ((rd_T45 y252 (ji31)).f1.f1))).heap[gb251]? = some (.cells #[.int .i64 ((rd_T93 t247 x28_2).f0), .int .i64 ((rd_T93 t247 x28_2).f1)] 93 (0, 0))) := ⟨by (with_reducible repeat (first | refine blk_drewN ?_ _ | refine blk_drew ?_ | refine blk_alloc ?_ _)); refine blk_far ?_ NB251_257.out _; (with_reducible repeat (first | refine blk_drewN ?_ _ | refine blk_drew ?_ | refine blk_alloc ?_ _)); refine blk_far ?_ NB251_257.out _; (with_reducible repeat (first | refine blk_drewN ?_ _ | refine blk_drew ?_ | refine blk_alloc ?_ _)); exact BK251.out⟩
                     have n5_ : Aside0 (((w38.setCell ⟨gb257, 0, none⟩ (.int .i64 ((rd_T45 y252 (ji31)).f1.f0))).setCell ⟨gb257, 1, none⟩ (.int .i64 ((rd_T45 y252 (ji31)).f1.f1))).heap[gb257]? = some (.cells #[.int .i64 ((rd_T45 y252 (ji31)).f1.f0), .int .i64 ((rd_T45 y252 (ji31)).f1.f1)] 40 (0, 0))) := ⟨by (with_reducible repeat (first | refine blk_drewN ?_ _ | refine blk_drew ?_ | refine blk_alloc ?_ _)); refine blk_put (cs := #[.int .i64 ((rd_T45 y252 (ji31)).f1.f0), .int .i64 0]) ?_ 1 _ rfl; (with_reducible repeat (first | refine blk_drewN ?_ _ | refine blk_drew ?_ | refine blk_alloc ?_ _)); refine blk_put (cs := #[.int .i64 0, .int .i64 0]) ?_ 0 _ rfl; (with_reducible repeat (first | refine blk_drewN ?_ _ | refine blk_drew ?_ | refine blk_alloc ?_ _)); exact BK257.out⟩
                     have n6_ : Aside0 (Below w.heap.size w ((w38.setCell ⟨gb257, 0, none⟩ (.int .i64 ((rd_T45 y252 (ji31)).f1.f0))).setCell ⟨gb257, 1, none⟩ (.int .i64 ((rd_T45 y252 (ji31)).f1.f1)))) := ⟨by repeat (first | (with_reducible first | exact HB.out | apply below_alloc | apply pw_below_drewN | apply below_drew1 | refine below_set ?_ GE246.out | refine below_set ?_ GE251.out | refine below_set ?_ GE257.out) | exact HB.out)⟩
                     (try clear HO_9)
                     (try clear HO_18)
                     (try clear HO_26)
                     (try clear BK246)
                     (try clear BK251)
                     (try clear BK257)
                     (try clear HB)
                     generalize ((w38.setCell ⟨gb257, 0, none⟩ (.int .i64 ((rd_T45 y252 (ji31)).f1.f0))).setCell ⟨gb257, 1, none⟩ (.int .i64 ((rd_T45 y252 (ji31)).f1.f1))) = w42 at n0_ n1_ n2_ n3_ n4_ n5_ n6_ ⊢
                     have HO_9 := n0_
                     have HO_18 := n1_
                     have HO_26 := n2_
                     have BK246 := n3_
                     have BK251 := n4_
                     have BK257 := n5_
                     have HB := n6_
                     clear n0_ n1_ n2_ n3_ n4_ n5_ n6_
                     have n0_ := Aside0.mk (Kd.R_drew HO_9.out)
                     have n1_ := Aside0.mk (Kd.R_drew HO_18.out)
                     have n2_ := Aside0.mk (Kd.R_drew HO_26.out)
                     have n3_ := Aside0.mk (blk_drew BK246.out)
                     have n4_ := Aside0.mk (blk_drew BK251.out)
                     have n5_ := Aside0.mk (blk_drew BK257.out)
                     have n6_ := Aside0.mk (below_drew1 HB.out)
                     clear HO_9
                     clear HO_18
                     clear HO_26
                     clear BK246
                     clear BK251
                     clear BK257
                     clear HB
                     have HO_9 := n0_
                     have HO_18 := n1_
                     have HO_26 := n2_
                     have BK246 := n3_
                     have BK251 := n4_
                     have BK257 := n5_
                     have HB := n6_
                     clear n0_ n1_ n2_ n3_ n4_ n5_ n6_
                     have p258 : 0 ≤ (0 : Int) := (by omega)
                     have q258 : 0 < (y252.length : Int) := of_decide_eq_true (by first | (with_reducible assumption) | assumption)
                     obtain ⟨ad258, e258, hx258_0, hx258_1, hx258_2⟩ := at_T45 HR255.out 0 p258 q258
                     have hw258_2 := hx258_2
                     (try rw [show ((0 : Int)).toNat = 0 from rfl] at hw258_2)
                     (try rw [show 0 * 3 = 0 from rfl] at hw258_2)
                     (try rw [Addr.add_zero'] at hw258_2)
                     have hw258_1 := hx258_1
                     (try rw [show ((0 : Int)).toNat = 0 from rfl] at hw258_1)
                     (try rw [show 0 * 3 = 0 from rfl] at hw258_1)
                     (try rw [Addr.add_zero'] at hw258_1)
                     have hw258_0 := hx258_0
                     (try rw [show ((0 : Int)).toNat = 0 from rfl] at hw258_0)
                     (try rw [show 0 * 3 = 0 from rfl] at hw258_0)
                     (try rw [Addr.add_zero'] at hw258_0)
                     obtain rfl : ad256 = ad258 := (by injection e258)
                     have qi258 : (0 < y252.length) = True := eq_true (by omega)
                     (try rw [show ((0 : Int)).toNat = 0 from rfl] at hx258_0)
                     (try rw [show 0 * 3 = 0 from rfl] at hx258_0)
                     (try rw [Addr.add_zero'] at hx258_0)
                     (try rw [show ((0 : Int)).toNat = 0 from rfl] at hx258_1)
                     (try rw [show 0 * 3 = 0 from rfl] at hx258_1)
                     (try rw [Addr.add_zero'] at hx258_1)
                     (try rw [show ((0 : Int)).toNat = 0 from rfl] at hx258_2)
                     (try rw [show 0 * 3 = 0 from rfl] at hx258_2)
                     (try rw [Addr.add_zero'] at hx258_2)
                     replace hx258_0 := (HB.out.cell (World.block_lt_of_cell? w _ hx258_0)).trans hx258_0
                     replace hx258_1 := (HB.out.cell (World.block_lt_of_cell? w _ hx258_1)).trans hx258_1
                     replace hx258_2 := (HB.out.cell (World.block_lt_of_cell? w _ hx258_2)).trans hx258_2
                     replace p258 := eq_true p258
                     replace q258 := eq_true q258
                     have p259 : 0 ≤ (0 : Int) := (by omega)
                     have q259 : 0 < (y252.length : Int) := of_decide_eq_true (by first | (with_reducible assumption) | assumption)
                     obtain ⟨ad259, e259, hx259_0, hx259_1, hx259_2⟩ := at_T45 HR255.out 0 p259 q259
                     have hw259_2 := hx259_2
                     (try rw [show ((0 : Int)).toNat = 0 from rfl] at hw259_2)
                     (try rw [show 0 * 3 = 0 from rfl] at hw259_2)
                     (try rw [Addr.add_zero'] at hw259_2)
                     have hw259_1 := hx259_1
                     (try rw [show ((0 : Int)).toNat = 0 from rfl] at hw259_1)
                     (try rw [show 0 * 3 = 0 from rfl] at hw259_1)
                     (try rw [Addr.add_zero'] at hw259_1)
                     have hw259_0 := hx259_0
                     (try rw [show ((0 : Int)).toNat = 0 from rfl] at hw259_0)
                     (try rw [show 0 * 3 = 0 from rfl] at hw259_0)
                     (try rw [Addr.add_zero'] at hw259_0)
                     obtain rfl : ad256 = ad259 := (by injection e259)
                     have qi259 : (0 < y252.length) = True := eq_true (by omega)
                     (try rw [show ((0 : Int)).toNat = 0 from rfl] at hx259_0)
                     (try rw [show 0 * 3 = 0 from rfl] at hx259_0)
                     (try rw [Addr.add_zero'] at hx259_0)
                     (try rw [show ((0 : Int)).toNat = 0 from rfl] at hx259_1)
                     (try rw [show 0 * 3 = 0 from rfl] at hx259_1)
                     (try rw [Addr.add_zero'] at hx259_1)
                     (try rw [show ((0 : Int)).toNat = 0 from rfl] at hx259_2)
                     (try rw [show 0 * 3 = 0 from rfl] at hx259_2)
                     (try rw [Addr.add_zero'] at hx259_2)
                     replace hx259_0 := (HB.out.cell (World.block_lt_of_cell? w _ hx259_0)).trans hx259_0
                     replace hx259_1 := (HB.out.cell (World.block_lt_of_cell? w _ hx259_1)).trans hx259_1
                     replace hx259_2 := (HB.out.cell (World.block_lt_of_cell? w _ hx259_2)).trans hx259_2
                     replace p259 := eq_true p259
                     replace q259 := eq_true q259
                     refine start_ (n := 19) (S := fun w' => w'.cell? ⟨gb257, 0, none⟩ = some (.int .i64 ((rd_T45 y252 (ji31)).f1.f0)) ∧ w'.cell? ⟨gb257, 1, none⟩ = some (.int .i64 ((rd_T45 y252 (ji31)).f1.f1)) ∧ w'.cell? ad256 = some (.int .i32 ((rd_T45 y252 0).f0)) ∧ w'.cell? ⟨ad256.block, ad256.off + 1, none⟩ = some (.int .i64 ((rd_T45 y252 0).f1.f0)) ∧ w'.cell? ⟨ad256.block, ad256.off + 2, none⟩ = some (.int .i64 ((rd_T45 y252 0).f1.f1)) ∧ w'.cell? ad256 = some (.int .i32 ((rd_T45 y252 0).f0)) ∧ w'.cell? ⟨ad256.block, ad256.off + 1, none⟩ = some (.int .i64 ((rd_T45 y252 0).f1.f0)) ∧ w'.cell? ⟨ad256.block, ad256.off + 2, none⟩ = some (.int .i64 ((rd_T45 y252 0).f1.f1))) (ds := []) (bs 19 0) (by kernel_rfl) rfl rfl ⟨(blk_cell BK257.out 0).trans rfl, (blk_cell BK257.out 1).trans rfl, ((HB.out.cell (World.block_lt_of_cell? w _ hw258_0)).trans hw258_0), ((HB.out.cell (World.block_lt_of_cell? w _ hw258_1)).trans hw258_1), ((HB.out.cell (World.block_lt_of_cell? w _ hw258_2)).trans hw258_2), ((HB.out.cell (World.block_lt_of_cell? w _ hw259_0)).trans hw259_0), ((HB.out.cell (World.block_lt_of_cell? w _ hw259_1)).trans hw259_1), ((HB.out.cell (World.block_lt_of_cell? w _ hw259_2)).trans hw259_2)⟩ (fun hHeld => ?_); refine with_tabW token_Words.tab11 token_Words.bits11 (fun HT_ HW_ => ?_)
                     generalize w42.drew = w43 at HO_9 HO_18 HO_26 BK246 BK251 BK257 HB hx258_0 hx258_1 hx258_2 hx259_0 hx259_1 hx259_2 hHeld ⊢
                     refine pu_ 0 (some 55) ?_ (bs 19 1) HT_.out (by kernel_rfl) rfl rfl (fun _ _ _ h => h) (Or.inl ⟨by rfl, ?_⟩) ?_ ?_ ?_; rotate_left; (· intro w'; go_simp; with_reducible rfl); rotate_left; (· simp only [Act.put, sit, scz, scs, i64_w, i32_w]; rfl)
                     refine pu_ 1 (some 56) ?_ (bs 19 3) HT_.out (by kernel_rfl) rfl rfl (fun _ _ _ h => h) (Or.inl ⟨by rfl, ?_⟩) ?_ ?_ ?_; rotate_left; (· intro w'; go_simp; with_reducible rfl); rotate_left; (· simp only [Act.put, sit, scz, scs, i64_w, i32_w]; rfl)
                     refine pu_ 2 (some 57) ?_ (bs 19 7) HT_.out (by kernel_rfl) rfl rfl (fun _ _ _ h => h) (Or.inl ⟨by rfl, ?_⟩) ?_ ?_ ?_; rotate_left; (· intro w'; go_simp; with_reducible rfl); rotate_left; (· simp only [Act.put, sit, scz, scs, i64_w, i32_w]; rfl)
                     refine pu_ 3 (some 58) ?_ (bs 19 15) HT_.out (by kernel_rfl) rfl rfl (fun _ _ _ h => h) (Or.inl ⟨by rfl, ?_⟩) ?_ ?_ ?_; rotate_left; (· intro w'; go_simp; with_reducible rfl); rotate_left; (· simp only [Act.put, sit, scz, scs, i64_w, i32_w]; rfl)
                     refine pu_ 5 (some 60) ?_ (bs 19 47) HT_.out (by kernel_rfl) rfl rfl (fun _ _ _ h => h) (Or.inl ⟨by rfl, ?_⟩) ?_ ?_ ?_; rotate_left; (· intro w'; go_simp; with_reducible rfl); rotate_left; (· simp only [Act.put, sit, scz, scs, i64_w, i32_w]; rfl)
                     refine pu_ 7 (some 62) ?_ (bs 19 175) HT_.out (by kernel_rfl) rfl rfl (fun _ _ _ h => h) (Or.inl ⟨by rfl, ?_⟩) ?_ ?_ ?_; rotate_left; (· intro w'; go_simp; with_reducible rfl); rotate_left; (· simp only [Act.put, sit, scz, scs, i64_w, i32_w]; rfl)
                     refine pu_ 10 (some 65) ?_ (bs 19 1199) HT_.out (by kernel_rfl) rfl rfl (fun _ _ _ h => h) (Or.inl ⟨by rfl, ?_⟩) ?_ ?_ ?_; rotate_left; (· intro w'; go_simp; with_reducible rfl); rotate_left; (· simp only [Act.put, sit, scz, scs, i64_w, i32_w]; rfl)
                     refine pu_ 11 (some 66) ?_ (bs 19 3247) HT_.out (by kernel_rfl) rfl rfl (fun _ _ _ h => h) (Or.inl ⟨by rfl, ?_⟩) ?_ ?_ ?_; rotate_left; (· intro w'; go_simp; with_reducible rfl); rotate_left; (· simp only [Act.put, sit, scz, scs, i64_w, i32_w]; rfl)
                     refine pu_ 12 (some 67) ?_ (bs 19 7343) HT_.out (by kernel_rfl) rfl rfl (fun _ _ _ h => h) (Or.inl ⟨by rfl, ?_⟩) ?_ ?_ ?_; rotate_left; (· intro w'; go_simp; with_reducible rfl); rotate_left; (· simp only [Act.put, sit, scz, scs, i64_w, i32_w]; rfl)
                     refine pu_ 13 (some 68) ?_ (bs 19 15535) HT_.out (by kernel_rfl) rfl rfl (fun _ _ _ h => h) (Or.inl ⟨by rfl, ?_⟩) ?_ ?_ ?_; rotate_left; (· intro w'; go_simp; with_reducible rfl); rotate_left; (· simp only [Act.put, sit, scz, scs, i64_w, i32_w]; rfl)
                     refine take_ (i := 4) (N := some 59) (v := ?_) (a' := ?_) (bs 19 15551) rfl rfl (take_ofW HT_.out HW_.out (by kernel_rfl)) (fun _ _ _ h => h) (Or.inl ⟨by rfl, ?_⟩) hHeld ?_ ?_; rotate_left; (· rintro w' ⟨s0, s1, s2, s3, s4, s5, s6, s7⟩; go_simp; with_reducible rfl); rotate_left; (· simp only [Act.put, sit, scz, scs, i64_w, i32_w]; rfl)
                     refine take_ (i := 6) (N := some 61) (v := ?_) (a' := ?_) (bs 19 15615) rfl rfl (take_ofW HT_.out HW_.out (by kernel_rfl)) (fun _ _ _ h => h) (Or.inl ⟨by rfl, ?_⟩) hHeld ?_ ?_; rotate_left; (· rintro w' ⟨s0, s1, s2, s3, s4, s5, s6, s7⟩; go_simp; with_reducible rfl); rotate_left; (· simp only [Act.put, sit, scz, scs, i64_w, i32_w]; rfl)
                     refine take_ (i := 8) (N := some 63) (v := ?_) (a' := ?_) (bs 19 15871) rfl rfl (take_ofW HT_.out HW_.out (by kernel_rfl)) (fun _ _ _ h => h) (Or.inl ⟨by rfl, ?_⟩) hHeld ?_ ?_; rotate_left; (· rintro w' ⟨s0, s1, s2, s3, s4, s5, s6, s7⟩; go_simp; with_reducible rfl); rotate_left; (· simp only [Act.put, sit, scz, scs, i64_w, i32_w]; rfl)
                     refine pu_ 9 (some 64) ?_ (bs 19 16383) HT_.out (by kernel_rfl) rfl rfl (fun _ _ _ h => h) (Or.inl ⟨by rfl, ?_⟩) ?_ ?_ ?_; rotate_left; (· intro w'; go_simp; with_reducible rfl); rotate_left; (· simp only [Act.put, sit, scz, scs, i64_w, i32_w]; rfl)
                     refine take_ (i := 14) (N := some 69) (v := ?_) (a' := ?_) (bs 19 32767) rfl rfl (take_ofW HT_.out HW_.out (by kernel_rfl)) (fun _ _ _ h => h) (Or.inl ⟨by rfl, ?_⟩) hHeld ?_ ?_; rotate_left; (· rintro w' ⟨s0, s1, s2, s3, s4, s5, s6, s7⟩; go_simp; with_reducible rfl); rotate_left; (· simp only [Act.put, sit, scz, scs, i64_w, i32_w]; rfl)
                     refine pu_ 15 (some 70) ?_ (bs 19 65535) HT_.out (by kernel_rfl) rfl rfl (fun _ _ _ h => h) (Or.inl ⟨by rfl, ?_⟩) ?_ ?_ ?_; rotate_left; (· intro w'; go_simp; with_reducible rfl); rotate_left; (· simp only [Act.put, sit, scz, scs, i64_w, i32_w]; rfl)
                     refine pu_ 16 (some 71) ?_ (bs 19 131071) HT_.out (by kernel_rfl) rfl rfl (fun _ _ _ h => h) (Or.inl ⟨by rfl, ?_⟩) ?_ ?_ ?_; rotate_left; (· intro w'; go_simp; with_reducible rfl); rotate_left; (· simp only [Act.put, sit, scz, scs, i64_w, i32_w]; rfl)
                     refine one_ (i := 17) (N := some 16) (bs 19 262143) rfl rfl (one_of HT_.out (by kernel_rfl)) (by decide) (fun K hK => ?_)
                     refine box_step ?hg (N := 16) ?hd (cs := #[.int .i64 0, .int .i64 0]) (t := 40) ?hr ?_; (case hd => rfl); (case hg => rfl); (case hr => first | (go_simp; done) | (go_simp; rfl))
                     intro gb260 hg w44 hbox hb
                     have n0_ := Aside0.mk (Kd.R_below (by (with_reducible repeat (first | apply Kd.R_alloc | apply Kd.R_drewN | apply Kd.R_drew)); exact HO_9.out) hb)
                     have n1_ := Aside0.mk (Kd.R_below (by (with_reducible repeat (first | apply Kd.R_alloc | apply Kd.R_drewN | apply Kd.R_drew)); exact HO_18.out) hb)
                     have n2_ := Aside0.mk (Kd.R_below (by (with_reducible repeat (first | apply Kd.R_alloc | apply Kd.R_drewN | apply Kd.R_drew)); exact HO_26.out) hb)
                     have n3_ := Aside0.mk (blk_below (g := gb246) (o := .cells #[.int .i64 ((rd_T93 t242 x20_1).f0), .int .i64 ((rd_T93 t242 x20_1).f1)] 93 (0, 0)) (by (with_reducible repeat (first | refine blk_drewN ?_ _ | refine blk_drew ?_ | refine blk_alloc ?_ _)); exact BK246.out) hb)
                     have n4_ := Aside0.mk (blk_below (g := gb251) (o := .cells #[.int .i64 ((rd_T93 t247 x28_2).f0), .int .i64 ((rd_T93 t247 x28_2).f1)] 93 (0, 0)) (by (with_reducible repeat (first | refine blk_drewN ?_ _ | refine blk_drew ?_ | refine blk_alloc ?_ _)); exact BK251.out) hb)
                     have n5_ := Aside0.mk (blk_below (g := gb257) (o := .cells #[.int .i64 ((rd_T45 y252 (ji31)).f1.f0), .int .i64 ((rd_T45 y252 (ji31)).f1.f1)] 40 (0, 0)) (by (with_reducible repeat (first | refine blk_drewN ?_ _ | refine blk_drew ?_ | refine blk_alloc ?_ _)); exact BK257.out) hb)
                     have n6_ := Aside0.mk (below_step (by repeat (first | (with_reducible first | exact HB.out | apply below_alloc | apply pw_below_drewN | apply below_drew1 | refine below_set ?_ GE246.out | refine below_set ?_ GE251.out | refine below_set ?_ GE257.out) | exact HB.out)) hb)
                     have n7_ := Aside0.mk (hbox)
                     have n8_ := Aside0.mk ((by rw [hg]; exact (below_size (by repeat (first | (with_reducible first | exact HB.out | apply below_alloc | apply pw_below_drewN | apply below_drew1 | refine below_set ?_ GE246.out | refine below_set ?_ GE251.out | refine below_set ?_ GE257.out) | exact HB.out))) : w.heap.size ≤ gb260))
                     have n9_ := Aside0.mk ((by rw [hg]; exact (below_size (by repeat (first | (with_reducible first | exact HB.out | apply below_alloc | apply pw_below_drewN | apply below_drew1 | refine below_set ?_ GE246.out | refine below_set ?_ GE251.out | refine below_set ?_ GE257.out) | exact HB.out))) : w.heap.size ≤ gb260))
                     have n10_ := Aside0.mk ((by rw [hg]; exact Nat.ne_of_lt (blk_lt (g := gb246) (o := .cells #[.int .i64 ((rd_T93 t242 x20_1).f0), .int .i64 ((rd_T93 t242 x20_1).f1)] 93 (0, 0)) (by (with_reducible repeat (first | refine blk_drewN ?_ _ | refine blk_drew ?_ | refine blk_alloc ?_ _)); exact BK246.out)) : gb246 ≠ gb260))
                     have n11_ := Aside0.mk ((by rw [hg]; exact Nat.ne_of_gt (blk_lt (g := gb246) (o := .cells #[.int .i64 ((rd_T93 t242 x20_1).f0), .int .i64 ((rd_T93 t242 x20_1).f1)] 93 (0, 0)) (by (with_reducible repeat (first | refine blk_drewN ?_ _ | refine blk_drew ?_ | refine blk_alloc ?_ _)); exact BK246.out)) : gb260 ≠ gb246))
                     have n12_ := Aside0.mk ((by rw [hg]; exact Nat.ne_of_lt (blk_lt (g := gb251) (o := .cells #[.int .i64 ((rd_T93 t247 x28_2).f0), .int .i64 ((rd_T93 t247 x28_2).f1)] 93 (0, 0)) (by (with_reducible repeat (first | refine blk_drewN ?_ _ | refine blk_drew ?_ | refine blk_alloc ?_ _)); exact BK251.out)) : gb251 ≠ gb260))
                     have n13_ := Aside0.mk ((by rw [hg]; exact Nat.ne_of_gt (blk_lt (g := gb251) (o := .cells #[.int .i64 ((rd_T93 t247 x28_2).f0), .int .i64 ((rd_T93 t247 x28_2).f1)] 93 (0, 0)) (by (with_reducible repeat (first | refine blk_drewN ?_ _ | refine blk_drew ?_ | refine blk_alloc ?_ _)); exact BK251.out)) : gb260 ≠ gb251))
                     have n14_ := Aside0.mk ((by rw [hg]; exact Nat.ne_of_lt (blk_lt (g := gb257) (o := .cells #[.int .i64 ((rd_T45 y252 (ji31)).f1.f0), .int .i64 ((rd_T45 y252 (ji31)).f1.f1)] 40 (0, 0)) (by (with_reducible repeat (first | refine blk_drewN ?_ _ | refine blk_drew ?_ | refine blk_alloc ?_ _)); exact BK257.out)) : gb257 ≠ gb260))
                     have n15_ := Aside0.mk ((by rw [hg]; exact Nat.ne_of_gt (blk_lt (g := gb257) (o := .cells #[.int .i64 ((rd_T45 y252 (ji31)).f1.f0), .int .i64 ((rd_T45 y252 (ji31)).f1.f1)] 40 (0, 0)) (by (with_reducible repeat (first | refine blk_drewN ?_ _ | refine blk_drew ?_ | refine blk_alloc ?_ _)); exact BK257.out)) : gb260 ≠ gb257))
                     clear HO_9
                     clear HO_18
                     clear HO_26
                     clear BK246
                     clear BK251
                     clear BK257
                     clear HB
                     have HO_9 := n0_
                     have HO_18 := n1_
                     have HO_26 := n2_
                     have BK246 := n3_
                     have BK251 := n4_
                     have BK257 := n5_
                     have HB := n6_
                     have BK260 := n7_
                     have GW260 := n8_
                     have GE260 := n9_
                     have NB246_260 := n10_
                     have NB260_246 := n11_
                     have NB251_260 := n12_
                     have NB260_251 := n13_
                     have NB257_260 := n14_
                     have NB260_257 := n15_
                     clear n0_ n1_ n2_ n3_ n4_ n5_ n6_ n7_ n8_ n9_ n10_ n11_ n12_ n13_ n14_ n15_
                     clear hb hbox hg
                     refine hK.out _ _ ⟨(blk_cell BK257.out 0).trans rfl, (blk_cell BK257.out 1).trans rfl, ((HB.out.cell (World.block_lt_of_cell? w _ hw258_0)).trans hw258_0), ((HB.out.cell (World.block_lt_of_cell? w _ hw258_1)).trans hw258_1), ((HB.out.cell (World.block_lt_of_cell? w _ hw258_2)).trans hw258_2), ((HB.out.cell (World.block_lt_of_cell? w _ hw259_0)).trans hw259_0), ((HB.out.cell (World.block_lt_of_cell? w _ hw259_1)).trans hw259_1), ((HB.out.cell (World.block_lt_of_cell? w _ hw259_2)).trans hw259_2)⟩ (fun hHeld => ?_)
                     clear hK K
                     refine norm_ (a' := ?_) ?_ ?_
                     rotate_left
                     ·show Act.put _ (some 16) _ = _
                      simp only [Act.put, List.setIfInBounds_toArray, List.set_cons_zero, List.set_cons_succ, i64_w, i32_w]
                      rfl
                     refine one_ (i := 18) (N := none) (bs 19 524287) rfl rfl (one_of HT_.out (by kernel_rfl)) (by decide) (fun K hK => ?_)
                     have hs45 : w44.cell? ⟨gb260, 0, none⟩ = some (.int .i64 0) := (blk_cell BK260.out 0).trans rfl
                     have hfs45 := blk_frozen BK260.out 0
                     have hns45_0 := NB246_260.out
                     have hns45_1 := NB251_260.out
                     have hns45_2 := NB257_260.out
                     have hms45_0 := NB260_246.out
                     have hms45_1 := NB260_251.out
                     have hms45_2 := NB260_257.out
                     have hs46 : w44.cell? ⟨gb260, 1, none⟩ = some (.int .i64 0) := (blk_cell BK260.out 1).trans rfl
                     have hfs46 := blk_frozen BK260.out 1
                     have hns46_0 := NB246_260.out
                     have hns46_1 := NB251_260.out
                     have hns46_2 := NB257_260.out
                     have hms46_0 := NB260_246.out
                     have hms46_1 := NB260_251.out
                     have hms46_2 := NB260_257.out
                     refine skip_ (w1 := ?_) (by rfl) rfl ?_ ?_
                     rotate_left
                     ·go_simp
                      rfl
                     refine hK.out _ _ ⟨((cell_far (p := ⟨gb260, _, none⟩) NB257_260.out _).trans (((cell_far (p := ⟨gb260, _, none⟩) NB257_260.out _).trans (hHeld.1)))), ((cell_far (p := ⟨gb260, _, none⟩) NB257_260.out _).trans (((cell_far (p := ⟨gb260, _, none⟩) NB257_260.out _).trans (hHeld.2.1)))), ((cell_far (p := ⟨gb260, _, none⟩) (by first | exact Nat.ne_of_lt (Nat.lt_of_lt_of_le (by have := World.block_lt_of_cell? _ _ hw258_0; first | rwa [add_block] at this | exact this) GW260.out) | (rw [add_block]; exact Nat.ne_of_lt (Nat.lt_of_lt_of_le (by have := World.block_lt_of_cell? _ _ hw258_0; first | rwa [add_block] at this | exact this) GW260.out)) | (show (Addr.add _ _).block ≠ _; rw [add_block]; exact Nat.ne_of_lt (Nat.lt_of_lt_of_le (by have := World.block_lt_of_cell? _ _ hw258_0; first | rwa [add_block] at this | exact this) GW260.out)) | (dsimp only; exact Nat.ne_of_lt (Nat.lt_of_lt_of_le (by have := World.block_lt_of_cell? _ _ hw258_0; first | rwa [add_block] at this | exact this) GW260.out))) _).trans (((cell_far (p := ⟨gb260, _, none⟩) (by first | exact Nat.ne_of_lt (Nat.lt_of_lt_of_le (by have := World.block_lt_of_cell? _ _ hw258_0; first | rwa [add_block] at this | exact this) GW260.out) | (rw [add_block]; exact Nat.ne_of_lt (Nat.lt_of_lt_of_le (by have := World.block_lt_of_cell? _ _ hw258_0; first | rwa [add_block] at this | exact this) GW260.out)) | (show (Addr.add _ _).block ≠ _; rw [add_block]; exact Nat.ne_of_lt (Nat.lt_of_lt_of_le (by have := World.block_lt_of_cell? _ _ hw258_0; first | rwa [add_block] at this | exact this) GW260.out)) | (dsimp only; exact Nat.ne_of_lt (Nat.lt_of_lt_of_le (by have := World.block_lt_of_cell? _ _ hw258_0; first | rwa [add_block] at this | exact this) GW260.out))) _).trans (hHeld.2.2.1)))), ((cell_far (p := ⟨gb260, _, none⟩) (by first | exact Nat.ne_of_lt (Nat.lt_of_lt_of_le (by have := World.block_lt_of_cell? _ _ hw258_1; first | rwa [add_block] at this | exact this) GW260.out) | (rw [add_block]; exact Nat.ne_of_lt (Nat.lt_of_lt_of_le (by have := World.block_lt_of_cell? _ _ hw258_1; first | rwa [add_block] at this | exact this) GW260.out)) | (show (Addr.add _ _).block ≠ _; rw [add_block]; exact Nat.ne_of_lt (Nat.lt_of_lt_of_le (by have := World.block_lt_of_cell? _ _ hw258_1; first | rwa [add_block] at this | exact this) GW260.out)) | (dsimp only; exact Nat.ne_of_lt (Nat.lt_of_lt_of_le (by have := World.block_lt_of_cell? _ _ hw258_1; first | rwa [add_block] at this | exact this) GW260.out))) _).trans (((cell_far (p := ⟨gb260, _, none⟩) (by first | exact Nat.ne_of_lt (Nat.lt_of_lt_of_le (by have := World.block_lt_of_cell? _ _ hw258_1; first | rwa [add_block] at this | exact this) GW260.out) | (rw [add_block]; exact Nat.ne_of_lt (Nat.lt_of_lt_of_le (by have := World.block_lt_of_cell? _ _ hw258_1; first | rwa [add_block] at this | exact this) GW260.out)) | (show (Addr.add _ _).block ≠ _; rw [add_block]; exact Nat.ne_of_lt (Nat.lt_of_lt_of_le (by have := World.block_lt_of_cell? _ _ hw258_1; first | rwa [add_block] at this | exact this) GW260.out)) | (dsimp only; exact Nat.ne_of_lt (Nat.lt_of_lt_of_le (by have := World.block_lt_of_cell? _ _ hw258_1; first | rwa [add_block] at this | exact this) GW260.out))) _).trans (hHeld.2.2.2.1)))), ((cell_far (p := ⟨gb260, _, none⟩) (by first | exact Nat.ne_of_lt (Nat.lt_of_lt_of_le (by have := World.block_lt_of_cell? _ _ hw258_2; first | rwa [add_block] at this | exact this) GW260.out) | (rw [add_block]; exact Nat.ne_of_lt (Nat.lt_of_lt_of_le (by have := World.block_lt_of_cell? _ _ hw258_2; first | rwa [add_block] at this | exact this) GW260.out)) | (show (Addr.add _ _).block ≠ _; rw [add_block]; exact Nat.ne_of_lt (Nat.lt_of_lt_of_le (by have := World.block_lt_of_cell? _ _ hw258_2; first | rwa [add_block] at this | exact this) GW260.out)) | (dsimp only; exact Nat.ne_of_lt (Nat.lt_of_lt_of_le (by have := World.block_lt_of_cell? _ _ hw258_2; first | rwa [add_block] at this | exact this) GW260.out))) _).trans (((cell_far (p := ⟨gb260, _, none⟩) (by first | exact Nat.ne_of_lt (Nat.lt_of_lt_of_le (by have := World.block_lt_of_cell? _ _ hw258_2; first | rwa [add_block] at this | exact this) GW260.out) | (rw [add_block]; exact Nat.ne_of_lt (Nat.lt_of_lt_of_le (by have := World.block_lt_of_cell? _ _ hw258_2; first | rwa [add_block] at this | exact this) GW260.out)) | (show (Addr.add _ _).block ≠ _; rw [add_block]; exact Nat.ne_of_lt (Nat.lt_of_lt_of_le (by have := World.block_lt_of_cell? _ _ hw258_2; first | rwa [add_block] at this | exact this) GW260.out)) | (dsimp only; exact Nat.ne_of_lt (Nat.lt_of_lt_of_le (by have := World.block_lt_of_cell? _ _ hw258_2; first | rwa [add_block] at this | exact this) GW260.out))) _).trans (hHeld.2.2.2.2.1)))), ((cell_far (p := ⟨gb260, _, none⟩) (by first | exact Nat.ne_of_lt (Nat.lt_of_lt_of_le (by have := World.block_lt_of_cell? _ _ hw259_0; first | rwa [add_block] at this | exact this) GW260.out) | (rw [add_block]; exact Nat.ne_of_lt (Nat.lt_of_lt_of_le (by have := World.block_lt_of_cell? _ _ hw259_0; first | rwa [add_block] at this | exact this) GW260.out)) | (show (Addr.add _ _).block ≠ _; rw [add_block]; exact Nat.ne_of_lt (Nat.lt_of_lt_of_le (by have := World.block_lt_of_cell? _ _ hw259_0; first | rwa [add_block] at this | exact this) GW260.out)) | (dsimp only; exact Nat.ne_of_lt (Nat.lt_of_lt_of_le (by have := World.block_lt_of_cell? _ _ hw259_0; first | rwa [add_block] at this | exact this) GW260.out))) _).trans (((cell_far (p := ⟨gb260, _, none⟩) (by first | exact Nat.ne_of_lt (Nat.lt_of_lt_of_le (by have := World.block_lt_of_cell? _ _ hw259_0; first | rwa [add_block] at this | exact this) GW260.out) | (rw [add_block]; exact Nat.ne_of_lt (Nat.lt_of_lt_of_le (by have := World.block_lt_of_cell? _ _ hw259_0; first | rwa [add_block] at this | exact this) GW260.out)) | (show (Addr.add _ _).block ≠ _; rw [add_block]; exact Nat.ne_of_lt (Nat.lt_of_lt_of_le (by have := World.block_lt_of_cell? _ _ hw259_0; first | rwa [add_block] at this | exact this) GW260.out)) | (dsimp only; exact Nat.ne_of_lt (Nat.lt_of_lt_of_le (by have := World.block_lt_of_cell? _ _ hw259_0; first | rwa [add_block] at this | exact this) GW260.out))) _).trans (hHeld.2.2.2.2.2.1)))), ((cell_far (p := ⟨gb260, _, none⟩) (by first | exact Nat.ne_of_lt (Nat.lt_of_lt_of_le (by have := World.block_lt_of_cell? _ _ hw259_1; first | rwa [add_block] at this | exact this) GW260.out) | (rw [add_block]; exact Nat.ne_of_lt (Nat.lt_of_lt_of_le (by have := World.block_lt_of_cell? _ _ hw259_1; first | rwa [add_block] at this | exact this) GW260.out)) | (show (Addr.add _ _).block ≠ _; rw [add_block]; exact Nat.ne_of_lt (Nat.lt_of_lt_of_le (by have := World.block_lt_of_cell? _ _ hw259_1; first | rwa [add_block] at this | exact this) GW260.out)) | (dsimp only; exact Nat.ne_of_lt (Nat.lt_of_lt_of_le (by have := World.block_lt_of_cell? _ _ hw259_1; first | rwa [add_block] at this | exact this) GW260.out))) _).trans (((cell_far (p := ⟨gb260, _, none⟩) (by first | exact Nat.ne_of_lt (Nat.lt_of_lt_of_le (by have := World.block_lt_of_cell? _ _ hw259_1; first | rwa [add_block] at this | exact this) GW260.out) | (rw [add_block]; exact Nat.ne_of_lt (Nat.lt_of_lt_of_le (by have := World.block_lt_of_cell? _ _ hw259_1; first | rwa [add_block] at this | exact this) GW260.out)) | (show (Addr.add _ _).block ≠ _; rw [add_block]; exact Nat.ne_of_lt (Nat.lt_of_lt_of_le (by have := World.block_lt_of_cell? _ _ hw259_1; first | rwa [add_block] at this | exact this) GW260.out)) | (dsimp only; exact Nat.ne_of_lt (Nat.lt_of_lt_of_le (by have := World.block_lt_of_cell? _ _ hw259_1; first | rwa [add_block] at this | exact this) GW260.out))) _).trans (hHeld.2.2.2.2.2.2.1)))), ((cell_far (p := ⟨gb260, _, none⟩) (by first | exact Nat.ne_of_lt (Nat.lt_of_lt_of_le (by have := World.block_lt_of_cell? _ _ hw259_2; first | rwa [add_block] at this | exact this) GW260.out) | (rw [add_block]; exact Nat.ne_of_lt (Nat.lt_of_lt_of_le (by have := World.block_lt_of_cell? _ _ hw259_2; first | rwa [add_block] at this | exact this) GW260.out)) | (show (Addr.add _ _).block ≠ _; rw [add_block]; exact Nat.ne_of_lt (Nat.lt_of_lt_of_le (by have := World.block_lt_of_cell? _ _ hw259_2; first | rwa [add_block] at this | exact this) GW260.out)) | (dsimp only; exact Nat.ne_of_lt (Nat.lt_of_lt_of_le (by have := World.block_lt_of_cell? _ _ hw259_2; first | rwa [add_block] at this | exact this) GW260.out))) _).trans (((cell_far (p := ⟨gb260, _, none⟩) (by first | exact Nat.ne_of_lt (Nat.lt_of_lt_of_le (by have := World.block_lt_of_cell? _ _ hw259_2; first | rwa [add_block] at this | exact this) GW260.out) | (rw [add_block]; exact Nat.ne_of_lt (Nat.lt_of_lt_of_le (by have := World.block_lt_of_cell? _ _ hw259_2; first | rwa [add_block] at this | exact this) GW260.out)) | (show (Addr.add _ _).block ≠ _; rw [add_block]; exact Nat.ne_of_lt (Nat.lt_of_lt_of_le (by have := World.block_lt_of_cell? _ _ hw259_2; first | rwa [add_block] at this | exact this) GW260.out)) | (dsimp only; exact Nat.ne_of_lt (Nat.lt_of_lt_of_le (by have := World.block_lt_of_cell? _ _ hw259_2; first | rwa [add_block] at this | exact this) GW260.out))) _).trans (hHeld.2.2.2.2.2.2.2))))⟩ (fun hHeld => ?_)
                     clear hK K
                     refine done_ (done_of HT_.out (by kernel_rfl)) ?_
                     try go_wp2
                     have n0_ : Aside0 (Kd.R k90 90 ((w44.setCell ⟨gb260, 0, none⟩ (.int .i64 ((rd_T45 y252 0).f1.f0))).setCell ⟨gb260, 1, none⟩ (.int .i64 (wrap64 ((wrap64 (((rd_T45 y252 (ji31)).f1.f0) + ((rd_T45 y252 (ji31)).f1.f1))) - ((rd_T45 y252 0).f1.f0))))) w.heap.size (fun _ => True) u9 x9_2) := ⟨by (with_reducible repeat (first | apply Kd.R_alloc | apply Kd.R_drewN | apply Kd.R_drew)); exact Kd.R_mono (Kd.R_far (p := ⟨gb260, 1, none⟩) (Kd.R_far (p := ⟨gb260, 0, none⟩) (Kd.R_types HO_9.out BK260.out (by decide)) (fun _ hk => hk.2) (.int .i64 ((rd_T45 y252 0).f1.f0))) (fun _ hk => hk.2) (.int .i64 (wrap64 ((wrap64 (((rd_T45 y252 (ji31)).f1.f0) + ((rd_T45 y252 (ji31)).f1.f1))) - ((rd_T45 y252 0).f1.f0))))) (fun _ hk => trivial)⟩
                     have n1_ : Aside0 (Kd.R k93 93 ((w44.setCell ⟨gb260, 0, none⟩ (.int .i64 ((rd_T45 y252 0).f1.f0))).setCell ⟨gb260, 1, none⟩ (.int .i64 (wrap64 ((wrap64 (((rd_T45 y252 (ji31)).f1.f0) + ((rd_T45 y252 (ji31)).f1.f1))) - ((rd_T45 y252 0).f1.f0))))) w.heap.size (fun k_ => some k_ ≠ (.slice (some ad250) t247.length co15 : Value).ownBlock ∧ k_ ≠ gb246 ∧ k_ ≠ gb251) (.slice (some ad245) t242.length co7) t242) := ⟨by (with_reducible repeat (first | apply Kd.R_alloc | apply Kd.R_drewN | apply Kd.R_drew)); exact Kd.R_mono (Kd.R_far (p := ⟨gb260, 1, none⟩) (Kd.R_far (p := ⟨gb260, 0, none⟩) (Kd.R_types HO_18.out BK260.out (by decide)) (fun _ hk => hk.2) (.int .i64 ((rd_T45 y252 0).f1.f0))) (fun _ hk => hk.2) (.int .i64 (wrap64 ((wrap64 (((rd_T45 y252 (ji31)).f1.f0) + ((rd_T45 y252 (ji31)).f1.f1))) - ((rd_T45 y252 0).f1.f0))))) (fun _ hk => ⟨hk.1.1, ⟨hk.1.2.1, hk.1.2.2⟩⟩)⟩
                     have n2_ : Aside0 (Kd.R k93 93 ((w44.setCell ⟨gb260, 0, none⟩ (.int .i64 ((rd_T45 y252 0).f1.f0))).setCell ⟨gb260, 1, none⟩ (.int .i64 (wrap64 ((wrap64 (((rd_T45 y252 (ji31)).f1.f0) + ((rd_T45 y252 (ji31)).f1.f1))) - ((rd_T45 y252 0).f1.f0))))) w.heap.size (fun k_ => some k_ ≠ (.slice (some ad245) t242.length co7 : Value).ownBlock ∧ k_ ≠ gb246 ∧ k_ ≠ gb251) (.slice (some ad250) t247.length co15) t247) := ⟨by (with_reducible repeat (first | apply Kd.R_alloc | apply Kd.R_drewN | apply Kd.R_drew)); exact Kd.R_mono (Kd.R_far (p := ⟨gb260, 1, none⟩) (Kd.R_far (p := ⟨gb260, 0, none⟩) (Kd.R_types HO_26.out BK260.out (by decide)) (fun _ hk => hk.2) (.int .i64 ((rd_T45 y252 0).f1.f0))) (fun _ hk => hk.2) (.int .i64 (wrap64 ((wrap64 (((rd_T45 y252 (ji31)).f1.f0) + ((rd_T45 y252 (ji31)).f1.f1))) - ((rd_T45 y252 0).f1.f0))))) (fun _ hk => ⟨hk.1.1, ⟨hk.1.2.1, hk.1.2.2⟩⟩)⟩
                     have n3_ : Aside0 (((w44.setCell ⟨gb260, 0, none⟩ (.int .i64 ((rd_T45 y252 0).f1.f0))).setCell ⟨gb260, 1, none⟩ (.int .i64 (wrap64 ((wrap64 (((rd_T45 y252 (ji31)).f1.f0) + ((rd_T45 y252 (ji31)).f1.f1))) - ((rd_T45 y252 0).f1.f0))))).heap[gb246]? = some (.cells #[.int .i64 ((rd_T93 t242 x20_1).f0), .int .i64 ((rd_T93 t242 x20_1).f1)] 93 (0, 0))) := ⟨by (with_reducible repeat (first | refine blk_drewN ?_ _ | refine blk_drew ?_ | refine blk_alloc ?_ _)); refine blk_far ?_ NB246_260.out _; (with_reducible repeat (first | refine blk_drewN ?_ _ | refine blk_drew ?_ | refine blk_alloc ?_ _)); refine blk_far ?_ NB246_260.out _; (with_reducible repeat (first | refine blk_drewN ?_ _ | refine blk_drew ?_ | refine blk_alloc ?_ _)); exact BK246.out⟩
                     have n4_ : Aside0 (((w44.setCell ⟨gb260, 0, none⟩ (.int .i64 ((rd_T45 y252 0).f1.f0))).setCell ⟨gb260, 1, none⟩ (.int .i64 (wrap64 ((wrap64 (((rd_T45 y252 (ji31)).f1.f0) + ((rd_T45 y252 (ji31)).f1.f1))) - ((rd_T45 y252 0).f1.f0))))).heap[gb251]? = some (.cells #[.int .i64 ((rd_T93 t247 x28_2).f0), .int .i64 ((rd_T93 t247 x28_2).f1)] 93 (0, 0))) := ⟨by (with_reducible repeat (first | refine blk_drewN ?_ _ | refine blk_drew ?_ | refine blk_alloc ?_ _)); refine blk_far ?_ NB251_260.out _; (with_reducible repeat (first | refine blk_drewN ?_ _ | refine blk_drew ?_ | refine blk_alloc ?_ _)); refine blk_far ?_ NB251_260.out _; (with_reducible repeat (first | refine blk_drewN ?_ _ | refine blk_drew ?_ | refine blk_alloc ?_ _)); exact BK251.out⟩
                     have n5_ : Aside0 (((w44.setCell ⟨gb260, 0, none⟩ (.int .i64 ((rd_T45 y252 0).f1.f0))).setCell ⟨gb260, 1, none⟩ (.int .i64 (wrap64 ((wrap64 (((rd_T45 y252 (ji31)).f1.f0) + ((rd_T45 y252 (ji31)).f1.f1))) - ((rd_T45 y252 0).f1.f0))))).heap[gb257]? = some (.cells #[.int .i64 ((rd_T45 y252 (ji31)).f1.f0), .int .i64 ((rd_T45 y252 (ji31)).f1.f1)] 40 (0, 0))) := ⟨by (with_reducible repeat (first | refine blk_drewN ?_ _ | refine blk_drew ?_ | refine blk_alloc ?_ _)); refine blk_far ?_ NB257_260.out _; (with_reducible repeat (first | refine blk_drewN ?_ _ | refine blk_drew ?_ | refine blk_alloc ?_ _)); refine blk_far ?_ NB257_260.out _; (with_reducible repeat (first | refine blk_drewN ?_ _ | refine blk_drew ?_ | refine blk_alloc ?_ _)); exact BK257.out⟩
                     have n6_ : Aside0 (((w44.setCell ⟨gb260, 0, none⟩ (.int .i64 ((rd_T45 y252 0).f1.f0))).setCell ⟨gb260, 1, none⟩ (.int .i64 (wrap64 ((wrap64 (((rd_T45 y252 (ji31)).f1.f0) + ((rd_T45 y252 (ji31)).f1.f1))) - ((rd_T45 y252 0).f1.f0))))).heap[gb260]? = some (.cells #[.int .i64 ((rd_T45 y252 0).f1.f0), .int .i64 (wrap64 ((wrap64 (((rd_T45 y252 (ji31)).f1.f0) + ((rd_T45 y252 (ji31)).f1.f1))) - ((rd_T45 y252 0).f1.f0)))] 40 (0, 0))) := ⟨by (with_reducible repeat (first | refine blk_drewN ?_ _ | refine blk_drew ?_ | refine blk_alloc ?_ _)); refine blk_put (cs := #[.int .i64 ((rd_T45 y252 0).f1.f0), .int .i64 0]) ?_ 1 _ rfl; (with_reducible repeat (first | refine blk_drewN ?_ _ | refine blk_drew ?_ | refine blk_alloc ?_ _)); refine blk_put (cs := #[.int .i64 0, .int .i64 0]) ?_ 0 _ rfl; (with_reducible repeat (first | refine blk_drewN ?_ _ | refine blk_drew ?_ | refine blk_alloc ?_ _)); exact BK260.out⟩
                     have n7_ : Aside0 (Below w.heap.size w ((w44.setCell ⟨gb260, 0, none⟩ (.int .i64 ((rd_T45 y252 0).f1.f0))).setCell ⟨gb260, 1, none⟩ (.int .i64 (wrap64 ((wrap64 (((rd_T45 y252 (ji31)).f1.f0) + ((rd_T45 y252 (ji31)).f1.f1))) - ((rd_T45 y252 0).f1.f0)))))) := ⟨by repeat (first | (with_reducible first | exact HB.out | apply below_alloc | apply pw_below_drewN | apply below_drew1 | refine below_set ?_ GE246.out | refine below_set ?_ GE251.out | refine below_set ?_ GE257.out | refine below_set ?_ GE260.out) | exact HB.out)⟩
                     (try clear HO_9)
                     (try clear HO_18)
                     (try clear HO_26)
                     (try clear BK246)
                     (try clear BK251)
                     (try clear BK257)
                     (try clear BK260)
                     (try clear HB)
                     generalize ((w44.setCell ⟨gb260, 0, none⟩ (.int .i64 ((rd_T45 y252 0).f1.f0))).setCell ⟨gb260, 1, none⟩ (.int .i64 (wrap64 ((wrap64 (((rd_T45 y252 (ji31)).f1.f0) + ((rd_T45 y252 (ji31)).f1.f1))) - ((rd_T45 y252 0).f1.f0))))) = w47 at n0_ n1_ n2_ n3_ n4_ n5_ n6_ n7_ ⊢
                     have HO_9 := n0_
                     have HO_18 := n1_
                     have HO_26 := n2_
                     have BK246 := n3_
                     have BK251 := n4_
                     have BK257 := n5_
                     have BK260 := n6_
                     have HB := n7_
                     clear n0_ n1_ n2_ n3_ n4_ n5_ n6_ n7_
                     have n0_ := Aside0.mk (Kd.R_drew HO_9.out)
                     have n1_ := Aside0.mk (Kd.R_drew HO_18.out)
                     have n2_ := Aside0.mk (Kd.R_drew HO_26.out)
                     have n3_ := Aside0.mk (blk_drew BK246.out)
                     have n4_ := Aside0.mk (blk_drew BK251.out)
                     have n5_ := Aside0.mk (blk_drew BK257.out)
                     have n6_ := Aside0.mk (blk_drew BK260.out)
                     have n7_ := Aside0.mk (below_drew1 HB.out)
                     clear HO_9
                     clear HO_18
                     clear HO_26
                     clear BK246
                     clear BK251
                     clear BK257
                     clear BK260
                     clear HB
                     have HO_9 := n0_
                     have HO_18 := n1_
                     have HO_26 := n2_
                     have BK246 := n3_
                     have BK251 := n4_
                     have BK257 := n5_
                     have BK260 := n6_
                     have HB := n7_
                     clear n0_ n1_ n2_ n3_ n4_ n5_ n6_ n7_
                     refine start_ (n := 11) (S := fun w' => w'.cell? ⟨gb260, 0, none⟩ = some (.int .i64 ((rd_T45 y252 0).f1.f0)) ∧ w'.cell? ⟨gb260, 1, none⟩ = some (.int .i64 (wrap64 ((wrap64 (((rd_T45 y252 (ji31)).f1.f0) + ((rd_T45 y252 (ji31)).f1.f1))) - ((rd_T45 y252 0).f1.f0))))) (ds := []) (bs 11 0) (by kernel_rfl) rfl rfl ⟨(blk_cell BK260.out 0).trans rfl, (blk_cell BK260.out 1).trans rfl⟩ (fun hHeld => ?_); refine with_tabW token_Words.tab12 token_Words.bits12 (fun HT_ HW_ => ?_)
                     generalize w47.drew = w48 at HO_9 HO_18 HO_26 BK246 BK251 BK257 BK260 HB hHeld ⊢
                     refine pu_ 0 (some 72) ?_ (bs 11 1) HT_.out (by kernel_rfl) rfl rfl (fun _ _ _ h => h) (Or.inl ⟨by rfl, ?_⟩) ?_ ?_ ?_; rotate_left; (· intro w'; go_simp; with_reducible rfl); rotate_left; (· simp only [Act.put, sit, scz, scs, i64_w, i32_w]; rfl)
                     refine pu_ 1 (some 73) ?_ (bs 11 3) HT_.out (by kernel_rfl) rfl rfl (fun _ _ _ h => h) (Or.inl ⟨by rfl, ?_⟩) ?_ ?_ ?_; rotate_left; (· intro w'; go_simp; with_reducible rfl); rotate_left; (· simp only [Act.put, sit, scz, scs, i64_w, i32_w]; rfl)
                     refine pu_ 4 (some 76) ?_ (bs 11 19) HT_.out (by kernel_rfl) rfl rfl (fun _ _ _ h => h) (Or.inl ⟨by rfl, ?_⟩) ?_ ?_ ?_; rotate_left; (· intro w'; go_simp; with_reducible rfl); rotate_left; (· simp only [Act.put, sit, scz, scs, i64_w, i32_w]; rfl)
                     refine pu_ 5 (some 77) ?_ (bs 11 51) HT_.out (by kernel_rfl) rfl rfl (fun _ _ _ h => h) (Or.inl ⟨by rfl, ?_⟩) ?_ ?_ ?_; rotate_left; (· intro w'; go_simp; with_reducible rfl); rotate_left; (· simp only [Act.put, sit, scz, scs, i64_w, i32_w]; rfl)
                     refine take_ (i := 3) (N := some 75) (v := ?_) (a' := ?_) (bs 11 59) rfl rfl (take_ofW HT_.out HW_.out (by kernel_rfl)) (fun _ _ _ h => h) (Or.inl ⟨by rfl, ?_⟩) hHeld ?_ ?_; rotate_left; (· rintro w' ⟨s0, s1⟩; go_simp; with_reducible rfl); rotate_left; (· simp only [Act.put, sit, scz, scs, i64_w, i32_w]; rfl)
                     refine one_ (i := 2) (N := some 74) (bs 11 63) rfl rfl (one_of HT_.out (by kernel_rfl)) (by decide) (fun K hK => ?_)
                     refine goes_ Tryd.func21 (by kernel_rfl) rfl #[.slice (some ad256) y252.length c28] (by rfl) rfl rfl (by (try simp only [List.map_toArray, List.map_cons, List.map_nil]); first | done | rfl | (simp only [List.length_drop, List.length_take]; rfl)) ?_
                     with_reducible refine (decode_Text.calls kj21 _ _ y252 t261 _ ?side1 ?side2 A35.out).mono ?_
                     (case side1 => repeat (first | exact (Kd.C_below HR255.out HB.out) | (with_reducible refine Kd.C_alloc ?_ _) | (with_reducible refine Kd.C_drewN ?_ _) | (with_reducible refine Kd.C_drew ?_)))
                     (case side2 => exact HC255.out)
                     rintro e w49 ⟨rfl, hb⟩
                     refine ⟨_, rfl, ?_⟩
                     have n0_ := Aside0.mk (Kd.R_below (by (with_reducible repeat (first | apply Kd.R_alloc | apply Kd.R_drewN | apply Kd.R_drew)); exact HO_9.out) hb)
                     have n1_ := Aside0.mk (Kd.R_below (by (with_reducible repeat (first | apply Kd.R_alloc | apply Kd.R_drewN | apply Kd.R_drew)); exact HO_18.out) hb)
                     have n2_ := Aside0.mk (Kd.R_below (by (with_reducible repeat (first | apply Kd.R_alloc | apply Kd.R_drewN | apply Kd.R_drew)); exact HO_26.out) hb)
                     have n3_ := Aside0.mk (blk_below (g := gb246) (o := .cells #[.int .i64 ((rd_T93 t242 x20_1).f0), .int .i64 ((rd_T93 t242 x20_1).f1)] 93 (0, 0)) (by (with_reducible repeat (first | refine blk_drewN ?_ _ | refine blk_drew ?_ | refine blk_alloc ?_ _)); exact BK246.out) hb)
                     have n4_ := Aside0.mk (blk_below (g := gb251) (o := .cells #[.int .i64 ((rd_T93 t247 x28_2).f0), .int .i64 ((rd_T93 t247 x28_2).f1)] 93 (0, 0)) (by (with_reducible repeat (first | refine blk_drewN ?_ _ | refine blk_drew ?_ | refine blk_alloc ?_ _)); exact BK251.out) hb)
                     have n5_ := Aside0.mk (blk_below (g := gb257) (o := .cells #[.int .i64 ((rd_T45 y252 (ji31)).f1.f0), .int .i64 ((rd_T45 y252 (ji31)).f1.f1)] 40 (0, 0)) (by (with_reducible repeat (first | refine blk_drewN ?_ _ | refine blk_drew ?_ | refine blk_alloc ?_ _)); exact BK257.out) hb)
                     have n6_ := Aside0.mk (blk_below (g := gb260) (o := .cells #[.int .i64 ((rd_T45 y252 0).f1.f0), .int .i64 (wrap64 ((wrap64 (((rd_T45 y252 (ji31)).f1.f0) + ((rd_T45 y252 (ji31)).f1.f1))) - ((rd_T45 y252 0).f1.f0)))] 40 (0, 0)) (by (with_reducible repeat (first | refine blk_drewN ?_ _ | refine blk_drew ?_ | refine blk_alloc ?_ _)); exact BK260.out) hb)
                     have n7_ := Aside0.mk (below_step (by repeat (first | (with_reducible first | exact HB.out | apply below_alloc | apply pw_below_drewN | apply below_drew1 | refine below_set ?_ GE246.out | refine below_set ?_ GE251.out | refine below_set ?_ GE257.out | refine below_set ?_ GE260.out) | exact HB.out)) hb)
                     clear HO_9
                     clear HO_18
                     clear HO_26
                     clear BK246
                     clear BK251
                     clear BK257
                     clear BK260
                     clear HB
                     have HO_9 := n0_
                     have HO_18 := n1_
                     have HO_26 := n2_
                     have BK246 := n3_
                     have BK251 := n4_
                     have BK257 := n5_
                     have BK260 := n6_
                     have HB := n7_
                     clear n0_ n1_ n2_ n3_ n4_ n5_ n6_ n7_
                     (try clear hb)
                     (try clear hb2)
                     (try clear hk)
                     (try clear hi)
                     refine hK.out _ _ ⟨(blk_cell BK260.out 0).trans rfl, (blk_cell BK260.out 1).trans rfl⟩ (fun hHeld => ?_)
                     clear hK K
                     refine norm_ (a' := ?_) ?_ ?_
                     rotate_left
                     ·show Act.put _ (some 74) _ = _
                      simp only [Act.put, List.setIfInBounds_toArray, List.set_cons_zero, List.set_cons_succ, i64_w, i32_w]
                      rfl
                     refine one_ (i := 6) (N := some 78) (bs 11 127) rfl rfl (one_of HT_.out (by kernel_rfl)) (by decide) (fun K hK => ?_)
                     refine goes_ Tryd.func23 (by kernel_rfl) rfl #[.slice A0 l0.length c0, .slice (some ad256) y252.length c28] (by rfl) rfl rfl (by (try simp only [List.map_toArray, List.map_cons, List.map_nil]); first | done | rfl | (simp only [List.length_drop, List.length_take]; rfl)) ?_
                     with_reducible refine (decode_Literal.calls kj21 _ _ l0 _ _ y252 t262 _ ?side1 ?side2 ?side3 ?side4 A36.out).mono ?_
                     (case side1 => repeat (first | exact (Kd.C_below HR0.out HB.out) | (with_reducible refine Kd.C_alloc ?_ _) | (with_reducible refine Kd.C_drewN ?_ _) | (with_reducible refine Kd.C_drew ?_)))
                     (case side2 => exact HC0.out)
                     (case side3 => repeat (first | exact (Kd.C_below HR255.out HB.out) | (with_reducible refine Kd.C_alloc ?_ _) | (with_reducible refine Kd.C_drewN ?_ _) | (with_reducible refine Kd.C_drew ?_)))
                     (case side4 => exact HC255.out)
                     rintro e w50 ⟨rfl, hb⟩
                     refine ⟨_, rfl, ?_⟩
                     have n0_ := Aside0.mk (Kd.R_below (by (with_reducible repeat (first | apply Kd.R_alloc | apply Kd.R_drewN | apply Kd.R_drew)); exact HO_9.out) hb)
                     have n1_ := Aside0.mk (Kd.R_below (by (with_reducible repeat (first | apply Kd.R_alloc | apply Kd.R_drewN | apply Kd.R_drew)); exact HO_18.out) hb)
                     have n2_ := Aside0.mk (Kd.R_below (by (with_reducible repeat (first | apply Kd.R_alloc | apply Kd.R_drewN | apply Kd.R_drew)); exact HO_26.out) hb)
                     have n3_ := Aside0.mk (blk_below (g := gb246) (o := .cells #[.int .i64 ((rd_T93 t242 x20_1).f0), .int .i64 ((rd_T93 t242 x20_1).f1)] 93 (0, 0)) (by (with_reducible repeat (first | refine blk_drewN ?_ _ | refine blk_drew ?_ | refine blk_alloc ?_ _)); exact BK246.out) hb)
                     have n4_ := Aside0.mk (blk_below (g := gb251) (o := .cells #[.int .i64 ((rd_T93 t247 x28_2).f0), .int .i64 ((rd_T93 t247 x28_2).f1)] 93 (0, 0)) (by (with_reducible repeat (first | refine blk_drewN ?_ _ | refine blk_drew ?_ | refine blk_alloc ?_ _)); exact BK251.out) hb)
                     have n5_ := Aside0.mk (blk_below (g := gb257) (o := .cells #[.int .i64 ((rd_T45 y252 (ji31)).f1.f0), .int .i64 ((rd_T45 y252 (ji31)).f1.f1)] 40 (0, 0)) (by (with_reducible repeat (first | refine blk_drewN ?_ _ | refine blk_drew ?_ | refine blk_alloc ?_ _)); exact BK257.out) hb)
                     have n6_ := Aside0.mk (blk_below (g := gb260) (o := .cells #[.int .i64 ((rd_T45 y252 0).f1.f0), .int .i64 (wrap64 ((wrap64 (((rd_T45 y252 (ji31)).f1.f0) + ((rd_T45 y252 (ji31)).f1.f1))) - ((rd_T45 y252 0).f1.f0)))] 40 (0, 0)) (by (with_reducible repeat (first | refine blk_drewN ?_ _ | refine blk_drew ?_ | refine blk_alloc ?_ _)); exact BK260.out) hb)
                     have n7_ := Aside0.mk (below_step (by repeat (first | (with_reducible first | exact HB.out | apply below_alloc | apply pw_below_drewN | apply below_drew1 | refine below_set ?_ GE246.out | refine below_set ?_ GE251.out | refine below_set ?_ GE257.out | refine below_set ?_ GE260.out) | exact HB.out)) hb)
                     clear HO_9
                     clear HO_18
                     clear HO_26
                     clear BK246
                     clear BK251
                     clear BK257
                     clear BK260
                     clear HB
                     have HO_9 := n0_
                     have HO_18 := n1_
                     have HO_26 := n2_
                     have BK246 := n3_
                     have BK251 := n4_
                     have BK257 := n5_
                     have BK260 := n6_
                     have HB := n7_
                     clear n0_ n1_ n2_ n3_ n4_ n5_ n6_ n7_
                     (try clear hb)
                     (try clear hb2)
                     (try clear hk)
                     (try clear hi)
                     refine hK.out _ _ ⟨(blk_cell BK260.out 0).trans rfl, (blk_cell BK260.out 1).trans rfl⟩ (fun hHeld => ?_)
                     clear hK K
                     refine norm_ (a' := ?_) ?_ ?_
                     rotate_left
                     ·show Act.put _ (some 78) _ = _
                      simp only [Act.put, List.setIfInBounds_toArray, List.set_cons_zero, List.set_cons_succ, i64_w, i32_w]
                      rfl
                     refine pu_ 7 (some 79) ?_ (bs 11 255) HT_.out (by kernel_rfl) rfl rfl (fun _ _ _ h => h) (Or.inl ⟨by rfl, ?_⟩) ?_ ?_ ?_; rotate_left; (· intro w'; go_simp; with_reducible rfl); rotate_left; (· simp only [Act.put, sit, scz, scs, i64_w, i32_w]; rfl)
                     refine one_ (i := 8) (N := some 80) (bs 11 511) rfl rfl (one_of HT_.out (by kernel_rfl)) (by decide) (fun K hK => ?_)
                     refine value_ (w1 := ?_) (v := ?_) (by rfl) rfl ?_ ?_
                     rotate_left 2
                     ·go_simp
                      constructor
                      ·rfl
                      ·rfl
                     refine hK.out _ _ ⟨(blk_cell (blk_alloc BK260.out _) 0).trans rfl, (blk_cell (blk_alloc BK260.out _) 1).trans rfl⟩ (fun hHeld => ?_)
                     clear hK K
                     refine norm_ (a' := ?_) ?_ ?_
                     rotate_left
                     ·show Act.put _ (some 80) _ = _
                      simp only [Act.put, List.setIfInBounds_toArray, List.set_cons_zero, List.set_cons_succ, i64_w, i32_w]
                      rfl
                     refine one_ (i := 9) (N := some 81) (bs 11 1023) rfl rfl (one_of HT_.out (by kernel_rfl)) (by decide) (fun K hK => ?_)
                     refine Kd.R_append_step k90 (w0 := w) w.heap.size (by rfl) (.tmp 72) (.tmp 80) 64 90 (.agg #[(.string ⟨#[]⟩), (.int .i64 0), (.int .i64 0), (.bool false)]) 40 rfl Tryd.underlying64 info90 rfl (by decide) (by omega) u9 x9_2 (⟨t261, (⟨(rd_T45 y252 0).f1.f0, wrap64 ((wrap64 (((rd_T45 y252 (ji31)).f1.f0) + ((rd_T45 y252 (ji31)).f1.f1))) - ((rd_T45 y252 0).f1.f0))⟩ : S40), t262⟩ : S90) [.string t261, .int .i64 ((rd_T45 y252 0).f1.f0), .int .i64 (wrap64 ((wrap64 (((rd_T45 y252 (ji31)).f1.f0) + ((rd_T45 y252 (ji31)).f1.f1))) - ((rd_T45 y252 0).f1.f0))), .bool t262] (fun _ => True) (fun _ => False) rfl rfl ?aP (fun _ hk => hk.elim) ?aF ?aO ?aB ?aS ?aL ?_
                     (case aP => exact k90_mkM _ _ _ (⟨t261, (⟨(rd_T45 y252 0).f1.f0, wrap64 ((wrap64 (((rd_T45 y252 (ji31)).f1.f0) + ((rd_T45 y252 (ji31)).f1.f1))) - ((rd_T45 y252 0).f1.f0))⟩ : S40), t262⟩ : S90))
                     (case aB => exact (by repeat (first | (with_reducible first | exact HB.out | apply below_alloc | apply pw_below_drewN | apply below_drew1 | refine below_set ?_ GE246.out | refine below_set ?_ GE251.out | refine below_set ?_ GE257.out | refine below_set ?_ GE260.out) | exact HB.out)))
                     (case aF => exact (fun _ _ => trivial))
                     (case aO => exact (by (with_reducible repeat (first | apply Kd.R_alloc | apply Kd.R_drewN | apply Kd.R_drew)); exact HO_9.out))
                     (case aS => exact (below_size (by repeat (first | (with_reducible first | exact HB.out | apply below_alloc | apply pw_below_drewN | apply below_drew1 | refine below_set ?_ GE246.out | refine below_set ?_ GE251.out | refine below_set ?_ GE257.out | refine below_set ?_ GE260.out) | exact HB.out))))
                     (case aL => have := LMc37.out; omega)
                     intro v264 w51 ho hb hg hat
                     rw [← Ny263.out] at ho
                     have n0_ := Aside0.mk (Kd.R_over' (by (with_reducible repeat (first | apply Kd.R_alloc | apply Kd.R_drewN | apply Kd.R_drew)); exact HO_18.out) (Kd.R_typed (by (with_reducible repeat (first | apply Kd.R_alloc | apply Kd.R_drewN | apply Kd.R_drew)); exact HO_9.out)) (by decide) hg)
                     have n1_ := Aside0.mk (Kd.R_over' (by (with_reducible repeat (first | apply Kd.R_alloc | apply Kd.R_drewN | apply Kd.R_drew)); exact HO_26.out) (Kd.R_typed (by (with_reducible repeat (first | apply Kd.R_alloc | apply Kd.R_drewN | apply Kd.R_drew)); exact HO_9.out)) (by decide) hg)
                     have n2_ := Aside0.mk (blk_grown (g := gb246) (o := .cells #[.int .i64 ((rd_T93 t242 x20_1).f0), .int .i64 ((rd_T93 t242 x20_1).f1)] 93 (0, 0)) (by (with_reducible repeat (first | refine blk_drewN ?_ _ | refine blk_drew ?_ | refine blk_alloc ?_ _)); exact BK246.out) hg (Kd.R_ne HO_9.out BK246.out (by decide)))
                     have n3_ := Aside0.mk (blk_grown (g := gb251) (o := .cells #[.int .i64 ((rd_T93 t247 x28_2).f0), .int .i64 ((rd_T93 t247 x28_2).f1)] 93 (0, 0)) (by (with_reducible repeat (first | refine blk_drewN ?_ _ | refine blk_drew ?_ | refine blk_alloc ?_ _)); exact BK251.out) hg (Kd.R_ne HO_9.out BK251.out (by decide)))
                     have n4_ := Aside0.mk (blk_grown (g := gb257) (o := .cells #[.int .i64 ((rd_T45 y252 (ji31)).f1.f0), .int .i64 ((rd_T45 y252 (ji31)).f1.f1)] 40 (0, 0)) (by (with_reducible repeat (first | refine blk_drewN ?_ _ | refine blk_drew ?_ | refine blk_alloc ?_ _)); exact BK257.out) hg (Kd.R_ne HO_9.out BK257.out (by decide)))
                     have n5_ := Aside0.mk (blk_grown (g := gb260) (o := .cells #[.int .i64 ((rd_T45 y252 0).f1.f0), .int .i64 (wrap64 ((wrap64 (((rd_T45 y252 (ji31)).f1.f0) + ((rd_T45 y252 (ji31)).f1.f1))) - ((rd_T45 y252 0).f1.f0)))] 40 (0, 0)) (by (with_reducible repeat (first | refine blk_drewN ?_ _ | refine blk_drew ?_ | refine blk_alloc ?_ _)); exact BK260.out) hg (Kd.R_ne HO_9.out BK260.out (by decide)))
                     have n6_ := Aside0.mk (hb)
                     have n7_ := Aside0.mk (ho)
                     clear HO_18
                     clear HO_26
                     clear BK246
                     clear BK251
                     clear BK257
                     clear BK260
                     clear HB
                     clear HO_9
                     have HO_18 := n0_
                     have HO_26 := n1_
                     have BK246 := n2_
                     have BK251 := n3_
                     have BK257 := n4_
                     have BK260 := n5_
                     have HB := n6_
                     have HO265 := n7_
                     clear n0_ n1_ n2_ n3_ n4_ n5_ n6_ n7_
                     clear ho hb hg hat
                     refine hK.out _ _ ⟨(blk_cell BK260.out 0).trans rfl, (blk_cell BK260.out 1).trans rfl⟩ (fun hHeld => ?_)
                     clear hK K
                     refine norm_ (a' := ?_) ?_ ?_
                     rotate_left
                     ·show Act.put _ (some 81) _ = _
                      simp only [Act.put, List.setIfInBounds_toArray, List.set_cons_zero, List.set_cons_succ, i64_w, i32_w]
                      rfl
                     refine pu_ 10 (some 9) ?_ (bs 11 2047) HT_.out (by kernel_rfl) rfl rfl (fun _ _ _ h => h) (Or.inl ⟨by rfl, ?_⟩) ?_ ?_ ?_; rotate_left; (· intro w'; go_simp; with_reducible rfl); rotate_left; (· simp only [Act.put, sit, scz, scs, i64_w, i32_w]; rfl)
                     refine done_ (done_of HT_.out (by kernel_rfl)) ?_
                     try go_wp2
                     go_roundg kj21
                     case measure => have := HK1.out; have := HK2.out; have := HJ21.out; omega
                     case rel => exact ⟨(y263), (wrap64 (x28_2 + 1)), (by first | rfl | (simp; done) | (simp [*]; done) | (simp [wrap64, wrap32]; done)), H', ⟨by have := HK1.out; have := HK2.out; have := HJ21.out; omega⟩, ⟨by (with_reducible repeat (first | apply Kd.R_alloc | apply Kd.R_drewN | apply Kd.R_drew)); exact HO265.out⟩, ⟨by (with_reducible repeat (first | apply Kd.R_alloc | apply Kd.R_drewN | apply Kd.R_drew)); exact Kd.R_mono HO_18.out (fun _ hk => ⟨hk.1, hk.2.1⟩)⟩, ⟨by (with_reducible repeat (first | apply Kd.R_alloc | apply Kd.R_drewN | apply Kd.R_drew)); exact Kd.R_mono HO_26.out (fun _ hk => ⟨hk.1, hk.2.1⟩)⟩, ⟨by (with_reducible repeat (first | refine blk_drewN ?_ _ | refine blk_drew ?_ | refine blk_alloc ?_ _)); exact BK246.out⟩, ⟨by repeat (first | (with_reducible first | exact HB.out | apply below_alloc | apply pw_below_drewN | apply below_drew1 | refine below_set ?_ GE246.out | refine below_set ?_ GE251.out | refine below_set ?_ GE257.out | refine below_set ?_ GE260.out) | exact HB.out)⟩⟩
                    ·rw [if_neg c37] at H
                     exact absurd H (by simp)
                   ·rw [if_neg c34] at H
                    exact absurd H (by simp)
                  ·rw [if_neg c33] at H
                   exact absurd H (by simp)
                 ·rw [if_neg c32] at H
                  exact absurd H (by simp)
             ·rw [if_neg c21] at H
              exact absurd H (by simp)
            ·rw [if_neg c20] at H
             exact absurd H (by simp)
           ·rw [if_neg c19] at H
            exact absurd H (by simp)
          ·rw [if_neg c18] at H
           exact absurd H (by simp)
         ·rw [if_neg c17] at H
          exact absurd H (by simp)
        ·rw [if_neg c16] at H
         have c16b0 : decide (x28_2 < (t247.length : Int)) = false := decide_eq_false c16
         clear c16
         have H' := Aside0.mk H
         clear H
         go_wp2
         go_roundg k2
         case measure => have := HK1.out; have := HK2.out; omega
         case rel => exact ⟨(x9_2), (wrap64 (x20_1 + 1)), (by first | rfl | (simp; done) | (simp [*]; done) | (simp [wrap64, wrap32]; done)), H', ⟨by have := HK1.out; have := HK2.out; omega⟩, ⟨by (with_reducible repeat (first | apply Kd.R_alloc | apply Kd.R_drewN | apply Kd.R_drew)); exact HO_9.out⟩, ⟨by (with_reducible repeat (first | apply Kd.R_alloc | apply Kd.R_drewN | apply Kd.R_drew)); exact Kd.R_mono HO_18.out (fun _ hk => trivial)⟩, ⟨by repeat (first | (with_reducible first | exact HB.out | apply below_alloc | apply pw_below_drewN | apply below_drew1 | refine below_set ?_ GE246.out) | exact HB.out)⟩⟩
     ·rw [if_neg c10] at H
      exact absurd H (by simp)
    ·rw [if_neg c9] at H
     exact absurd H (by simp)
   ·rw [if_neg c8] at H
    have c8b0 : decide (x20_1 < (t242.length : Int)) = false := decide_eq_false c8
    clear c8
    obtain rfl := Option.some.inj H
    go_wp2
    go_ret
    exact ⟨_, by first | rfl | (simp [errW_none, errW_some] <;> rfl) | (simp [*, errW_none, errW_some] <;> rfl), by (with_reducible repeat (first | apply Kd.R_alloc | apply Kd.R_drewN | apply Kd.R_drew)); exact HO_9.out, by repeat (first | (with_reducible first | exact HB.out | apply below_alloc | apply pw_below_drewN | apply below_drew1) | exact HB.out)⟩

end Go.Proofs.YtekalnhackjldaaDoor.PTokenWords
