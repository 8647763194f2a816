-- x
import Derived.Test.YtjabpbnlpljlkaaDoorPShowMadex0
import Derived.Test.YtjabpbnlpljlkaaDoorXSq
namespace Go.Proofs.YtjabpbnlpljlkaaDoor.PShowMade
open Go.RowKit Go.Proofs.YtjabpbnlpljlkaaDoor.X Go.Proofs.YtjabpbnlpljlkaaDoorW.PrintWords Go.Proofs.YtjabpbnlpljlkaaDoorW.PrintLast Go.Proofs.YtjabpbnlpljlkaaDoorW.PrintMore
attribute [local go_sem] max2_int min2_int max_two min_two max_three min_three max_four min_four   -- for this text's walks alone
set_option linter.unusedVariables false
set_option linter.unusedSimpArgs false

/-! ### hunks_table: function 61 -/
mutual
def hunks_table.l0 : Nat → List ByteArray → List ByteArray → List (List Int) → Int → Int → Option ((List (List Int)))
 | 0, _, _, _, _, _ => none
 | k + 1, x0, x1, x12, x14, x15 => if x15 < x14 then (if 0 ≤ (wrap64 ((x1.length : Int) + 1)) then (if (wrap64 ((x1.length : Int) + 1) : Int).toNat ≤ 35184372088832 then (if 0 ≤ x15 then (if x15 < (x12.length : Int) then (hunks_table.l0 k x0 x1 (x12.set (x15 : Int).toNat (List.replicate (wrap64 ((x1.length : Int) + 1) : Int).toNat 0)) x14 (wrap64 (x15 + 1))) else (none)) else (none)) else (none)) else (none)) else (hunks_table.l1 k x0 x1 (wrap64 ((x0.length : Int) - 1)) x12)
def hunks_table.l1 : Nat → List ByteArray → List ByteArray → Int → List (List Int) → Option ((List (List Int)))
 | 0, _, _, _, _ => none
 | k + 1, x0, x1, x7, x12 => if x7 ≥ 0 then (hunks_table.l2 k x0 x1 x7 (wrap64 ((x1.length : Int) - 1)) x12) else (some x12)
def hunks_table.l2 : Nat → List ByteArray → List ByteArray → Int → Int → List (List Int) → Option ((List (List Int)))
 | 0, _, _, _, _, _ => none
 | k + 1, x0, x1, x7, x8, x12 => if x8 ≥ 0 then (if 0 ≤ x7 then (if x7 < (x0.length : Int) then (if 0 ≤ x8 then (if x8 < (x1.length : Int) then (if (rdOf ByteArray.empty x0 x7).toList = (rdOf ByteArray.empty x1 x8).toList then (if x7 < (x12.length : Int) then (if 0 ≤ (wrap64 (x7 + 1)) then (if (wrap64 (x7 + 1)) < (x12.length : Int) then (if 0 ≤ (wrap64 (x8 + 1)) then (if (wrap64 (x8 + 1)) < ((rd_L10 x12 (wrap64 (x7 + 1))).length : Int) then (if x8 < ((rd_L10 x12 x7).length : Int) then (hunks_table.l2 k x0 x1 x7 (wrap64 (x8 - 1)) (x12.set (x7 : Int).toNat ((rd_L10 x12 x7).set (x8 : Int).toNat (wrap64 ((rd (rd_L10 x12 (wrap64 (x7 + 1))) (wrap64 (x8 + 1))) + 1))))) else (none)) else (none)) else (none)) else (none)) else (none)) else (none)) else (if x7 < (x12.length : Int) then (if 0 ≤ (wrap64 (x7 + 1)) then (if (wrap64 (x7 + 1)) < (x12.length : Int) then (if x8 < ((rd_L10 x12 (wrap64 (x7 + 1))).length : Int) then (if 0 ≤ (wrap64 (x8 + 1)) then (if (wrap64 (x8 + 1)) < ((rd_L10 x12 x7).length : Int) then (if x8 < ((rd_L10 x12 x7).length : Int) then (hunks_table.l2 k x0 x1 x7 (wrap64 (x8 - 1)) (x12.set (x7 : Int).toNat ((rd_L10 x12 x7).set (x8 : Int).toNat (mx (rd (rd_L10 x12 (wrap64 (x7 + 1))) x8) (rd (rd_L10 x12 x7) (wrap64 (x8 + 1))))))) else (none)) else (none)) else (none)) else (none)) else (none)) else (none)) else (none))) else (none)) else (none)) else (none)) else (none)) else (hunks_table.l1 k x0 x1 (wrap64 (x7 - 1)) x12)
end
def hunks_table.f (k : Nat) (l0 : List ByteArray) (l1 : List ByteArray) : Option ((List (List Int))) := if 0 ≤ (wrap64 ((l0.length : Int) + 1)) then (if (wrap64 ((l0.length : Int) + 1) : Int).toNat ≤ 11728124029610 then ((some (List.replicate (wrap64 ((l0.length : Int) + 1) : Int).toNat [] : List (List Int))).bind fun y138 => (hunks_table.l0 k l0 l1 y138 (y138.length : Int) 0)) else (none)) else (none)
theorem hunks_table.mono_l : ∀ k, (∀ y0 y1 y2 y3 y4, LeO (hunks_table.l0 k y0 y1 y2 y3 y4) (hunks_table.l0 (k + 1) y0 y1 y2 y3 y4)) ∧ (∀ y0 y1 y2 y3, LeO (hunks_table.l1 k y0 y1 y2 y3) (hunks_table.l1 (k + 1) y0 y1 y2 y3)) ∧ (∀ y0 y1 y2 y3 y4, LeO (hunks_table.l2 k y0 y1 y2 y3 y4) (hunks_table.l2 (k + 1) y0 y1 y2 y3 y4))
 | 0 => ⟨fun _ _ _ _ _ r h => by simp [hunks_table.l0] at h, fun _ _ _ _ r h => by simp [hunks_table.l1] at h, fun _ _ _ _ _ r h => by simp [hunks_table.l2] at h⟩
 | k + 1 => by
  obtain ⟨ih0, ih1, ih2⟩ := hunks_table.mono_l k
  refine ⟨?_, ?_, ?_⟩
  ·intro y0 y1 y2 y3 y4
   unfold hunks_table.l0
   repeat' first
   | (with_reducible exact ih0 _ _ _ _ _)
   | (with_reducible exact ih1 _ _ _ _)
   | (with_reducible exact ih2 _ _ _ _ _)
   | (with_reducible exact LeO.refl _)
   | (with_reducible exact LeO.none _)
   | (with_reducible refine LeO.ite ?_ ?_)
   | (with_reducible refine LeO.bind ?_ (fun _ => ?_))
  ·intro y0 y1 y2 y3
   unfold hunks_table.l1
   repeat' first
   | (with_reducible exact ih0 _ _ _ _ _)
   | (with_reducible exact ih1 _ _ _ _)
   | (with_reducible exact ih2 _ _ _ _ _)
   | (with_reducible exact LeO.refl _)
   | (with_reducible exact LeO.none _)
   | (with_reducible refine LeO.ite ?_ ?_)
   | (with_reducible refine LeO.bind ?_ (fun _ => ?_))
  ·intro y0 y1 y2 y3 y4
   unfold hunks_table.l2
   repeat' first
   | (with_reducible exact ih0 _ _ _ _ _)
   | (with_reducible exact ih1 _ _ _ _)
   | (with_reducible exact ih2 _ _ _ _ _)
   | (with_reducible exact LeO.refl _)
   | (with_reducible exact LeO.none _)
   | (with_reducible refine LeO.ite ?_ ?_)
   | (with_reducible refine LeO.bind ?_ (fun _ => ?_))
theorem hunks_table.mono : ∀ a0 a1 k, LeO (hunks_table.f k a0 a1) (hunks_table.f (k + 1) a0 a1) := by
 intro a0 a1 k
 obtain ⟨ih0, ih1, ih2⟩ := hunks_table.mono_l k
 unfold hunks_table.f
 repeat' first
   | (with_reducible exact ih0 _ _ _ _ _)
   | (with_reducible exact ih1 _ _ _ _)
   | (with_reducible exact ih2 _ _ _ _ _)
   | (with_reducible exact LeO.refl _)
   | (with_reducible exact LeO.none _)
   | (with_reducible refine LeO.ite ?_ ?_)
   | (with_reducible refine LeO.bind ?_ (fun _ => ?_))
def hunks_table.T13 : Bool × List (List Nat × List Nat) := (true, [([], []), ([], []), ([0, 1], [0, 1]), ([2], [2]), ([], []), ([], []), ([4, 5], [4, 5]), ([6], [6]), ([3, 7], [3, 7])])
def hunks_table.B13 : List Nat := [0, 0, 3, 7, 0, 0, 48, 112, 255]
theorem hunks_table.tab13 : rtab .any (opsOf Tryd.f61 13) = hunks_table.T13 := by kernel_rfl
theorem hunks_table.bits13 : waitsOk hunks_table.T13.2 hunks_table.B13 = true := by kernel_rfl
def hunks_table.T14 : Bool × List (List Nat × List Nat) := (true, [([], []), ([], []), ([0, 1], [0, 1]), ([2], [2]), ([], []), ([], []), ([], []), ([6], [6]), ([5, 7], [5, 7]), ([8], [8]), ([], []), ([10], [10]), ([9, 11], [9, 11]), ([12], [12]), ([13], [13]), ([3, 4, 0, 1, 2, 3, 4, 5, 6, 7, 8, 9, 10, 11, 12, 13, 14], [3, 4]), ([15, 14, 0, 1, 2, 3, 4, 5, 6, 7, 8, 9, 10, 11, 12, 13, 14], [14, 15])])
def hunks_table.B14 : List Nat := [0, 0, 3, 7, 0, 0, 0, 64, 224, 480, 0, 1024, 4064, 8160, 16352, 32767, 65535]
theorem hunks_table.tab14 : rtab .any (opsOf Tryd.f61 14) = hunks_table.T14 := by kernel_rfl
theorem hunks_table.bits14 : waitsOk hunks_table.T14.2 hunks_table.B14 = true := by kernel_rfl
def hunks_table.T15 : Bool × List (List Nat × List Nat) := (true, [([], []), ([], []), ([0, 1], [0, 1]), ([2], [2]), ([], []), ([], []), ([], []), ([6], [6]), ([5, 7], [5, 7]), ([8], [8]), ([], []), ([9, 10], [9, 10]), ([11], [11]), ([], []), ([], []), ([13, 14], [13, 14]), ([15], [15]), ([], []), ([17], [17]), ([16, 18], [16, 18]), ([19], [19]), ([12, 20], [12, 20]), ([3, 4, 0, 1, 2, 3, 4, 5, 6, 7, 8, 9, 10, 11, 12, 13, 14, 15, 16, 17, 18, 19, 20, 21], [3, 4]), ([22, 21, 0, 1, 2, 3, 4, 5, 6, 7, 8, 9, 10, 11, 12, 13, 14, 15, 16, 17, 18, 19, 20, 21], [21, 22])])
def hunks_table.B15 : List Nat := [0, 0, 3, 7, 0, 0, 0, 64, 224, 480, 0, 2016, 4064, 0, 0, 24576, 57344, 0, 131072, 516096, 1040384, 2097120, 4194303, 8388607]
theorem hunks_table.tab15 : rtab .any (opsOf Tryd.f61 15) = hunks_table.T15 := by kernel_rfl
theorem hunks_table.bits15 : waitsOk hunks_table.T15.2 hunks_table.B15 = true := by kernel_rfl
set_option maxHeartbeats 1600000 in
set_option maxRecDepth 100000 in
theorem hunks_table.calls (k : Nat) (A0 : Option Addr) (c0 : Nat) (l0 : List ByteArray) (A1 : Option Addr) (c1 : Nat) (l1 : List ByteArray) (r : List (List Int)) (w : World) (hr0 : Kd.C Kd.string w A0 l0.length l0) (hc0 : l0.length ≤ c0) (hr1 : Kd.C Kd.string w A1 l1.length l1) (hc1 : l1.length ≤ c1) (h : hunks_table.f k l0 l1 = some r) :
  Calls Tryd.prog 61 #[.slice A0 l0.length c0, .slice A1 l1.length c1] w fun e w' => ∃ v0_ : Value, e = .returned (v0_) ∧ Kd.S (Kd.slice 3 (Kd.int .i64)) 47 w' w.heap.size (fun _ => True) v0_ r ∧ Below w.heap.size w w' := by
 have HR0 := Aside0.mk hr0
 have HC0 := Aside0.mk hc0
 clear hr0 hc0
 have HR1 := Aside0.mk hr1
 have HC1 := Aside0.mk hc1
 clear hr1 hc1
 have HB := Aside0.mk (Below.refl w.heap.size w)
 have H : (if 0 ≤ (wrap64 ((l0.length : Int) + 1)) then (if (wrap64 ((l0.length : Int) + 1) : Int).toNat ≤ 11728124029610 then ((some (List.replicate (wrap64 ((l0.length : Int) + 1) : Int).toNat [] : List (List Int))).bind fun y138 => (hunks_table.l0 k l0 l1 y138 (y138.length : Int) 0)) else (none)) else (none)) = some r := h
 clear h
 obtain ⟨ji3, hji3⟩ : ∃ j_ : Int, (wrap64 ((l0.length : Int) + 1)) = j_ := ⟨_, rfl⟩
 replace H : (if 0 ≤ (ji3) then (if (ji3 : Int).toNat ≤ 11728124029610 then ((some (List.replicate (ji3 : Int).toNat [] : List (List Int))).bind fun y138 => (hunks_table.l0 k l0 l1 y138 (y138.length : Int) 0)) else (none)) else (none)) = some r := by first | (rw [hji3] at H; exact H) | (simp only [hji3] at H ⊢; exact H)
 have hji3w : (IntKind.i64.wrap ((l0.length : Int) + 1)) = ji3 := (i64_w _).trans hji3
 by_cases c4 : 0 ≤ (ji3)
 ·rw [if_pos c4] at H
  have c4b0 := eq_true c4
  have c4b1 : decide (0 ≤ (ji3)) = true := decide_eq_true c4
  clear c4
  by_cases c5 : (ji3 : Int).toNat ≤ 11728124029610
  ·rw [if_pos c5] at H
   have c5b0 := eq_true c5
   have c5b1 : decide ((ji3 : Int).toNat ≤ 11728124029610) = true := decide_eq_true c5
   clear c5
   obtain ⟨y138, hy138⟩ : ∃ y_ : List (List Int), y_ = (List.replicate (ji3 : Int).toNat []) := ⟨_, rfl⟩
   replace H : (hunks_table.l0 k l0 l1 y138 (y138.length : Int) 0) = some r := by first | (rw [hy138]; with_reducible exact H) | (have H2_ := (Option.bind_some _ _).symm.trans H; rw [hy138]; with_reducible exact H2_) | (have H2_ := (Option.bind_some _ _).symm.trans H; with_reducible exact H2_) | with_reducible exact H | (rw [hy138]; exact H) | exact H
   have Ny138 := Aside0.mk hy138
   clear hy138
   have H' := Aside0.mk H
   clear H
   go_enter Tryd.func61, Tryd.ntmps61
   go_wp2_with (first | ((with_reducible refine gate_dst (N := 12) rfl ?_); refine Kd.S_make (Kd.slice 3 (Kd.int .i64)) _ 47 rfl (N := 12) rfl 116 _ _ rfl ji3 rfl rfl Tryd.underlying116 (.slice none 0 0) 24 info47 rfl (by decide) (by omega) [] (ok := fun _ => True) (okp := fun _ => True) ⟨_, rfl, Kd.R_nil _ _ _ _ _⟩ (fun _ hk => hk) trivial (of_decide_eq_true (by first | (with_reducible assumption) | assumption)) (Nat.le_trans (Nat.mul_le_mul_right _ (of_decide_eq_true (by first | (with_reducible assumption) | assumption) : ji3.toNat ≤ 11728124029610)) (by omega)) (Below.refl _ _) (Nat.le_refl _) ?_; intro v139 w6 ho7 hb hg_ hnew_; clear hg_ hnew_; (first | rw [← Ny138.out] at ho7 | (simp only [Int.reduceToNat] at ho7; rw [← Ny138.out] at ho7)); have n0_ := Aside0.mk (Kd.S_lower ho7 (below_size (by repeat (first | (with_reducible first | exact HB.out | apply below_alloc | apply pw_below_drewN | apply below_drew1) | exact HB.out)))); have n1_ := Aside0.mk (below_step (by repeat (first | (with_reducible first | exact HB.out | apply below_alloc | apply pw_below_drewN | apply below_drew1) | exact HB.out)) hb); clear HB; have HO140 := n0_; have HB := n1_; clear n0_ n1_; clear hb ho7; obtain ⟨Ao8, co8, eo8⟩ := Kd.S_slice HO140.out; subst eo8))
   go_loopg [15] k (fun kq v15 w' => ∃ (x12_1 : List (List Int)) (x15_1 : Int), v15 = .int .i64 x15_1 ∧ Aside0 (hunks_table.l0 kq l0 l1 x12_1 (y138.length : Int) x15_1 = some r) ∧ Aside0 (kq ≤ k) ∧ Aside0 (Kd.S (Kd.slice 3 (Kd.int .i64)) 47 w' w.heap.size (fun _ => True) (.slice Ao8 y138.length co8) x12_1) ∧ Aside0 (Below w.heap.size w w'))
   case atStart => exact ⟨(y138), (0), (by first | rfl | (simp; done) | (simp [*]; done) | (simp [wrap64, wrap32]; done)), H', ⟨Nat.le_refl _⟩, ⟨by (with_reducible repeat (first | apply Kd.S_alloc | apply Kd.S_drewN | apply Kd.S_drew)); exact HO140.out⟩, ⟨by repeat (first | (with_reducible first | exact HB.out | apply below_alloc | apply pw_below_drewN | apply below_drew1) | exact HB.out)⟩⟩
   case round =>
    clear H'
    (try clear c1); (try clear p2); (try clear c4); (try clear c4b0); (try clear c4b1); (try clear c5); (try clear c5b0); (try clear c5b1); (try clear c6); (try clear p6)
    obtain ⟨x12_1, x15_1, rfl, HA, HK1, HO_12, HB⟩ := hrel
    have hl12_1 : y138.length = x12_1.length := (Kd.S_reads' HO_12.out).1
    rw [hl12_1] at HO_12
    (try simp only [hl12_1])
    cases gk with
    | zero => exact absurd HA.out (by simp [hunks_table.l0])
    | succ k1 =>
     have H := HA.out
     clear HA
     simp only [hunks_table.l0] at H
     by_cases c9 : x15_1 < (y138.length : Int)
     ·rw [if_pos c9] at H
      have c9b0 : decide (x15_1 < (y138.length : Int)) = true := decide_eq_true c9
      (try simp only [hl12_1] at c9b0)
      clear c9
      obtain ⟨ji10, hji10⟩ : ∃ j_ : Int, (wrap64 ((l1.length : Int) + 1)) = j_ := ⟨_, rfl⟩
      replace H : (if 0 ≤ (ji10) then (if (ji10 : Int).toNat ≤ 35184372088832 then (if 0 ≤ x15_1 then (if x15_1 < (x12_1.length : Int) then (hunks_table.l0 k1 l0 l1 (x12_1.set (x15_1 : Int).toNat (List.replicate (ji10 : Int).toNat 0)) (y138.length : Int) (wrap64 (x15_1 + 1))) else (none)) else (none)) else (none)) else (none)) = some r := by first | (rw [hji10] at H; exact H) | (simp only [hji10] at H ⊢; exact H)
      have hji10w : (IntKind.i64.wrap ((l1.length : Int) + 1)) = ji10 := (i64_w _).trans hji10
      by_cases c11 : 0 ≤ (ji10)
      ·rw [if_pos c11] at H
       have c11b0 := eq_true c11
       have c11b1 : decide (0 ≤ (ji10)) = true := decide_eq_true c11
       clear c11
       by_cases c12 : (ji10 : Int).toNat ≤ 35184372088832
       ·rw [if_pos c12] at H
        have c12b0 := eq_true c12
        have c12b1 : decide ((ji10 : Int).toNat ≤ 35184372088832) = true := decide_eq_true c12
        clear c12
        obtain ⟨y141, hy141⟩ : ∃ y_ : List Int, y_ = (List.replicate (ji10 : Int).toNat 0) := ⟨_, rfl⟩
        replace H : (if 0 ≤ x15_1 then (if x15_1 < (x12_1.length : Int) then (hunks_table.l0 k1 l0 l1 (x12_1.set (x15_1 : Int).toNat y141) (y138.length : Int) (wrap64 (x15_1 + 1))) else (none)) else (none)) = some r := by first | (rw [hy141]; with_reducible exact H) | (have H2_ := (Option.bind_some _ _).symm.trans H; rw [hy141]; with_reducible exact H2_) | (have H2_ := (Option.bind_some _ _).symm.trans H; with_reducible exact H2_) | with_reducible exact H | (rw [hy141]; exact H) | exact H
        have Ny141 := Aside0.mk hy141
        clear hy141
        by_cases c13 : 0 ≤ x15_1
        ·rw [if_pos c13] at H
         have c13b0 : decide (0 ≤ x15_1) = true := decide_eq_true c13
         clear c13
         by_cases c14 : x15_1 < (x12_1.length : Int)
         ·rw [if_pos c14] at H
          have c14b0 : decide (x15_1 < (x12_1.length : Int)) = true := decide_eq_true c14
          clear c14
          obtain ⟨y144, hy144⟩ : ∃ y_ : List (List Int), y_ = (x12_1.set (x15_1 : Int).toNat y141) := ⟨_, rfl⟩
          replace H : (hunks_table.l0 k1 l0 l1 y144 (y138.length : Int) (wrap64 (x15_1 + 1))) = some r := by first | (rw [hy144]; with_reducible exact H) | (have H2_ := (Option.bind_some _ _).symm.trans H; rw [hy144]; with_reducible exact H2_) | (have H2_ := (Option.bind_some _ _).symm.trans H; with_reducible exact H2_) | with_reducible exact H | (rw [hy144]; exact H) | exact H
          have Ny144 := Aside0.mk hy144
          clear hy144
          have H' := Aside0.mk H
          clear H
          go_wp2_with (first | ((with_reducible refine gate_dst (N := 23) rfl ?_); refine Kd.R_make (Kd.int .i64) _ 3 rfl (N := 23) rfl 47 _ _ rfl ji10 rfl rfl Tryd.underlying47 (.int .i64 0) 8 info3 rfl (by decide) (by omega) 0 (ok := fun _ => True) (okp := fun _ => True) rfl (fun _ hk => hk) trivial (of_decide_eq_true (by first | (with_reducible assumption) | assumption)) (Nat.le_trans (Nat.mul_le_mul_right _ (of_decide_eq_true (by first | (with_reducible assumption) | assumption) : ji10.toNat ≤ 35184372088832)) (by omega)) (Below.refl _ _) (Nat.le_refl _) ?_; intro v142 w16 ho17 hb hg_ hnew_; clear hg_ hnew_; (first | rw [← Ny141.out] at ho17 | (simp only [Int.reduceToNat] at ho17; rw [← Ny141.out] at ho17)); have n0_ := Aside0.mk (Kd.S_elder' (by (with_reducible repeat (first | apply Kd.S_alloc | apply Kd.S_drewN | apply Kd.S_drew)); exact HO_12.out) (Kd.R_base ho17) hb); have n1_ := Aside0.mk (Kd.R_lower ho17 (below_size (by repeat (first | (with_reducible first | exact HB.out | apply below_alloc | apply pw_below_drewN | apply below_drew1) | exact HB.out)))); have n2_ := Aside0.mk (below_step (by repeat (first | (with_reducible first | exact HB.out | apply below_alloc | apply pw_below_drewN | apply below_drew1) | exact HB.out)) hb); clear HO_12; clear HB; have HO_12 := n0_; have HO143 := n1_; have HB := n2_; clear n0_ n1_ n2_; clear hb ho17; have p15 : 0 ≤ (x15_1 : Int) := of_decide_eq_true (by first | (with_reducible assumption) | assumption); have q15 : (x15_1 : Int) < ((x12_1.length : Int) : Int) := of_decide_eq_true (by first | (with_reducible assumption) | assumption); obtain ⟨go15, co15, eo15, gb15, gl15, cl15, HG15⟩ := Kd.S_form HO_12.out (by omega); (first | cases eo15 | (injection eo15 with ea_ en_ ec_; (first | subst ea_ | (injection ea_ with ea_; subst ea_)); subst ec_; clear en_)); have GB15 := Aside0.mk gb15; have GG15 := Aside0.mk HG15; clear gb15 gl15 HG15; obtain ⟨_, ce15, hcl15, hM15, hcc15, hfr15, _, _⟩ := Kd.S_elem HO_12.out [] (x15_1 : Int) p15 q15; obtain ⟨ve15_0, rfl, ge15_0⟩ := hM15; have hx15_0 := hcc15 0 _ rfl; have hf15_0 := hfr15 0; (try simp only [show ((Kd.slice 3 (Kd.int .i64))).sz = 1 from rfl, Nat.mul_one, Nat.add_zero] at hx15_0); (try simp only [show ((Kd.slice 3 (Kd.int .i64))).sz = 1 from rfl, Nat.mul_one, Nat.add_zero] at hf15_0); (try clear hcl15); (try clear hcc15); (try clear hfr15); (try clear hM15); replace p15 := eq_true p15; replace q15 := eq_true q15; have n_ := Aside0.mk (Kd.S_mono (ok' := (fun k_ => some k_ ≠ (v142 : Value).ownBlock)) HO_12.out (fun k_ hk => hk.2)); clear HO_12; have HO_12 := n_; clear n_; have HX18 := Aside0.mk (show Kd.S (Kd.slice 3 (Kd.int .i64)) 47 w16 w.heap.size (fun k_ => ((fun _ => True)) k_ ∧ ¬ ((fun k_ => some k_ = (v142 : Value).ownBlock)) k_) (.slice (some ⟨go15, 0, none⟩) x12_1.length co8) x12_1 from (by (with_reducible repeat (first | apply Kd.S_alloc | apply Kd.S_drewN | apply Kd.S_drew)); exact Kd.S_mono HO_12.out (fun k_ hk => ⟨trivial, fun e_ => hk e_⟩))); obtain ⟨oki18, ce18, hcl18, hM18, hcc18, hfr18, hoki18, hH18⟩ := Kd.S_elem HX18.out [] (x15_1 : Int) (of_decide_eq_true (by first | (with_reducible assumption) | assumption)) (by have h_ : (x15_1 : Int) < ((x12_1.length : Int) : Int) := of_decide_eq_true (by first | (with_reducible assumption) | assumption); first | exact h_ | (have e_ := (Kd.S_reads' HO_12.out).1; omega) | simpa using h_); obtain ⟨ve18_0, rfl, ge18_0⟩ := hM18; have HP18 := Kd.S_seg hH18 (of_decide_eq_true (by first | (with_reducible assumption) | assumption)) (by have h_ : (x15_1 : Int) < ((x12_1.length : Int) : Int) := of_decide_eq_true (by first | (with_reducible assumption) | assumption); first | exact h_ | (have e_ := (Kd.S_reads' HO_12.out).1; omega) | simpa using h_) (seg := [v142]) (j := 0) (show 1 ≤ 1 from by decide) (x' := y141) (Kd.M_row (Kd.R_mono (Kd.R_tight rfl (Kd.R_mono (ok' := fun k_ => ((fun _ => True)) k_ ∧ k_ ≠ go15) (Kd.R_apart' (HO143.out) (Kd.S_typed HO_12.out) (by decide)) (fun k_ hk => ⟨trivial, fun e_ => (hk.2) (by rw [e_]; rfl)⟩))) (fun _ h_ => Or.inr (h_)))) (fun _ hk => hk) (fun k_ hk_ => ((Kd.R_mono (ok' := fun k_ => ((fun _ => True)) k_ ∧ k_ ≠ go15) (Kd.R_apart' (HO143.out) (Kd.S_typed HO_12.out) (by decide)) (fun k_ hk => ⟨trivial, fun e_ => (hk.2) (by rw [e_]; rfl)⟩))).1 k_ hk_.symm); have hx18_0 := hcc18 0 _ rfl; (try simp only [show ((Kd.slice 3 (Kd.int .i64))).sz = 1 from rfl, Nat.mul_one, Nat.add_zero] at hx18_0); have hf18_0 := hfr18 0; (try simp only [show ((Kd.slice 3 (Kd.int .i64))).sz = 1 from rfl, Nat.mul_one, Nat.add_zero] at hf18_0); (try clear hcl18); (try clear hcc18); (try clear hfr18); (try clear hM18); (try clear hoki18); (try clear hH18); (try simp only [show ((Kd.slice 3 (Kd.int .i64))).sz = 1 from rfl, Nat.mul_one, Nat.add_zero] at HP18)) | ((with_reducible refine gate_store (t := 47) (p := 24) rfl ?_); refine store_event (t := 47) (p := 24) (v := ?vo_w19) (w1 := (w16.setCell ⟨go15, (x15_1 : Int).toNat, none⟩ (v142))) ?hg ?ho ?hn ?hr ?_; (case ho => rfl); (case hg => rfl); (case hn => rfl); (case hr => (obtain ⟨A_, c_, e_⟩ := Kd.R_slice HO143.out; rw [e_]; first | (go_simp; done) | (go_simp; rfl))); intro w19 hw; have hg : w16.grownBy w19 (some go15) := (by rw [hw]; exact HP18.2); have hp_ : Kd.S (Kd.slice 3 (Kd.int .i64)) 47 w19 w.heap.size (fun _ => True) (.slice (some ⟨go15, 0, none⟩) x12_1.length co8) y144 := (by rw [hw, Ny144.out]; exact HP18.1); clear HP18; have n0_ := Aside0.mk (hp_); have n1_ := Aside0.mk ((by rw [hw]; exact below_set (HB.out) GB15.out : Below w.heap.size w w19)); clear HO_12; clear HB; clear HO143; have HO_12 := n0_; have HB := n1_; clear n0_ n1_; clear hg hw hp_))
          (try simp only [← hl12_1])
          go_roundg k1
          case measure => have := HK1.out; omega
          case rel => exact ⟨(y144), (wrap64 (x15_1 + 1)), (by first | rfl | (simp; done) | (simp [*]; done) | (simp [wrap64, wrap32]; done)), H', ⟨by have := HK1.out; omega⟩, ⟨by (try simp only [hl12_1]); (with_reducible repeat (first | apply Kd.S_alloc | apply Kd.S_drewN | apply Kd.S_drew)); exact HO_12.out⟩, ⟨by repeat (first | (with_reducible first | exact HB.out | apply below_alloc | apply pw_below_drewN | apply below_drew1) | exact HB.out)⟩⟩
         ·rw [if_neg c14] at H
          exact absurd H (by simp)
        ·rw [if_neg c13] at H
         exact absurd H (by simp)
       ·rw [if_neg c12] at H
        exact absurd H (by simp)
      ·rw [if_neg c11] at H
       exact absurd H (by simp)
     ·rw [if_neg c9] at H
      have c9b0 : decide (x15_1 < (y138.length : Int)) = false := decide_eq_false c9
      (try simp only [hl12_1] at c9b0)
      clear c9
      have H' := Aside0.mk H
      clear H
      go_wp2
      go_loopg [7] k1 (fun kq v7 w' => ∃ (x7_2 : Int) (x12_2 : List (List Int)), v7 = .int .i64 x7_2 ∧ Aside0 (hunks_table.l1 kq l0 l1 x7_2 x12_2 = some r) ∧ Aside0 (kq ≤ k1) ∧ Aside0 (Kd.S (Kd.slice 3 (Kd.int .i64)) 47 w' w.heap.size (fun _ => True) (.slice Ao8 x12_1.length co8) x12_2) ∧ Aside0 (Below w.heap.size w w'))
      case atStart => exact ⟨(wrap64 ((l0.length : Int) - 1)), (x12_1), (by first | rfl | (simp; done) | (simp [*]; done) | (simp [wrap64, wrap32]; done)), H', ⟨Nat.le_refl _⟩, ⟨by (try simp only [hl12_1]); (with_reducible repeat (first | apply Kd.S_alloc | apply Kd.S_drewN | apply Kd.S_drew)); exact HO_12.out⟩, ⟨by repeat (first | (with_reducible first | exact HB.out | apply below_alloc | apply pw_below_drewN | apply below_drew1) | exact HB.out)⟩⟩
      case round =>
       clear H'
       (try clear c1); (try clear p1); (try clear q1); (try clear hx1); (try clear p2); (try clear c4); (try clear c4b0); (try clear c4b1); (try clear c5); (try clear c5b0); (try clear c5b1); (try clear c6); (try clear p6); (try clear c9); (try clear c9b0); (try clear c11); (try clear c11b0); (try clear c11b1); (try clear c12); (try clear c12b0); (try clear c12b1); (try clear c13); (try clear c13b0); (try clear c14); (try clear c14b0); (try clear c15); (try clear p15); (try clear q15); (try clear hx15); (try clear hf15); (try clear c18); (try clear hx18); (try clear hf18); (try clear hx15_0); (try clear hx18_0); (try clear p15); (try clear p2); (try clear p6); (try clear q15)
       obtain ⟨x7_2, x12_2, rfl, HA, HK2, HO_12, HB⟩ := hrel
       have hl12_2 : x12_1.length = x12_2.length := (Kd.S_reads' HO_12.out).1
       rw [hl12_2] at HO_12
       (try simp only [hl12_2])
       cases gk with
       | zero => exact absurd HA.out (by simp [hunks_table.l1])
       | succ k2 =>
        have H := HA.out
        clear HA
        simp only [hunks_table.l1] at H
        by_cases c20 : x7_2 ≥ 0
        ·rw [if_pos c20] at H
         have c20b0 : decide (0 ≤ x7_2) = true := decide_eq_true c20
         clear c20
         have H' := Aside0.mk H
         clear H
         go_wp2
         go_loopg [8] k2 (fun kq v8 w' => ∃ (x8_3 : Int) (x12_3 : List (List Int)), v8 = .int .i64 x8_3 ∧ Aside0 (hunks_table.l2 kq l0 l1 x7_2 x8_3 x12_3 = some r) ∧ Aside0 (kq ≤ k2) ∧ Aside0 (Kd.S (Kd.slice 3 (Kd.int .i64)) 47 w' w.heap.size (fun _ => True) (.slice Ao8 x12_2.length co8) x12_3) ∧ Aside0 (Below w.heap.size w w'))
         case atStart => exact ⟨(wrap64 ((l1.length : Int) - 1)), (x12_2), (by first | rfl | (simp; done) | (simp [*]; done) | (simp [wrap64, wrap32]; done)), H', ⟨Nat.le_refl _⟩, ⟨by (try simp only [hl12_1]); (try simp only [hl12_2]); (with_reducible repeat (first | apply Kd.S_alloc | apply Kd.S_drewN | apply Kd.S_drew)); exact HO_12.out⟩, ⟨by repeat (first | (with_reducible first | exact HB.out | apply below_alloc | apply pw_below_drewN | apply below_drew1) | exact HB.out)⟩⟩
         case round =>
          clear H'
          (try clear c1); (try clear p1); (try clear q1); (try clear hx1); (try clear c2); (try clear p2); (try clear c4); (try clear c4b0); (try clear c4b1); (try clear c5); (try clear c5b0); (try clear c5b1); (try clear c6); (try clear p6); (try clear c9); (try clear c9b0); (try clear c11); (try clear c11b0); (try clear c11b1); (try clear c12); (try clear c12b0); (try clear c12b1); (try clear c13); (try clear c13b0); (try clear c14); (try clear c14b0); (try clear c15); (try clear p15); (try clear q15); (try clear hx15); (try clear hf15); (try clear c18); (try clear hx18); (try clear hf18); (try clear c20); (try clear c20b0); (try clear hx15_0); (try clear hx18_0); (try clear p1); (try clear p15); (try clear p2); (try clear p6); (try clear q1); (try clear q15)
          obtain ⟨x8_3, x12_3, rfl, HA, HK3, HO_12, HB⟩ := hrel
          have hl12_3 : x12_2.length = x12_3.length := (Kd.S_reads' HO_12.out).1
          rw [hl12_3] at HO_12
          (try simp only [hl12_3])
          cases gk with
          | zero => exact absurd HA.out (by simp [hunks_table.l2])
          | succ k3 =>
           have H := HA.out
           clear HA
           simp only [hunks_table.l2] at H
           by_cases c21 : x8_3 ≥ 0
           ·rw [if_pos c21] at H
            have c21b0 : decide (0 ≤ x8_3) = true := decide_eq_true c21
            clear c21
            by_cases c22 : 0 ≤ x7_2
            ·rw [if_pos c22] at H
             have c22b0 : decide (0 ≤ x7_2) = true := decide_eq_true c22
             clear c22
             by_cases c23 : x7_2 < (l0.length : Int)
             ·rw [if_pos c23] at H
              have c23b0 : decide (x7_2 < (l0.length : Int)) = true := decide_eq_true c23
              clear c23
              by_cases c24 : 0 ≤ x8_3
              ·rw [if_pos c24] at H
               have c24b0 : decide (0 ≤ x8_3) = true := decide_eq_true c24
               clear c24
               by_cases c25 : x8_3 < (l1.length : Int)
               ·rw [if_pos c25] at H
                have c25b0 : decide (x8_3 < (l1.length : Int)) = true := decide_eq_true c25
                clear c25
                by_cases c26 : (rdOf ByteArray.empty l0 x7_2).toList = (rdOf ByteArray.empty l1 x8_3).toList
                ·rw [if_pos c26] at H
                 have c26b0 : ((rdOf ByteArray.empty l0 x7_2).toList == (rdOf ByteArray.empty l1 x8_3).toList) = true := beq_iff_eq.mpr c26
                 have c26b1 : ((rdOf ByteArray.empty l0 x7_2).toList != (rdOf ByteArray.empty l1 x8_3).toList) = false := bne_eq_false_iff_eq.mpr c26
                 clear c26
                 by_cases c27 : x7_2 < (x12_3.length : Int)
                 ·rw [if_pos c27] at H
                  have c27b0 : decide (x7_2 < (x12_3.length : Int)) = true := decide_eq_true c27
                  clear c27
                  obtain ⟨ji28, hji28⟩ : ∃ j_ : Int, (wrap64 (x7_2 + 1)) = j_ := ⟨_, rfl⟩
                  replace H : (if 0 ≤ (ji28) then (if (ji28) < (x12_3.length : Int) then (if 0 ≤ (wrap64 (x8_3 + 1)) then (if (wrap64 (x8_3 + 1)) < ((rd_L10 x12_3 (ji28)).length : Int) then (if x8_3 < ((rd_L10 x12_3 x7_2).length : Int) then (hunks_table.l2 k3 l0 l1 x7_2 (wrap64 (x8_3 - 1)) (x12_3.set (x7_2 : Int).toNat ((rd_L10 x12_3 x7_2).set (x8_3 : Int).toNat (wrap64 ((rd (rd_L10 x12_3 (ji28)) (wrap64 (x8_3 + 1))) + 1))))) else (none)) else (none)) else (none)) else (none)) else (none)) = some r := by first | (rw [hji28] at H; exact H) | (simp only [hji28] at H ⊢; exact H)
                  have hji28w : (IntKind.i64.wrap (x7_2 + 1)) = ji28 := (i64_w _).trans hji28
                  by_cases c29 : 0 ≤ (ji28)
                  ·rw [if_pos c29] at H
                   have c29b0 : decide (0 ≤ (ji28)) = true := decide_eq_true c29
                   clear c29
                   by_cases c30 : (ji28) < (x12_3.length : Int)
                   ·rw [if_pos c30] at H
                    have c30b0 : decide ((ji28) < (x12_3.length : Int)) = true := decide_eq_true c30
                    clear c30
                    obtain ⟨ji31, hji31⟩ : ∃ j_ : Int, (wrap64 (x8_3 + 1)) = j_ := ⟨_, rfl⟩
                    replace H : (if 0 ≤ (ji31) then (if (ji31) < ((rd_L10 x12_3 (ji28)).length : Int) then (if x8_3 < ((rd_L10 x12_3 x7_2).length : Int) then (hunks_table.l2 k3 l0 l1 x7_2 (wrap64 (x8_3 - 1)) (x12_3.set (x7_2 : Int).toNat ((rd_L10 x12_3 x7_2).set (x8_3 : Int).toNat (wrap64 ((rd (rd_L10 x12_3 (ji28)) (ji31)) + 1))))) else (none)) else (none)) else (none)) = some r := by first | (rw [hji31] at H; exact H) | (simp only [hji31] at H ⊢; exact H)
                    have hji31w : (IntKind.i64.wrap (x8_3 + 1)) = ji31 := (i64_w _).trans hji31
                    by_cases c32 : 0 ≤ (ji31)
                    ·rw [if_pos c32] at H
                     have c32b0 : decide (0 ≤ (ji31)) = true := decide_eq_true c32
                     clear c32
                     by_cases c33 : (ji31) < ((rd_L10 x12_3 (ji28)).length : Int)
                     ·rw [if_pos c33] at H
                      have c33b0 : decide ((ji31) < ((rd_L10 x12_3 (ji28)).length : Int)) = true := decide_eq_true c33
                      clear c33
                      by_cases c34 : x8_3 < ((rd_L10 x12_3 x7_2).length : Int)
                      ·rw [if_pos c34] at H
                       have c34b0 : decide (x8_3 < ((rd_L10 x12_3 x7_2).length : Int)) = true := decide_eq_true c34
                       clear c34
                       obtain ⟨y150, hy150⟩ : ∃ y_ : List Int, y_ = ((rd_L10 x12_3 x7_2).set (x8_3 : Int).toNat (wrap64 ((rd (rd_L10 x12_3 (ji28)) (ji31)) + 1))) := ⟨_, rfl⟩
                       replace H : (hunks_table.l2 k3 l0 l1 x7_2 (wrap64 (x8_3 - 1)) (x12_3.set (x7_2 : Int).toNat y150)) = some r := by first | (rw [hy150]; with_reducible exact H) | (have H2_ := (Option.bind_some _ _).symm.trans H; rw [hy150]; with_reducible exact H2_) | (have H2_ := (Option.bind_some _ _).symm.trans H; with_reducible exact H2_) | with_reducible exact H | (rw [hy150]; exact H) | exact H
                       have Ny150 := Aside0.mk hy150
                       clear hy150
                       obtain ⟨y152, hy152⟩ : ∃ y_ : List (List Int), y_ = (x12_3.set (x7_2 : Int).toNat y150) := ⟨_, rfl⟩
                       replace H : (hunks_table.l2 k3 l0 l1 x7_2 (wrap64 (x8_3 - 1)) y152) = some r := by first | (rw [hy152]; with_reducible exact H) | (have H2_ := (Option.bind_some _ _).symm.trans H; rw [hy152]; with_reducible exact H2_) | (have H2_ := (Option.bind_some _ _).symm.trans H; with_reducible exact H2_) | with_reducible exact H | (rw [hy152]; exact H) | exact H
                       have Ny152 := Aside0.mk hy152
                       clear hy152
                       have H' := Aside0.mk H
                       clear H
                       try go_wp2
                       have n0_ := Aside0.mk (Kd.S_drew HO_12.out)
                       have n1_ := Aside0.mk (below_drew1 HB.out)
                       clear HO_12
                       clear HB
                       have HO_12 := n0_
                       have HB := n1_
                       clear n0_ n1_
                       have p145 : 0 ≤ (x7_2 : Int) := of_decide_eq_true (by first | (with_reducible assumption) | assumption)
                       have q145 : x7_2 < (l0.length : Int) := of_decide_eq_true (by first | (with_reducible assumption) | assumption)
                       obtain ⟨ad145, e145, hx145_0⟩ := Kd.at_string HR0.out x7_2 p145 q145
                       have hw145_0 := hx145_0
                       cases e145
                       replace hx145_0 := (HB.out.cell (World.block_lt_of_cell? w _ hx145_0)).trans hx145_0
                       replace p145 := eq_true p145
                       replace q145 := eq_true q145
                       have p146 : 0 ≤ (x8_3 : Int) := of_decide_eq_true (by first | (with_reducible assumption) | assumption)
                       have q146 : x8_3 < (l1.length : Int) := of_decide_eq_true (by first | (with_reducible assumption) | assumption)
                       obtain ⟨ad146, e146, hx146_0⟩ := Kd.at_string HR1.out x8_3 p146 q146
                       have hw146_0 := hx146_0
                       cases e146
                       replace hx146_0 := (HB.out.cell (World.block_lt_of_cell? w _ hx146_0)).trans hx146_0
                       replace p146 := eq_true p146
                       replace q146 := eq_true q146
                       refine start_ (n := 9) (S := fun w' => w'.cell? (ad145.add (x7_2).toNat) = some (.string (rdOf ByteArray.empty l0 x7_2)) ∧ w'.cell? (ad146.add (x8_3).toNat) = some (.string (rdOf ByteArray.empty l1 x8_3))) (ds := []) (bs 9 0) (by kernel_rfl) rfl rfl ⟨((HB.out.cell (World.block_lt_of_cell? w _ hw145_0)).trans hw145_0), ((HB.out.cell (World.block_lt_of_cell? w _ hw146_0)).trans hw146_0)⟩ (fun hHeld => ?_); refine with_tabW hunks_table.tab13 hunks_table.bits13 (fun HT_ HW_ => ?_)
                       generalize wr.drew = w36 at HO_12 HB hx145_0 hx146_0 hHeld ⊢
                       refine pu_ 0 (some 40) ?_ (bs 9 1) HT_.out (by kernel_rfl) rfl rfl (fun _ _ _ h => h) (Or.inl ⟨by rfl, ?_⟩) ?_ ?_ ?_; rotate_left; (· intro w'; go_simp; with_reducible rfl); rotate_left; (· simp only [Act.put, sit, scz, scs, i64_w, i32_w]; rfl)
                       refine pu_ 1 (some 41) ?_ (bs 9 3) HT_.out (by kernel_rfl) rfl rfl (fun _ _ _ h => h) (Or.inl ⟨by rfl, ?_⟩) ?_ ?_ ?_; rotate_left; (· intro w'; go_simp; with_reducible rfl); rotate_left; (· simp only [Act.put, sit, scz, scs, i64_w, i32_w]; rfl)
                       refine pu_ 2 (some 42) ?_ (bs 9 7) HT_.out (by kernel_rfl) rfl rfl (fun _ _ _ h => h) (Or.inl ⟨by rfl, ?_⟩) ?_ ?_ ?_; rotate_left; (· intro w'; go_simp; with_reducible rfl); rotate_left; (· simp only [Act.put, sit, scz, scs, i64_w, i32_w]; rfl)
                       refine pu_ 4 (some 44) ?_ (bs 9 23) HT_.out (by kernel_rfl) rfl rfl (fun _ _ _ h => h) (Or.inl ⟨by rfl, ?_⟩) ?_ ?_ ?_; rotate_left; (· intro w'; go_simp; with_reducible rfl); rotate_left; (· simp only [Act.put, sit, scz, scs, i64_w, i32_w]; rfl)
                       refine pu_ 5 (some 45) ?_ (bs 9 55) HT_.out (by kernel_rfl) rfl rfl (fun _ _ _ h => h) (Or.inl ⟨by rfl, ?_⟩) ?_ ?_ ?_; rotate_left; (· intro w'; go_simp; with_reducible rfl); rotate_left; (· simp only [Act.put, sit, scz, scs, i64_w, i32_w]; rfl)
                       refine pu_ 6 (some 46) ?_ (bs 9 119) HT_.out (by kernel_rfl) rfl rfl (fun _ _ _ h => h) (Or.inl ⟨by rfl, ?_⟩) ?_ ?_ ?_; rotate_left; (· intro w'; go_simp; with_reducible rfl); rotate_left; (· simp only [Act.put, sit, scz, scs, i64_w, i32_w]; rfl)
                       refine take_ (i := 3) (N := some 43) (v := ?_) (a' := ?_) (bs 9 127) rfl rfl (take_ofW HT_.out HW_.out (by kernel_rfl)) (fun _ _ _ h => h) (Or.inl ⟨by rfl, ?_⟩) hHeld ?_ ?_; rotate_left; (· rintro w' ⟨s0, s1⟩; go_simp; with_reducible rfl); rotate_left; (· simp only [Act.put, sit, scz, scs, i64_w, i32_w]; rfl)
                       refine take_ (i := 7) (N := some 47) (v := ?_) (a' := ?_) (bs 9 255) rfl rfl (take_ofW HT_.out HW_.out (by kernel_rfl)) (fun _ _ _ h => h) (Or.inl ⟨by rfl, ?_⟩) hHeld ?_ ?_; rotate_left; (· rintro w' ⟨s0, s1⟩; go_simp; with_reducible rfl); rotate_left; (· simp only [Act.put, sit, scz, scs, i64_w, i32_w]; rfl)
                       refine pu_ 8 (some 48) ?_ (bs 9 511) HT_.out (by kernel_rfl) rfl rfl (fun _ _ _ h => h) (Or.inl ⟨by rfl, ?_⟩) ?_ ?_ ?_; rotate_left; (· intro w'; go_simp; with_reducible rfl); rotate_left; (· simp only [Act.put, sit, scz, scs, i64_w, i32_w]; rfl)
                       refine done_ (done_of HT_.out (by kernel_rfl)) ?_
                       try go_wp2
                       have n0_ := Aside0.mk (Kd.S_drew HO_12.out)
                       have n1_ := Aside0.mk (below_drew1 HB.out)
                       clear HO_12
                       clear HB
                       have HO_12 := n0_
                       have HB := n1_
                       clear n0_ n1_
                       have p147 : 0 ≤ (x7_2 : Int) := of_decide_eq_true (by first | (with_reducible assumption) | assumption)
                       have q147 : x7_2 < (x12_3.length : Int) := of_decide_eq_true (by first | (with_reducible assumption) | assumption)
                       obtain ⟨ad147, A147_0, c147_0, e147, hx147_0, hl147_0, hi147_0⟩ := at_L10 (Kd.S_reads' HO_12.out).2.2 x7_2 p147 q147
                       cases e147
                       obtain ⟨ce147, hce147, hMe147, hcc147⟩ := Kd.S_get HO_12.out [] x7_2 p147 (by first | exact q147 | exact of_decide_eq_true (by first | (with_reducible assumption) | assumption) | (have e_ := (Kd.S_reads' HO_12.out).1; omega))
                       obtain ⟨ve147_0, rfl, ge147_0⟩ := hMe147
                       have hv147_0 := hcc147 0 _ rfl
                       rw [Nat.add_zero, show ((Kd.slice 3 (Kd.int .i64))).sz = 1 from rfl, Nat.mul_one] at hv147_0
                       replace hv147_0 := Option.some.inj (hv147_0.symm.trans hx147_0)
                       rw [hv147_0] at ge147_0
                       have HL147_0 := Aside0.mk (show Kd.R (Kd.int .i64) 3 _ _ _ _ (rd_L10 x12_3 x7_2) from ge147_0)
                       clear hv147_0 ge147_0
                       have HX147_0 := Aside0.mk hx147_0
                       clear hcc147 hce147
                       have HR147_0 := Aside0.mk hi147_0
                       have HC147_0 := Aside0.mk hl147_0
                       clear hi147_0 hl147_0
                       replace p147 := eq_true p147
                       replace q147 := eq_true q147
                       have p148 : 0 ≤ ((ji28) : Int) := of_decide_eq_true (by first | (with_reducible assumption) | assumption)
                       have q148 : (ji28) < (x12_3.length : Int) := of_decide_eq_true (by first | (with_reducible assumption) | assumption)
                       obtain ⟨ad148, A148_0, c148_0, e148, hx148_0, hl148_0, hi148_0⟩ := at_L10 (Kd.S_reads' HO_12.out).2.2 (ji28) p148 q148
                       obtain rfl : ad147 = ad148 := (by injection e148)
                       obtain ⟨ce148, hce148, hMe148, hcc148⟩ := Kd.S_get HO_12.out [] (ji28) p148 (by first | exact q148 | exact of_decide_eq_true (by first | (with_reducible assumption) | assumption) | (have e_ := (Kd.S_reads' HO_12.out).1; omega))
                       obtain ⟨ve148_0, rfl, ge148_0⟩ := hMe148
                       have hv148_0 := hcc148 0 _ rfl
                       rw [Nat.add_zero, show ((Kd.slice 3 (Kd.int .i64))).sz = 1 from rfl, Nat.mul_one] at hv148_0
                       replace hv148_0 := Option.some.inj (hv148_0.symm.trans hx148_0)
                       rw [hv148_0] at ge148_0
                       have HL148_0 := Aside0.mk (show Kd.R (Kd.int .i64) 3 _ _ _ _ (rd_L10 x12_3 (ji28)) from ge148_0)
                       clear hv148_0 ge148_0
                       have HX148_0 := Aside0.mk hx148_0
                       clear hcc148 hce148
                       have HR148_0 := Aside0.mk hi148_0
                       have HC148_0 := Aside0.mk hl148_0
                       clear hi148_0 hl148_0
                       replace p148 := eq_true p148
                       replace q148 := eq_true q148
                       have p149 : 0 ≤ ((ji31) : Int) := of_decide_eq_true (by first | (with_reducible assumption) | assumption)
                       have q149 : (ji31) < ((rd_L10 x12_3 (ji28)).length : Int) := of_decide_eq_true (by first | (with_reducible assumption) | assumption)
                       obtain ⟨ad149, e149, hx149_0⟩ := Kd.at_int (by repeat (first | (with_reducible exact HR148_0.out) | (with_reducible refine Kd.C_alloc ?_ _) | (with_reducible refine Kd.C_drewN ?_ _) | (with_reducible refine Kd.C_drew ?_) | exact HR148_0.out)) (ji31) p149 q149
                       cases e149
                       replace p149 := eq_true p149
                       replace q149 := eq_true q149
                       have p35 : 0 ≤ (x8_3 : Int) := of_decide_eq_true (by first | (with_reducible assumption) | assumption)
                       have q35 : (x8_3 : Int) < (((rd_L10 x12_3 x7_2).length : Int) : Int) := of_decide_eq_true (by first | (with_reducible assumption) | assumption)
                       obtain ⟨go35, co35, eo35, gb35, gl35, cl35, HG35⟩ := Kd.R_form HL147_0.out (by omega)
                       (first | cases eo35 | (injection eo35 with ea_ en_ ec_; (first | subst ea_ | (injection ea_ with ea_; subst ea_)); subst ec_; clear en_))
                       have GB35 := Aside0.mk gb35
                       have GG35 := Aside0.mk HG35
                       clear gb35 gl35 HG35
                       obtain ⟨hx35_0, hf35_0⟩ := Kd.R_celln 0 HL147_0.out (x8_3 : Int) p35 q35
                       replace p35 := eq_true p35
                       replace q35 := eq_true q35
                       have hq38 : (x7_2 : Int) < (x12_3.length : Int) := (by have h_ : (x7_2 : Int) < ((x12_3.length : Int) : Int) := of_decide_eq_true (by first | (with_reducible assumption) | assumption); first | exact h_ | (have e_ := (Kd.S_reads' HO_12.out).1; omega) | simpa only [List.length_set, List.length_set] using h_)
                       obtain ⟨oki38, ce38, hcl38, hM38, hcc38, hok38, hbk38⟩ := Kd.S_borrow HO_12.out [] (x7_2 : Int) (of_decide_eq_true (by first | (with_reducible assumption) | assumption)) hq38
                       obtain ⟨ve38_0, rfl, ge38_0⟩ := hM38
                       have hv38 := hcc38 0 _ rfl
                       rw [Nat.add_zero, show ((Kd.slice 3 (Kd.int .i64))).sz = 1 from rfl, Nat.mul_one] at hv38
                       replace hv38 := Option.some.inj (hv38.symm.trans HX147_0.out)
                       subst hv38
                       clear hcc38 hcl38
                       replace ge38_0 := (show Kd.R (Kd.int .i64) 3 _ _ _ _ (rd_L10 x12_3 x7_2) from ge38_0)
                       have HP38 := Kd.R_putg ge38_0 (x8_3 : Int) (wrap64 ((rd (rd_L10 x12_3 (ji28)) (ji31)) + 1))
                       rw [← Ny150.out] at HP38
                       have HS38 := hbk38 HP38.2 (fun k_ e_ => by injection e_ with e_; subst e_; exact ge38_0.1 _ rfl) (x' := y150) (Kd.M_row HP38.1)
                       rw [← Ny152.out] at HS38
                       have HQ38 := Aside0.mk HS38
                       clear HP38 HS38 hbk38 hok38
                       refine start_ (n := 17) (S := fun w' => w'.cell? (ad147.add (x7_2).toNat) = some (.slice (some ⟨go35, 0, none⟩) (rd_L10 x12_3 x7_2).length c147_0) ∧ w'.cell? (ad147.add ((ji28)).toNat) = some (.slice (some ad149) (rd_L10 x12_3 (ji28)).length c148_0) ∧ w'.cell? (ad149.add ((ji31)).toNat) = some (.int .i64 (rd (rd_L10 x12_3 (ji28)) (ji31)))) (ds := [16]) (bs 17 0) (by kernel_rfl) rfl rfl ⟨hx147_0, hx148_0, hx149_0⟩ (fun hHeld => ?_); refine with_tabW hunks_table.tab14 hunks_table.bits14 (fun HT_ HW_ => ?_)
                       generalize w36.drew = w37 at HO_12 HB GG35 HL147_0 HL148_0 HQ38 HR147_0 HR148_0 HX147_0 HX148_0 hf35_0 hx147_0 hx148_0 hx149_0 hx35_0 hHeld ⊢
                       refine pu_ 0 (some 49) ?_ (bs 17 1) HT_.out (by kernel_rfl) rfl rfl (fun _ _ _ h => h) (Or.inl ⟨by rfl, ?_⟩) ?_ ?_ ?_; rotate_left; (· intro w'; go_simp; with_reducible rfl); rotate_left; (· simp only [Act.put, sit, scz, scs, i64_w, i32_w]; rfl)
                       refine pu_ 1 (some 50) ?_ (bs 17 3) HT_.out (by kernel_rfl) rfl rfl (fun _ _ _ h => h) (Or.inl ⟨by rfl, ?_⟩) ?_ ?_ ?_; rotate_left; (· intro w'; go_simp; with_reducible rfl); rotate_left; (· simp only [Act.put, sit, scz, scs, i64_w, i32_w]; rfl)
                       refine pu_ 2 (some 51) ?_ (bs 17 7) HT_.out (by kernel_rfl) rfl rfl (fun _ _ _ h => h) (Or.inl ⟨by rfl, ?_⟩) ?_ ?_ ?_; rotate_left; (· intro w'; go_simp; with_reducible rfl); rotate_left; (· simp only [Act.put, sit, scz, scs, i64_w, i32_w]; rfl)
                       refine pu_ 4 (some 53) ?_ (bs 17 23) HT_.out (by kernel_rfl) rfl rfl (fun _ _ _ h => h) (Or.inl ⟨by rfl, ?_⟩) ?_ ?_ ?_; rotate_left; (· intro w'; go_simp; with_reducible rfl); rotate_left; (· simp only [Act.put, sit, scz, scs, i64_w, i32_w]; rfl)
                       refine pu_ 5 (some 54) ?_ (bs 17 55) HT_.out (by kernel_rfl) rfl rfl (fun _ _ _ h => h) (Or.inl ⟨by rfl, ?_⟩) ?_ ?_ ?_; rotate_left; (· intro w'; go_simp; with_reducible rfl); rotate_left; (· simp only [Act.put, sit, scz, scs, i64_w, i32_w]; rfl)
                       refine pu_ 6 (some 55) ?_ (bs 17 119) HT_.out (by kernel_rfl) rfl rfl (fun _ _ _ h => h) (Or.inl ⟨by rfl, ?_⟩) ?_ ?_ ?_; rotate_left; (· intro w'; go_simp; with_reducible rfl); rotate_left; (· simp only [Act.put, sit, scz, scs, i64_w, i32_w]; rfl)
                       refine pu_ 7 (some 56) ?_ (bs 17 247) HT_.out (by kernel_rfl) rfl rfl (fun _ _ _ h => h) (Or.inl ⟨by rfl, ?_⟩) ?_ ?_ ?_; rotate_left; (· intro w'; go_simp; with_reducible rfl); rotate_left; (· simp only [Act.put, sit, scz, scs, i64_w, i32_w]; rfl)
                       refine pu_ 8 (some 57) ?_ (bs 17 503) HT_.out (by kernel_rfl) rfl rfl (fun _ _ _ h => h) (Or.inl ⟨by rfl, ?_⟩) ?_ ?_ ?_; rotate_left; (· intro w'; go_simp; with_reducible rfl); rotate_left; (· simp only [Act.put, sit, scz, scs, i64_w, i32_w]; rfl)
                       refine pu_ 10 (some 59) ?_ (bs 17 1527) HT_.out (by kernel_rfl) rfl rfl (fun _ _ _ h => h) (Or.inl ⟨by rfl, ?_⟩) ?_ ?_ ?_; rotate_left; (· intro w'; go_simp; with_reducible rfl); rotate_left; (· simp only [Act.put, sit, scz, scs, i64_w, i32_w]; rfl)
                       refine pu_ 11 (some 60) ?_ (bs 17 3575) HT_.out (by kernel_rfl) rfl rfl (fun _ _ _ h => h) (Or.inl ⟨by rfl, ?_⟩) ?_ ?_ ?_; rotate_left; (· intro w'; go_simp; with_reducible rfl); rotate_left; (· simp only [Act.put, sit, scz, scs, i64_w, i32_w]; rfl)
                       refine take_ (i := 3) (N := some 52) (v := ?_) (a' := ?_) (bs 17 3583) rfl rfl (take_ofW HT_.out HW_.out (by kernel_rfl)) (fun _ _ _ h => h) (Or.inl ⟨by rfl, ?_⟩) hHeld ?_ ?_; rotate_left; (· rintro w' ⟨s0, s1, s2⟩; go_simp; with_reducible rfl); rotate_left; (· simp only [Act.put, sit, scz, scs, i64_w, i32_w]; rfl)
                       refine take_ (i := 9) (N := some 58) (v := ?_) (a' := ?_) (bs 17 4095) rfl rfl (take_ofW HT_.out HW_.out (by kernel_rfl)) (fun _ _ _ h => h) (Or.inl ⟨by rfl, ?_⟩) hHeld ?_ ?_; rotate_left; (· rintro w' ⟨s0, s1, s2⟩; go_simp; with_reducible rfl); rotate_left; (· simp only [Act.put, sit, scz, scs, i64_w, i32_w]; rfl)
                       refine pu_ 12 (some 61) ?_ (bs 17 8191) HT_.out (by kernel_rfl) rfl rfl (fun _ _ _ h => h) (Or.inl ⟨by rfl, ?_⟩) ?_ ?_ ?_; rotate_left; (· intro w'; go_simp; with_reducible rfl); rotate_left; (· simp only [Act.put, sit, scz, scs, i64_w, i32_w]; rfl)
                       refine take_ (i := 13) (N := some 62) (v := ?_) (a' := ?_) (bs 17 16383) rfl rfl (take_ofW HT_.out HW_.out (by kernel_rfl)) (fun _ _ _ h => h) (Or.inl ⟨by rfl, ?_⟩) hHeld ?_ ?_; rotate_left; (· rintro w' ⟨s0, s1, s2⟩; go_simp; with_reducible rfl); rotate_left; (· simp only [Act.put, sit, scz, scs, i64_w, i32_w]; rfl)
                       refine pu_ 14 (some 63) ?_ (bs 17 32767) HT_.out (by kernel_rfl) rfl rfl (fun _ _ _ h => h) (Or.inl ⟨by rfl, ?_⟩) ?_ ?_ ?_; rotate_left; (· intro w'; go_simp; with_reducible rfl); rotate_left; (· simp only [Act.put, sit, scz, scs, i64_w, i32_w]; rfl)
                       refine pu_ 15 (some 64) ?_ (bs 17 65535) HT_.out (by kernel_rfl) rfl rfl (fun _ _ _ h => h) (Or.inl ⟨by rfl, ?_⟩) ?_ ?_ ?_; rotate_left; (· intro w'; go_simp; with_reducible rfl); rotate_left; (· simp only [Act.put, sit, scz, scs, i64_w, i32_w]; rfl)
                       refine last_ (i := 16) (N := none) (bs 17 131071) rfl rfl (one_of HT_.out (by kernel_rfl)) (by decide) (fun K hK => ?_)
                       refine skip_ (w1 := ?_) (by rfl) rfl ?_ ?_
                       rotate_left
                       ·go_simp
                        rfl
                       refine hK.out _ _ ?_
                       clear hK K
                       refine done_ (done_of HT_.out (by kernel_rfl)) ?_
                       try go_wp2
                       (try simp only [← hl12_3])
                       go_roundg k3
                       case measure => have := HK1.out; have := HK2.out; have := HK3.out; omega
                       case rel => exact ⟨(wrap64 (x8_3 - 1)), (y152), (by first | rfl | (simp; done) | (simp [*]; done) | (simp [wrap64, wrap32]; done)), H', ⟨by have := HK1.out; have := HK2.out; have := HK3.out; omega⟩, ⟨by (try simp only [hl12_1]); (try simp only [hl12_2]); (try simp only [hl12_3]); (with_reducible repeat (first | apply Kd.S_alloc | apply Kd.S_drewN | apply Kd.S_drew)); exact HQ38.out⟩, ⟨by repeat (first | (with_reducible first | exact HB.out | apply below_alloc | apply pw_below_drewN | apply below_drew1 | refine below_set ?_ GB35.out) | exact HB.out)⟩⟩
                      ·rw [if_neg c34] at H
                       exact absurd H (by simp)
                     ·rw [if_neg c33] at H
                      exact absurd H (by simp)
                    ·rw [if_neg c32] at H
                     exact absurd H (by simp)
                   ·rw [if_neg c30] at H
                    exact absurd H (by simp)
                  ·rw [if_neg c29] at H
                   exact absurd H (by simp)
                 ·rw [if_neg c27] at H
                  exact absurd H (by simp)
                ·rw [if_neg c26] at H
                 have c26b0 : ((rdOf ByteArray.empty l0 x7_2).toList == (rdOf ByteArray.empty l1 x8_3).toList) = false := beq_eq_false_iff_ne.mpr c26
                 have c26b1 : ((rdOf ByteArray.empty l0 x7_2).toList != (rdOf ByteArray.empty l1 x8_3).toList) = true := bne_iff_ne.mpr c26
                 by_cases c40 : x7_2 < (x12_3.length : Int)
                 ·rw [if_pos c40] at H
                  have c40b0 : decide (x7_2 < (x12_3.length : Int)) = true := decide_eq_true c40
                  clear c40
                  obtain ⟨ji41, hji41⟩ : ∃ j_ : Int, (wrap64 (x7_2 + 1)) = j_ := ⟨_, rfl⟩
                  replace H : (if 0 ≤ (ji41) then (if (ji41) < (x12_3.length : Int) then (if x8_3 < ((rd_L10 x12_3 (ji41)).length : Int) then (if 0 ≤ (wrap64 (x8_3 + 1)) then (if (wrap64 (x8_3 + 1)) < ((rd_L10 x12_3 x7_2).length : Int) then (if x8_3 < ((rd_L10 x12_3 x7_2).length : Int) then (hunks_table.l2 k3 l0 l1 x7_2 (wrap64 (x8_3 - 1)) (x12_3.set (x7_2 : Int).toNat ((rd_L10 x12_3 x7_2).set (x8_3 : Int).toNat (mx (rd (rd_L10 x12_3 (ji41)) x8_3) (rd (rd_L10 x12_3 x7_2) (wrap64 (x8_3 + 1))))))) else (none)) else (none)) else (none)) else (none)) else (none)) else (none)) = some r := by first | (rw [hji41] at H; exact H) | (simp only [hji41] at H ⊢; exact H)
                  have hji41w : (IntKind.i64.wrap (x7_2 + 1)) = ji41 := (i64_w _).trans hji41
                  by_cases c42 : 0 ≤ (ji41)
                  ·rw [if_pos c42] at H
                   have c42b0 : decide (0 ≤ (ji41)) = true := decide_eq_true c42
                   clear c42
                   by_cases c43 : (ji41) < (x12_3.length : Int)
                   ·rw [if_pos c43] at H
                    have c43b0 : decide ((ji41) < (x12_3.length : Int)) = true := decide_eq_true c43
                    clear c43
                    by_cases c44 : x8_3 < ((rd_L10 x12_3 (ji41)).length : Int)
                    ·rw [if_pos c44] at H
                     have c44b0 : decide (x8_3 < ((rd_L10 x12_3 (ji41)).length : Int)) = true := decide_eq_true c44
                     clear c44
                     obtain ⟨ji45, hji45⟩ : ∃ j_ : Int, (wrap64 (x8_3 + 1)) = j_ := ⟨_, rfl⟩
                     replace H : (if 0 ≤ (ji45) then (if (ji45) < ((rd_L10 x12_3 x7_2).length : Int) then (if x8_3 < ((rd_L10 x12_3 x7_2).length : Int) then (hunks_table.l2 k3 l0 l1 x7_2 (wrap64 (x8_3 - 1)) (x12_3.set (x7_2 : Int).toNat ((rd_L10 x12_3 x7_2).set (x8_3 : Int).toNat (mx (rd (rd_L10 x12_3 (ji41)) x8_3) (rd (rd_L10 x12_3 x7_2) (ji45)))))) else (none)) else (none)) else (none)) = some r := by first | (rw [hji45] at H; exact H) | (simp only [hji45] at H ⊢; exact H)
                     have hji45w : (IntKind.i64.wrap (x8_3 + 1)) = ji45 := (i64_w _).trans hji45
                     by_cases c46 : 0 ≤ (ji45)
                     ·rw [if_pos c46] at H
                      have c46b0 : decide (0 ≤ (ji45)) = true := decide_eq_true c46
                      clear c46
                      by_cases c47 : (ji45) < ((rd_L10 x12_3 x7_2).length : Int)
                      ·rw [if_pos c47] at H
                       have c47b0 : decide ((ji45) < ((rd_L10 x12_3 x7_2).length : Int)) = true := decide_eq_true c47
                       clear c47
                       obtain ⟨ji48, hji48⟩ : ∃ j_ : Int, (mx (rd (rd_L10 x12_3 (ji41)) x8_3) (rd (rd_L10 x12_3 x7_2) (ji45))) = j_ := ⟨_, rfl⟩
                       replace H : (if x8_3 < ((rd_L10 x12_3 x7_2).length : Int) then (hunks_table.l2 k3 l0 l1 x7_2 (wrap64 (x8_3 - 1)) (x12_3.set (x7_2 : Int).toNat ((rd_L10 x12_3 x7_2).set (x8_3 : Int).toNat (ji48)))) else (none)) = some r := by first | (rw [hji48] at H; exact H) | (simp only [hji48] at H ⊢; exact H)
                       have hji48_ : (if (rd (rd_L10 x12_3 (ji41)) x8_3) < (rd (rd_L10 x12_3 x7_2) (ji45)) then (rd (rd_L10 x12_3 x7_2) (ji45)) else (rd (rd_L10 x12_3 (ji41)) x8_3)) = ji48 := hji48
                       by_cases c49 : x8_3 < ((rd_L10 x12_3 x7_2).length : Int)
                       ·rw [if_pos c49] at H
                        have c49b0 : decide (x8_3 < ((rd_L10 x12_3 x7_2).length : Int)) = true := decide_eq_true c49
                        clear c49
                        obtain ⟨y158, hy158⟩ : ∃ y_ : List Int, y_ = ((rd_L10 x12_3 x7_2).set (x8_3 : Int).toNat (ji48)) := ⟨_, rfl⟩
                        replace H : (hunks_table.l2 k3 l0 l1 x7_2 (wrap64 (x8_3 - 1)) (x12_3.set (x7_2 : Int).toNat y158)) = some r := by first | (rw [hy158]; with_reducible exact H) | (have H2_ := (Option.bind_some _ _).symm.trans H; rw [hy158]; with_reducible exact H2_) | (have H2_ := (Option.bind_some _ _).symm.trans H; with_reducible exact H2_) | with_reducible exact H | (rw [hy158]; exact H) | exact H
                        have Ny158 := Aside0.mk hy158
                        clear hy158
                        obtain ⟨y160, hy160⟩ : ∃ y_ : List (List Int), y_ = (x12_3.set (x7_2 : Int).toNat y158) := ⟨_, rfl⟩
                        replace H : (hunks_table.l2 k3 l0 l1 x7_2 (wrap64 (x8_3 - 1)) y160) = some r := by first | (rw [hy160]; with_reducible exact H) | (have H2_ := (Option.bind_some _ _).symm.trans H; rw [hy160]; with_reducible exact H2_) | (have H2_ := (Option.bind_some _ _).symm.trans H; with_reducible exact H2_) | with_reducible exact H | (rw [hy160]; exact H) | exact H
                        have Ny160 := Aside0.mk hy160
                        clear hy160
                        have H' := Aside0.mk H
                        clear H
                        try go_wp2
                        have n0_ := Aside0.mk (Kd.S_drew HO_12.out)
                        have n1_ := Aside0.mk (below_drew1 HB.out)
                        clear HO_12
                        clear HB
                        have HO_12 := n0_
                        have HB := n1_
                        clear n0_ n1_
                        have p145 : 0 ≤ (x7_2 : Int) := of_decide_eq_true (by first | (with_reducible assumption) | assumption)
                        have q145 : x7_2 < (l0.length : Int) := of_decide_eq_true (by first | (with_reducible assumption) | assumption)
                        obtain ⟨ad145, e145, hx145_0⟩ := Kd.at_string HR0.out x7_2 p145 q145
                        have hw145_0 := hx145_0
                        cases e145
                        replace hx145_0 := (HB.out.cell (World.block_lt_of_cell? w _ hx145_0)).trans hx145_0
                        replace p145 := eq_true p145
                        replace q145 := eq_true q145
                        have p146 : 0 ≤ (x8_3 : Int) := of_decide_eq_true (by first | (with_reducible assumption) | assumption)
                        have q146 : x8_3 < (l1.length : Int) := of_decide_eq_true (by first | (with_reducible assumption) | assumption)
                        obtain ⟨ad146, e146, hx146_0⟩ := Kd.at_string HR1.out x8_3 p146 q146
                        have hw146_0 := hx146_0
                        cases e146
                        replace hx146_0 := (HB.out.cell (World.block_lt_of_cell? w _ hx146_0)).trans hx146_0
                        replace p146 := eq_true p146
                        replace q146 := eq_true q146
                        refine start_ (n := 9) (S := fun w' => w'.cell? (ad145.add (x7_2).toNat) = some (.string (rdOf ByteArray.empty l0 x7_2)) ∧ w'.cell? (ad146.add (x8_3).toNat) = some (.string (rdOf ByteArray.empty l1 x8_3))) (ds := []) (bs 9 0) (by kernel_rfl) rfl rfl ⟨((HB.out.cell (World.block_lt_of_cell? w _ hw145_0)).trans hw145_0), ((HB.out.cell (World.block_lt_of_cell? w _ hw146_0)).trans hw146_0)⟩ (fun hHeld => ?_); refine with_tabW hunks_table.tab13 hunks_table.bits13 (fun HT_ HW_ => ?_)
                        generalize wr.drew = w51 at HO_12 HB hx145_0 hx146_0 hHeld ⊢
                        refine pu_ 0 (some 40) ?_ (bs 9 1) HT_.out (by kernel_rfl) rfl rfl (fun _ _ _ h => h) (Or.inl ⟨by rfl, ?_⟩) ?_ ?_ ?_; rotate_left; (· intro w'; go_simp; with_reducible rfl); rotate_left; (· simp only [Act.put, sit, scz, scs, i64_w, i32_w]; rfl)
                        refine pu_ 1 (some 41) ?_ (bs 9 3) HT_.out (by kernel_rfl) rfl rfl (fun _ _ _ h => h) (Or.inl ⟨by rfl, ?_⟩) ?_ ?_ ?_; rotate_left; (· intro w'; go_simp; with_reducible rfl); rotate_left; (· simp only [Act.put, sit, scz, scs, i64_w, i32_w]; rfl)
                        refine pu_ 2 (some 42) ?_ (bs 9 7) HT_.out (by kernel_rfl) rfl rfl (fun _ _ _ h => h) (Or.inl ⟨by rfl, ?_⟩) ?_ ?_ ?_; rotate_left; (· intro w'; go_simp; with_reducible rfl); rotate_left; (· simp only [Act.put, sit, scz, scs, i64_w, i32_w]; rfl)
                        refine pu_ 4 (some 44) ?_ (bs 9 23) HT_.out (by kernel_rfl) rfl rfl (fun _ _ _ h => h) (Or.inl ⟨by rfl, ?_⟩) ?_ ?_ ?_; rotate_left; (· intro w'; go_simp; with_reducible rfl); rotate_left; (· simp only [Act.put, sit, scz, scs, i64_w, i32_w]; rfl)
                        refine pu_ 5 (some 45) ?_ (bs 9 55) HT_.out (by kernel_rfl) rfl rfl (fun _ _ _ h => h) (Or.inl ⟨by rfl, ?_⟩) ?_ ?_ ?_; rotate_left; (· intro w'; go_simp; with_reducible rfl); rotate_left; (· simp only [Act.put, sit, scz, scs, i64_w, i32_w]; rfl)
                        refine pu_ 6 (some 46) ?_ (bs 9 119) HT_.out (by kernel_rfl) rfl rfl (fun _ _ _ h => h) (Or.inl ⟨by rfl, ?_⟩) ?_ ?_ ?_; rotate_left; (· intro w'; go_simp; with_reducible rfl); rotate_left; (· simp only [Act.put, sit, scz, scs, i64_w, i32_w]; rfl)
                        refine take_ (i := 3) (N := some 43) (v := ?_) (a' := ?_) (bs 9 127) rfl rfl (take_ofW HT_.out HW_.out (by kernel_rfl)) (fun _ _ _ h => h) (Or.inl ⟨by rfl, ?_⟩) hHeld ?_ ?_; rotate_left; (· rintro w' ⟨s0, s1⟩; go_simp; with_reducible rfl); rotate_left; (· simp only [Act.put, sit, scz, scs, i64_w, i32_w]; rfl)
                        refine take_ (i := 7) (N := some 47) (v := ?_) (a' := ?_) (bs 9 255) rfl rfl (take_ofW HT_.out HW_.out (by kernel_rfl)) (fun _ _ _ h => h) (Or.inl ⟨by rfl, ?_⟩) hHeld ?_ ?_; rotate_left; (· rintro w' ⟨s0, s1⟩; go_simp; with_reducible rfl); rotate_left; (· simp only [Act.put, sit, scz, scs, i64_w, i32_w]; rfl)
                        refine pu_ 8 (some 48) ?_ (bs 9 511) HT_.out (by kernel_rfl) rfl rfl (fun _ _ _ h => h) (Or.inl ⟨by rfl, ?_⟩) ?_ ?_ ?_; rotate_left; (· intro w'; go_simp; with_reducible rfl); rotate_left; (· simp only [Act.put, sit, scz, scs, i64_w, i32_w]; rfl)
                        refine done_ (done_of HT_.out (by kernel_rfl)) ?_
                        try go_wp2
                        have n0_ := Aside0.mk (Kd.S_drew HO_12.out)
                        have n1_ := Aside0.mk (below_drew1 HB.out)
                        clear HO_12
                        clear HB
                        have HO_12 := n0_
                        have HB := n1_
                        clear n0_ n1_
                        have p153 : 0 ≤ (x7_2 : Int) := of_decide_eq_true (by first | (with_reducible assumption) | assumption)
                        have q153 : x7_2 < (x12_3.length : Int) := of_decide_eq_true (by first | (with_reducible assumption) | assumption)
                        obtain ⟨ad153, A153_0, c153_0, e153, hx153_0, hl153_0, hi153_0⟩ := at_L10 (Kd.S_reads' HO_12.out).2.2 x7_2 p153 q153
                        cases e153
                        obtain ⟨ce153, hce153, hMe153, hcc153⟩ := Kd.S_get HO_12.out [] x7_2 p153 (by first | exact q153 | exact of_decide_eq_true (by first | (with_reducible assumption) | assumption) | (have e_ := (Kd.S_reads' HO_12.out).1; omega))
                        obtain ⟨ve153_0, rfl, ge153_0⟩ := hMe153
                        have hv153_0 := hcc153 0 _ rfl
                        rw [Nat.add_zero, show ((Kd.slice 3 (Kd.int .i64))).sz = 1 from rfl, Nat.mul_one] at hv153_0
                        replace hv153_0 := Option.some.inj (hv153_0.symm.trans hx153_0)
                        rw [hv153_0] at ge153_0
                        have HL153_0 := Aside0.mk (show Kd.R (Kd.int .i64) 3 _ _ _ _ (rd_L10 x12_3 x7_2) from ge153_0)
                        clear hv153_0 ge153_0
                        have HX153_0 := Aside0.mk hx153_0
                        clear hcc153 hce153
                        have HR153_0 := Aside0.mk hi153_0
                        have HC153_0 := Aside0.mk hl153_0
                        clear hi153_0 hl153_0
                        replace p153 := eq_true p153
                        replace q153 := eq_true q153
                        have p154 : 0 ≤ ((ji41) : Int) := of_decide_eq_true (by first | (with_reducible assumption) | assumption)
                        have q154 : (ji41) < (x12_3.length : Int) := of_decide_eq_true (by first | (with_reducible assumption) | assumption)
                        obtain ⟨ad154, A154_0, c154_0, e154, hx154_0, hl154_0, hi154_0⟩ := at_L10 (Kd.S_reads' HO_12.out).2.2 (ji41) p154 q154
                        obtain rfl : ad153 = ad154 := (by injection e154)
                        obtain ⟨ce154, hce154, hMe154, hcc154⟩ := Kd.S_get HO_12.out [] (ji41) p154 (by first | exact q154 | exact of_decide_eq_true (by first | (with_reducible assumption) | assumption) | (have e_ := (Kd.S_reads' HO_12.out).1; omega))
                        obtain ⟨ve154_0, rfl, ge154_0⟩ := hMe154
                        have hv154_0 := hcc154 0 _ rfl
                        rw [Nat.add_zero, show ((Kd.slice 3 (Kd.int .i64))).sz = 1 from rfl, Nat.mul_one] at hv154_0
                        replace hv154_0 := Option.some.inj (hv154_0.symm.trans hx154_0)
                        rw [hv154_0] at ge154_0
                        have HL154_0 := Aside0.mk (show Kd.R (Kd.int .i64) 3 _ _ _ _ (rd_L10 x12_3 (ji41)) from ge154_0)
                        clear hv154_0 ge154_0
                        have HX154_0 := Aside0.mk hx154_0
                        clear hcc154 hce154
                        have HR154_0 := Aside0.mk hi154_0
                        have HC154_0 := Aside0.mk hl154_0
                        clear hi154_0 hl154_0
                        replace p154 := eq_true p154
                        replace q154 := eq_true q154
                        have p155 : 0 ≤ (x8_3 : Int) := of_decide_eq_true (by first | (with_reducible assumption) | assumption)
                        have q155 : x8_3 < ((rd_L10 x12_3 (ji41)).length : Int) := of_decide_eq_true (by first | (with_reducible assumption) | assumption)
                        obtain ⟨ad155, e155, hx155_0⟩ := Kd.at_int (by repeat (first | (with_reducible exact HR154_0.out) | (with_reducible refine Kd.C_alloc ?_ _) | (with_reducible refine Kd.C_drewN ?_ _) | (with_reducible refine Kd.C_drew ?_) | exact HR154_0.out)) x8_3 p155 q155
                        cases e155
                        replace p155 := eq_true p155
                        replace q155 := eq_true q155
                        have p156 : 0 ≤ (x7_2 : Int) := of_decide_eq_true (by first | (with_reducible assumption) | assumption)
                        have q156 : x7_2 < (x12_3.length : Int) := of_decide_eq_true (by first | (with_reducible assumption) | assumption)
                        obtain ⟨ad156, A156_0, c156_0, e156, hx156_0, hl156_0, hi156_0⟩ := at_L10 (Kd.S_reads' HO_12.out).2.2 x7_2 p156 q156
                        obtain rfl : ad153 = ad156 := (by injection e156)
                        obtain ⟨ce156, hce156, hMe156, hcc156⟩ := Kd.S_get HO_12.out [] x7_2 p156 (by first | exact q156 | exact of_decide_eq_true (by first | (with_reducible assumption) | assumption) | (have e_ := (Kd.S_reads' HO_12.out).1; omega))
                        obtain ⟨ve156_0, rfl, ge156_0⟩ := hMe156
                        have hv156_0 := hcc156 0 _ rfl
                        rw [Nat.add_zero, show ((Kd.slice 3 (Kd.int .i64))).sz = 1 from rfl, Nat.mul_one] at hv156_0
                        replace hv156_0 := Option.some.inj (hv156_0.symm.trans hx156_0)
                        rw [hv156_0] at ge156_0
                        have HL156_0 := Aside0.mk (show Kd.R (Kd.int .i64) 3 _ _ _ _ (rd_L10 x12_3 x7_2) from ge156_0)
                        clear hv156_0 ge156_0
                        have HX156_0 := Aside0.mk hx156_0
                        clear hcc156 hce156
                        have HR156_0 := Aside0.mk hi156_0
                        have HC156_0 := Aside0.mk hl156_0
                        clear hi156_0 hl156_0
                        replace p156 := eq_true p156
                        replace q156 := eq_true q156
                        have ea_ := Option.some.inj (hx153_0.symm.trans hx156_0)
                        injection ea_ with ea_ en_ ec_
                        subst ea_
                        subst ec_
                        clear en_
                        have p157 : 0 ≤ ((ji45) : Int) := of_decide_eq_true (by first | (with_reducible assumption) | assumption)
                        have q157 : (ji45) < ((rd_L10 x12_3 x7_2).length : Int) := of_decide_eq_true (by first | (with_reducible assumption) | assumption)
                        obtain ⟨ad157, e157, hx157_0⟩ := Kd.at_int (by repeat (first | (with_reducible exact HR156_0.out) | (with_reducible refine Kd.C_alloc ?_ _) | (with_reducible refine Kd.C_drewN ?_ _) | (with_reducible refine Kd.C_drew ?_) | exact HR156_0.out)) (ji45) p157 q157
                        cases e157
                        replace p157 := eq_true p157
                        replace q157 := eq_true q157
                        have p50 : 0 ≤ (x8_3 : Int) := of_decide_eq_true (by first | (with_reducible assumption) | assumption)
                        have q50 : (x8_3 : Int) < (((rd_L10 x12_3 x7_2).length : Int) : Int) := of_decide_eq_true (by first | (with_reducible assumption) | assumption)
                        obtain ⟨go50, co50, eo50, gb50, gl50, cl50, HG50⟩ := Kd.R_form HL153_0.out (by omega)
                        (first | cases eo50 | (injection eo50 with ea_ en_ ec_; (first | subst ea_ | (injection ea_ with ea_; subst ea_)); subst ec_; clear en_))
                        have GB50 := Aside0.mk gb50
                        have GG50 := Aside0.mk HG50
                        clear gb50 gl50 HG50
                        (first | simp only [add_plain] at hx157_0 | skip)
                        obtain ⟨hx50_0, hf50_0⟩ := Kd.R_celln 0 HL153_0.out (x8_3 : Int) p50 q50
                        replace p50 := eq_true p50
                        replace q50 := eq_true q50
                        have hq53 : (x7_2 : Int) < (x12_3.length : Int) := (by have h_ : (x7_2 : Int) < ((x12_3.length : Int) : Int) := of_decide_eq_true (by first | (with_reducible assumption) | assumption); first | exact h_ | (have e_ := (Kd.S_reads' HO_12.out).1; omega) | simpa only [List.length_set, List.length_set] using h_)
                        obtain ⟨oki53, ce53, hcl53, hM53, hcc53, hok53, hbk53⟩ := Kd.S_borrow HO_12.out [] (x7_2 : Int) (of_decide_eq_true (by first | (with_reducible assumption) | assumption)) hq53
                        obtain ⟨ve53_0, rfl, ge53_0⟩ := hM53
                        have hv53 := hcc53 0 _ rfl
                        rw [Nat.add_zero, show ((Kd.slice 3 (Kd.int .i64))).sz = 1 from rfl, Nat.mul_one] at hv53
                        replace hv53 := Option.some.inj (hv53.symm.trans HX153_0.out)
                        subst hv53
                        clear hcc53 hcl53
                        replace ge53_0 := (show Kd.R (Kd.int .i64) 3 _ _ _ _ (rd_L10 x12_3 x7_2) from ge53_0)
                        have HP53 := Kd.R_putg ge53_0 (x8_3 : Int) ji48
                        rw [← Ny158.out] at HP53
                        have HS53 := hbk53 HP53.2 (fun k_ e_ => by injection e_ with e_; subst e_; exact ge53_0.1 _ rfl) (x' := y158) (Kd.M_row HP53.1)
                        rw [← Ny160.out] at HS53
                        have HQ53 := Aside0.mk HS53
                        clear HP53 HS53 hbk53 hok53
                        refine start_ (n := 24) (S := fun w' => w'.cell? (ad153.add (x7_2).toNat) = some (.slice (some ⟨go50, 0, none⟩) (rd_L10 x12_3 x7_2).length c153_0) ∧ w'.cell? (ad153.add ((ji41)).toNat) = some (.slice (some ad155) (rd_L10 x12_3 (ji41)).length c154_0) ∧ w'.cell? (ad155.add (x8_3).toNat) = some (.int .i64 (rd (rd_L10 x12_3 (ji41)) x8_3)) ∧ w'.cell? (ad153.add (x7_2).toNat) = some (.slice (some ⟨go50, 0, none⟩) (rd_L10 x12_3 x7_2).length c153_0) ∧ w'.cell? ⟨go50, ((ji45)).toNat, none⟩ = some (.int .i64 (rd (rd_L10 x12_3 x7_2) (ji45)))) (ds := [23]) (bs 24 0) (by kernel_rfl) rfl rfl ⟨hx153_0, hx154_0, hx155_0, hx156_0, hx157_0⟩ (fun hHeld => ?_); refine with_tabW hunks_table.tab15 hunks_table.bits15 (fun HT_ HW_ => ?_)
                        generalize w51.drew = w52 at HO_12 HB GG50 HL153_0 HL154_0 HL156_0 HQ53 HR153_0 HR154_0 HR156_0 HX153_0 HX154_0 HX156_0 hf50_0 hx153_0 hx154_0 hx155_0 hx156_0 hx157_0 hx50_0 hHeld ⊢
                        refine pu_ 0 (some 65) ?_ (bs 24 1) HT_.out (by kernel_rfl) rfl rfl (fun _ _ _ h => h) (Or.inl ⟨by rfl, ?_⟩) ?_ ?_ ?_; rotate_left; (· intro w'; go_simp; with_reducible rfl); rotate_left; (· simp only [Act.put, sit, scz, scs, i64_w, i32_w]; rfl)
                        refine pu_ 1 (some 66) ?_ (bs 24 3) HT_.out (by kernel_rfl) rfl rfl (fun _ _ _ h => h) (Or.inl ⟨by rfl, ?_⟩) ?_ ?_ ?_; rotate_left; (· intro w'; go_simp; with_reducible rfl); rotate_left; (· simp only [Act.put, sit, scz, scs, i64_w, i32_w]; rfl)
                        refine pu_ 2 (some 67) ?_ (bs 24 7) HT_.out (by kernel_rfl) rfl rfl (fun _ _ _ h => h) (Or.inl ⟨by rfl, ?_⟩) ?_ ?_ ?_; rotate_left; (· intro w'; go_simp; with_reducible rfl); rotate_left; (· simp only [Act.put, sit, scz, scs, i64_w, i32_w]; rfl)
                        refine pu_ 4 (some 69) ?_ (bs 24 23) HT_.out (by kernel_rfl) rfl rfl (fun _ _ _ h => h) (Or.inl ⟨by rfl, ?_⟩) ?_ ?_ ?_; rotate_left; (· intro w'; go_simp; with_reducible rfl); rotate_left; (· simp only [Act.put, sit, scz, scs, i64_w, i32_w]; rfl)
                        refine pu_ 5 (some 70) ?_ (bs 24 55) HT_.out (by kernel_rfl) rfl rfl (fun _ _ _ h => h) (Or.inl ⟨by rfl, ?_⟩) ?_ ?_ ?_; rotate_left; (· intro w'; go_simp; with_reducible rfl); rotate_left; (· simp only [Act.put, sit, scz, scs, i64_w, i32_w]; rfl)
                        refine pu_ 6 (some 71) ?_ (bs 24 119) HT_.out (by kernel_rfl) rfl rfl (fun _ _ _ h => h) (Or.inl ⟨by rfl, ?_⟩) ?_ ?_ ?_; rotate_left; (· intro w'; go_simp; with_reducible rfl); rotate_left; (· simp only [Act.put, sit, scz, scs, i64_w, i32_w]; rfl)
                        refine pu_ 7 (some 72) ?_ (bs 24 247) HT_.out (by kernel_rfl) rfl rfl (fun _ _ _ h => h) (Or.inl ⟨by rfl, ?_⟩) ?_ ?_ ?_; rotate_left; (· intro w'; go_simp; with_reducible rfl); rotate_left; (· simp only [Act.put, sit, scz, scs, i64_w, i32_w]; rfl)
                        refine pu_ 8 (some 73) ?_ (bs 24 503) HT_.out (by kernel_rfl) rfl rfl (fun _ _ _ h => h) (Or.inl ⟨by rfl, ?_⟩) ?_ ?_ ?_; rotate_left; (· intro w'; go_simp; with_reducible rfl); rotate_left; (· simp only [Act.put, sit, scz, scs, i64_w, i32_w]; rfl)
                        refine pu_ 10 (some 75) ?_ (bs 24 1527) HT_.out (by kernel_rfl) rfl rfl (fun _ _ _ h => h) (Or.inl ⟨by rfl, ?_⟩) ?_ ?_ ?_; rotate_left; (· intro w'; go_simp; with_reducible rfl); rotate_left; (· simp only [Act.put, sit, scz, scs, i64_w, i32_w]; rfl)
                        refine pu_ 13 (some 78) ?_ (bs 24 9719) HT_.out (by kernel_rfl) rfl rfl (fun _ _ _ h => h) (Or.inl ⟨by rfl, ?_⟩) ?_ ?_ ?_; rotate_left; (· intro w'; go_simp; with_reducible rfl); rotate_left; (· simp only [Act.put, sit, scz, scs, i64_w, i32_w]; rfl)
                        refine pu_ 14 (some 79) ?_ (bs 24 26103) HT_.out (by kernel_rfl) rfl rfl (fun _ _ _ h => h) (Or.inl ⟨by rfl, ?_⟩) ?_ ?_ ?_; rotate_left; (· intro w'; go_simp; with_reducible rfl); rotate_left; (· simp only [Act.put, sit, scz, scs, i64_w, i32_w]; rfl)
                        refine pu_ 15 (some 80) ?_ (bs 24 58871) HT_.out (by kernel_rfl) rfl rfl (fun _ _ _ h => h) (Or.inl ⟨by rfl, ?_⟩) ?_ ?_ ?_; rotate_left; (· intro w'; go_simp; with_reducible rfl); rotate_left; (· simp only [Act.put, sit, scz, scs, i64_w, i32_w]; rfl)
                        refine pu_ 17 (some 82) ?_ (bs 24 189943) HT_.out (by kernel_rfl) rfl rfl (fun _ _ _ h => h) (Or.inl ⟨by rfl, ?_⟩) ?_ ?_ ?_; rotate_left; (· intro w'; go_simp; with_reducible rfl); rotate_left; (· simp only [Act.put, sit, scz, scs, i64_w, i32_w]; rfl)
                        refine pu_ 18 (some 83) ?_ (bs 24 452087) HT_.out (by kernel_rfl) rfl rfl (fun _ _ _ h => h) (Or.inl ⟨by rfl, ?_⟩) ?_ ?_ ?_; rotate_left; (· intro w'; go_simp; with_reducible rfl); rotate_left; (· simp only [Act.put, sit, scz, scs, i64_w, i32_w]; rfl)
                        refine take_ (i := 3) (N := some 68) (v := ?_) (a' := ?_) (bs 24 452095) rfl rfl (take_ofW HT_.out HW_.out (by kernel_rfl)) (fun _ _ _ h => h) (Or.inl ⟨by rfl, ?_⟩) hHeld ?_ ?_; rotate_left; (· rintro w' ⟨s0, s1, s2, s3, s4⟩; go_simp; with_reducible rfl); rotate_left; (· simp only [Act.put, sit, scz, scs, i64_w, i32_w]; rfl)
                        refine take_ (i := 9) (N := some 74) (v := ?_) (a' := ?_) (bs 24 452607) rfl rfl (take_ofW HT_.out HW_.out (by kernel_rfl)) (fun _ _ _ h => h) (Or.inl ⟨by rfl, ?_⟩) hHeld ?_ ?_; rotate_left; (· rintro w' ⟨s0, s1, s2, s3, s4⟩; go_simp; with_reducible rfl); rotate_left; (· simp only [Act.put, sit, scz, scs, i64_w, i32_w]; rfl)
                        refine pu_ 11 (some 76) ?_ (bs 24 454655) HT_.out (by kernel_rfl) rfl rfl (fun _ _ _ h => h) (Or.inl ⟨by rfl, ?_⟩) ?_ ?_ ?_; rotate_left; (· intro w'; go_simp; with_reducible rfl); rotate_left; (· simp only [Act.put, sit, scz, scs, i64_w, i32_w]; rfl)
                        refine take_ (i := 12) (N := some 77) (v := ?_) (a' := ?_) (bs 24 458751) rfl rfl (take_ofW HT_.out HW_.out (by kernel_rfl)) (fun _ _ _ h => h) (Or.inl ⟨by rfl, ?_⟩) hHeld ?_ ?_; rotate_left; (· rintro w' ⟨s0, s1, s2, s3, s4⟩; go_simp; with_reducible rfl); rotate_left; (· simp only [Act.put, sit, scz, scs, i64_w, i32_w]; rfl)
                        refine take_ (i := 16) (N := some 81) (v := ?_) (a' := ?_) (bs 24 524287) rfl rfl (take_ofW HT_.out HW_.out (by kernel_rfl)) (fun _ _ _ h => h) (Or.inl ⟨by rfl, ?_⟩) hHeld ?_ ?_; rotate_left; (· rintro w' ⟨s0, s1, s2, s3, s4⟩; go_simp; with_reducible rfl); rotate_left; (· simp only [Act.put, sit, scz, scs, i64_w, i32_w]; rfl)
                        refine pu_ 19 (some 84) ?_ (bs 24 1048575) HT_.out (by kernel_rfl) rfl rfl (fun _ _ _ h => h) (Or.inl ⟨by rfl, ?_⟩) ?_ ?_ ?_; rotate_left; (· intro w'; go_simp; with_reducible rfl); rotate_left; (· simp only [Act.put, sit, scz, scs, i64_w, i32_w]; rfl)
                        refine take_ (i := 20) (N := some 85) (v := ?_) (a' := ?_) (bs 24 2097151) rfl rfl (take_ofW HT_.out HW_.out (by kernel_rfl)) (fun _ _ _ h => h) (Or.inl ⟨by rfl, ?_⟩) hHeld ?_ ?_; rotate_left; (· rintro w' ⟨s0, s1, s2, s3, s4⟩; go_simp; with_reducible rfl); rotate_left; (· simp only [Act.put, sit, scz, scs, i64_w, i32_w]; rfl)
                        refine pu_ 21 (some 86) ?_ (bs 24 4194303) HT_.out (by kernel_rfl) rfl rfl (fun _ _ _ h => h) (Or.inl ⟨by rfl, ?_⟩) ?_ ?_ ?_; rotate_left; (· intro w'; go_simp; with_reducible rfl); rotate_left; (· simp only [Act.put, sit, scz, scs, i64_w, i32_w]; rfl)
                        refine pu_ 22 (some 87) ?_ (bs 24 8388607) HT_.out (by kernel_rfl) rfl rfl (fun _ _ _ h => h) (Or.inl ⟨by rfl, ?_⟩) ?_ ?_ ?_; rotate_left; (· intro w'; go_simp; with_reducible rfl); rotate_left; (· simp only [Act.put, sit, scz, scs, i64_w, i32_w]; rfl)
                        refine last_ (i := 23) (N := none) (bs 24 16777215) rfl rfl (one_of HT_.out (by kernel_rfl)) (by decide) (fun K hK => ?_)
                        refine skip_ (w1 := ?_) (by rfl) rfl ?_ ?_
                        rotate_left
                        ·go_simp
                         rfl
                        refine hK.out _ _ ?_
                        clear hK K
                        refine done_ (done_of HT_.out (by kernel_rfl)) ?_
                        try go_wp2
                        (try simp only [← hl12_3])
                        go_roundg k3
                        case measure => have := HK1.out; have := HK2.out; have := HK3.out; omega
                        case rel => exact ⟨(wrap64 (x8_3 - 1)), (y160), (by first | rfl | (simp; done) | (simp [*]; done) | (simp [wrap64, wrap32]; done)), H', ⟨by have := HK1.out; have := HK2.out; have := HK3.out; omega⟩, ⟨by (try simp only [hl12_1]); (try simp only [hl12_2]); (try simp only [hl12_3]); (with_reducible repeat (first | apply Kd.S_alloc | apply Kd.S_drewN | apply Kd.S_drew)); exact HQ53.out⟩, ⟨by repeat (first | (with_reducible first | exact HB.out | apply below_alloc | apply pw_below_drewN | apply below_drew1 | refine below_set ?_ GB50.out) | exact HB.out)⟩⟩
                       ·rw [if_neg c49] at H
                        exact absurd H (by simp)
                      ·rw [if_neg c47] at H
                       exact absurd H (by simp)
                     ·rw [if_neg c46] at H
                      exact absurd H (by simp)
                    ·rw [if_neg c44] at H
                     exact absurd H (by simp)
                   ·rw [if_neg c43] at H
                    exact absurd H (by simp)
                  ·rw [if_neg c42] at H
                   exact absurd H (by simp)
                 ·rw [if_neg c40] at H
                  exact absurd H (by simp)
               ·rw [if_neg c25] at H
                exact absurd H (by simp)
              ·rw [if_neg c24] at H
               exact absurd H (by simp)
             ·rw [if_neg c23] at H
              exact absurd H (by simp)
            ·rw [if_neg c22] at H
             exact absurd H (by simp)
           ·rw [if_neg c21] at H
            have c21b0 : decide (0 ≤ x8_3) = false := decide_eq_false c21
            clear c21
            have H' := Aside0.mk H
            clear H
            go_wp2
            (try simp only [← hl12_2, ← hl12_3])
            go_roundg k3
            case measure => have := HK1.out; have := HK2.out; have := HK3.out; omega
            case rel => exact ⟨(wrap64 (x7_2 - 1)), (x12_3), (by first | rfl | (simp; done) | (simp [*]; done) | (simp [wrap64, wrap32]; done)), H', ⟨by have := HK1.out; have := HK2.out; have := HK3.out; omega⟩, ⟨by (try simp only [hl12_1]); (try simp only [hl12_2]); (try simp only [hl12_3]); (with_reducible repeat (first | apply Kd.S_alloc | apply Kd.S_drewN | apply Kd.S_drew)); exact HO_12.out⟩, ⟨by repeat (first | (with_reducible first | exact HB.out | apply below_alloc | apply pw_below_drewN | apply below_drew1) | exact HB.out)⟩⟩
        ·rw [if_neg c20] at H
         have c20b0 : decide (0 ≤ x7_2) = false := decide_eq_false c20
         clear c20
         obtain rfl := Option.some.inj H
         go_wp2
         go_ret
         exact ⟨_, by first | rfl | (simp [errW_none, errW_some] <;> rfl) | (simp only [← hji3]; first | rfl | (simp [errW_none, errW_some] <;> rfl)) | (simp [*, errW_none, errW_some] <;> rfl), by (with_reducible repeat (first | apply Kd.S_alloc | apply Kd.S_drewN | apply Kd.S_drew)); exact HO_12.out, by repeat (first | (with_reducible first | exact HB.out | apply below_alloc | apply pw_below_drewN | apply below_drew1) | exact HB.out)⟩
  ·rw [if_neg c5] at H
   exact absurd H (by simp)
 ·rw [if_neg c4] at H
  exact absurd H (by simp)

end Go.Proofs.YtjabpbnlpljlkaaDoor.PShowMade
