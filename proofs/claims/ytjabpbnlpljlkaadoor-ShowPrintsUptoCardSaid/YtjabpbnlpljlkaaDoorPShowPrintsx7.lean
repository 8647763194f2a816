-- Laid by a program of ours (the kit's print with words and contracts of our own beside it).
import Derived.Test.YtjabpbnlpljlkaaDoorPShowPrintsx0
namespace Go.Proofs.YtjabpbnlpljlkaaDoor.PShowPrints
open Go.RowKit Go.Proofs.YtjabpbnlpljlkaaDoor.X Go.Proofs.YtjabpbnlpljlkaaDoorW.PrintWords Go.Proofs.YtjabpbnlpljlkaaDoorW.PrintLast Go.Proofs.YtjabpbnlpljlkaaDoorW.PrintMore
attribute [local go_sem] max2_int min2_int max_two min_two max_three min_three max_four min_four   -- for this text's walks alone
set_option linter.unusedVariables false
set_option linter.unusedSimpArgs false

/-! ### redpenref18_Itoa: function 79 -/
def redpenref18_Itoa.f : Nat → Int → Option (ByteArray)
 | 0, _ => none
 | k + 1, a0 => if a0 < 0 then (if a0 = (-9223372036854775808) then (some (⟨#[45, 57, 50, 50, 51, 51, 55, 50, 48, 51, 54, 56, 53, 52, 55, 55, 53, 56, 48, 56]⟩ : ByteArray)) else ((redpenref18_Itoa.f k (wrap64 (-a0))).bind fun t132 => (if 1 + t132.size ≤ 9223372036854775807 then (some ((⟨#[45]⟩ : ByteArray) ++ t132)) else (none)))) else ((some (([(wrap64 (48 + (Int.tmod a0 10))) % 256] : List Int) : List Int)).bind fun y133 => (if a0 > 9 then ((redpenref18_Itoa.f k (wrap64 (Int.tdiv a0 10))).bind fun t136 => (if t136.size + (strOfNums y133).size ≤ 9223372036854775807 then (some (t136 ++ (strOfNums y133))) else (none))) else (some (strOfNums y133))))
theorem redpenref18_Itoa.mono_l : ∀ k, (∀ y0, LeO (redpenref18_Itoa.f k y0) (redpenref18_Itoa.f (k + 1) y0))
 | 0 => fun _ r h => by simp [redpenref18_Itoa.f] at h
 | k + 1 => by
  have ih0 := redpenref18_Itoa.mono_l k
  ·intro y0
   unfold redpenref18_Itoa.f
   repeat' first
   | (with_reducible exact ih0 _)
   | (with_reducible exact LeO.refl _)
   | (with_reducible exact LeO.none _)
   | (with_reducible refine LeO.ite ?_ ?_)
   | (with_reducible refine LeO.bind ?_ (fun _ => ?_))
   | exact ih0 _
   | exact LeO.none _
   | refine LeO.ite ?_ ?_
   | refine LeO.bind ?_ (fun _ => ?_)
theorem redpenref18_Itoa.mono : ∀ a0 k, LeO (redpenref18_Itoa.f k a0) (redpenref18_Itoa.f (k + 1) a0) := by
 intro a0 k
 have ih0 := redpenref18_Itoa.mono_l k
 exact ih0 a0
set_option maxHeartbeats 8000000 in
set_option maxRecDepth 100000 in
theorem redpenref18_Itoa.calls (k : Nat) : ∀ (a0 : Int) (r : ByteArray) (w : World) (h : redpenref18_Itoa.f k a0 = some r),
  Calls Tryd.prog 79 #[.int .i64 a0] w fun e w' => e = .returned (.string r) ∧ Below w.heap.size w w' := by
 induction k using Nat.strongRecOn with
 | _ k ih =>
 intro a0 r w h
 cases k with
 | zero => exact absurd h (by simp [redpenref18_Itoa.f])
 | succ k =>
 simp only [redpenref18_Itoa.f] at h
 have HB := Aside0.mk (Below.refl w.heap.size w)
 have H : (if a0 < 0 then (if a0 = (-9223372036854775808) then (some (⟨#[45, 57, 50, 50, 51, 51, 55, 50, 48, 51, 54, 56, 53, 52, 55, 55, 53, 56, 48, 56]⟩ : ByteArray)) else ((redpenref18_Itoa.f k (wrap64 (-a0))).bind fun t132 => (if 1 + t132.size ≤ 9223372036854775807 then (some ((⟨#[45]⟩ : ByteArray) ++ t132)) else (none)))) else ((some (([(wrap64 (48 + (Int.tmod a0 10))) % 256] : List Int) : List Int)).bind fun y133 => (if a0 > 9 then ((redpenref18_Itoa.f k (wrap64 (Int.tdiv a0 10))).bind fun t136 => (if t136.size + (strOfNums y133).size ≤ 9223372036854775807 then (some (t136 ++ (strOfNums y133))) else (none))) else (some (strOfNums y133))))) = some r := h
 clear h
 by_cases c2 : a0 < 0
 ·rw [if_pos c2] at H
  have c2b0 : decide (a0 < 0) = true := decide_eq_true c2
  clear c2
  by_cases c3 : a0 = (-9223372036854775808)
  ·rw [if_pos c3] at H
   have c3b0 : (a0 == (-9223372036854775808)) = true := beq_iff_eq.mpr c3
   have c3b1 : (a0 != (-9223372036854775808)) = false := bne_eq_false_iff_eq.mpr c3
   clear c3
   obtain rfl := Option.some.inj H
   go_enter Tryd.func79, Tryd.ntmps79
   go_wp2
   go_ret
   exact ⟨by first | rfl | (simp [errW_none, errW_some] <;> rfl) | (simp [*, errW_none, errW_some] <;> rfl), by repeat (first | (with_reducible first | exact HB.out | apply below_alloc | apply pw_below_drewN | apply below_drew1) | exact HB.out)⟩
  ·rw [if_neg c3] at H
   have c3b0 : (a0 == (-9223372036854775808)) = false := beq_eq_false_iff_ne.mpr c3
   have c3b1 : (a0 != (-9223372036854775808)) = true := bne_iff_ne.mpr c3
   replace H := Option.bind_eq_some_iff.mp H
   obtain ⟨t132, A40, H⟩ := H
   replace H : (if 1 + t132.size ≤ 9223372036854775807 then (some ((⟨#[45]⟩ : ByteArray) ++ t132)) else (none)) = some r := H
   have A4 := Aside0.mk A40
   clear A40
   by_cases c5 : 1 + t132.size ≤ 9223372036854775807
   ·rw [if_pos c5] at H
    have c5b0 := eq_true c5
    have c5b1 : decide (1 + t132.size ≤ 9223372036854775807) = true := decide_eq_true c5
    try have c5b2 : (9223372036854775807 < 1 + t132.size) = False := eq_false (Nat.not_lt.2 c5)
    obtain rfl := Option.some.inj H
    go_enter Tryd.func79, Tryd.ntmps79
    go_wp2_with (first | ((with_reducible refine gate_callee (f := 79) rfl ?_); refine goesL_ (some 10) rfl rfl Tryd.func79 (by kernel_rfl) rfl #[.int .i64 (wrap64 (-a0))] rfl (by (try simp only [List.map_toArray, List.map_cons, List.map_nil]); first | done | rfl | (simp only [List.length_drop, List.length_take]; rfl)) ?_; (with_reducible refine (ih k (by omega) (wrap64 (-a0)) t132 _ A4.out).mono ?_); rintro e w6 ⟨rfl, hb⟩; refine ⟨_, rfl, ?_⟩; have n0_ := Aside0.mk (below_step (by repeat (first | (with_reducible first | exact HB.out | apply below_alloc | apply pw_below_drewN | apply below_drew1) | exact HB.out)) hb); clear HB; have HB := n0_; clear n0_; (try clear hb); (try clear hb2); (try clear hk); (try clear hi)))
    go_ret
    exact ⟨by first | rfl | (simp [errW_none, errW_some] <;> rfl) | (simp [*, errW_none, errW_some] <;> rfl), by repeat (first | (with_reducible first | exact HB.out | apply below_alloc | apply pw_below_drewN | apply below_drew1) | exact HB.out)⟩
   ·rw [if_neg c5] at H
    exact absurd H (by simp)
 ·rw [if_neg c2] at H
  have c2b0 : decide (a0 < 0) = false := decide_eq_false c2
  clear c2
  obtain ⟨y133, hy133⟩ : ∃ y_ : List Int, y_ = (([(wrap64 (48 + (Int.tmod a0 10))) % 256] : List Int)) := ⟨_, rfl⟩
  replace H : (if a0 > 9 then ((redpenref18_Itoa.f k (wrap64 (Int.tdiv a0 10))).bind fun t136 => (if t136.size + (strOfNums y133).size ≤ 9223372036854775807 then (some (t136 ++ (strOfNums y133))) else (none))) else (some (strOfNums y133))) = some r := by first | (rw [hy133]; with_reducible exact H) | (have H2_ := (Option.bind_some _ _).symm.trans H; rw [hy133]; with_reducible exact H2_) | (have H2_ := (Option.bind_some _ _).symm.trans H; with_reducible exact H2_) | with_reducible exact H | (rw [hy133]; exact H) | exact H
  have Ny133 := Aside0.mk hy133
  clear hy133
  by_cases c7 : a0 > 9
  ·rw [if_pos c7] at H
   have c7b0 : decide (9 < a0) = true := decide_eq_true c7
   clear c7
   replace H := Option.bind_eq_some_iff.mp H
   obtain ⟨t136, A80, H⟩ := H
   replace H : (if t136.size + (strOfNums y133).size ≤ 9223372036854775807 then (some (t136 ++ (strOfNums y133))) else (none)) = some r := H
   have A8 := Aside0.mk A80
   clear A80
   by_cases c9 : t136.size + (strOfNums y133).size ≤ 9223372036854775807
   ·rw [if_pos c9] at H
    have c9b0 := eq_true c9
    have c9b1 : decide (t136.size + (strOfNums y133).size ≤ 9223372036854775807) = true := decide_eq_true c9
    try have c9b2 : (9223372036854775807 < t136.size + (strOfNums y133).size) = False := eq_false (Nat.not_lt.2 c9)
    obtain rfl := Option.some.inj H
    go_enter Tryd.func79, Tryd.ntmps79
    go_wp2_with (first | ((with_reducible refine gate_dst (N := 16) rfl ?_); refine Kd.R_lit (Kd.int .u8) _ 5 ?hg (N := 16) ?hd (xs := ([(wrap64 (48 + (Int.tmod a0 10))) % 256] : List Int)) (inner := [.int .u8 ((wrap64 (48 + (Int.tmod a0 10))) % 256)]) (ok := fun _ => True) (okp := fun _ => True) ?hr ?hp (fun _ hk => hk) trivial (Below.refl _ _) (Nat.le_refl _) (by simp) ?_; (case hd => rfl); (case hg => rfl); (case hr => first | (go_simp; done) | (go_simp; rfl)); (case hp => exact (Reps.one (show Kd.M (Kd.int .u8) _ _ _ ((wrap64 (48 + (Int.tmod a0 10))) % 256) [.int .u8 ((wrap64 (48 + (Int.tmod a0 10))) % 256)] from rfl) (Reps.none _ _))); intro v134 w10 ho11 hb hg_ hnew_; clear hg_ hnew_; (first | rw [← Ny133.out] at ho11 | (simp only [Int.reduceToNat] at ho11; rw [← Ny133.out] at ho11)); have n0_ := Aside0.mk (Kd.R_lower ho11 (below_size (by repeat (first | (with_reducible first | exact HB.out | apply below_alloc | apply pw_below_drewN | apply below_drew1) | exact HB.out)))); have n1_ := Aside0.mk (below_step (by repeat (first | (with_reducible first | exact HB.out | apply below_alloc | apply pw_below_drewN | apply below_drew1) | exact HB.out)) hb); clear HB; have HO135 := n0_; have HB := n1_; clear n0_ n1_; clear hb ho11; have hcv12 := own_string (P := Tryd.prog) Tryd.underlying40 Tryd.underlying5 Tryd.underlying9 (Kd.own_of_R HO135.out); have hcv12n := fun (n_ : Nat) => own_string (P := Tryd.prog) Tryd.underlying40 Tryd.underlying5 Tryd.underlying9 (Kd.own_of_R (Kd.R_drewN HO135.out n_))) | ((with_reducible refine gate_callee (f := 79) rfl ?_); refine goesL_ (some 22) rfl rfl Tryd.func79 (by kernel_rfl) rfl #[.int .i64 (wrap64 (Int.tdiv a0 10))] rfl (by (try simp only [List.map_toArray, List.map_cons, List.map_nil]); first | done | rfl | (simp only [List.length_drop, List.length_take]; rfl)) ?_; (with_reducible refine (ih k (by omega) (wrap64 (Int.tdiv a0 10)) t136 _ A8.out).mono ?_); rintro e w13 ⟨rfl, hb⟩; refine ⟨_, rfl, ?_⟩; have n0_ := Aside0.mk (Kd.R_below (by (with_reducible repeat (first | apply Kd.R_alloc | apply Kd.R_drewN | apply Kd.R_drew)); exact HO135.out) hb); have n1_ := Aside0.mk (below_step (by repeat (first | (with_reducible first | exact HB.out | apply below_alloc | apply pw_below_drewN | apply below_drew1) | exact HB.out)) hb); clear HO135; clear HB; have HO135 := n0_; have HB := n1_; clear n0_ n1_; (try clear hb); (try clear hb2); (try clear hk); (try clear hi)))
    go_ret
    exact ⟨by first | rfl | (simp [errW_none, errW_some] <;> rfl) | (simp [*, errW_none, errW_some] <;> rfl), by repeat (first | (with_reducible first | exact HB.out | apply below_alloc | apply pw_below_drewN | apply below_drew1) | exact HB.out)⟩
   ·rw [if_neg c9] at H
    exact absurd H (by simp)
  ·rw [if_neg c7] at H
   have c7b0 : decide (9 < a0) = false := decide_eq_false c7
   clear c7
   obtain rfl := Option.some.inj H
   go_enter Tryd.func79, Tryd.ntmps79
   go_wp2_with (first | ((with_reducible refine gate_dst (N := 16) rfl ?_); refine Kd.R_lit (Kd.int .u8) _ 5 ?hg (N := 16) ?hd (xs := ([(wrap64 (48 + (Int.tmod a0 10))) % 256] : List Int)) (inner := [.int .u8 ((wrap64 (48 + (Int.tmod a0 10))) % 256)]) (ok := fun _ => True) (okp := fun _ => True) ?hr ?hp (fun _ hk => hk) trivial (Below.refl _ _) (Nat.le_refl _) (by simp) ?_; (case hd => rfl); (case hg => rfl); (case hr => first | (go_simp; done) | (go_simp; rfl)); (case hp => exact (Reps.one (show Kd.M (Kd.int .u8) _ _ _ ((wrap64 (48 + (Int.tmod a0 10))) % 256) [.int .u8 ((wrap64 (48 + (Int.tmod a0 10))) % 256)] from rfl) (Reps.none _ _))); intro v134 w14 ho15 hb hg_ hnew_; clear hg_ hnew_; (first | rw [← Ny133.out] at ho15 | (simp only [Int.reduceToNat] at ho15; rw [← Ny133.out] at ho15)); have n0_ := Aside0.mk (Kd.R_lower ho15 (below_size (by repeat (first | (with_reducible first | exact HB.out | apply below_alloc | apply pw_below_drewN | apply below_drew1) | exact HB.out)))); have n1_ := Aside0.mk (below_step (by repeat (first | (with_reducible first | exact HB.out | apply below_alloc | apply pw_below_drewN | apply below_drew1) | exact HB.out)) hb); clear HB; have HO135 := n0_; have HB := n1_; clear n0_ n1_; clear hb ho15; have hcv16 := own_string (P := Tryd.prog) Tryd.underlying40 Tryd.underlying5 Tryd.underlying9 (Kd.own_of_R HO135.out); have hcv16n := fun (n_ : Nat) => own_string (P := Tryd.prog) Tryd.underlying40 Tryd.underlying5 Tryd.underlying9 (Kd.own_of_R (Kd.R_drewN HO135.out n_))))
   go_ret
   exact ⟨by first | rfl | (simp [errW_none, errW_some] <;> rfl) | (simp [*, errW_none, errW_some] <;> rfl), by repeat (first | (with_reducible first | exact HB.out | apply below_alloc | apply pw_below_drewN | apply below_drew1) | exact HB.out)⟩

/-! ### redpenref18_side: function 57 -/
def redpenref18_side.f (k : Nat) (a0 : Int) (a1 : Int) : Option (ByteArray) := if a1 > 0 then ((redpenref18_Itoa.f k (wrap64 (a0 + 1))).bind fun t137 => (if t137.size + 1 ≤ 9223372036854775807 then ((redpenref18_Itoa.f k a1).bind fun t138 => (if (t137 ++ (⟨#[44]⟩ : ByteArray)).size + t138.size ≤ 9223372036854775807 then (some ((t137 ++ (⟨#[44]⟩ : ByteArray)) ++ t138)) else (none))) else (none))) else ((redpenref18_Itoa.f k a0).bind fun t139 => (if t139.size + 1 ≤ 9223372036854775807 then ((redpenref18_Itoa.f k a1).bind fun t140 => (if (t139 ++ (⟨#[44]⟩ : ByteArray)).size + t140.size ≤ 9223372036854775807 then (some ((t139 ++ (⟨#[44]⟩ : ByteArray)) ++ t140)) else (none))) else (none)))
theorem redpenref18_side.mono : ∀ a0 a1 k, LeO (redpenref18_side.f k a0 a1) (redpenref18_side.f (k + 1) a0 a1) := by
 intro a0 a1 k
 unfold redpenref18_side.f
 repeat' first
   | (with_reducible exact redpenref18_Itoa.mono _ _)
   | (with_reducible exact LeO.refl _)
   | (with_reducible exact LeO.none _)
   | (with_reducible refine LeO.ite ?_ ?_)
   | (with_reducible refine LeO.bind ?_ (fun _ => ?_))
   | exact redpenref18_Itoa.mono _ _
   | exact LeO.none _
   | refine LeO.ite ?_ ?_
   | refine LeO.bind ?_ (fun _ => ?_)
set_option maxHeartbeats 8000000 in
set_option maxRecDepth 100000 in
theorem redpenref18_side.calls (k : Nat) (a0 : Int) (a1 : Int) (r : ByteArray) (w : World) (h : redpenref18_side.f k a0 a1 = some r) :
  Calls Tryd.prog 57 #[.int .i64 a0, .int .i64 a1] w fun e w' => e = .returned (.string r) ∧ Below w.heap.size w w' := by
 have HB := Aside0.mk (Below.refl w.heap.size w)
 have H : (if a1 > 0 then ((redpenref18_Itoa.f k (wrap64 (a0 + 1))).bind fun t137 => (if t137.size + 1 ≤ 9223372036854775807 then ((redpenref18_Itoa.f k a1).bind fun t138 => (if (t137 ++ (⟨#[44]⟩ : ByteArray)).size + t138.size ≤ 9223372036854775807 then (some ((t137 ++ (⟨#[44]⟩ : ByteArray)) ++ t138)) else (none))) else (none))) else ((redpenref18_Itoa.f k a0).bind fun t139 => (if t139.size + 1 ≤ 9223372036854775807 then ((redpenref18_Itoa.f k a1).bind fun t140 => (if (t139 ++ (⟨#[44]⟩ : ByteArray)).size + t140.size ≤ 9223372036854775807 then (some ((t139 ++ (⟨#[44]⟩ : ByteArray)) ++ t140)) else (none))) else (none)))) = some r := h
 clear h
 by_cases c3 : a1 > 0
 ·rw [if_pos c3] at H
  have c3b0 : decide (0 < a1) = true := decide_eq_true c3
  clear c3
  replace H := Option.bind_eq_some_iff.mp H
  obtain ⟨t137, A40, H⟩ := H
  replace H : (if t137.size + 1 ≤ 9223372036854775807 then ((redpenref18_Itoa.f k a1).bind fun t138 => (if (t137 ++ (⟨#[44]⟩ : ByteArray)).size + t138.size ≤ 9223372036854775807 then (some ((t137 ++ (⟨#[44]⟩ : ByteArray)) ++ t138)) else (none))) else (none)) = some r := H
  have A4 := Aside0.mk A40
  clear A40
  by_cases c5 : t137.size + 1 ≤ 9223372036854775807
  ·rw [if_pos c5] at H
   have c5b0 := eq_true c5
   have c5b1 : decide (t137.size + 1 ≤ 9223372036854775807) = true := decide_eq_true c5
   try have c5b2 : (9223372036854775807 < t137.size + 1) = False := eq_false (Nat.not_lt.2 c5)
   replace H := Option.bind_eq_some_iff.mp H
   obtain ⟨t138, A60, H⟩ := H
   replace H : (if (t137 ++ (⟨#[44]⟩ : ByteArray)).size + t138.size ≤ 9223372036854775807 then (some ((t137 ++ (⟨#[44]⟩ : ByteArray)) ++ t138)) else (none)) = some r := H
   have A6 := Aside0.mk A60
   clear A60
   by_cases c7 : (t137 ++ (⟨#[44]⟩ : ByteArray)).size + t138.size ≤ 9223372036854775807
   ·rw [if_pos c7] at H
    have c7b0 := eq_true c7
    have c7b1 : decide ((t137 ++ (⟨#[44]⟩ : ByteArray)).size + t138.size ≤ 9223372036854775807) = true := decide_eq_true c7
    try have c7b2 : (9223372036854775807 < (t137 ++ (⟨#[44]⟩ : ByteArray)).size + t138.size) = False := eq_false (Nat.not_lt.2 c7)
    try (have c7b4 := c7b2; simp only [ByteArray.size_append, show (⟨#[44]⟩ : ByteArray).size = 1 from rfl] at c7b4)
    obtain rfl := Option.some.inj H
    go_enter Tryd.func57, Tryd.ntmps57
    go_wp2_with (first | ((with_reducible refine gate_callee (f := 79) rfl ?_); refine goesL_ (some 10) rfl rfl Tryd.func79 (by kernel_rfl) rfl #[.int .i64 (wrap64 (a0 + 1))] rfl (by (try simp only [List.map_toArray, List.map_cons, List.map_nil]); first | done | rfl | (simp only [List.length_drop, List.length_take]; rfl)) ?_; (with_reducible refine (redpenref18_Itoa.calls k (wrap64 (a0 + 1)) t137 _ A4.out).mono ?_); rintro e w8 ⟨rfl, hb⟩; refine ⟨_, rfl, ?_⟩; have n0_ := Aside0.mk (below_step (by repeat (first | (with_reducible first | exact HB.out | apply below_alloc | apply pw_below_drewN | apply below_drew1) | exact HB.out)) hb); clear HB; have HB := n0_; clear n0_; (try clear hb); (try clear hb2); (try clear hk); (try clear hi)) | ((with_reducible refine gate_callee (f := 79) rfl ?_); refine goesL_ (some 13) rfl rfl Tryd.func79 (by kernel_rfl) rfl #[.int .i64 a1] rfl (by (try simp only [List.map_toArray, List.map_cons, List.map_nil]); first | done | rfl | (simp only [List.length_drop, List.length_take]; rfl)) ?_; (with_reducible refine (redpenref18_Itoa.calls k a1 t138 _ A6.out).mono ?_); rintro e w9 ⟨rfl, hb⟩; refine ⟨_, rfl, ?_⟩; have n0_ := Aside0.mk (below_step (by repeat (first | (with_reducible first | exact HB.out | apply below_alloc | apply pw_below_drewN | apply below_drew1) | exact HB.out)) hb); clear HB; have HB := n0_; clear n0_; (try clear hb); (try clear hb2); (try clear hk); (try clear hi)))
    go_ret
    exact ⟨by first | rfl | (simp [errW_none, errW_some] <;> rfl) | (simp [*, errW_none, errW_some] <;> rfl), by repeat (first | (with_reducible first | exact HB.out | apply below_alloc | apply pw_below_drewN | apply below_drew1) | exact HB.out)⟩
   ·rw [if_neg c7] at H
    exact absurd H (by simp)
  ·rw [if_neg c5] at H
   exact absurd H (by simp)
 ·rw [if_neg c3] at H
  have c3b0 : decide (0 < a1) = false := decide_eq_false c3
  clear c3
  replace H := Option.bind_eq_some_iff.mp H
  obtain ⟨t139, A100, H⟩ := H
  replace H : (if t139.size + 1 ≤ 9223372036854775807 then ((redpenref18_Itoa.f k a1).bind fun t140 => (if (t139 ++ (⟨#[44]⟩ : ByteArray)).size + t140.size ≤ 9223372036854775807 then (some ((t139 ++ (⟨#[44]⟩ : ByteArray)) ++ t140)) else (none))) else (none)) = some r := H
  have A10 := Aside0.mk A100
  clear A100
  by_cases c11 : t139.size + 1 ≤ 9223372036854775807
  ·rw [if_pos c11] at H
   have c11b0 := eq_true c11
   have c11b1 : decide (t139.size + 1 ≤ 9223372036854775807) = true := decide_eq_true c11
   try have c11b2 : (9223372036854775807 < t139.size + 1) = False := eq_false (Nat.not_lt.2 c11)
   replace H := Option.bind_eq_some_iff.mp H
   obtain ⟨t140, A120, H⟩ := H
   replace H : (if (t139 ++ (⟨#[44]⟩ : ByteArray)).size + t140.size ≤ 9223372036854775807 then (some ((t139 ++ (⟨#[44]⟩ : ByteArray)) ++ t140)) else (none)) = some r := H
   have A12 := Aside0.mk A120
   clear A120
   by_cases c13 : (t139 ++ (⟨#[44]⟩ : ByteArray)).size + t140.size ≤ 9223372036854775807
   ·rw [if_pos c13] at H
    have c13b0 := eq_true c13
    have c13b1 : decide ((t139 ++ (⟨#[44]⟩ : ByteArray)).size + t140.size ≤ 9223372036854775807) = true := decide_eq_true c13
    try have c13b2 : (9223372036854775807 < (t139 ++ (⟨#[44]⟩ : ByteArray)).size + t140.size) = False := eq_false (Nat.not_lt.2 c13)
    try (have c13b4 := c13b2; simp only [ByteArray.size_append, show (⟨#[44]⟩ : ByteArray).size = 1 from rfl] at c13b4)
    obtain rfl := Option.some.inj H
    go_enter Tryd.func57, Tryd.ntmps57
    go_wp2_with (first | ((with_reducible refine gate_callee (f := 79) rfl ?_); refine goesL_ (some 10) rfl rfl Tryd.func79 (by kernel_rfl) rfl #[.int .i64 a0] rfl (by (try simp only [List.map_toArray, List.map_cons, List.map_nil]); first | done | rfl | (simp only [List.length_drop, List.length_take]; rfl)) ?_; (with_reducible refine (redpenref18_Itoa.calls k a0 t139 _ A10.out).mono ?_); rintro e w14 ⟨rfl, hb⟩; refine ⟨_, rfl, ?_⟩; have n0_ := Aside0.mk (below_step (by repeat (first | (with_reducible first | exact HB.out | apply below_alloc | apply pw_below_drewN | apply below_drew1) | exact HB.out)) hb); clear HB; have HB := n0_; clear n0_; (try clear hb); (try clear hb2); (try clear hk); (try clear hi)) | ((with_reducible refine gate_callee (f := 79) rfl ?_); refine goesL_ (some 13) rfl rfl Tryd.func79 (by kernel_rfl) rfl #[.int .i64 a1] rfl (by (try simp only [List.map_toArray, List.map_cons, List.map_nil]); first | done | rfl | (simp only [List.length_drop, List.length_take]; rfl)) ?_; (with_reducible refine (redpenref18_Itoa.calls k a1 t140 _ A12.out).mono ?_); rintro e w15 ⟨rfl, hb⟩; refine ⟨_, rfl, ?_⟩; have n0_ := Aside0.mk (below_step (by repeat (first | (with_reducible first | exact HB.out | apply below_alloc | apply pw_below_drewN | apply below_drew1) | exact HB.out)) hb); clear HB; have HB := n0_; clear n0_; (try clear hb); (try clear hb2); (try clear hk); (try clear hi)))
    go_ret
    exact ⟨by first | rfl | (simp [errW_none, errW_some] <;> rfl) | (simp [*, errW_none, errW_some] <;> rfl), by repeat (first | (with_reducible first | exact HB.out | apply below_alloc | apply pw_below_drewN | apply below_drew1) | exact HB.out)⟩
   ·rw [if_neg c13] at H
    exact absurd H (by simp)
  ·rw [if_neg c11] at H
   exact absurd H (by simp)

/-! ### redpenref18_Head: function 35 -/
def redpenref18_Head.f (k : Nat) (a0_0 : Int) (a0_1 : Int) (a0_2 : Int) (a0_3 : Int) (l0_4 : List (S29)) : Option (ByteArray) := (redpenref18_side.f k a0_0 a0_1).bind fun t142 => (if 4 + t142.size ≤ 9223372036854775807 then (if ((⟨#[64, 64, 32, 45]⟩ : ByteArray) ++ t142).size + 2 ≤ 9223372036854775807 then ((redpenref18_side.f k a0_2 a0_3).bind fun t143 => (if (((⟨#[64, 64, 32, 45]⟩ : ByteArray) ++ t142) ++ (⟨#[32, 43]⟩ : ByteArray)).size + t143.size ≤ 9223372036854775807 then (if ((((⟨#[64, 64, 32, 45]⟩ : ByteArray) ++ t142) ++ (⟨#[32, 43]⟩ : ByteArray)) ++ t143).size + 4 ≤ 9223372036854775807 then (some (((((⟨#[64, 64, 32, 45]⟩ : ByteArray) ++ t142) ++ (⟨#[32, 43]⟩ : ByteArray)) ++ t143) ++ (⟨#[32, 64, 64, 10]⟩ : ByteArray))) else (none)) else (none))) else (none)) else (none))
theorem redpenref18_Head.mono : ∀ a0 a1 a2 a3 a4 k, LeO (redpenref18_Head.f k a0 a1 a2 a3 a4) (redpenref18_Head.f (k + 1) a0 a1 a2 a3 a4) := by
 intro a0 a1 a2 a3 a4 k
 unfold redpenref18_Head.f
 repeat' first
   | (with_reducible exact redpenref18_side.mono _ _ _)
   | (with_reducible exact LeO.refl _)
   | (with_reducible exact LeO.none _)
   | (with_reducible refine LeO.ite ?_ ?_)
   | (with_reducible refine LeO.bind ?_ (fun _ => ?_))
   | exact redpenref18_side.mono _ _ _
   | exact LeO.none _
   | refine LeO.ite ?_ ?_
   | refine LeO.bind ?_ (fun _ => ?_)
def redpenref18_Head.T1 : Bool × List (List Nat × List Nat) := (true, [([], []), ([0], [0]), ([], []), ([2], [2]), ([1, 3], [1, 3]), ([4], [4]), ([5], [5]), ([], []), ([7], [7]), ([], []), ([9], [9]), ([8, 10, 4], [8, 10]), ([6, 11], [6, 11]), ([12], [12]), ([13, 11, 0, 1, 2, 3, 4, 5, 6, 7, 8, 9, 10, 11, 12, 13], [13])])
def redpenref18_Head.B1 : List Nat := [0, 1, 0, 4, 15, 31, 63, 0, 128, 0, 512, 1951, 4095, 8191, 16383]
theorem redpenref18_Head.tab1 : rtab .any (opsOf Tryd.f35 1) = redpenref18_Head.T1 := by kernel_rfl
theorem redpenref18_Head.bits1 : waitsOk redpenref18_Head.T1.2 redpenref18_Head.B1 = true := by kernel_rfl
set_option maxHeartbeats 8000000 in
set_option maxRecDepth 100000 in
theorem redpenref18_Head.calls (k : Nat) (a0_0 : Int) (a0_1 : Int) (a0_2 : Int) (a0_3 : Int) (A0_4 : Option Addr) (c0_4 : Nat) (l0_4 : List (S29)) (r : ByteArray) (w : World) (hr0_4 : Kd.C k29 w A0_4 l0_4.length l0_4) (hc0_4 : l0_4.length ≤ c0_4) (h : redpenref18_Head.f k a0_0 a0_1 a0_2 a0_3 l0_4 = some r) :
  Calls Tryd.prog 35 #[.agg #[.int .i64 a0_0, .int .i64 a0_1, .int .i64 a0_2, .int .i64 a0_3, .slice A0_4 l0_4.length c0_4]] w fun e w' => e = .returned (.string r) ∧ Below w.heap.size w w' := by
 have hu26 := Tryd.underlying26
 have HR0_4 := Aside0.mk hr0_4
 have HC0_4 := Aside0.mk hc0_4
 clear hr0_4 hc0_4
 have HB := Aside0.mk (Below.refl w.heap.size w)
 have H : ((redpenref18_side.f k a0_0 a0_1).bind fun t142 => (if 4 + t142.size ≤ 9223372036854775807 then (if ((⟨#[64, 64, 32, 45]⟩ : ByteArray) ++ t142).size + 2 ≤ 9223372036854775807 then ((redpenref18_side.f k a0_2 a0_3).bind fun t143 => (if (((⟨#[64, 64, 32, 45]⟩ : ByteArray) ++ t142) ++ (⟨#[32, 43]⟩ : ByteArray)).size + t143.size ≤ 9223372036854775807 then (if ((((⟨#[64, 64, 32, 45]⟩ : ByteArray) ++ t142) ++ (⟨#[32, 43]⟩ : ByteArray)) ++ t143).size + 4 ≤ 9223372036854775807 then (some (((((⟨#[64, 64, 32, 45]⟩ : ByteArray) ++ t142) ++ (⟨#[32, 43]⟩ : ByteArray)) ++ t143) ++ (⟨#[32, 64, 64, 10]⟩ : ByteArray))) else (none)) else (none))) else (none)) else (none))) = some r := h
 clear h
 replace H := Option.bind_eq_some_iff.mp H
 obtain ⟨t142, A20, H⟩ := H
 replace H : (if 4 + t142.size ≤ 9223372036854775807 then (if ((⟨#[64, 64, 32, 45]⟩ : ByteArray) ++ t142).size + 2 ≤ 9223372036854775807 then ((redpenref18_side.f k a0_2 a0_3).bind fun t143 => (if (((⟨#[64, 64, 32, 45]⟩ : ByteArray) ++ t142) ++ (⟨#[32, 43]⟩ : ByteArray)).size + t143.size ≤ 9223372036854775807 then (if ((((⟨#[64, 64, 32, 45]⟩ : ByteArray) ++ t142) ++ (⟨#[32, 43]⟩ : ByteArray)) ++ t143).size + 4 ≤ 9223372036854775807 then (some (((((⟨#[64, 64, 32, 45]⟩ : ByteArray) ++ t142) ++ (⟨#[32, 43]⟩ : ByteArray)) ++ t143) ++ (⟨#[32, 64, 64, 10]⟩ : ByteArray))) else (none)) else (none))) else (none)) else (none)) = some r := H
 have A2 := Aside0.mk A20
 clear A20
 by_cases c3 : 4 + t142.size ≤ 9223372036854775807
 ·rw [if_pos c3] at H
  have c3b0 := eq_true c3
  have c3b1 : decide (4 + t142.size ≤ 9223372036854775807) = true := decide_eq_true c3
  try have c3b2 : (9223372036854775807 < 4 + t142.size) = False := eq_false (Nat.not_lt.2 c3)
  by_cases c4 : ((⟨#[64, 64, 32, 45]⟩ : ByteArray) ++ t142).size + 2 ≤ 9223372036854775807
  ·rw [if_pos c4] at H
   have c4b0 := eq_true c4
   have c4b1 : decide (((⟨#[64, 64, 32, 45]⟩ : ByteArray) ++ t142).size + 2 ≤ 9223372036854775807) = true := decide_eq_true c4
   try have c4b2 : (9223372036854775807 < ((⟨#[64, 64, 32, 45]⟩ : ByteArray) ++ t142).size + 2) = False := eq_false (Nat.not_lt.2 c4)
   try (have c4b4 := c4b2; simp only [ByteArray.size_append, show (⟨#[64, 64, 32, 45]⟩ : ByteArray).size = 4 from rfl] at c4b4)
   replace H := Option.bind_eq_some_iff.mp H
   obtain ⟨t143, A50, H⟩ := H
   replace H : (if (((⟨#[64, 64, 32, 45]⟩ : ByteArray) ++ t142) ++ (⟨#[32, 43]⟩ : ByteArray)).size + t143.size ≤ 9223372036854775807 then (if ((((⟨#[64, 64, 32, 45]⟩ : ByteArray) ++ t142) ++ (⟨#[32, 43]⟩ : ByteArray)) ++ t143).size + 4 ≤ 9223372036854775807 then (some (((((⟨#[64, 64, 32, 45]⟩ : ByteArray) ++ t142) ++ (⟨#[32, 43]⟩ : ByteArray)) ++ t143) ++ (⟨#[32, 64, 64, 10]⟩ : ByteArray))) else (none)) else (none)) = some r := H
   have A5 := Aside0.mk A50
   clear A50
   by_cases c6 : (((⟨#[64, 64, 32, 45]⟩ : ByteArray) ++ t142) ++ (⟨#[32, 43]⟩ : ByteArray)).size + t143.size ≤ 9223372036854775807
   ·rw [if_pos c6] at H
    have c6b0 := eq_true c6
    have c6b1 : decide ((((⟨#[64, 64, 32, 45]⟩ : ByteArray) ++ t142) ++ (⟨#[32, 43]⟩ : ByteArray)).size + t143.size ≤ 9223372036854775807) = true := decide_eq_true c6
    try have c6b2 : (9223372036854775807 < (((⟨#[64, 64, 32, 45]⟩ : ByteArray) ++ t142) ++ (⟨#[32, 43]⟩ : ByteArray)).size + t143.size) = False := eq_false (Nat.not_lt.2 c6)
    try (have c6b4 := c6b2; simp only [ByteArray.size_append, show (⟨#[32, 43]⟩ : ByteArray).size = 2 from rfl, show (⟨#[64, 64, 32, 45]⟩ : ByteArray).size = 4 from rfl] at c6b4)
    by_cases c7 : ((((⟨#[64, 64, 32, 45]⟩ : ByteArray) ++ t142) ++ (⟨#[32, 43]⟩ : ByteArray)) ++ t143).size + 4 ≤ 9223372036854775807
    ·rw [if_pos c7] at H
     have c7b0 := eq_true c7
     have c7b1 : decide (((((⟨#[64, 64, 32, 45]⟩ : ByteArray) ++ t142) ++ (⟨#[32, 43]⟩ : ByteArray)) ++ t143).size + 4 ≤ 9223372036854775807) = true := decide_eq_true c7
     try have c7b2 : (9223372036854775807 < ((((⟨#[64, 64, 32, 45]⟩ : ByteArray) ++ t142) ++ (⟨#[32, 43]⟩ : ByteArray)) ++ t143).size + 4) = False := eq_false (Nat.not_lt.2 c7)
     try (have c7b4 := c7b2; simp only [ByteArray.size_append, show (⟨#[32, 43]⟩ : ByteArray).size = 2 from rfl, show (⟨#[64, 64, 32, 45]⟩ : ByteArray).size = 4 from rfl] at c7b4)
     obtain rfl := Option.some.inj H
     go_enter Tryd.func35, Tryd.ntmps35
     try go_wp2_with (first | ((with_reducible refine gate_dst (N := 1) rfl ?_); refine box_event ?hg (N := 1) ?hd (cs := #[.int .i64 a0_0, .int .i64 a0_1, .int .i64 a0_2, .int .i64 a0_3, .slice A0_4 l0_4.length c0_4]) (t := 26) ?hr ?_; (case hd => rfl); (case hg => rfl); (case hr => first | (go_simp; done) | (go_simp; rfl)); intro gb141 hg w8 hbox hb; have n0_ := Aside0.mk (below_step (by repeat (first | (with_reducible first | exact HB.out | apply below_alloc | apply pw_below_drewN | apply below_drew1) | exact HB.out)) hb); have n1_ := Aside0.mk (hbox); have n2_ := Aside0.mk ((by rw [hg]; exact (below_size (by repeat (first | (with_reducible first | exact HB.out | apply below_alloc | apply pw_below_drewN | apply below_drew1) | exact HB.out))) : w.heap.size ≤ gb141)); have n3_ := Aside0.mk ((by rw [hg]; exact (below_size (by repeat (first | (with_reducible first | exact HB.out | apply below_alloc | apply pw_below_drewN | apply below_drew1) | exact HB.out))) : w.heap.size ≤ gb141)); clear HB; have HB := n0_; have BK141 := n1_; have GW141 := n2_; have GE141 := n3_; clear n0_ n1_ n2_ n3_; clear hb hbox hg))
     have n0_ := Aside0.mk (blk_drew BK141.out)
     have n1_ := Aside0.mk (below_drew1 HB.out)
     clear BK141
     clear HB
     have BK141 := n0_
     have HB := n1_
     clear n0_ n1_
     refine start_ (n := 15) (S := fun w' => w'.cell? ⟨gb141, 0, none⟩ = some (.int .i64 a0_0) ∧ w'.cell? ⟨gb141, 1, none⟩ = some (.int .i64 a0_1) ∧ w'.cell? ⟨gb141, 2, none⟩ = some (.int .i64 a0_2) ∧ w'.cell? ⟨gb141, 3, none⟩ = some (.int .i64 a0_3) ∧ w'.cell? ⟨gb141, 4, none⟩ = some (.slice A0_4 l0_4.length c0_4)) (ds := []) #[false, false, false, false, false, false, false, false, false, false, false, false, false, false, false] (by kernel_rfl) rfl rfl ⟨(blk_cell BK141.out 0).trans rfl, (blk_cell BK141.out 1).trans rfl, (blk_cell BK141.out 2).trans rfl, (blk_cell BK141.out 3).trans rfl, (blk_cell BK141.out 4).trans rfl⟩ (fun hHeld => ?_); refine with_tabW redpenref18_Head.tab1 redpenref18_Head.bits1 (fun HT_ HW_ => ?_)
     generalize w8.drew = w9 at BK141 HB hHeld ⊢
     refine pure_ (i := 0) (N := some 3) (v := ?_) (a' := ?_) #[true, false, false, false, false, false, false, false, false, false, false, false, false, false, false] rfl rfl (any_of HT_.out (by kernel_rfl)) (fun _ _ _ h => h) (Or.inl ⟨by rfl, ?_⟩) ?_ ?_
     rotate_left
     ·intro w'
      go_simp
      with_reducible rfl
     rotate_left
     ·simp only [Act.put, List.setIfInBounds_toArray, List.set_cons_zero, List.set_cons_succ, i64_w, i32_w]
      rfl
     refine pure_ (i := 2) (N := some 5) (v := ?_) (a' := ?_) #[true, false, true, false, false, false, false, false, false, false, false, false, false, false, false] rfl rfl (any_of HT_.out (by kernel_rfl)) (fun _ _ _ h => h) (Or.inl ⟨by rfl, ?_⟩) ?_ ?_
     rotate_left
     ·intro w'
      go_simp
      with_reducible rfl
     rotate_left
     ·simp only [Act.put, List.setIfInBounds_toArray, List.set_cons_zero, List.set_cons_succ, i64_w, i32_w]
      rfl
     refine pure_ (i := 7) (N := some 10) (v := ?_) (a' := ?_) #[true, false, true, false, false, false, false, true, false, false, false, false, false, false, false] rfl rfl (any_of HT_.out (by kernel_rfl)) (fun _ _ _ h => h) (Or.inl ⟨by rfl, ?_⟩) ?_ ?_
     rotate_left
     ·intro w'
      go_simp
      with_reducible rfl
     rotate_left
     ·simp only [Act.put, List.setIfInBounds_toArray, List.set_cons_zero, List.set_cons_succ, i64_w, i32_w]
      rfl
     refine pure_ (i := 9) (N := some 12) (v := ?_) (a' := ?_) #[true, false, true, false, false, false, false, true, false, true, false, false, false, false, false] rfl rfl (any_of HT_.out (by kernel_rfl)) (fun _ _ _ h => h) (Or.inl ⟨by rfl, ?_⟩) ?_ ?_
     rotate_left
     ·intro w'
      go_simp
      with_reducible rfl
     rotate_left
     ·simp only [Act.put, List.setIfInBounds_toArray, List.set_cons_zero, List.set_cons_succ, i64_w, i32_w]
      rfl
     refine take_ (i := 1) (N := some 4) (v := ?_) (a' := ?_) #[true, true, true, false, false, false, false, true, false, true, false, false, false, false, false] rfl rfl (take_ofW HT_.out HW_.out (by kernel_rfl)) (fun _ _ _ h => h) (Or.inl ⟨by rfl, ?_⟩) hHeld ?_ ?_
     rotate_left
     ·rintro w' ⟨s0, s1, s2, s3, s4⟩
      go_simp
      with_reducible rfl
     rotate_left
     ·simp only [Act.put, List.setIfInBounds_toArray, List.set_cons_zero, List.set_cons_succ, i64_w, i32_w]
      rfl
     refine take_ (i := 3) (N := some 6) (v := ?_) (a' := ?_) #[true, true, true, true, false, false, false, true, false, true, false, false, false, false, false] rfl rfl (take_ofW HT_.out HW_.out (by kernel_rfl)) (fun _ _ _ h => h) (Or.inl ⟨by rfl, ?_⟩) hHeld ?_ ?_
     rotate_left
     ·rintro w' ⟨s0, s1, s2, s3, s4⟩
      go_simp
      with_reducible rfl
     rotate_left
     ·simp only [Act.put, List.setIfInBounds_toArray, List.set_cons_zero, List.set_cons_succ, i64_w, i32_w]
      rfl
     refine take_ (i := 8) (N := some 11) (v := ?_) (a' := ?_) #[true, true, true, true, false, false, false, true, true, true, false, false, false, false, false] rfl rfl (take_ofW HT_.out HW_.out (by kernel_rfl)) (fun _ _ _ h => h) (Or.inl ⟨by rfl, ?_⟩) hHeld ?_ ?_
     rotate_left
     ·rintro w' ⟨s0, s1, s2, s3, s4⟩
      go_simp
      with_reducible rfl
     rotate_left
     ·simp only [Act.put, List.setIfInBounds_toArray, List.set_cons_zero, List.set_cons_succ, i64_w, i32_w]
      rfl
     refine take_ (i := 10) (N := some 13) (v := ?_) (a' := ?_) #[true, true, true, true, false, false, false, true, true, true, true, false, false, false, false] rfl rfl (take_ofW HT_.out HW_.out (by kernel_rfl)) (fun _ _ _ h => h) (Or.inl ⟨by rfl, ?_⟩) hHeld ?_ ?_
     rotate_left
     ·rintro w' ⟨s0, s1, s2, s3, s4⟩
      go_simp
      with_reducible rfl
     rotate_left
     ·simp only [Act.put, List.setIfInBounds_toArray, List.set_cons_zero, List.set_cons_succ, i64_w, i32_w]
      rfl
     refine one_ (i := 4) (N := some 7) #[true, true, true, true, true, false, false, true, true, true, true, false, false, false, false] rfl rfl (one_of HT_.out (by kernel_rfl)) (by decide) (fun K hK => ?_)
     refine goes_ Tryd.func57 (by kernel_rfl) rfl #[.int .i64 a0_0, .int .i64 a0_1] (by rfl) rfl rfl (by (try simp only [List.map_toArray, List.map_cons, List.map_nil]); first | done | rfl | (simp only [List.length_drop, List.length_take]; rfl)) ?_
     with_reducible refine (redpenref18_side.calls k a0_0 a0_1 t142 _ A2.out).mono ?_
     rintro e w10 ⟨rfl, hb⟩
     refine ⟨_, rfl, ?_⟩
     have n0_ := Aside0.mk (blk_below (g := gb141) (o := .cells #[.int .i64 a0_0, .int .i64 a0_1, .int .i64 a0_2, .int .i64 a0_3, .slice A0_4 l0_4.length c0_4] 26 (0, 0)) (by (with_reducible repeat (first | refine blk_drewN ?_ _ | refine blk_drew ?_ | refine blk_alloc ?_ _)); exact BK141.out) hb)
     have n1_ := Aside0.mk (below_step (by repeat (first | (with_reducible first | exact HB.out | apply below_alloc | apply pw_below_drewN | apply below_drew1 | refine below_set ?_ GE141.out) | exact HB.out)) hb)
     clear BK141
     clear HB
     have BK141 := n0_
     have HB := n1_
     clear n0_ n1_
     (try clear hb)
     (try clear hb2)
     (try clear hk)
     (try clear hi)
     refine hK.out _ _ ⟨(blk_cell BK141.out 0).trans rfl, (blk_cell BK141.out 1).trans rfl, (blk_cell BK141.out 2).trans rfl, (blk_cell BK141.out 3).trans rfl, (blk_cell BK141.out 4).trans rfl⟩ (fun hHeld => ?_)
     clear hK K
     refine norm_ (a' := ?_) ?_ ?_
     rotate_left
     ·show Act.put _ (some 7) _ = _
      simp only [Act.put, List.setIfInBounds_toArray, List.set_cons_zero, List.set_cons_succ, i64_w, i32_w]
      rfl
     refine pure_ (i := 5) (N := some 8) (v := ?_) (a' := ?_) #[true, true, true, true, true, true, false, true, true, true, true, false, false, false, false] rfl rfl (any_of HT_.out (by kernel_rfl)) (fun _ _ _ h => h) (Or.inl ⟨by rfl, ?_⟩) ?_ ?_
     rotate_left
     ·intro w'
      go_simp
      with_reducible rfl
     rotate_left
     ·simp only [Act.put, List.setIfInBounds_toArray, List.set_cons_zero, List.set_cons_succ, i64_w, i32_w]
      rfl
     refine pure_ (i := 6) (N := some 9) (v := ?_) (a' := ?_) #[true, true, true, true, true, true, true, true, true, true, true, false, false, false, false] rfl rfl (any_of HT_.out (by kernel_rfl)) (fun _ _ _ h => h) (Or.inl ⟨by rfl, ?_⟩) ?_ ?_
     rotate_left
     ·intro w'
      go_simp
      with_reducible rfl
     rotate_left
     ·simp only [Act.put, List.setIfInBounds_toArray, List.set_cons_zero, List.set_cons_succ, i64_w, i32_w]
      rfl
     refine one_ (i := 11) (N := some 14) #[true, true, true, true, true, true, true, true, true, true, true, true, false, false, false] rfl rfl (one_of HT_.out (by kernel_rfl)) (by decide) (fun K hK => ?_)
     refine goes_ Tryd.func57 (by kernel_rfl) rfl #[.int .i64 a0_2, .int .i64 a0_3] (by rfl) rfl rfl (by (try simp only [List.map_toArray, List.map_cons, List.map_nil]); first | done | rfl | (simp only [List.length_drop, List.length_take]; rfl)) ?_
     with_reducible refine (redpenref18_side.calls k a0_2 a0_3 t143 _ A5.out).mono ?_
     rintro e w11 ⟨rfl, hb⟩
     refine ⟨_, rfl, ?_⟩
     have n0_ := Aside0.mk (blk_below (g := gb141) (o := .cells #[.int .i64 a0_0, .int .i64 a0_1, .int .i64 a0_2, .int .i64 a0_3, .slice A0_4 l0_4.length c0_4] 26 (0, 0)) (by (with_reducible repeat (first | refine blk_drewN ?_ _ | refine blk_drew ?_ | refine blk_alloc ?_ _)); exact BK141.out) hb)
     have n1_ := Aside0.mk (below_step (by repeat (first | (with_reducible first | exact HB.out | apply below_alloc | apply pw_below_drewN | apply below_drew1 | refine below_set ?_ GE141.out) | exact HB.out)) hb)
     clear BK141
     clear HB
     have BK141 := n0_
     have HB := n1_
     clear n0_ n1_
     (try clear hb)
     (try clear hb2)
     (try clear hk)
     (try clear hi)
     refine hK.out _ _ ⟨(blk_cell BK141.out 0).trans rfl, (blk_cell BK141.out 1).trans rfl, (blk_cell BK141.out 2).trans rfl, (blk_cell BK141.out 3).trans rfl, (blk_cell BK141.out 4).trans rfl⟩ (fun hHeld => ?_)
     clear hK K
     refine norm_ (a' := ?_) ?_ ?_
     rotate_left
     ·show Act.put _ (some 14) _ = _
      simp only [Act.put, List.setIfInBounds_toArray, List.set_cons_zero, List.set_cons_succ, i64_w, i32_w]
      rfl
     refine pure_ (i := 12) (N := some 15) (v := ?_) (a' := ?_) #[true, true, true, true, true, true, true, true, true, true, true, true, true, false, false] rfl rfl (any_of HT_.out (by kernel_rfl)) (fun _ _ _ h => h) (Or.inl ⟨by rfl, ?_⟩) ?_ ?_
     rotate_left
     ·intro w'
      go_simp
      with_reducible rfl
     rotate_left
     ·simp only [Act.put, List.setIfInBounds_toArray, List.set_cons_zero, List.set_cons_succ, i64_w, i32_w]
      rfl
     refine pure_ (i := 13) (N := some 16) (v := ?_) (a' := ?_) #[true, true, true, true, true, true, true, true, true, true, true, true, true, true, false] rfl rfl (any_of HT_.out (by kernel_rfl)) (fun _ _ _ h => h) (Or.inl ⟨by rfl, ?_⟩) ?_ ?_
     rotate_left
     ·intro w'
      go_simp
      with_reducible rfl
     rotate_left
     ·simp only [Act.put, List.setIfInBounds_toArray, List.set_cons_zero, List.set_cons_succ, i64_w, i32_w]
      rfl
     refine pure_ (i := 14) (N := some 2) (v := ?_) (a' := ?_) #[true, true, true, true, true, true, true, true, true, true, true, true, true, true, true] rfl rfl (any_of HT_.out (by kernel_rfl)) (fun _ _ _ h => h) (Or.inl ⟨by rfl, ?_⟩) ?_ ?_
     rotate_left
     ·intro w'
      go_simp
      with_reducible rfl
     rotate_left
     ·simp only [Act.put, List.setIfInBounds_toArray, List.set_cons_zero, List.set_cons_succ, i64_w, i32_w]
      rfl
     refine done_ (done_of HT_.out (by kernel_rfl)) ?_
     try go_wp2
     go_ret
     exact ⟨by first | rfl | (simp [errW_none, errW_some] <;> rfl) | (simp [*, errW_none, errW_some] <;> rfl), by repeat (first | (with_reducible first | exact HB.out | apply below_alloc | apply pw_below_drewN | apply below_drew1 | refine below_set ?_ GE141.out) | exact HB.out)⟩
    ·rw [if_neg c7] at H
     exact absurd H (by simp)
   ·rw [if_neg c6] at H
    exact absurd H (by simp)
  ·rw [if_neg c4] at H
   exact absurd H (by simp)
 ·rw [if_neg c3] at H
  exact absurd H (by simp)

end Go.Proofs.YtjabpbnlpljlkaaDoor.PShowPrints
