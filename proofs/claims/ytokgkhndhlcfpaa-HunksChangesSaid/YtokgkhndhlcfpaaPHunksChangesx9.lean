-- x
import Derived.Test.YtokgkhndhlcfpaaPHunksChangesx0
namespace Go.Proofs.Ytokgkhndhlcfpaa.PHunksChanges
open Go.RowKit Go.Proofs.Ytokgkhndhlcfpaa.X Go.Proofs.YtokgkhndhlcfpaaW.PrintWords Go.Proofs.YtokgkhndhlcfpaaW.PrintLast Go.Proofs.YtokgkhndhlcfpaaW.PrintMore
attribute [local go_sem] max2_int min2_int max_two min_two max_three min_three max_four min_four   -- for this text's walks alone
set_option linter.unusedVariables false
set_option linter.unusedSimpArgs false

/-! ### redpenlaw19_Text: function 19 -/
def redpenlaw19_Text.l0 : Nat → Bool → List Int → List Int → Int → Int → Option (List Int)
 | 0, _, _, _, _, _ => none
 | k + 1, x1, x5, x8, x9, x10 => if x10 < x9 then (if 0 ≤ x10 then (if x10 < (x8.length : Int) then (if x10 ≥ 40 then (if x1 = true then (if (x5.length : Int) > 0 then (if 0 ≤ (wrap64 ((x5.length : Int) - 1)) then (if (wrap64 ((x5.length : Int) - 1)) ≤ (x5.length : Int) then (some (x5.take ((wrap64 ((x5.length : Int) - 1)) : Int).toNat)) else (none)) else (none)) else (some x5)) else (some x5)) else ((some (([(⟨#[97]⟩ : ByteArray), (⟨#[98]⟩ : ByteArray), (⟨#[99]⟩ : ByteArray), (⟨#[]⟩ : ByteArray), (⟨#[97, 13]⟩ : ByteArray), (⟨#[119, 111, 114, 100]⟩ : ByteArray)] : List ByteArray) : List ByteArray)).bind fun y323 => (if 0 ≤ (Int.tmod (rd x8 x10) 6) then (if (Int.tmod (rd x8 x10) 6) < (y323.length : Int) then (if x5.length + (rdOf ByteArray.empty y323 (Int.tmod (rd x8 x10) 6)).size < 140737488355328 then ((some (x5 ++ bytesOf (rdOf ByteArray.empty y323 (Int.tmod (rd x8 x10) 6)) : List Int)).bind fun y327 => (if y327.length < 140737488355328 then (redpenlaw19_Text.l0 k x1 (y327 ++ [10]) x8 x9 (wrap64 (x10 + 1))) else (none))) else (none)) else (none)) else (none)))) else (none)) else (none)) else (if x1 = true then (if (x5.length : Int) > 0 then (if 0 ≤ (wrap64 ((x5.length : Int) - 1)) then (if (wrap64 ((x5.length : Int) - 1)) ≤ (x5.length : Int) then (some (x5.take ((wrap64 ((x5.length : Int) - 1)) : Int).toNat)) else (none)) else (none)) else (some x5)) else (some x5))
def redpenlaw19_Text.f (k : Nat) (l0 : List Int) (a1 : Bool) : Option (List Int) := redpenlaw19_Text.l0 k a1 ([] : List Int) l0 (l0.length : Int) 0
theorem redpenlaw19_Text.mono_l : ∀ k, (∀ y0 y1 y2 y3 y4, LeO (redpenlaw19_Text.l0 k y0 y1 y2 y3 y4) (redpenlaw19_Text.l0 (k + 1) y0 y1 y2 y3 y4))
 | 0 => fun _ _ _ _ _ r h => by simp [redpenlaw19_Text.l0] at h
 | k + 1 => by
  have ih0 := redpenlaw19_Text.mono_l k
  ·intro y0 y1 y2 y3 y4
   unfold redpenlaw19_Text.l0
   repeat' first
   | (with_reducible exact ih0 _ _ _ _ _)
   | (with_reducible exact LeO.refl _)
   | (with_reducible exact LeO.none _)
   | (with_reducible refine LeO.ite ?_ ?_)
   | (with_reducible refine LeO.bind ?_ (fun _ => ?_))
   | exact ih0 _ _ _ _ _
   | exact LeO.none _
   | refine LeO.ite ?_ ?_
   | refine LeO.bind ?_ (fun _ => ?_)
theorem redpenlaw19_Text.mono : ∀ a0 a1 k, LeO (redpenlaw19_Text.f k a0 a1) (redpenlaw19_Text.f (k + 1) a0 a1) := by
 intro a0 a1 k
 have ih0 := redpenlaw19_Text.mono_l k
 unfold redpenlaw19_Text.f
 repeat' first
   | (with_reducible exact ih0 _ _ _ _ _)
   | (with_reducible exact LeO.refl _)
   | (with_reducible exact LeO.none _)
   | (with_reducible refine LeO.ite ?_ ?_)
   | (with_reducible refine LeO.bind ?_ (fun _ => ?_))
   | exact ih0 _ _ _ _ _
   | exact LeO.none _
   | refine LeO.ite ?_ ?_
   | refine LeO.bind ?_ (fun _ => ?_)
set_option maxHeartbeats 8000000 in
set_option maxRecDepth 100000 in
theorem redpenlaw19_Text.calls (k : Nat) (A0 : Option Addr) (c0 : Nat) (l0 : List Int) (a1 : Bool) (r : List Int) (w : World) (hr0 : Kd.C (Kd.int .u8) w A0 l0.length l0) (hc0 : l0.length ≤ c0) (h : redpenlaw19_Text.f k l0 a1 = some r) :
  Calls Try.prog 19 #[.slice A0 l0.length c0, .bool a1] w fun e w' => ∃ v0_ : Value, e = .returned (v0_) ∧ Kd.R (Kd.int .u8) 5 w' w.heap.size (fun _ => True) v0_ r ∧ Below w.heap.size w w' := by
 have HR0 := Aside0.mk hr0
 have HC0 := Aside0.mk hc0
 clear hr0 hc0
 have HB := Aside0.mk (Below.refl w.heap.size w)
 have H : (redpenlaw19_Text.l0 k a1 ([] : List Int) l0 (l0.length : Int) 0) = some r := h
 clear h
 have H' := Aside0.mk H
 clear H
 go_enter Try.func19, Try.ntmps19
 go_wp2
 go_loopg [5, 10] k (fun kq v5 v10 w' => ∃ (x5_1 : List Int) (x10_1 : Int), v10 = .int .i64 x10_1 ∧ Aside0 (redpenlaw19_Text.l0 kq a1 x5_1 l0 (l0.length : Int) x10_1 = some r) ∧ Aside0 (kq ≤ k) ∧ Aside0 (Kd.R (Kd.int .u8) 5 w' w.heap.size (fun _ => True) v5 x5_1) ∧ Aside0 (Below w.heap.size w w'))
 case atStart => exact ⟨(([] : List Int)), (0), (by first | rfl | (simp; done) | (simp [*]; done)), H', ⟨Nat.le_refl _⟩, ⟨by first | exact Kd.R_nil _ _ _ _ _ | exact Kd.N_nil _ _ _ _ _ | exact Kd.V_nil _ _ _ _ _ | exact Kd.Q_nil _ _ _ _ _ | exact Kd.S_nil _ _ _ _ _⟩, ⟨by repeat (first | (with_reducible first | exact HB.out | apply below_alloc | apply pw_below_drewN | apply below_drew1) | exact HB.out)⟩⟩
 case round =>
  clear H'
  (try clear c1); (try clear p2)
  obtain ⟨x5_1, x10_1, rfl, HA, HK1, HO_5, HB⟩ := hrel
  cases gk with
  | zero => exact absurd HA.out (by simp [redpenlaw19_Text.l0])
  | succ k1 =>
   have H := HA.out
   clear HA
   simp only [redpenlaw19_Text.l0] at H
   by_cases c3 : x10_1 < (l0.length : Int)
   ·rw [if_pos c3] at H
    have c3b0 : decide (x10_1 < (l0.length : Int)) = true := decide_eq_true c3
    clear c3
    by_cases c4 : 0 ≤ x10_1
    ·rw [if_pos c4] at H
     have c4b0 : decide (0 ≤ x10_1) = true := decide_eq_true c4
     clear c4
     by_cases c5 : x10_1 < (l0.length : Int)
     ·rw [if_pos c5] at H
      have c5b0 : decide (x10_1 < (l0.length : Int)) = true := decide_eq_true c5
      clear c5
      by_cases c6 : x10_1 ≥ 40
      ·rw [if_pos c6] at H
       have c6b0 : decide (40 ≤ x10_1) = true := decide_eq_true c6
       clear c6
       by_cases c7 : a1 = true
       ·subst c7
        have H1 : (if (x5_1.length : Int) > 0 then (if 0 ≤ (wrap64 ((x5_1.length : Int) - 1)) then (if (wrap64 ((x5_1.length : Int) - 1)) ≤ (x5_1.length : Int) then (some (x5_1.take ((wrap64 ((x5_1.length : Int) - 1)) : Int).toNat)) else (none)) else (none)) else (some x5_1)) = some r := by rw [if_pos rfl] at H; exact H
        clear H
        have H := H1
        clear H1
        by_cases c8 : (x5_1.length : Int) > 0
        ·rw [if_pos c8] at H
         have c8b0 : decide (0 < (x5_1.length : Int)) = true := decide_eq_true c8
         have c8b1 : decide (0 < x5_1.length) = true := decide_eq_true (by omega)
         clear c8
         obtain ⟨ji9, hji9⟩ : ∃ j_ : Int, (wrap64 ((x5_1.length : Int) - 1)) = j_ := ⟨_, rfl⟩
         replace H : (if 0 ≤ (ji9) then (if (ji9) ≤ (x5_1.length : Int) then (some (x5_1.take ((ji9) : Int).toNat)) else (none)) else (none)) = some r := by first | (rw [hji9] at H; exact H) | (simp only [hji9] at H ⊢; exact H)
         have hji9w : (IntKind.i64.wrap ((x5_1.length : Int) - 1)) = ji9 := (i64_w _).trans hji9
         by_cases c10 : 0 ≤ (ji9)
         ·rw [if_pos c10] at H
          have c10b0 := eq_true c10
          have c10b1 : decide (0 ≤ (ji9)) = true := decide_eq_true c10
          clear c10
          by_cases c11 : (ji9) ≤ (x5_1.length : Int)
          ·rw [if_pos c11] at H
           have c11b0 := eq_true c11
           have c11b1 : decide ((ji9) ≤ (x5_1.length : Int)) = true := decide_eq_true c11
           clear c11
           obtain ⟨y320, hy320⟩ : ∃ y_ : List Int, y_ = (x5_1.take ((ji9) : Int).toNat) := ⟨_, rfl⟩
           replace H : (some y320) = some r := by first | (rw [hy320]; with_reducible exact H) | (have H2_ := (Option.bind_some _ _).symm.trans H; rw [hy320]; with_reducible exact H2_) | (have H2_ := (Option.bind_some _ _).symm.trans H; with_reducible exact H2_) | with_reducible exact H | (rw [hy320]; exact H) | exact H
           have Ny320 := Aside0.mk hy320
           clear hy320
           obtain rfl := Option.some.inj H
           have p319 : 0 ≤ (x10_1 : Int) := of_decide_eq_true (by first | (with_reducible assumption) | assumption)
           have q319 : x10_1 < (l0.length : Int) := of_decide_eq_true (by first | (with_reducible assumption) | assumption)
           obtain ⟨ad319, e319, hx319_0⟩ := Kd.at_int HR0.out x10_1 p319 q319
           cases e319
           replace hx319_0 := (HB.out.cell (World.block_lt_of_cell? w _ hx319_0)).trans hx319_0
           replace p319 := eq_true p319
           replace q319 := eq_true q319
           obtain ⟨Ao12, co12, eo12⟩ := Kd.R_slice HO_5.out
           subst eo12
           have q13 : ((ji9) : Int) ≤ ((x5_1.length : Int) : Int) := of_decide_eq_true (by first | (with_reducible assumption) | assumption)
           obtain ⟨i013, hi013, _, hsz13, _⟩ := info_parts info5
           have hcut13 := cut_to (P := Try.prog) 24 5 .i64 Try.underlying24 hi013 Ao12 x5_1.length co12 (ji9) (of_decide_eq_true (by first | (with_reducible assumption) | assumption)) q13 (Kd.R_reads' HO_5.out).2.1
           have hr13 := Kd.R_take (m := ((ji9) : Int).toNat) HO_5.out (by omega)
           have hy13 : y320.length = ((ji9) : Int).toNat := (by rw [Ny320.out, List.length_take]; omega)
           rw [← Ny320.out] at hr13
           rw [← hy13] at hr13 hcut13
           clear hy13 hi013 hsz13 HO_5
           have HO322 := Aside0.mk hr13
           clear hr13
           replace q13 := eq_true q13
           go_wp2
           go_ret
           exact ⟨_, by first | rfl | (simp [errW_none, errW_some] <;> rfl) | (simp only [← hji9]; first | rfl | (simp [errW_none, errW_some] <;> rfl)) | (simp [*, errW_none, errW_some] <;> rfl), by (with_reducible repeat (first | apply Kd.R_alloc | apply Kd.R_drewN | apply Kd.R_drew)); exact HO322.out, by repeat (first | (with_reducible first | exact HB.out | apply below_alloc | apply pw_below_drewN | apply below_drew1) | exact HB.out)⟩
          ·rw [if_neg c11] at H
           exact absurd H (by simp)
         ·rw [if_neg c10] at H
          exact absurd H (by simp)
        ·rw [if_neg c8] at H
         have c8b0 : decide (0 < (x5_1.length : Int)) = false := decide_eq_false c8
         have c8b1 : decide (0 < x5_1.length) = false := decide_eq_false (by omega)
         clear c8
         obtain rfl := Option.some.inj H
         have p319 : 0 ≤ (x10_1 : Int) := of_decide_eq_true (by first | (with_reducible assumption) | assumption)
         have q319 : x10_1 < (l0.length : Int) := of_decide_eq_true (by first | (with_reducible assumption) | assumption)
         obtain ⟨ad319, e319, hx319_0⟩ := Kd.at_int HR0.out x10_1 p319 q319
         cases e319
         replace hx319_0 := (HB.out.cell (World.block_lt_of_cell? w _ hx319_0)).trans hx319_0
         replace p319 := eq_true p319
         replace q319 := eq_true q319
         obtain ⟨Ao14, co14, eo14⟩ := Kd.R_slice HO_5.out
         subst eo14
         go_wp2
         go_ret
         exact ⟨_, by first | rfl | (simp [errW_none, errW_some] <;> rfl) | (simp [*, errW_none, errW_some] <;> rfl), by (with_reducible repeat (first | apply Kd.R_alloc | apply Kd.R_drewN | apply Kd.R_drew)); exact HO_5.out, by repeat (first | (with_reducible first | exact HB.out | apply below_alloc | apply pw_below_drewN | apply below_drew1) | exact HB.out)⟩
       ·replace c7 := Bool.eq_false_iff.mpr c7
        subst c7
        have H1 : (some x5_1) = some r := by rw [if_neg (show ¬ (false = true) by decide)] at H; exact H
        clear H
        have H := H1
        clear H1
        obtain rfl := Option.some.inj H
        have p319 : 0 ≤ (x10_1 : Int) := of_decide_eq_true (by first | (with_reducible assumption) | assumption)
        have q319 : x10_1 < (l0.length : Int) := of_decide_eq_true (by first | (with_reducible assumption) | assumption)
        obtain ⟨ad319, e319, hx319_0⟩ := Kd.at_int HR0.out x10_1 p319 q319
        cases e319
        replace hx319_0 := (HB.out.cell (World.block_lt_of_cell? w _ hx319_0)).trans hx319_0
        replace p319 := eq_true p319
        replace q319 := eq_true q319
        go_wp2
        go_ret
        exact ⟨_, by first | rfl | (simp [errW_none, errW_some] <;> rfl) | (simp [*, errW_none, errW_some] <;> rfl), by (with_reducible repeat (first | apply Kd.R_alloc | apply Kd.R_drewN | apply Kd.R_drew)); exact HO_5.out, by repeat (first | (with_reducible first | exact HB.out | apply below_alloc | apply pw_below_drewN | apply below_drew1) | exact HB.out)⟩
      ·rw [if_neg c6] at H
       have c6b0 : decide (40 ≤ x10_1) = false := decide_eq_false c6
       clear c6
       obtain ⟨y323, hy323⟩ : ∃ y_ : List ByteArray, y_ = (([(⟨#[97]⟩ : ByteArray), (⟨#[98]⟩ : ByteArray), (⟨#[99]⟩ : ByteArray), (⟨#[]⟩ : ByteArray), (⟨#[97, 13]⟩ : ByteArray), (⟨#[119, 111, 114, 100]⟩ : ByteArray)] : List ByteArray)) := ⟨_, rfl⟩
       replace H : (if 0 ≤ (Int.tmod (rd l0 x10_1) 6) then (if (Int.tmod (rd l0 x10_1) 6) < (y323.length : Int) then (if x5_1.length + (rdOf ByteArray.empty y323 (Int.tmod (rd l0 x10_1) 6)).size < 140737488355328 then ((some (x5_1 ++ bytesOf (rdOf ByteArray.empty y323 (Int.tmod (rd l0 x10_1) 6)) : List Int)).bind fun y327 => (if y327.length < 140737488355328 then (redpenlaw19_Text.l0 k1 a1 (y327 ++ [10]) l0 (l0.length : Int) (wrap64 (x10_1 + 1))) else (none))) else (none)) else (none)) else (none)) = some r := by first | (rw [hy323]; with_reducible exact H) | (have H2_ := (Option.bind_some _ _).symm.trans H; rw [hy323]; with_reducible exact H2_) | (have H2_ := (Option.bind_some _ _).symm.trans H; with_reducible exact H2_) | with_reducible exact H | (rw [hy323]; exact H) | exact H
       have Ny323 := Aside0.mk hy323
       clear hy323
       obtain ⟨ji15, hji15⟩ : ∃ j_ : Int, (Int.tmod (rd l0 x10_1) 6) = j_ := ⟨_, rfl⟩
       replace H : (if 0 ≤ (ji15) then (if (ji15) < (y323.length : Int) then (if x5_1.length + (rdOf ByteArray.empty y323 (ji15)).size < 140737488355328 then ((some (x5_1 ++ bytesOf (rdOf ByteArray.empty y323 (ji15)) : List Int)).bind fun y327 => (if y327.length < 140737488355328 then (redpenlaw19_Text.l0 k1 a1 (y327 ++ [10]) l0 (l0.length : Int) (wrap64 (x10_1 + 1))) else (none))) else (none)) else (none)) else (none)) = some r := by first | (rw [hji15] at H; exact H) | (simp only [hji15] at H ⊢; exact H)
       by_cases c16 : 0 ≤ (ji15)
       ·rw [if_pos c16] at H
        have c16b0 : decide (0 ≤ (ji15)) = true := decide_eq_true c16
        clear c16
        by_cases c17 : (ji15) < (y323.length : Int)
        ·rw [if_pos c17] at H
         have c17b0 : decide ((ji15) < (y323.length : Int)) = true := decide_eq_true c17
         clear c17
         by_cases c18 : x5_1.length + (rdOf ByteArray.empty y323 (ji15)).size < 140737488355328
         ·rw [if_pos c18] at H
          have LMc18 := Aside0.mk c18
          clear c18
          obtain ⟨y327, hy327⟩ : ∃ y_ : List Int, y_ = (x5_1 ++ bytesOf (rdOf ByteArray.empty y323 (ji15))) := ⟨_, rfl⟩
          replace H : (if y327.length < 140737488355328 then (redpenlaw19_Text.l0 k1 a1 (y327 ++ [10]) l0 (l0.length : Int) (wrap64 (x10_1 + 1))) else (none)) = some r := by first | (rw [hy327]; with_reducible exact H) | (have H2_ := (Option.bind_some _ _).symm.trans H; rw [hy327]; with_reducible exact H2_) | (have H2_ := (Option.bind_some _ _).symm.trans H; with_reducible exact H2_) | with_reducible exact H | (rw [hy327]; exact H) | exact H
          have Ny327 := Aside0.mk hy327
          clear hy327
          by_cases c19 : y327.length < 140737488355328
          ·rw [if_pos c19] at H
           have LMc19 := Aside0.mk c19
           clear c19
           obtain ⟨y330, hy330⟩ : ∃ y_ : List Int, y_ = (y327 ++ [10]) := ⟨_, rfl⟩
           replace H : (redpenlaw19_Text.l0 k1 a1 y330 l0 (l0.length : Int) (wrap64 (x10_1 + 1))) = some r := by first | (rw [hy330]; with_reducible exact H) | (have H2_ := (Option.bind_some _ _).symm.trans H; rw [hy330]; with_reducible exact H2_) | (have H2_ := (Option.bind_some _ _).symm.trans H; with_reducible exact H2_) | with_reducible exact H | (rw [hy330]; exact H) | exact H
           have Ny330 := Aside0.mk hy330
           clear hy330
           have H' := Aside0.mk H
           clear H
           have p319 : 0 ≤ (x10_1 : Int) := of_decide_eq_true (by first | (with_reducible assumption) | assumption)
           have q319 : x10_1 < (l0.length : Int) := of_decide_eq_true (by first | (with_reducible assumption) | assumption)
           obtain ⟨ad319, e319, hx319_0⟩ := Kd.at_int HR0.out x10_1 p319 q319
           cases e319
           replace hx319_0 := (HB.out.cell (World.block_lt_of_cell? w _ hx319_0)).trans hx319_0
           replace p319 := eq_true p319
           replace q319 := eq_true q319
           go_wp2_with (first | ((with_reducible refine gate_dst (N := 18) rfl ?_); (try (refine gate_guard (by rfl) ?_; dsimp only)); refine Kd.R_lit Kd.string _ 9 ?hg (N := 18) ?hd (xs := ([(⟨#[97]⟩ : ByteArray), (⟨#[98]⟩ : ByteArray), (⟨#[99]⟩ : ByteArray), (⟨#[]⟩ : ByteArray), (⟨#[97, 13]⟩ : ByteArray), (⟨#[119, 111, 114, 100]⟩ : ByteArray)] : List ByteArray)) (inner := [.string (⟨#[97]⟩ : ByteArray), .string (⟨#[98]⟩ : ByteArray), .string (⟨#[99]⟩ : ByteArray), .string (⟨#[]⟩ : ByteArray), .string (⟨#[97, 13]⟩ : ByteArray), .string (⟨#[119, 111, 114, 100]⟩ : ByteArray)]) (ok := fun _ => True) (okp := fun _ => True) ?hr ?hp (fun _ hk => hk) trivial (Below.refl _ _) (Nat.le_refl _) (by simp) ?_; (case hd => rfl); (case hg => rfl); (case hr => first | (go_simp; done) | (go_simp; rfl)); (case hp => exact (Reps.one (show Kd.M Kd.string _ _ _ (⟨#[97]⟩ : ByteArray) [.string (⟨#[97]⟩ : ByteArray)] from rfl) (Reps.one (show Kd.M Kd.string _ _ _ (⟨#[98]⟩ : ByteArray) [.string (⟨#[98]⟩ : ByteArray)] from rfl) (Reps.one (show Kd.M Kd.string _ _ _ (⟨#[99]⟩ : ByteArray) [.string (⟨#[99]⟩ : ByteArray)] from rfl) (Reps.one (show Kd.M Kd.string _ _ _ (⟨#[]⟩ : ByteArray) [.string (⟨#[]⟩ : ByteArray)] from rfl) (Reps.one (show Kd.M Kd.string _ _ _ (⟨#[97, 13]⟩ : ByteArray) [.string (⟨#[97, 13]⟩ : ByteArray)] from rfl) (Reps.one (show Kd.M Kd.string _ _ _ (⟨#[119, 111, 114, 100]⟩ : ByteArray) [.string (⟨#[119, 111, 114, 100]⟩ : ByteArray)] from rfl) (Reps.none _ _)))))))); intro v324 w20 ho21 hb hg_ hnew_; clear hg_ hnew_; (first | rw [← Ny323.out] at ho21 | (simp only [Int.reduceToNat] at ho21; rw [← Ny323.out] at ho21)); have n0_ := Aside0.mk (Kd.R_below (by (with_reducible repeat (first | apply Kd.R_alloc | apply Kd.R_drewN | apply Kd.R_drew)); exact HO_5.out) hb); have n1_ := Aside0.mk (Kd.R_lower ho21 (below_size (by repeat (first | (with_reducible first | exact HB.out | apply below_alloc | apply pw_below_drewN | apply below_drew1) | exact HB.out)))); have n2_ := Aside0.mk (below_step (by repeat (first | (with_reducible first | exact HB.out | apply below_alloc | apply pw_below_drewN | apply below_drew1) | exact HB.out)) hb); clear HO_5; clear HB; have HO_5 := n0_; have HO325 := n1_; have HB := n2_; clear n0_ n1_ n2_; clear hb ho21; obtain ⟨Ao22, co22, eo22⟩ := Kd.R_slice HO325.out; subst eo22; have p326 : 0 ≤ ((ji15) : Int) := of_decide_eq_true (by first | (with_reducible assumption) | assumption); have q326 : (ji15) < (y323.length : Int) := of_decide_eq_true (by first | (with_reducible assumption) | assumption); obtain ⟨ad326, e326, hx326_0⟩ := Kd.at_string (Kd.R_reads' HO325.out).2.2 (ji15) p326 q326; cases e326; replace p326 := eq_true p326; replace q326 := eq_true q326) | (at_builtin; refine print_append_str (w0 := w) w.heap.size rfl (.tmp 17) _ 24 9 5 rfl Try.underlying24 Try.underlying9 info5 u5 x5_1 (rdOf ByteArray.empty y323 (ji15)) rfl rfl ?aO ?aB ?aS ?aL ?_; (case aB => exact (by repeat (first | (with_reducible first | exact HB.out | apply below_alloc | apply pw_below_drewN | apply below_drew1) | exact HB.out))); (case aO => exact (Kd.own_of_R (by (with_reducible repeat (first | apply Kd.R_alloc | apply Kd.R_drewN | apply Kd.R_drew)); exact HO_5.out))); (case aS => exact (below_size (by repeat (first | (with_reducible first | exact HB.out | apply below_alloc | apply pw_below_drewN | apply below_drew1) | exact HB.out)))); (case aL => have := LMc18.out; omega); intro v328 w23 ho0 hb hg; have ho := Kd.R_of_own (h1 := fun _ => rfl) (ok := fun _ => True) ho0 (fun _ _ => trivial); clear ho0; have hat := True.intro; rw [← Ny327.out] at ho; change Kd.R (Kd.int .u8) 5 w23 w.heap.size (fun _ => True) v328 y327 at ho; have n0_ := Aside0.mk (Kd.R_over' (by (with_reducible repeat (first | apply Kd.R_alloc | apply Kd.R_drewN | apply Kd.R_drew)); exact HO325.out) (Kd.R_typed (by (with_reducible repeat (first | apply Kd.R_alloc | apply Kd.R_drewN | apply Kd.R_drew)); exact HO_5.out)) (by decide) hg); have n1_ := Aside0.mk (hb); have n2_ := Aside0.mk (ho); clear HO325; clear HB; clear HO_5; have HO325 := n0_; have HB := n1_; have HO329 := n2_; clear n0_ n1_ n2_; clear ho hb hg hat) | ((with_reducible refine gate_builtin (b := .append) (xs := #[.tmp 24, .tmp 25]) rfl ?_); (try (refine gate_guard (by rfl) ?_; dsimp only)); at_builtin; refine Kd.R_append (Kd.int .u8) (w0 := w) w.heap.size rfl (.tmp 24) (.tmp 25) 24 5 (.int .u8 0) 1 rfl Try.underlying24 info5 rfl (by decide) (by omega) v328 y327 10 [.int .u8 10] (fun _ => True) (fun _ => False) rfl rfl ?aP (fun _ hk => hk.elim) ?aF ?aO ?aB ?aS ?aL ?_; (case aP => exact rfl); (case aB => exact (by repeat (first | (with_reducible first | exact HB.out | apply below_alloc | apply pw_below_drewN | apply below_drew1) | exact HB.out))); (case aF => exact (fun _ _ => trivial)); (case aO => exact (by (with_reducible repeat (first | apply Kd.R_alloc | apply Kd.R_drewN | apply Kd.R_drew)); exact HO329.out)); (case aS => exact (below_size (by repeat (first | (with_reducible first | exact HB.out | apply below_alloc | apply pw_below_drewN | apply below_drew1) | exact HB.out)))); (case aL => have := LMc19.out; omega); intro v331 w24 ho hb hg hat; rw [← Ny330.out] at ho; have n0_ := Aside0.mk (Kd.R_over' (by (with_reducible repeat (first | apply Kd.R_alloc | apply Kd.R_drewN | apply Kd.R_drew)); exact HO325.out) (Kd.R_typed (by (with_reducible repeat (first | apply Kd.R_alloc | apply Kd.R_drewN | apply Kd.R_drew)); exact HO329.out)) (by decide) hg); have n1_ := Aside0.mk (hb); have n2_ := Aside0.mk (ho); clear HO325; clear HB; clear HO329; have HO325 := n0_; have HB := n1_; have HO332 := n2_; clear n0_ n1_ n2_; clear ho hb hg hat))
           go_roundg k1
           case measure => have := HK1.out; omega
           case rel => exact ⟨(y330), (wrap64 (x10_1 + 1)), (by first | rfl | (simp; done) | (simp [*]; done)), H', ⟨by have := HK1.out; omega⟩, ⟨by (with_reducible repeat (first | apply Kd.R_alloc | apply Kd.R_drewN | apply Kd.R_drew)); exact HO332.out⟩, ⟨by repeat (first | (with_reducible first | exact HB.out | apply below_alloc | apply pw_below_drewN | apply below_drew1) | exact HB.out)⟩⟩
          ·rw [if_neg c19] at H
           exact absurd H (by simp)
         ·rw [if_neg c18] at H
          exact absurd H (by simp)
        ·rw [if_neg c17] at H
         exact absurd H (by simp)
       ·rw [if_neg c16] at H
        exact absurd H (by simp)
     ·rw [if_neg c5] at H
      exact absurd H (by simp)
    ·rw [if_neg c4] at H
     exact absurd H (by simp)
   ·rw [if_neg c3] at H
    have c3b0 : decide (x10_1 < (l0.length : Int)) = false := decide_eq_false c3
    clear c3
    by_cases c25 : a1 = true
    ·subst c25
     have H1 : (if (x5_1.length : Int) > 0 then (if 0 ≤ (wrap64 ((x5_1.length : Int) - 1)) then (if (wrap64 ((x5_1.length : Int) - 1)) ≤ (x5_1.length : Int) then (some (x5_1.take ((wrap64 ((x5_1.length : Int) - 1)) : Int).toNat)) else (none)) else (none)) else (some x5_1)) = some r := by rw [if_pos rfl] at H; exact H
     clear H
     have H := H1
     clear H1
     by_cases c26 : (x5_1.length : Int) > 0
     ·rw [if_pos c26] at H
      have c26b0 : decide (0 < (x5_1.length : Int)) = true := decide_eq_true c26
      have c26b1 : decide (0 < x5_1.length) = true := decide_eq_true (by omega)
      clear c26
      obtain ⟨ji27, hji27⟩ : ∃ j_ : Int, (wrap64 ((x5_1.length : Int) - 1)) = j_ := ⟨_, rfl⟩
      replace H : (if 0 ≤ (ji27) then (if (ji27) ≤ (x5_1.length : Int) then (some (x5_1.take ((ji27) : Int).toNat)) else (none)) else (none)) = some r := by first | (rw [hji27] at H; exact H) | (simp only [hji27] at H ⊢; exact H)
      have hji27w : (IntKind.i64.wrap ((x5_1.length : Int) - 1)) = ji27 := (i64_w _).trans hji27
      by_cases c28 : 0 ≤ (ji27)
      ·rw [if_pos c28] at H
       have c28b0 := eq_true c28
       have c28b1 : decide (0 ≤ (ji27)) = true := decide_eq_true c28
       clear c28
       by_cases c29 : (ji27) ≤ (x5_1.length : Int)
       ·rw [if_pos c29] at H
        have c29b0 := eq_true c29
        have c29b1 : decide ((ji27) ≤ (x5_1.length : Int)) = true := decide_eq_true c29
        clear c29
        obtain ⟨y333, hy333⟩ : ∃ y_ : List Int, y_ = (x5_1.take ((ji27) : Int).toNat) := ⟨_, rfl⟩
        replace H : (some y333) = some r := by first | (rw [hy333]; with_reducible exact H) | (have H2_ := (Option.bind_some _ _).symm.trans H; rw [hy333]; with_reducible exact H2_) | (have H2_ := (Option.bind_some _ _).symm.trans H; with_reducible exact H2_) | with_reducible exact H | (rw [hy333]; exact H) | exact H
        have Ny333 := Aside0.mk hy333
        clear hy333
        obtain rfl := Option.some.inj H
        obtain ⟨Ao30, co30, eo30⟩ := Kd.R_slice HO_5.out
        subst eo30
        have q31 : ((ji27) : Int) ≤ ((x5_1.length : Int) : Int) := of_decide_eq_true (by first | (with_reducible assumption) | assumption)
        obtain ⟨i031, hi031, _, hsz31, _⟩ := info_parts info5
        have hcut31 := cut_to (P := Try.prog) 24 5 .i64 Try.underlying24 hi031 Ao30 x5_1.length co30 (ji27) (of_decide_eq_true (by first | (with_reducible assumption) | assumption)) q31 (Kd.R_reads' HO_5.out).2.1
        have hr31 := Kd.R_take (m := ((ji27) : Int).toNat) HO_5.out (by omega)
        have hy31 : y333.length = ((ji27) : Int).toNat := (by rw [Ny333.out, List.length_take]; omega)
        rw [← Ny333.out] at hr31
        rw [← hy31] at hr31 hcut31
        clear hy31 hi031 hsz31 HO_5
        have HO335 := Aside0.mk hr31
        clear hr31
        replace q31 := eq_true q31
        go_wp2
        go_ret
        exact ⟨_, by first | rfl | (simp [errW_none, errW_some] <;> rfl) | (simp only [← hji27]; first | rfl | (simp [errW_none, errW_some] <;> rfl)) | (simp [*, errW_none, errW_some] <;> rfl), by (with_reducible repeat (first | apply Kd.R_alloc | apply Kd.R_drewN | apply Kd.R_drew)); exact HO335.out, by repeat (first | (with_reducible first | exact HB.out | apply below_alloc | apply pw_below_drewN | apply below_drew1) | exact HB.out)⟩
       ·rw [if_neg c29] at H
        exact absurd H (by simp)
      ·rw [if_neg c28] at H
       exact absurd H (by simp)
     ·rw [if_neg c26] at H
      have c26b0 : decide (0 < (x5_1.length : Int)) = false := decide_eq_false c26
      have c26b1 : decide (0 < x5_1.length) = false := decide_eq_false (by omega)
      clear c26
      obtain rfl := Option.some.inj H
      obtain ⟨Ao32, co32, eo32⟩ := Kd.R_slice HO_5.out
      subst eo32
      go_wp2
      go_ret
      exact ⟨_, by first | rfl | (simp [errW_none, errW_some] <;> rfl) | (simp [*, errW_none, errW_some] <;> rfl), by (with_reducible repeat (first | apply Kd.R_alloc | apply Kd.R_drewN | apply Kd.R_drew)); exact HO_5.out, by repeat (first | (with_reducible first | exact HB.out | apply below_alloc | apply pw_below_drewN | apply below_drew1) | exact HB.out)⟩
    ·replace c25 := Bool.eq_false_iff.mpr c25
     subst c25
     have H1 : (some x5_1) = some r := by rw [if_neg (show ¬ (false = true) by decide)] at H; exact H
     clear H
     have H := H1
     clear H1
     obtain rfl := Option.some.inj H
     go_wp2
     go_ret
     exact ⟨_, by first | rfl | (simp [errW_none, errW_some] <;> rfl) | (simp [*, errW_none, errW_some] <;> rfl), by (with_reducible repeat (first | apply Kd.R_alloc | apply Kd.R_drewN | apply Kd.R_drew)); exact HO_5.out, by repeat (first | (with_reducible first | exact HB.out | apply below_alloc | apply pw_below_drewN | apply below_drew1) | exact HB.out)⟩

/-! ### redpenref18_Common: function 25 -/
mutual
def redpenref18_Common.l0 : Nat → List ByteArray → List ByteArray → List Int → Int → Option (Int)
 | 0, _, _, _, _ => none
 | k + 1, x0, x1, x5, x6 => if x6 ≥ 0 then (if 0 ≤ (wrap64 ((x1.length : Int) + 1)) then (if (wrap64 ((x1.length : Int) + 1) : Int).toNat ≤ 35184372088832 then (redpenref18_Common.l1 k x0 x1 x5 x6 (wrap64 ((x1.length : Int) - 1)) (List.replicate (wrap64 ((x1.length : Int) + 1) : Int).toNat 0)) else (none)) else (none)) else (if 0 < (x5.length : Int) then (some (rd x5 0)) else (none))
def redpenref18_Common.l1 : Nat → List ByteArray → List ByteArray → List Int → Int → Int → List Int → Option (Int)
 | 0, _, _, _, _, _, _ => none
 | k + 1, x0, x1, x5, x6, x8, x23 => if x8 ≥ 0 then (if 0 ≤ x6 then (if x6 < (x0.length : Int) then (if 0 ≤ x8 then (if x8 < (x1.length : Int) then (if (rdOf ByteArray.empty x0 x6).toList = (rdOf ByteArray.empty x1 x8).toList then (if 0 ≤ (wrap64 (x8 + 1)) then (if (wrap64 (x8 + 1)) < (x5.length : Int) then (if x8 < (x23.length : Int) then (redpenref18_Common.l1 k x0 x1 x5 x6 (wrap64 (x8 - 1)) (x23.set (x8 : Int).toNat (wrap64 ((rd x5 (wrap64 (x8 + 1))) + 1)))) else (none)) else (none)) else (none)) else (if x8 < (x5.length : Int) then (if 0 ≤ (wrap64 (x8 + 1)) then (if (wrap64 (x8 + 1)) < (x23.length : Int) then (if (rd x5 x8) > (rd x23 (wrap64 (x8 + 1))) then (if x8 < (x23.length : Int) then (redpenref18_Common.l1 k x0 x1 x5 x6 (wrap64 (x8 - 1)) (x23.set (x8 : Int).toNat (rd x5 x8))) else (none)) else (if x8 < (x23.length : Int) then (redpenref18_Common.l1 k x0 x1 x5 x6 (wrap64 (x8 - 1)) (x23.set (x8 : Int).toNat (rd x23 (wrap64 (x8 + 1))))) else (none))) else (none)) else (none)) else (none))) else (none)) else (none)) else (none)) else (none)) else (redpenref18_Common.l0 k x0 x1 x23 (wrap64 (x6 - 1)))
end
def redpenref18_Common.f (k : Nat) (l0 : List ByteArray) (l1 : List ByteArray) : Option (Int) := if 0 ≤ (wrap64 ((l1.length : Int) + 1)) then (if (wrap64 ((l1.length : Int) + 1) : Int).toNat ≤ 35184372088832 then (redpenref18_Common.l0 k l0 l1 (List.replicate (wrap64 ((l1.length : Int) + 1) : Int).toNat 0) (wrap64 ((l0.length : Int) - 1))) else (none)) else (none)
theorem redpenref18_Common.mono_l : ∀ k, (∀ y0 y1 y2 y3, LeO (redpenref18_Common.l0 k y0 y1 y2 y3) (redpenref18_Common.l0 (k + 1) y0 y1 y2 y3)) ∧ (∀ y0 y1 y2 y3 y4 y5, LeO (redpenref18_Common.l1 k y0 y1 y2 y3 y4 y5) (redpenref18_Common.l1 (k + 1) y0 y1 y2 y3 y4 y5))
 | 0 => ⟨fun _ _ _ _ r h => by simp [redpenref18_Common.l0] at h, fun _ _ _ _ _ _ r h => by simp [redpenref18_Common.l1] at h⟩
 | k + 1 => by
  obtain ⟨ih0, ih1⟩ := redpenref18_Common.mono_l k
  refine ⟨?_, ?_⟩
  ·intro y0 y1 y2 y3
   unfold redpenref18_Common.l0
   repeat' first
   | (with_reducible exact ih0 _ _ _ _)
   | (with_reducible exact ih1 _ _ _ _ _ _)
   | (with_reducible exact LeO.refl _)
   | (with_reducible exact LeO.none _)
   | (with_reducible refine LeO.ite ?_ ?_)
   | (with_reducible refine LeO.bind ?_ (fun _ => ?_))
   | exact ih0 _ _ _ _
   | exact ih1 _ _ _ _ _ _
   | exact LeO.none _
   | refine LeO.ite ?_ ?_
   | refine LeO.bind ?_ (fun _ => ?_)
  ·intro y0 y1 y2 y3 y4 y5
   unfold redpenref18_Common.l1
   repeat' first
   | (with_reducible exact ih0 _ _ _ _)
   | (with_reducible exact ih1 _ _ _ _ _ _)
   | (with_reducible exact LeO.refl _)
   | (with_reducible exact LeO.none _)
   | (with_reducible refine LeO.ite ?_ ?_)
   | (with_reducible refine LeO.bind ?_ (fun _ => ?_))
   | exact ih0 _ _ _ _
   | exact ih1 _ _ _ _ _ _
   | exact LeO.none _
   | refine LeO.ite ?_ ?_
   | refine LeO.bind ?_ (fun _ => ?_)
theorem redpenref18_Common.mono : ∀ a0 a1 k, LeO (redpenref18_Common.f k a0 a1) (redpenref18_Common.f (k + 1) a0 a1) := by
 intro a0 a1 k
 obtain ⟨ih0, ih1⟩ := redpenref18_Common.mono_l k
 unfold redpenref18_Common.f
 repeat' first
   | (with_reducible exact ih0 _ _ _ _)
   | (with_reducible exact ih1 _ _ _ _ _ _)
   | (with_reducible exact LeO.refl _)
   | (with_reducible exact LeO.none _)
   | (with_reducible refine LeO.ite ?_ ?_)
   | (with_reducible refine LeO.bind ?_ (fun _ => ?_))
   | exact ih0 _ _ _ _
   | exact ih1 _ _ _ _ _ _
   | exact LeO.none _
   | refine LeO.ite ?_ ?_
   | refine LeO.bind ?_ (fun _ => ?_)
set_option maxHeartbeats 8000000 in
set_option maxRecDepth 100000 in
theorem redpenref18_Common.calls (k : Nat) (A0 : Option Addr) (c0 : Nat) (l0 : List ByteArray) (A1 : Option Addr) (c1 : Nat) (l1 : List ByteArray) (r : Int) (w : World) (hr0 : Kd.C Kd.string w A0 l0.length l0) (hc0 : l0.length ≤ c0) (hr1 : Kd.C Kd.string w A1 l1.length l1) (hc1 : l1.length ≤ c1) (h : redpenref18_Common.f k l0 l1 = some r) :
  Calls Try.prog 25 #[.slice A0 l0.length c0, .slice A1 l1.length c1] w fun e w' => e = .returned (.int .i64 r) ∧ Below w.heap.size w w' := by
 have HR0 := Aside0.mk hr0
 have HC0 := Aside0.mk hc0
 clear hr0 hc0
 have HR1 := Aside0.mk hr1
 have HC1 := Aside0.mk hc1
 clear hr1 hc1
 have HB := Aside0.mk (Below.refl w.heap.size w)
 have H : (if 0 ≤ (wrap64 ((l1.length : Int) + 1)) then (if (wrap64 ((l1.length : Int) + 1) : Int).toNat ≤ 35184372088832 then (redpenref18_Common.l0 k l0 l1 (List.replicate (wrap64 ((l1.length : Int) + 1) : Int).toNat 0) (wrap64 ((l0.length : Int) - 1))) else (none)) else (none)) = some r := h
 clear h
 obtain ⟨ji3, hji3⟩ : ∃ j_ : Int, (wrap64 ((l1.length : Int) + 1)) = j_ := ⟨_, rfl⟩
 replace H : (if 0 ≤ (ji3) then (if (ji3 : Int).toNat ≤ 35184372088832 then (redpenref18_Common.l0 k l0 l1 (List.replicate (ji3 : Int).toNat 0) (wrap64 ((l0.length : Int) - 1))) else (none)) else (none)) = some r := by first | (rw [hji3] at H; exact H) | (simp only [hji3] at H ⊢; exact H)
 have hji3w : (IntKind.i64.wrap ((l1.length : Int) + 1)) = ji3 := (i64_w _).trans hji3
 by_cases c4 : 0 ≤ (ji3)
 ·rw [if_pos c4] at H
  have c4b0 := eq_true c4
  have c4b1 : decide (0 ≤ (ji3)) = true := decide_eq_true c4
  clear c4
  by_cases c5 : (ji3 : Int).toNat ≤ 35184372088832
  ·rw [if_pos c5] at H
   have c5b0 := eq_true c5
   have c5b1 : decide ((ji3 : Int).toNat ≤ 35184372088832) = true := decide_eq_true c5
   clear c5
   obtain ⟨y336, hy336⟩ : ∃ y_ : List Int, y_ = (List.replicate (ji3 : Int).toNat 0) := ⟨_, rfl⟩
   replace H : (redpenref18_Common.l0 k l0 l1 y336 (wrap64 ((l0.length : Int) - 1))) = some r := by first | (rw [hy336]; with_reducible exact H) | (have H2_ := (Option.bind_some _ _).symm.trans H; rw [hy336]; with_reducible exact H2_) | (have H2_ := (Option.bind_some _ _).symm.trans H; with_reducible exact H2_) | with_reducible exact H | (rw [hy336]; exact H) | exact H
   have Ny336 := Aside0.mk hy336
   clear hy336
   have H' := Aside0.mk H
   clear H
   go_enter Try.func25, Try.ntmps25
   go_wp2_with (first | ((with_reducible refine gate_dst (N := 12) rfl ?_); refine Kd.R_make (Kd.int .i64) _ 3 rfl (N := 12) rfl 67 _ _ rfl ji3 rfl rfl Try.underlying67 (.int .i64 0) 8 info3 rfl (by decide) (by omega) 0 (ok := fun _ => True) (okp := fun _ => True) rfl (fun _ hk => hk) trivial (of_decide_eq_true (by first | (with_reducible assumption) | assumption)) (Nat.le_trans (Nat.mul_le_mul_right _ (of_decide_eq_true (by first | (with_reducible assumption) | assumption) : ji3.toNat ≤ 35184372088832)) (by omega)) (Below.refl _ _) (Nat.le_refl _) ?_; intro v337 w6 ho7 hb hg_ hnew_; clear hg_ hnew_; (first | rw [← Ny336.out] at ho7 | (simp only [Int.reduceToNat] at ho7; rw [← Ny336.out] at ho7)); have n0_ := Aside0.mk (Kd.R_lower ho7 (below_size (by repeat (first | (with_reducible first | exact HB.out | apply below_alloc | apply pw_below_drewN | apply below_drew1) | exact HB.out)))); have n1_ := Aside0.mk (below_step (by repeat (first | (with_reducible first | exact HB.out | apply below_alloc | apply pw_below_drewN | apply below_drew1) | exact HB.out)) hb); clear HB; have HO338 := n0_; have HB := n1_; clear n0_ n1_; clear hb ho7))
   repeat (go_quiet (fail); try go_wp2_with (fail))
   go_loopg [5, 6] k (fun kq v5 v6 w' => ∃ (x5_1 : List Int) (x6_1 : Int), v6 = .int .i64 x6_1 ∧ Aside0 (redpenref18_Common.l0 kq l0 l1 x5_1 x6_1 = some r) ∧ Aside0 (kq ≤ k) ∧ Aside0 (Kd.R (Kd.int .i64) 3 w' w.heap.size (fun _ => True) v5 x5_1) ∧ Aside0 (Below w.heap.size w w'))
   case atStart => exact ⟨(y336), (wrap64 ((l0.length : Int) - 1)), (by first | rfl | (simp; done) | (simp [*]; done)), H', ⟨Nat.le_refl _⟩, ⟨by (with_reducible repeat (first | apply Kd.R_alloc | apply Kd.R_drewN | apply Kd.R_drew)); exact HO338.out⟩, ⟨by repeat (first | (with_reducible first | exact HB.out | apply below_alloc | apply pw_below_drewN | apply below_drew1) | exact HB.out)⟩⟩
   case round =>
    clear H'
    (try clear c1); (try clear c2); (try clear p2); (try clear c4); (try clear c4b0); (try clear c4b1); (try clear c5); (try clear c5b0); (try clear c5b1); (try clear p6)
    obtain ⟨x5_1, x6_1, rfl, HA, HK1, HO_5, HB⟩ := hrel
    cases gk with
    | zero => exact absurd HA.out (by simp [redpenref18_Common.l0])
    | succ k1 =>
     have H := HA.out
     clear HA
     simp only [redpenref18_Common.l0] at H
     by_cases c8 : x6_1 ≥ 0
     ·rw [if_pos c8] at H
      have c8b0 : decide (0 ≤ x6_1) = true := decide_eq_true c8
      clear c8
      replace H : (if 0 ≤ (ji3) then (if (ji3 : Int).toNat ≤ 35184372088832 then (redpenref18_Common.l1 k1 l0 l1 x5_1 x6_1 (wrap64 ((l1.length : Int) - 1)) (List.replicate (ji3 : Int).toNat 0)) else (none)) else (none)) = some r := by first | (rw [hji3] at H; exact H) | (simp only [hji3] at H ⊢; exact H)
      have hji3w : (IntKind.i64.wrap ((l1.length : Int) + 1)) = ji3 := (i64_w _).trans hji3
      by_cases c10 : 0 ≤ (ji3)
      ·rw [if_pos c10] at H
       have c10b0 := eq_true c10
       have c10b1 : decide (0 ≤ (ji3)) = true := decide_eq_true c10
       clear c10
       by_cases c11 : (ji3 : Int).toNat ≤ 35184372088832
       ·rw [if_pos c11] at H
        have c11b0 := eq_true c11
        have c11b1 : decide ((ji3 : Int).toNat ≤ 35184372088832) = true := decide_eq_true c11
        clear c11
        obtain ⟨y340, hy340⟩ : ∃ y_ : List Int, y_ = (List.replicate (ji3 : Int).toNat 0) := ⟨_, rfl⟩
        replace H : (redpenref18_Common.l1 k1 l0 l1 x5_1 x6_1 (wrap64 ((l1.length : Int) - 1)) y340) = some r := by first | (rw [hy340]; with_reducible exact H) | (have H2_ := (Option.bind_some _ _).symm.trans H; rw [hy340]; with_reducible exact H2_) | (have H2_ := (Option.bind_some _ _).symm.trans H; with_reducible exact H2_) | with_reducible exact H | (rw [hy340]; exact H) | exact H
        have Ny340 := Aside0.mk hy340
        clear hy340
        have H' := Aside0.mk H
        clear H
        go_wp2_with (first | ((with_reducible refine gate_dst (N := 23) rfl ?_); refine Kd.R_make (Kd.int .i64) _ 3 rfl (N := 23) rfl 67 _ _ rfl ji3 rfl rfl Try.underlying67 (.int .i64 0) 8 info3 rfl (by decide) (by omega) 0 (ok := fun _ => True) (okp := fun _ => True) rfl (fun _ hk => hk) trivial (of_decide_eq_true (by first | (with_reducible assumption) | assumption)) (Nat.le_trans (Nat.mul_le_mul_right _ (of_decide_eq_true (by first | (with_reducible assumption) | assumption) : ji3.toNat ≤ 35184372088832)) (by omega)) (Below.refl _ _) (Nat.le_refl _) ?_; intro v341 w12 ho13 hb hg_ hnew_; clear hg_ hnew_; (first | rw [← Ny340.out] at ho13 | (simp only [Int.reduceToNat] at ho13; rw [← Ny340.out] at ho13)); have n0_ := Aside0.mk (Kd.R_elder' (by (with_reducible repeat (first | apply Kd.R_alloc | apply Kd.R_drewN | apply Kd.R_drew)); exact HO_5.out) (Kd.R_base ho13) hb); have n1_ := Aside0.mk (Kd.R_lower (Kd.R_new' ho13 (Kd.R_lt (by (with_reducible repeat (first | apply Kd.R_alloc | apply Kd.R_drewN | apply Kd.R_drew)); exact HO_5.out))) (below_size (by repeat (first | (with_reducible first | exact HB.out | apply below_alloc | apply pw_below_drewN | apply below_drew1) | exact HB.out)))); have n2_ := Aside0.mk (below_step (by repeat (first | (with_reducible first | exact HB.out | apply below_alloc | apply pw_below_drewN | apply below_drew1) | exact HB.out)) hb); clear HO_5; clear HB; have HO_5 := n0_; have HO342 := n1_; have HB := n2_; clear n0_ n1_ n2_; clear hb ho13))
        repeat (go_quiet (fail); try go_wp2_with (fail))
        go_loopg [8] k1 (fun kq v8 w' => ∃ (x8_2 : Int) (x23_2 : List Int), v8 = .int .i64 x8_2 ∧ Aside0 (redpenref18_Common.l1 kq l0 l1 x5_1 x6_1 x8_2 x23_2 = some r) ∧ Aside0 (kq ≤ k1) ∧ Aside0 (Kd.R (Kd.int .i64) 3 w' w.heap.size (fun k_ => some k_ ≠ (v341 : Value).ownBlock) u5 x5_1) ∧ Aside0 (Kd.R (Kd.int .i64) 3 w' w.heap.size (fun k_ => some k_ ≠ (u5 : Value).ownBlock) v341 x23_2) ∧ Aside0 (Below w.heap.size w w'))
        case atStart => exact ⟨(wrap64 ((l1.length : Int) - 1)), (y340), (by first | rfl | (simp; done) | (simp [*]; done)), H', ⟨Nat.le_refl _⟩, ⟨by (with_reducible repeat (first | apply Kd.R_alloc | apply Kd.R_drewN | apply Kd.R_drew)); exact Kd.R_mono HO_5.out (fun _ hk => hk.2)⟩, ⟨by (with_reducible repeat (first | apply Kd.R_alloc | apply Kd.R_drewN | apply Kd.R_drew)); exact Kd.R_mono HO342.out (fun _ hk => hk.2)⟩, ⟨by repeat (first | (with_reducible first | exact HB.out | apply below_alloc | apply pw_below_drewN | apply below_drew1) | exact HB.out)⟩⟩
        case round =>
         clear H'
         (try clear c1); (try clear c2); (try clear p2); (try clear c4); (try clear c4b0); (try clear c4b1); (try clear c5); (try clear c5b0); (try clear c5b1); (try clear p6); (try clear c8); (try clear c8b0); (try clear c10); (try clear c10b0); (try clear c10b1); (try clear c11); (try clear c11b0); (try clear c11b1); (try clear p2); (try clear p6)
         obtain ⟨x8_2, x23_2, rfl, HA, HK2, HO_5, HO_23, HB⟩ := hrel
         cases gk with
         | zero => exact absurd HA.out (by simp [redpenref18_Common.l1])
         | succ k2 =>
          have H := HA.out
          clear HA
          simp only [redpenref18_Common.l1] at H
          by_cases c14 : x8_2 ≥ 0
          ·rw [if_pos c14] at H
           have c14b0 : decide (0 ≤ x8_2) = true := decide_eq_true c14
           clear c14
           by_cases c15 : 0 ≤ x6_1
           ·rw [if_pos c15] at H
            have c15b0 : decide (0 ≤ x6_1) = true := decide_eq_true c15
            clear c15
            by_cases c16 : x6_1 < (l0.length : Int)
            ·rw [if_pos c16] at H
             have c16b0 : decide (x6_1 < (l0.length : Int)) = true := decide_eq_true c16
             clear c16
             by_cases c17 : 0 ≤ x8_2
             ·rw [if_pos c17] at H
              have c17b0 : decide (0 ≤ x8_2) = true := decide_eq_true c17
              clear c17
              by_cases c18 : x8_2 < (l1.length : Int)
              ·rw [if_pos c18] at H
               have c18b0 : decide (x8_2 < (l1.length : Int)) = true := decide_eq_true c18
               clear c18
               by_cases c19 : (rdOf ByteArray.empty l0 x6_1).toList = (rdOf ByteArray.empty l1 x8_2).toList
               ·rw [if_pos c19] at H
                have c19b0 : ((rdOf ByteArray.empty l0 x6_1).toList == (rdOf ByteArray.empty l1 x8_2).toList) = true := beq_iff_eq.mpr c19
                have c19b1 : ((rdOf ByteArray.empty l0 x6_1).toList != (rdOf ByteArray.empty l1 x8_2).toList) = false := bne_eq_false_iff_eq.mpr c19
                clear c19
                obtain ⟨ji20, hji20⟩ : ∃ j_ : Int, (wrap64 (x8_2 + 1)) = j_ := ⟨_, rfl⟩
                replace H : (if 0 ≤ (ji20) then (if (ji20) < (x5_1.length : Int) then (if x8_2 < (x23_2.length : Int) then (redpenref18_Common.l1 k2 l0 l1 x5_1 x6_1 (wrap64 (x8_2 - 1)) (x23_2.set (x8_2 : Int).toNat (wrap64 ((rd x5_1 (ji20)) + 1)))) else (none)) else (none)) else (none)) = some r := by first | (rw [hji20] at H; exact H) | (simp only [hji20] at H ⊢; exact H)
                have hji20w : (IntKind.i64.wrap (x8_2 + 1)) = ji20 := (i64_w _).trans hji20
                by_cases c21 : 0 ≤ (ji20)
                ·rw [if_pos c21] at H
                 have c21b0 : decide (0 ≤ (ji20)) = true := decide_eq_true c21
                 clear c21
                 by_cases c22 : (ji20) < (x5_1.length : Int)
                 ·rw [if_pos c22] at H
                  have c22b0 : decide ((ji20) < (x5_1.length : Int)) = true := decide_eq_true c22
                  clear c22
                  by_cases c23 : x8_2 < (x23_2.length : Int)
                  ·rw [if_pos c23] at H
                   have c23b0 : decide (x8_2 < (x23_2.length : Int)) = true := decide_eq_true c23
                   clear c23
                   obtain ⟨y346, hy346⟩ : ∃ y_ : List Int, y_ = (x23_2.set (x8_2 : Int).toNat (wrap64 ((rd x5_1 (ji20)) + 1))) := ⟨_, rfl⟩
                   replace H : (redpenref18_Common.l1 k2 l0 l1 x5_1 x6_1 (wrap64 (x8_2 - 1)) y346) = some r := by first | (rw [hy346]; with_reducible exact H) | (have H2_ := (Option.bind_some _ _).symm.trans H; rw [hy346]; with_reducible exact H2_) | (have H2_ := (Option.bind_some _ _).symm.trans H; with_reducible exact H2_) | with_reducible exact H | (rw [hy346]; exact H) | exact H
                   have Ny346 := Aside0.mk hy346
                   clear hy346
                   have H' := Aside0.mk H
                   clear H
                   have p343 : 0 ≤ (x6_1 : Int) := of_decide_eq_true (by first | (with_reducible assumption) | assumption)
                   have q343 : x6_1 < (l0.length : Int) := of_decide_eq_true (by first | (with_reducible assumption) | assumption)
                   obtain ⟨ad343, e343, hx343_0⟩ := Kd.at_string HR0.out x6_1 p343 q343
                   cases e343
                   replace hx343_0 := (HB.out.cell (World.block_lt_of_cell? w _ hx343_0)).trans hx343_0
                   replace p343 := eq_true p343
                   replace q343 := eq_true q343
                   have p344 : 0 ≤ (x8_2 : Int) := of_decide_eq_true (by first | (with_reducible assumption) | assumption)
                   have q344 : x8_2 < (l1.length : Int) := of_decide_eq_true (by first | (with_reducible assumption) | assumption)
                   obtain ⟨ad344, e344, hx344_0⟩ := Kd.at_string HR1.out x8_2 p344 q344
                   cases e344
                   replace hx344_0 := (HB.out.cell (World.block_lt_of_cell? w _ hx344_0)).trans hx344_0
                   replace p344 := eq_true p344
                   replace q344 := eq_true q344
                   obtain ⟨Ao25, co25, eo25⟩ := Kd.R_slice HO_5.out
                   subst eo25
                   have p345 : 0 ≤ ((ji20) : Int) := of_decide_eq_true (by first | (with_reducible assumption) | assumption)
                   have q345 : (ji20) < (x5_1.length : Int) := of_decide_eq_true (by first | (with_reducible assumption) | assumption)
                   obtain ⟨ad345, e345, hx345_0⟩ := Kd.at_int (Kd.R_reads' HO_5.out).2.2 (ji20) p345 q345
                   cases e345
                   replace p345 := eq_true p345
                   replace q345 := eq_true q345
                   have p24 : 0 ≤ (x8_2 : Int) := of_decide_eq_true (by first | (with_reducible assumption) | assumption)
                   have q24 : (x8_2 : Int) < ((x23_2.length : Int) : Int) := of_decide_eq_true (by first | (with_reducible assumption) | assumption)
                   obtain ⟨go24, co24, eo24, gb24, gl24, cl24, HG24⟩ := Kd.R_form HO_23.out (by omega)
                   (first | cases eo24 | (injection eo24 with ea_ en_ ec_; (first | subst ea_ | (injection ea_ with ea_; subst ea_)); subst ec_; clear en_))
                   have GB24 := Aside0.mk gb24
                   have GG24 := Aside0.mk HG24
                   clear gb24 gl24 HG24
                   obtain ⟨hx24_0, hf24_0⟩ := Kd.R_celln 0 HO_23.out (x8_2 : Int) p24 q24
                   replace p24 := eq_true p24
                   replace q24 := eq_true q24
                   have HP26 := Kd.R_putg HO_23.out (x8_2 : Int) (wrap64 ((rd x5_1 (ji20)) + 1))
                   go_wp2_with (fail)
                   repeat (go_quiet (fail); try go_wp2_with (first | ((with_reducible refine gate_store (t := 3) (p := 48) rfl ?_); (try (rw [drewN_self wr]; generalize hq_ : World.drewN wr _ = wr; have n0_ := Aside0.mk (Kd.R_at hq_ HO_5.out); have n1_ := Aside0.mk (Kd.R_at hq_ HO_23.out); have n2_ := Aside0.mk (below_at hq_ HB.out); clear hq_ HO_5 HO_23 HB; have HO_5 := n0_; have HO_23 := n1_; have HB := n2_; clear n0_ n1_ n2_; (try (obtain ⟨hx24_0, hf24_0⟩ := Kd.R_celln 0 HO_23.out (x8_2 : Int) (of_eq_true p24) (of_eq_true q24))); (try (have HP26 := Kd.R_putg HO_23.out (x8_2 : Int) (wrap64 ((rd x5_1 (ji20)) + 1)))))); refine store_event (t := 3) (p := 48) (v := ?vo_w27) (w1 := (wr.setCell ⟨go24, (x8_2 : Int).toNat, none⟩ (.int .i64 (wrap64 ((rd x5_1 (ji20)) + 1))))) ?hg ?ho ?hn ?hr ?_; (case ho => rfl); (case hg => rfl); (case hn => rfl); (case hr => first | (go_simp; done) | (go_simp; rfl)); intro w27 hw; have hg : wr.grownBy w27 (some go24) := (by rw [hw]; exact HP26.2); have hp_ : Kd.R (Kd.int .i64) 3 w27 w.heap.size (fun k_ => some k_ ≠ (.slice (some ad345) x5_1.length co25 : Value).ownBlock) (.slice (some ⟨go24, 0, none⟩) x23_2.length co24) y346 := (by rw [hw, Ny346.out]; exact HP26.1); clear HP26; have n0_ := Aside0.mk (Kd.R_after (v := (.slice (some ⟨go24, 0, none⟩) x23_2.length co24)) (v1 := (.slice (some ⟨go24, 0, none⟩) x23_2.length co24)) (ok := (fun _ => True)) (by (with_reducible repeat (first | apply Kd.R_alloc | apply Kd.R_drewN | apply Kd.R_drew)); exact Kd.R_mono HO_5.out (fun _ hk => ⟨trivial, hk⟩)) hg (.inl rfl)); have n1_ := Aside0.mk (hp_); have n2_ := Aside0.mk ((by rw [hw]; exact below_set (HB.out) GB24.out : Below w.heap.size w w27)); clear HO_5; clear HO_23; clear HB; have HO_5 := n0_; have HO_23 := n1_; have HB := n2_; clear n0_ n1_ n2_; clear hg hw hp_)))
                   go_roundg k2
                   case measure => have := HK1.out; have := HK2.out; omega
                   case rel => exact ⟨(wrap64 (x8_2 - 1)), (y346), (by first | rfl | (simp; done) | (simp [*]; done)), H', ⟨by have := HK1.out; have := HK2.out; omega⟩, ⟨by (with_reducible repeat (first | apply Kd.R_alloc | apply Kd.R_drewN | apply Kd.R_drew)); exact Kd.R_mono HO_5.out (fun _ hk => hk.2)⟩, ⟨by (with_reducible repeat (first | apply Kd.R_alloc | apply Kd.R_drewN | apply Kd.R_drew)); exact HO_23.out⟩, ⟨by repeat (first | (with_reducible first | exact HB.out | apply below_alloc | apply pw_below_drewN | apply below_drew1) | exact HB.out)⟩⟩
                  ·rw [if_neg c23] at H
                   exact absurd H (by simp)
                 ·rw [if_neg c22] at H
                  exact absurd H (by simp)
                ·rw [if_neg c21] at H
                 exact absurd H (by simp)
               ·rw [if_neg c19] at H
                have c19b0 : ((rdOf ByteArray.empty l0 x6_1).toList == (rdOf ByteArray.empty l1 x8_2).toList) = false := beq_eq_false_iff_ne.mpr c19
                have c19b1 : ((rdOf ByteArray.empty l0 x6_1).toList != (rdOf ByteArray.empty l1 x8_2).toList) = true := bne_iff_ne.mpr c19
                by_cases c28 : x8_2 < (x5_1.length : Int)
                ·rw [if_pos c28] at H
                 have c28b0 : decide (x8_2 < (x5_1.length : Int)) = true := decide_eq_true c28
                 clear c28
                 obtain ⟨ji29, hji29⟩ : ∃ j_ : Int, (wrap64 (x8_2 + 1)) = j_ := ⟨_, rfl⟩
                 replace H : (if 0 ≤ (ji29) then (if (ji29) < (x23_2.length : Int) then (if (rd x5_1 x8_2) > (rd x23_2 (ji29)) then (if x8_2 < (x23_2.length : Int) then (redpenref18_Common.l1 k2 l0 l1 x5_1 x6_1 (wrap64 (x8_2 - 1)) (x23_2.set (x8_2 : Int).toNat (rd x5_1 x8_2))) else (none)) else (if x8_2 < (x23_2.length : Int) then (redpenref18_Common.l1 k2 l0 l1 x5_1 x6_1 (wrap64 (x8_2 - 1)) (x23_2.set (x8_2 : Int).toNat (rd x23_2 (ji29)))) else (none))) else (none)) else (none)) = some r := by first | (rw [hji29] at H; exact H) | (simp only [hji29] at H ⊢; exact H)
                 have hji29w : (IntKind.i64.wrap (x8_2 + 1)) = ji29 := (i64_w _).trans hji29
                 by_cases c30 : 0 ≤ (ji29)
                 ·rw [if_pos c30] at H
                  have c30b0 : decide (0 ≤ (ji29)) = true := decide_eq_true c30
                  clear c30
                  by_cases c31 : (ji29) < (x23_2.length : Int)
                  ·rw [if_pos c31] at H
                   have c31b0 : decide ((ji29) < (x23_2.length : Int)) = true := decide_eq_true c31
                   clear c31
                   by_cases c32 : (rd x5_1 x8_2) > (rd x23_2 (ji29))
                   ·rw [if_pos c32] at H
                    have c32b0 : decide ((rd x23_2 (ji29)) < (rd x5_1 x8_2)) = true := decide_eq_true c32
                    clear c32
                    by_cases c33 : x8_2 < (x23_2.length : Int)
                    ·rw [if_pos c33] at H
                     have c33b0 : decide (x8_2 < (x23_2.length : Int)) = true := decide_eq_true c33
                     clear c33
                     obtain ⟨y350, hy350⟩ : ∃ y_ : List Int, y_ = (x23_2.set (x8_2 : Int).toNat (rd x5_1 x8_2)) := ⟨_, rfl⟩
                     replace H : (redpenref18_Common.l1 k2 l0 l1 x5_1 x6_1 (wrap64 (x8_2 - 1)) y350) = some r := by first | (rw [hy350]; with_reducible exact H) | (have H2_ := (Option.bind_some _ _).symm.trans H; rw [hy350]; with_reducible exact H2_) | (have H2_ := (Option.bind_some _ _).symm.trans H; with_reducible exact H2_) | with_reducible exact H | (rw [hy350]; exact H) | exact H
                     have Ny350 := Aside0.mk hy350
                     clear hy350
                     have H' := Aside0.mk H
                     clear H
                     have p343 : 0 ≤ (x6_1 : Int) := of_decide_eq_true (by first | (with_reducible assumption) | assumption)
                     have q343 : x6_1 < (l0.length : Int) := of_decide_eq_true (by first | (with_reducible assumption) | assumption)
                     obtain ⟨ad343, e343, hx343_0⟩ := Kd.at_string HR0.out x6_1 p343 q343
                     cases e343
                     replace hx343_0 := (HB.out.cell (World.block_lt_of_cell? w _ hx343_0)).trans hx343_0
                     replace p343 := eq_true p343
                     replace q343 := eq_true q343
                     have p344 : 0 ≤ (x8_2 : Int) := of_decide_eq_true (by first | (with_reducible assumption) | assumption)
                     have q344 : x8_2 < (l1.length : Int) := of_decide_eq_true (by first | (with_reducible assumption) | assumption)
                     obtain ⟨ad344, e344, hx344_0⟩ := Kd.at_string HR1.out x8_2 p344 q344
                     cases e344
                     replace hx344_0 := (HB.out.cell (World.block_lt_of_cell? w _ hx344_0)).trans hx344_0
                     replace p344 := eq_true p344
                     replace q344 := eq_true q344
                     obtain ⟨Ao35, co35, eo35⟩ := Kd.R_slice HO_5.out
                     subst eo35
                     have p347 : 0 ≤ (x8_2 : Int) := of_decide_eq_true (by first | (with_reducible assumption) | assumption)
                     have q347 : x8_2 < (x5_1.length : Int) := of_decide_eq_true (by first | (with_reducible assumption) | assumption)
                     obtain ⟨ad347, e347, hx347_0⟩ := Kd.at_int (Kd.R_reads' HO_5.out).2.2 x8_2 p347 q347
                     cases e347
                     replace p347 := eq_true p347
                     replace q347 := eq_true q347
                     obtain ⟨Ao36, co36, eo36⟩ := Kd.R_slice HO_23.out
                     subst eo36
                     have p348 : 0 ≤ ((ji29) : Int) := of_decide_eq_true (by first | (with_reducible assumption) | assumption)
                     have q348 : (ji29) < (x23_2.length : Int) := of_decide_eq_true (by first | (with_reducible assumption) | assumption)
                     obtain ⟨ad348, e348, hx348_0⟩ := Kd.at_int (Kd.R_reads' HO_23.out).2.2 (ji29) p348 q348
                     cases e348
                     replace p348 := eq_true p348
                     replace q348 := eq_true q348
                     have p349 : 0 ≤ (x8_2 : Int) := of_decide_eq_true (by first | (with_reducible assumption) | assumption)
                     have q349 : x8_2 < (x5_1.length : Int) := of_decide_eq_true (by first | (with_reducible assumption) | assumption)
                     obtain ⟨ad349, e349, hx349_0⟩ := Kd.at_int (Kd.R_reads' HO_5.out).2.2 x8_2 p349 q349
                     obtain rfl : ad347 = ad349 := (by injection e349)
                     replace p349 := eq_true p349
                     replace q349 := eq_true q349
                     have p34 : 0 ≤ (x8_2 : Int) := of_decide_eq_true (by first | (with_reducible assumption) | assumption)
                     have q34 : (x8_2 : Int) < ((x23_2.length : Int) : Int) := of_decide_eq_true (by first | (with_reducible assumption) | assumption)
                     obtain ⟨go34, co34, eo34, gb34, gl34, cl34, HG34⟩ := Kd.R_form HO_23.out (by omega)
                     (first | cases eo34 | (injection eo34 with ea_ en_ ec_; (first | subst ea_ | (injection ea_ with ea_; subst ea_)); subst ec_; clear en_))
                     have GB34 := Aside0.mk gb34
                     have GG34 := Aside0.mk HG34
                     clear gb34 gl34 HG34
                     (first | simp only [add_plain] at hx348_0 | skip)
                     obtain ⟨hx34_0, hf34_0⟩ := Kd.R_celln 0 HO_23.out (x8_2 : Int) p34 q34
                     replace p34 := eq_true p34
                     replace q34 := eq_true q34
                     have HP37 := Kd.R_putg HO_23.out (x8_2 : Int) (rd x5_1 x8_2)
                     go_wp2_with (fail)
                     repeat (go_quiet (fail); try go_wp2_with (first | ((with_reducible refine gate_store (t := 3) (p := 65) rfl ?_); (try (rw [drewN_self wr]; generalize hq_ : World.drewN wr _ = wr; have n0_ := Aside0.mk (Kd.R_at hq_ HO_5.out); have n1_ := Aside0.mk (Kd.R_at hq_ HO_23.out); have n2_ := Aside0.mk (below_at hq_ HB.out); clear hq_ HO_5 HO_23 HB; have HO_5 := n0_; have HO_23 := n1_; have HB := n2_; clear n0_ n1_ n2_; (try (obtain ⟨hx34_0, hf34_0⟩ := Kd.R_celln 0 HO_23.out (x8_2 : Int) (of_eq_true p34) (of_eq_true q34))); (try (have HP37 := Kd.R_putg HO_23.out (x8_2 : Int) (rd x5_1 x8_2))))); refine store_event (t := 3) (p := 65) (v := ?vo_w38) (w1 := (wr.setCell ⟨go34, (x8_2 : Int).toNat, none⟩ (.int .i64 (rd x5_1 x8_2)))) ?hg ?ho ?hn ?hr ?_; (case ho => rfl); (case hg => rfl); (case hn => rfl); (case hr => first | (go_simp; done) | (go_simp; rfl)); intro w38 hw; have hg : wr.grownBy w38 (some go34) := (by rw [hw]; exact HP37.2); have hp_ : Kd.R (Kd.int .i64) 3 w38 w.heap.size (fun k_ => some k_ ≠ (.slice (some ad347) x5_1.length co35 : Value).ownBlock) (.slice (some ⟨go34, 0, none⟩) x23_2.length co36) y350 := (by rw [hw, Ny350.out]; exact HP37.1); clear HP37; have n0_ := Aside0.mk (Kd.R_after (v := (.slice (some ⟨go34, 0, none⟩) x23_2.length co36)) (v1 := (.slice (some ⟨go34, 0, none⟩) x23_2.length co36)) (ok := (fun _ => True)) (by (with_reducible repeat (first | apply Kd.R_alloc | apply Kd.R_drewN | apply Kd.R_drew)); exact Kd.R_mono HO_5.out (fun _ hk => ⟨trivial, hk⟩)) hg (.inl rfl)); have n1_ := Aside0.mk (hp_); have n2_ := Aside0.mk ((by rw [hw]; exact below_set (HB.out) GB34.out : Below w.heap.size w w38)); clear HO_5; clear HO_23; clear HB; have HO_5 := n0_; have HO_23 := n1_; have HB := n2_; clear n0_ n1_ n2_; clear hg hw hp_)))
                     go_roundg k2
                     case measure => have := HK1.out; have := HK2.out; omega
                     case rel => exact ⟨(wrap64 (x8_2 - 1)), (y350), (by first | rfl | (simp; done) | (simp [*]; done)), H', ⟨by have := HK1.out; have := HK2.out; omega⟩, ⟨by (with_reducible repeat (first | apply Kd.R_alloc | apply Kd.R_drewN | apply Kd.R_drew)); exact Kd.R_mono HO_5.out (fun _ hk => hk.2)⟩, ⟨by (with_reducible repeat (first | apply Kd.R_alloc | apply Kd.R_drewN | apply Kd.R_drew)); exact HO_23.out⟩, ⟨by repeat (first | (with_reducible first | exact HB.out | apply below_alloc | apply pw_below_drewN | apply below_drew1) | exact HB.out)⟩⟩
                    ·rw [if_neg c33] at H
                     exact absurd H (by simp)
                   ·rw [if_neg c32] at H
                    have c32b0 : decide ((rd x23_2 (ji29)) < (rd x5_1 x8_2)) = false := decide_eq_false c32
                    clear c32
                    by_cases c39 : x8_2 < (x23_2.length : Int)
                    ·rw [if_pos c39] at H
                     have c39b0 : decide (x8_2 < (x23_2.length : Int)) = true := decide_eq_true c39
                     clear c39
                     obtain ⟨y352, hy352⟩ : ∃ y_ : List Int, y_ = (x23_2.set (x8_2 : Int).toNat (rd x23_2 (ji29))) := ⟨_, rfl⟩
                     replace H : (redpenref18_Common.l1 k2 l0 l1 x5_1 x6_1 (wrap64 (x8_2 - 1)) y352) = some r := by first | (rw [hy352]; with_reducible exact H) | (have H2_ := (Option.bind_some _ _).symm.trans H; rw [hy352]; with_reducible exact H2_) | (have H2_ := (Option.bind_some _ _).symm.trans H; with_reducible exact H2_) | with_reducible exact H | (rw [hy352]; exact H) | exact H
                     have Ny352 := Aside0.mk hy352
                     clear hy352
                     have H' := Aside0.mk H
                     clear H
                     have p343 : 0 ≤ (x6_1 : Int) := of_decide_eq_true (by first | (with_reducible assumption) | assumption)
                     have q343 : x6_1 < (l0.length : Int) := of_decide_eq_true (by first | (with_reducible assumption) | assumption)
                     obtain ⟨ad343, e343, hx343_0⟩ := Kd.at_string HR0.out x6_1 p343 q343
                     cases e343
                     replace hx343_0 := (HB.out.cell (World.block_lt_of_cell? w _ hx343_0)).trans hx343_0
                     replace p343 := eq_true p343
                     replace q343 := eq_true q343
                     have p344 : 0 ≤ (x8_2 : Int) := of_decide_eq_true (by first | (with_reducible assumption) | assumption)
                     have q344 : x8_2 < (l1.length : Int) := of_decide_eq_true (by first | (with_reducible assumption) | assumption)
                     obtain ⟨ad344, e344, hx344_0⟩ := Kd.at_string HR1.out x8_2 p344 q344
                     cases e344
                     replace hx344_0 := (HB.out.cell (World.block_lt_of_cell? w _ hx344_0)).trans hx344_0
                     replace p344 := eq_true p344
                     replace q344 := eq_true q344
                     obtain ⟨Ao41, co41, eo41⟩ := Kd.R_slice HO_5.out
                     subst eo41
                     have p347 : 0 ≤ (x8_2 : Int) := of_decide_eq_true (by first | (with_reducible assumption) | assumption)
                     have q347 : x8_2 < (x5_1.length : Int) := of_decide_eq_true (by first | (with_reducible assumption) | assumption)
                     obtain ⟨ad347, e347, hx347_0⟩ := Kd.at_int (Kd.R_reads' HO_5.out).2.2 x8_2 p347 q347
                     cases e347
                     replace p347 := eq_true p347
                     replace q347 := eq_true q347
                     obtain ⟨Ao42, co42, eo42⟩ := Kd.R_slice HO_23.out
                     subst eo42
                     have p348 : 0 ≤ ((ji29) : Int) := of_decide_eq_true (by first | (with_reducible assumption) | assumption)
                     have q348 : (ji29) < (x23_2.length : Int) := of_decide_eq_true (by first | (with_reducible assumption) | assumption)
                     obtain ⟨ad348, e348, hx348_0⟩ := Kd.at_int (Kd.R_reads' HO_23.out).2.2 (ji29) p348 q348
                     cases e348
                     replace p348 := eq_true p348
                     replace q348 := eq_true q348
                     have p351 : 0 ≤ ((ji29) : Int) := of_decide_eq_true (by first | (with_reducible assumption) | assumption)
                     have q351 : (ji29) < (x23_2.length : Int) := of_decide_eq_true (by first | (with_reducible assumption) | assumption)
                     obtain ⟨ad351, e351, hx351_0⟩ := Kd.at_int (Kd.R_reads' HO_23.out).2.2 (ji29) p351 q351
                     obtain rfl : ad348 = ad351 := (by injection e351)
                     replace p351 := eq_true p351
                     replace q351 := eq_true q351
                     have p40 : 0 ≤ (x8_2 : Int) := of_decide_eq_true (by first | (with_reducible assumption) | assumption)
                     have q40 : (x8_2 : Int) < ((x23_2.length : Int) : Int) := of_decide_eq_true (by first | (with_reducible assumption) | assumption)
                     obtain ⟨go40, co40, eo40, gb40, gl40, cl40, HG40⟩ := Kd.R_form HO_23.out (by omega)
                     (first | cases eo40 | (injection eo40 with ea_ en_ ec_; (first | subst ea_ | (injection ea_ with ea_; subst ea_)); subst ec_; clear en_))
                     have GB40 := Aside0.mk gb40
                     have GG40 := Aside0.mk HG40
                     clear gb40 gl40 HG40
                     (first | simp only [add_plain] at hx348_0 | skip)
                     (first | simp only [add_plain] at hx351_0 | skip)
                     obtain ⟨hx40_0, hf40_0⟩ := Kd.R_celln 0 HO_23.out (x8_2 : Int) p40 q40
                     replace p40 := eq_true p40
                     replace q40 := eq_true q40
                     have HP43 := Kd.R_putg HO_23.out (x8_2 : Int) (rd x23_2 (ji29))
                     go_wp2_with (fail)
                     repeat (go_quiet (fail); try go_wp2_with (first | ((with_reducible refine gate_store (t := 3) (p := 73) rfl ?_); (try (rw [drewN_self wr]; generalize hq_ : World.drewN wr _ = wr; have n0_ := Aside0.mk (Kd.R_at hq_ HO_5.out); have n1_ := Aside0.mk (Kd.R_at hq_ HO_23.out); have n2_ := Aside0.mk (below_at hq_ HB.out); clear hq_ HO_5 HO_23 HB; have HO_5 := n0_; have HO_23 := n1_; have HB := n2_; clear n0_ n1_ n2_; (try (obtain ⟨hx40_0, hf40_0⟩ := Kd.R_celln 0 HO_23.out (x8_2 : Int) (of_eq_true p40) (of_eq_true q40))); (try (have HP43 := Kd.R_putg HO_23.out (x8_2 : Int) (rd x23_2 (ji29)))))); refine store_event (t := 3) (p := 73) (v := ?vo_w44) (w1 := (wr.setCell ⟨go40, (x8_2 : Int).toNat, none⟩ (.int .i64 (rd x23_2 (ji29))))) ?hg ?ho ?hn ?hr ?_; (case ho => rfl); (case hg => rfl); (case hn => rfl); (case hr => first | (go_simp; done) | (go_simp; rfl)); intro w44 hw; have hg : wr.grownBy w44 (some go40) := (by rw [hw]; exact HP43.2); have hp_ : Kd.R (Kd.int .i64) 3 w44 w.heap.size (fun k_ => some k_ ≠ (.slice (some ad347) x5_1.length co41 : Value).ownBlock) (.slice (some ⟨go40, 0, none⟩) x23_2.length co42) y352 := (by rw [hw, Ny352.out]; exact HP43.1); clear HP43; have n0_ := Aside0.mk (Kd.R_after (v := (.slice (some ⟨go40, 0, none⟩) x23_2.length co42)) (v1 := (.slice (some ⟨go40, 0, none⟩) x23_2.length co42)) (ok := (fun _ => True)) (by (with_reducible repeat (first | apply Kd.R_alloc | apply Kd.R_drewN | apply Kd.R_drew)); exact Kd.R_mono HO_5.out (fun _ hk => ⟨trivial, hk⟩)) hg (.inl rfl)); have n1_ := Aside0.mk (hp_); have n2_ := Aside0.mk ((by rw [hw]; exact below_set (HB.out) GB40.out : Below w.heap.size w w44)); clear HO_5; clear HO_23; clear HB; have HO_5 := n0_; have HO_23 := n1_; have HB := n2_; clear n0_ n1_ n2_; clear hg hw hp_)))
                     go_roundg k2
                     case measure => have := HK1.out; have := HK2.out; omega
                     case rel => exact ⟨(wrap64 (x8_2 - 1)), (y352), (by first | rfl | (simp; done) | (simp [*]; done)), H', ⟨by have := HK1.out; have := HK2.out; omega⟩, ⟨by (with_reducible repeat (first | apply Kd.R_alloc | apply Kd.R_drewN | apply Kd.R_drew)); exact Kd.R_mono HO_5.out (fun _ hk => hk.2)⟩, ⟨by (with_reducible repeat (first | apply Kd.R_alloc | apply Kd.R_drewN | apply Kd.R_drew)); exact HO_23.out⟩, ⟨by repeat (first | (with_reducible first | exact HB.out | apply below_alloc | apply pw_below_drewN | apply below_drew1) | exact HB.out)⟩⟩
                    ·rw [if_neg c39] at H
                     exact absurd H (by simp)
                  ·rw [if_neg c31] at H
                   exact absurd H (by simp)
                 ·rw [if_neg c30] at H
                  exact absurd H (by simp)
                ·rw [if_neg c28] at H
                 exact absurd H (by simp)
              ·rw [if_neg c18] at H
               exact absurd H (by simp)
             ·rw [if_neg c17] at H
              exact absurd H (by simp)
            ·rw [if_neg c16] at H
             exact absurd H (by simp)
           ·rw [if_neg c15] at H
            exact absurd H (by simp)
          ·rw [if_neg c14] at H
           have c14b0 : decide (0 ≤ x8_2) = false := decide_eq_false c14
           clear c14
           have H' := Aside0.mk H
           clear H
           go_wp2
           repeat (go_quiet (fail); try go_wp2)
           go_roundg k2
           case measure => have := HK1.out; have := HK2.out; omega
           case rel => exact ⟨(x23_2), (wrap64 (x6_1 - 1)), (by first | rfl | (simp; done) | (simp [*]; done)), H', ⟨by have := HK1.out; have := HK2.out; omega⟩, ⟨by (with_reducible repeat (first | apply Kd.R_alloc | apply Kd.R_drewN | apply Kd.R_drew)); exact Kd.R_mono HO_23.out (fun _ hk => trivial)⟩, ⟨by repeat (first | (with_reducible first | exact HB.out | apply below_alloc | apply pw_below_drewN | apply below_drew1) | exact HB.out)⟩⟩
       ·rw [if_neg c11] at H
        exact absurd H (by simp)
      ·rw [if_neg c10] at H
       exact absurd H (by simp)
     ·rw [if_neg c8] at H
      have c8b0 : decide (0 ≤ x6_1) = false := decide_eq_false c8
      clear c8
      by_cases c45 : 0 < (x5_1.length : Int)
      ·rw [if_pos c45] at H
       have c45b0 : decide (0 < (x5_1.length : Int)) = true := decide_eq_true c45
       have c45b1 : decide (0 < x5_1.length) = true := decide_eq_true (by omega)
       clear c45
       obtain rfl := Option.some.inj H
       obtain ⟨Ao46, co46, eo46⟩ := Kd.R_slice HO_5.out
       subst eo46
       have p339 : 0 ≤ (0 : Int) := (by omega)
       have q339 : 0 < (x5_1.length : Int) := of_decide_eq_true (by first | (with_reducible assumption) | assumption)
       obtain ⟨ad339, e339, hx339_0⟩ := Kd.at_int (Kd.R_reads' HO_5.out).2.2 0 p339 q339
       cases e339
       have qi339 : (0 < x5_1.length) = True := eq_true (by omega)
       (try rw [show ((0 : Int)).toNat = 0 from rfl] at hx339_0)
       (try rw [Addr.add_zero'] at hx339_0)
       replace p339 := eq_true p339
       replace q339 := eq_true q339
       go_wp2
       repeat (go_quiet (fail); try go_wp2)
       go_ret
       exact ⟨by first | rfl | (simp [errW_none, errW_some] <;> rfl) | (simp only [← hji3]; first | rfl | (simp [errW_none, errW_some] <;> rfl)) | (simp [*, errW_none, errW_some] <;> rfl), by repeat (first | (with_reducible first | exact HB.out | apply below_alloc | apply pw_below_drewN | apply below_drew1) | exact HB.out)⟩
      ·rw [if_neg c45] at H
       exact absurd H (by simp)
  ·rw [if_neg c5] at H
   exact absurd H (by simp)
 ·rw [if_neg c4] at H
  exact absurd H (by simp)

end Go.Proofs.Ytokgkhndhlcfpaa.PHunksChanges
