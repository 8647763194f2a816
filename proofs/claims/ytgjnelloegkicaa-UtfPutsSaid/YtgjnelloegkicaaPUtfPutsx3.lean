-- Laid by a program of ours (the kit's print with words and contracts of our own beside it).
import Derived.Test.YtgjnelloegkicaaPUtfPutsx0
import Derived.Test.YtgjnelloegkicaaPUtfPutsx1
import Derived.Test.YtgjnelloegkicaaPUtfPutsx2
namespace Go.Proofs.Ytgjnelloegkicaa.PUtfPuts
open Go.RowKit Go.Proofs.Ytgjnelloegkicaa.X Go.Proofs.YtgjnelloegkicaaW.PrintWords Go.Proofs.YtgjnelloegkicaaW.PrintLast Go.Proofs.YtgjnelloegkicaaW.PrintMore
attribute [local go_sem] max2_int min2_int max_two min_two max_three min_three max_four min_four   -- for this text's walks alone
set_option linter.unusedVariables false
set_option linter.unusedSimpArgs false

/-! ### redpenlaw02_UtfPuts: function 5 -/
mutual
def redpenlaw02_UtfPuts.j0 : Nat → List Int → Int → List Int → Bool → Option (Bool)
  | 0, _, _, _, _ => none
  | k + 1, x0, x1, x2, x20 => if x20 = true then (some true) else ((some (([] : List Int) : List Int)).bind fun y188 => (if y188.length + x0.length < 140737488355328 then ((some (y188 ++ x0 : List Int)).bind fun y191 => ((some (([7, 7, 7, 7] : List Int) : List Int)).bind fun y194 => (if y191.length + y194.length < 140737488355328 then ((some (y191 ++ y194 : List Int)).bind fun y197 => (if 0 ≤ (x0.length : Int) then (if (x0.length : Int) ≤ (y197.length : Int) then ((utf_Put.f k (y197.take ((x0.length : Int) : Int).toNat) x1).bind fun bt204 => ((redpenref01_Bytes.f k x1).bind fun t208 => (if 0 ≤ (wrap64 ((x0.length : Int) + 1)) then (if (wrap64 ((x0.length : Int) + 1)) ≤ (y197.length : Int) then ((some (y197.take ((wrap64 ((x0.length : Int) + 1)) : Int).toNat : List Int)).bind fun y211 => (if (x0.length : Int) < (y211.length : Int) then (if (rd y211 (x0.length : Int)) = 7 then ((utf_Text.f k x2).bind fun t216 => ((redpenref01_Text.f k x2).bind fun t217 => (redpenlaw02_UtfPuts.j1 k x0 bt204.1 bt204.2 t208 (t216.toList != t217.toList)))) else (redpenlaw02_UtfPuts.j1 k x0 bt204.1 bt204.2 t208 true)) else (none))) else (none)) else (none)))) else (none)) else (none))) else (none)))) else (none)))
def redpenlaw02_UtfPuts.j1 : Nat → List Int → List Int → Int → List Int → Bool → Option (Bool)
  | 0, _, _, _, _, _ => none
  | k + 1, x0, x8, x9, x10, x53 => if x53 = true then (some false) else (if (x10.length : Int) = 0 then (if x9 = 2 then (some ((x8.length : Int) == 0)) else (some false)) else (if x9 = 0 then (if (strOfNums x0).size + (strOfNums x10).size ≤ 9223372036854775807 then (some ((strOfNums x8).toList == ((strOfNums x0) ++ (strOfNums x10)).toList)) else (none)) else (some false)))
end
def redpenlaw02_UtfPuts.f (k : Nat) (l0 : List Int) (a1 : Int) (l2 : List Int) : Option (Bool) := (redpenlaw02_Awake.f k).bind fun t187 => (if t187 = true then (if (l0.length : Int) > 1000 then (redpenlaw02_UtfPuts.j0 k l0 a1 l2 true) else (redpenlaw02_UtfPuts.j0 k l0 a1 l2 (decide ((l2.length : Int) > 1000)))) else (some false))
theorem redpenlaw02_UtfPuts.mono_l : ∀ k, (∀ y0 y1 y2 y3, LeO (redpenlaw02_UtfPuts.j0 k y0 y1 y2 y3) (redpenlaw02_UtfPuts.j0 (k + 1) y0 y1 y2 y3)) ∧ (∀ y0 y1 y2 y3 y4, LeO (redpenlaw02_UtfPuts.j1 k y0 y1 y2 y3 y4) (redpenlaw02_UtfPuts.j1 (k + 1) y0 y1 y2 y3 y4))
  | 0 => ⟨fun _ _ _ _ r h => by simp [redpenlaw02_UtfPuts.j0] at h, fun _ _ _ _ _ r h => by simp [redpenlaw02_UtfPuts.j1] at h⟩
  | k + 1 => by
    obtain ⟨ih0, ih1⟩ := redpenlaw02_UtfPuts.mono_l k
    refine ⟨?_, ?_⟩
    · intro y0 y1 y2 y3
      unfold redpenlaw02_UtfPuts.j0
      repeat' first
      | (with_reducible exact ih0 _ _ _ _)
      | (with_reducible exact ih1 _ _ _ _ _)
      | (with_reducible exact redpenlaw02_Awake.mono _)
      | (with_reducible exact redpenref01_Bytes.mono _ _)
      | (with_reducible exact redpenref01_Text.mono _ _)
      | (with_reducible exact utf_Put.mono _ _ _)
      | (with_reducible exact utf_Text.mono _ _)
      | (with_reducible exact LeO.refl _)
      | (with_reducible exact LeO.none _)
      | (with_reducible refine LeO.ite ?_ ?_)
      | (with_reducible refine LeO.bind ?_ (fun _ => ?_))
      | exact ih0 _ _ _ _
      | exact ih1 _ _ _ _ _
      | exact redpenlaw02_Awake.mono _
      | exact redpenref01_Bytes.mono _ _
      | exact redpenref01_Text.mono _ _
      | exact utf_Put.mono _ _ _
      | exact utf_Text.mono _ _
      | exact LeO.none _
      | refine LeO.ite ?_ ?_
      | refine LeO.bind ?_ (fun _ => ?_)
    · intro y0 y1 y2 y3 y4
      unfold redpenlaw02_UtfPuts.j1
      repeat' first
      | (with_reducible exact ih0 _ _ _ _)
      | (with_reducible exact ih1 _ _ _ _ _)
      | (with_reducible exact redpenlaw02_Awake.mono _)
      | (with_reducible exact redpenref01_Bytes.mono _ _)
      | (with_reducible exact redpenref01_Text.mono _ _)
      | (with_reducible exact utf_Put.mono _ _ _)
      | (with_reducible exact utf_Text.mono _ _)
      | (with_reducible exact LeO.refl _)
      | (with_reducible exact LeO.none _)
      | (with_reducible refine LeO.ite ?_ ?_)
      | (with_reducible refine LeO.bind ?_ (fun _ => ?_))
      | exact ih0 _ _ _ _
      | exact ih1 _ _ _ _ _
      | exact redpenlaw02_Awake.mono _
      | exact redpenref01_Bytes.mono _ _
      | exact redpenref01_Text.mono _ _
      | exact utf_Put.mono _ _ _
      | exact utf_Text.mono _ _
      | exact LeO.none _
      | refine LeO.ite ?_ ?_
      | refine LeO.bind ?_ (fun _ => ?_)
theorem redpenlaw02_UtfPuts.mono : ∀ a0 a1 a2 k, LeO (redpenlaw02_UtfPuts.f k a0 a1 a2) (redpenlaw02_UtfPuts.f (k + 1) a0 a1 a2) := by
  intro a0 a1 a2 k
  obtain ⟨ih0, ih1⟩ := redpenlaw02_UtfPuts.mono_l k
  unfold redpenlaw02_UtfPuts.f
  repeat' first
      | (with_reducible exact ih0 _ _ _ _)
      | (with_reducible exact ih1 _ _ _ _ _)
      | (with_reducible exact redpenlaw02_Awake.mono _)
      | (with_reducible exact redpenref01_Bytes.mono _ _)
      | (with_reducible exact redpenref01_Text.mono _ _)
      | (with_reducible exact utf_Put.mono _ _ _)
      | (with_reducible exact utf_Text.mono _ _)
      | (with_reducible exact LeO.refl _)
      | (with_reducible exact LeO.none _)
      | (with_reducible refine LeO.ite ?_ ?_)
      | (with_reducible refine LeO.bind ?_ (fun _ => ?_))
      | exact ih0 _ _ _ _
      | exact ih1 _ _ _ _ _
      | exact redpenlaw02_Awake.mono _
      | exact redpenref01_Bytes.mono _ _
      | exact redpenref01_Text.mono _ _
      | exact utf_Put.mono _ _ _
      | exact utf_Text.mono _ _
      | exact LeO.none _
      | refine LeO.ite ?_ ?_
      | refine LeO.bind ?_ (fun _ => ?_)
set_option maxHeartbeats 8000000 in
set_option maxRecDepth 100000 in
theorem redpenlaw02_UtfPuts.calls (k : Nat) (A0 : Option Addr) (c0 : Nat) (l0 : List Int) (a1 : Int) (A2 : Option Addr) (c2 : Nat) (l2 : List Int) (r : Bool) (w : World) (hr0 : Kd.C (Kd.int .u8) w A0 l0.length l0) (hc0 : l0.length ≤ c0) (hr2 : Kd.C (Kd.int .i32) w A2 l2.length l2) (hc2 : l2.length ≤ c2) (h : redpenlaw02_UtfPuts.f k l0 a1 l2 = some r) :
    Calls Try.prog 5 #[.slice A0 l0.length c0, .int .i32 a1, .slice A2 l2.length c2] w fun e w' => e = .returned (.bool r) ∧ Below w.heap.size w w' := by
  have HR0 := Aside0.mk hr0
  have HC0 := Aside0.mk hc0
  clear hr0 hc0
  have HR2 := Aside0.mk hr2
  have HC2 := Aside0.mk hc2
  clear hr2 hc2
  have HB := Aside0.mk (Below.refl w.heap.size w)
  have H : ((redpenlaw02_Awake.f k).bind fun t187 => (if t187 = true then (if (l0.length : Int) > 1000 then (redpenlaw02_UtfPuts.j0 k l0 a1 l2 true) else (redpenlaw02_UtfPuts.j0 k l0 a1 l2 (decide ((l2.length : Int) > 1000)))) else (some false))) = some r := h
  clear h
  replace H := Option.bind_eq_some_iff.mp H
  obtain ⟨t187, A40, H⟩ := H
  replace H : (if t187 = true then (if (l0.length : Int) > 1000 then (redpenlaw02_UtfPuts.j0 k l0 a1 l2 true) else (redpenlaw02_UtfPuts.j0 k l0 a1 l2 (decide ((l2.length : Int) > 1000)))) else (some false)) = some r := H
  have A4 := Aside0.mk A40
  clear A40
  by_cases c5 : t187 = true
  · subst c5
    have H1 : (if (l0.length : Int) > 1000 then (redpenlaw02_UtfPuts.j0 k l0 a1 l2 true) else (redpenlaw02_UtfPuts.j0 k l0 a1 l2 (decide ((l2.length : Int) > 1000)))) = some r := by rw [if_pos rfl] at H; exact H
    clear H
    have H := H1
    clear H1
    have HC6 := Aside0.mk H
    clear H
    go_enter Try.func5, Try.ntmps5
    go_upto_region 3 with (first | ((with_reducible refine gate_callee (f := 13) rfl ?_); refine goesL_ (some 11) rfl rfl Try.func13 (by kernel_rfl) rfl #[] rfl (by (try simp only [List.map_toArray, List.map_cons, List.map_nil]); first | done | rfl | (simp only [List.length_drop, List.length_take]; rfl)) ?_; (with_reducible refine (redpenlaw02_Awake.calls k  true _ A4.out).mono ?_); rintro e w7 ⟨rfl, hb⟩; refine ⟨_, rfl, ?_⟩; have n0_ := Aside0.mk (below_step (by repeat (first | (with_reducible first | exact HB.out | apply below_alloc | apply pw_below_drewN | apply below_drew1) | exact HB.out)) hb); clear HB; have HB := n0_; clear n0_; (try clear hb); (try clear hb2); (try clear hk); (try clear hi)))
    (try simp only [Act.put, List.setIfInBounds_toArray, List.set_cons_zero, List.set_cons_succ])
    go_cut [20] (fun v20 wc => ∃ (kq : Nat) (x20_5 : Bool), v20 = .bool x20_5 ∧ Aside0 (redpenlaw02_UtfPuts.j0 kq l0 a1 l2 x20_5 = some r) ∧ Aside0 (kq ≤ k) ∧ Aside0 (Below w.heap.size w wc))
    case first =>
      have H := HC6.out
      clear HC6
      by_cases c8 : (l0.length : Int) > 1000
      · rw [if_pos c8] at H
        have c8b0 : decide (1000 < (l0.length : Int)) = true := decide_eq_true c8
        have c8b1 : decide (1000 < l0.length) = true := decide_eq_true (by omega)
        clear c8
        (first | rw [c8b0] | (simp only [i64_w, i32_w]; rw [c8b0]) | skip)
        have H' := Aside0.mk H
        clear H
        go_wp2
        go_meet
        case rel => exact ⟨_, (true), (by first | rfl | (simp; done) | (simp [*]; done)), H', ⟨by first | omega | exact Nat.le_refl _⟩, ⟨by repeat (first | (with_reducible first | exact HB.out | apply below_alloc | apply pw_below_drewN | apply below_drew1) | exact HB.out)⟩⟩
      · rw [if_neg c8] at H
        have c8b0 : decide (1000 < (l0.length : Int)) = false := decide_eq_false c8
        have c8b1 : decide (1000 < l0.length) = false := decide_eq_false (by omega)
        clear c8
        (first | rw [c8b0] | (simp only [i64_w, i32_w]; rw [c8b0]) | skip)
        have H' := Aside0.mk H
        clear H
        go_wp2
        go_meet
        case rel => exact ⟨_, (decide ((l2.length : Int) > 1000)), (by first | rfl | (simp; done) | (simp [*]; done)), H', ⟨by first | omega | exact Nat.le_refl _⟩, ⟨by repeat (first | (with_reducible first | exact HB.out | apply below_alloc | apply pw_below_drewN | apply below_drew1) | exact HB.out)⟩⟩
    case rest =>
      clear HC6
      try clear c1
      try clear c2
      try clear p2
      try clear c5
      try clear c8
      try clear c8b0
      try clear c8b1
      obtain ⟨kq, x20_5, rfl, HA, HJ5, HB⟩ := hcut
      cases kq with
      | zero => exact absurd HA.out (by simp [redpenlaw02_UtfPuts.j0])
      | succ kj5 =>
        have H := HA.out
        clear HA
        simp only [redpenlaw02_UtfPuts.j0] at H
        by_cases c9 : x20_5 = true
        · subst c9
          have H1 : (some true) = some r := by rw [if_pos rfl] at H; exact H
          clear H
          have H := H1
          clear H1
          obtain rfl := Option.some.inj H
          go_wp2
          go_ret
          exact ⟨by first | rfl | (simp [errW_none, errW_some] <;> rfl) | (simp [*, errW_none, errW_some] <;> rfl), by repeat (first | (with_reducible first | exact HB.out | apply below_alloc | apply pw_below_drewN | apply below_drew1) | exact HB.out)⟩
        · replace c9 := Bool.eq_false_iff.mpr c9
          subst c9
          have H1 : ((some (([] : List Int) : List Int)).bind fun y188 => (if y188.length + l0.length < 140737488355328 then ((some (y188 ++ l0 : List Int)).bind fun y191 => ((some (([7, 7, 7, 7] : List Int) : List Int)).bind fun y194 => (if y191.length + y194.length < 140737488355328 then ((some (y191 ++ y194 : List Int)).bind fun y197 => (if 0 ≤ (l0.length : Int) then (if (l0.length : Int) ≤ (y197.length : Int) then ((utf_Put.f kj5 (y197.take ((l0.length : Int) : Int).toNat) a1).bind fun bt204 => ((redpenref01_Bytes.f kj5 a1).bind fun t208 => (if 0 ≤ (wrap64 ((l0.length : Int) + 1)) then (if (wrap64 ((l0.length : Int) + 1)) ≤ (y197.length : Int) then ((some (y197.take ((wrap64 ((l0.length : Int) + 1)) : Int).toNat : List Int)).bind fun y211 => (if (l0.length : Int) < (y211.length : Int) then (if (rd y211 (l0.length : Int)) = 7 then ((utf_Text.f kj5 l2).bind fun t216 => ((redpenref01_Text.f kj5 l2).bind fun t217 => (redpenlaw02_UtfPuts.j1 kj5 l0 bt204.1 bt204.2 t208 (t216.toList != t217.toList)))) else (redpenlaw02_UtfPuts.j1 kj5 l0 bt204.1 bt204.2 t208 true)) else (none))) else (none)) else (none)))) else (none)) else (none))) else (none)))) else (none))) = some r := by rw [if_neg (show ¬ (false = true) by decide)] at H; exact H
          clear H
          have H := H1
          clear H1
          obtain ⟨y188, hy188⟩ : ∃ y_ : List Int, y_ = (([] : List Int)) := ⟨_, rfl⟩
          replace H : (if y188.length + l0.length < 140737488355328 then ((some (y188 ++ l0 : List Int)).bind fun y191 => ((some (([7, 7, 7, 7] : List Int) : List Int)).bind fun y194 => (if y191.length + y194.length < 140737488355328 then ((some (y191 ++ y194 : List Int)).bind fun y197 => (if 0 ≤ (l0.length : Int) then (if (l0.length : Int) ≤ (y197.length : Int) then ((utf_Put.f kj5 (y197.take ((l0.length : Int) : Int).toNat) a1).bind fun bt204 => ((redpenref01_Bytes.f kj5 a1).bind fun t208 => (if 0 ≤ (wrap64 ((l0.length : Int) + 1)) then (if (wrap64 ((l0.length : Int) + 1)) ≤ (y197.length : Int) then ((some (y197.take ((wrap64 ((l0.length : Int) + 1)) : Int).toNat : List Int)).bind fun y211 => (if (l0.length : Int) < (y211.length : Int) then (if (rd y211 (l0.length : Int)) = 7 then ((utf_Text.f kj5 l2).bind fun t216 => ((redpenref01_Text.f kj5 l2).bind fun t217 => (redpenlaw02_UtfPuts.j1 kj5 l0 bt204.1 bt204.2 t208 (t216.toList != t217.toList)))) else (redpenlaw02_UtfPuts.j1 kj5 l0 bt204.1 bt204.2 t208 true)) else (none))) else (none)) else (none)))) else (none)) else (none))) else (none)))) else (none)) = some r := by first | (rw [hy188]; with_reducible exact H) | (have H2_ := (Option.bind_some _ _).symm.trans H; rw [hy188]; with_reducible exact H2_) | (have H2_ := (Option.bind_some _ _).symm.trans H; with_reducible exact H2_) | with_reducible exact H | (rw [hy188]; exact H) | exact H
          have Ny188 := Aside0.mk hy188
          clear hy188
          by_cases c10 : y188.length + l0.length < 140737488355328
          · rw [if_pos c10] at H
            have LMc10 := Aside0.mk c10
            clear c10
            obtain ⟨y191, hy191⟩ : ∃ y_ : List Int, y_ = (y188 ++ l0) := ⟨_, rfl⟩
            replace H : ((some (([7, 7, 7, 7] : List Int) : List Int)).bind fun y194 => (if y191.length + y194.length < 140737488355328 then ((some (y191 ++ y194 : List Int)).bind fun y197 => (if 0 ≤ (l0.length : Int) then (if (l0.length : Int) ≤ (y197.length : Int) then ((utf_Put.f kj5 (y197.take ((l0.length : Int) : Int).toNat) a1).bind fun bt204 => ((redpenref01_Bytes.f kj5 a1).bind fun t208 => (if 0 ≤ (wrap64 ((l0.length : Int) + 1)) then (if (wrap64 ((l0.length : Int) + 1)) ≤ (y197.length : Int) then ((some (y197.take ((wrap64 ((l0.length : Int) + 1)) : Int).toNat : List Int)).bind fun y211 => (if (l0.length : Int) < (y211.length : Int) then (if (rd y211 (l0.length : Int)) = 7 then ((utf_Text.f kj5 l2).bind fun t216 => ((redpenref01_Text.f kj5 l2).bind fun t217 => (redpenlaw02_UtfPuts.j1 kj5 l0 bt204.1 bt204.2 t208 (t216.toList != t217.toList)))) else (redpenlaw02_UtfPuts.j1 kj5 l0 bt204.1 bt204.2 t208 true)) else (none))) else (none)) else (none)))) else (none)) else (none))) else (none))) = some r := by first | (rw [hy191]; with_reducible exact H) | (have H2_ := (Option.bind_some _ _).symm.trans H; rw [hy191]; with_reducible exact H2_) | (have H2_ := (Option.bind_some _ _).symm.trans H; with_reducible exact H2_) | with_reducible exact H | (rw [hy191]; exact H) | exact H
            have Ny191 := Aside0.mk hy191
            clear hy191
            obtain ⟨y194, hy194⟩ : ∃ y_ : List Int, y_ = (([7, 7, 7, 7] : List Int)) := ⟨_, rfl⟩
            replace H : (if y191.length + y194.length < 140737488355328 then ((some (y191 ++ y194 : List Int)).bind fun y197 => (if 0 ≤ (l0.length : Int) then (if (l0.length : Int) ≤ (y197.length : Int) then ((utf_Put.f kj5 (y197.take ((l0.length : Int) : Int).toNat) a1).bind fun bt204 => ((redpenref01_Bytes.f kj5 a1).bind fun t208 => (if 0 ≤ (wrap64 ((l0.length : Int) + 1)) then (if (wrap64 ((l0.length : Int) + 1)) ≤ (y197.length : Int) then ((some (y197.take ((wrap64 ((l0.length : Int) + 1)) : Int).toNat : List Int)).bind fun y211 => (if (l0.length : Int) < (y211.length : Int) then (if (rd y211 (l0.length : Int)) = 7 then ((utf_Text.f kj5 l2).bind fun t216 => ((redpenref01_Text.f kj5 l2).bind fun t217 => (redpenlaw02_UtfPuts.j1 kj5 l0 bt204.1 bt204.2 t208 (t216.toList != t217.toList)))) else (redpenlaw02_UtfPuts.j1 kj5 l0 bt204.1 bt204.2 t208 true)) else (none))) else (none)) else (none)))) else (none)) else (none))) else (none)) = some r := by first | (rw [hy194]; with_reducible exact H) | (have H2_ := (Option.bind_some _ _).symm.trans H; rw [hy194]; with_reducible exact H2_) | (have H2_ := (Option.bind_some _ _).symm.trans H; with_reducible exact H2_) | with_reducible exact H | (rw [hy194]; exact H) | exact H
            have Ny194 := Aside0.mk hy194
            clear hy194
            by_cases c11 : y191.length + y194.length < 140737488355328
            · rw [if_pos c11] at H
              have LMc11 := Aside0.mk c11
              clear c11
              obtain ⟨y197, hy197⟩ : ∃ y_ : List Int, y_ = (y191 ++ y194) := ⟨_, rfl⟩
              replace H : (if 0 ≤ (l0.length : Int) then (if (l0.length : Int) ≤ (y197.length : Int) then ((utf_Put.f kj5 (y197.take ((l0.length : Int) : Int).toNat) a1).bind fun bt204 => ((redpenref01_Bytes.f kj5 a1).bind fun t208 => (if 0 ≤ (wrap64 ((l0.length : Int) + 1)) then (if (wrap64 ((l0.length : Int) + 1)) ≤ (y197.length : Int) then ((some (y197.take ((wrap64 ((l0.length : Int) + 1)) : Int).toNat : List Int)).bind fun y211 => (if (l0.length : Int) < (y211.length : Int) then (if (rd y211 (l0.length : Int)) = 7 then ((utf_Text.f kj5 l2).bind fun t216 => ((redpenref01_Text.f kj5 l2).bind fun t217 => (redpenlaw02_UtfPuts.j1 kj5 l0 bt204.1 bt204.2 t208 (t216.toList != t217.toList)))) else (redpenlaw02_UtfPuts.j1 kj5 l0 bt204.1 bt204.2 t208 true)) else (none))) else (none)) else (none)))) else (none)) else (none)) = some r := by first | (rw [hy197]; with_reducible exact H) | (have H2_ := (Option.bind_some _ _).symm.trans H; rw [hy197]; with_reducible exact H2_) | (have H2_ := (Option.bind_some _ _).symm.trans H; with_reducible exact H2_) | with_reducible exact H | (rw [hy197]; exact H) | exact H
              have Ny197 := Aside0.mk hy197
              clear hy197
              by_cases c12 : 0 ≤ (l0.length : Int)
              · rw [if_pos c12] at H
                have c12b0 := eq_true c12
                have c12b1 : decide (0 ≤ (l0.length : Int)) = true := decide_eq_true c12
                clear c12
                by_cases c13 : (l0.length : Int) ≤ (y197.length : Int)
                · rw [if_pos c13] at H
                  have c13b0 := eq_true c13
                  have c13b1 : decide ((l0.length : Int) ≤ (y197.length : Int)) = true := decide_eq_true c13
                  clear c13
                  obtain ⟨y200, hy200⟩ : ∃ y_ : List Int, y_ = (y197.take ((l0.length : Int) : Int).toNat) := ⟨_, rfl⟩
                  replace H : ((utf_Put.f kj5 y200 a1).bind fun bt204 => ((redpenref01_Bytes.f kj5 a1).bind fun t208 => (if 0 ≤ (wrap64 ((l0.length : Int) + 1)) then (if (wrap64 ((l0.length : Int) + 1)) ≤ (y197.length : Int) then ((some (y197.take ((wrap64 ((l0.length : Int) + 1)) : Int).toNat : List Int)).bind fun y211 => (if (l0.length : Int) < (y211.length : Int) then (if (rd y211 (l0.length : Int)) = 7 then ((utf_Text.f kj5 l2).bind fun t216 => ((redpenref01_Text.f kj5 l2).bind fun t217 => (redpenlaw02_UtfPuts.j1 kj5 l0 bt204.1 bt204.2 t208 (t216.toList != t217.toList)))) else (redpenlaw02_UtfPuts.j1 kj5 l0 bt204.1 bt204.2 t208 true)) else (none))) else (none)) else (none)))) = some r := by first | (rw [hy200]; with_reducible exact H) | (have H2_ := (Option.bind_some _ _).symm.trans H; rw [hy200]; with_reducible exact H2_) | (have H2_ := (Option.bind_some _ _).symm.trans H; with_reducible exact H2_) | with_reducible exact H | (rw [hy200]; exact H) | exact H
                  have Ny200 := Aside0.mk hy200
                  clear hy200
                  replace H := Option.bind_eq_some_iff.mp H
                  obtain ⟨⟨t204, t205⟩, A140, H⟩ := H
                  replace H : ((redpenref01_Bytes.f kj5 a1).bind fun t208 => (if 0 ≤ (wrap64 ((l0.length : Int) + 1)) then (if (wrap64 ((l0.length : Int) + 1)) ≤ (y197.length : Int) then ((some (y197.take ((wrap64 ((l0.length : Int) + 1)) : Int).toNat : List Int)).bind fun y211 => (if (l0.length : Int) < (y211.length : Int) then (if (rd y211 (l0.length : Int)) = 7 then ((utf_Text.f kj5 l2).bind fun t216 => ((redpenref01_Text.f kj5 l2).bind fun t217 => (redpenlaw02_UtfPuts.j1 kj5 l0 t204 t205 t208 (t216.toList != t217.toList)))) else (redpenlaw02_UtfPuts.j1 kj5 l0 t204 t205 t208 true)) else (none))) else (none)) else (none))) = some r := H
                  have A14 := Aside0.mk A140
                  clear A140
                  replace H := Option.bind_eq_some_iff.mp H
                  obtain ⟨t208, A150, H⟩ := H
                  replace H : (if 0 ≤ (wrap64 ((l0.length : Int) + 1)) then (if (wrap64 ((l0.length : Int) + 1)) ≤ (y197.length : Int) then ((some (y197.take ((wrap64 ((l0.length : Int) + 1)) : Int).toNat : List Int)).bind fun y211 => (if (l0.length : Int) < (y211.length : Int) then (if (rd y211 (l0.length : Int)) = 7 then ((utf_Text.f kj5 l2).bind fun t216 => ((redpenref01_Text.f kj5 l2).bind fun t217 => (redpenlaw02_UtfPuts.j1 kj5 l0 t204 t205 t208 (t216.toList != t217.toList)))) else (redpenlaw02_UtfPuts.j1 kj5 l0 t204 t205 t208 true)) else (none))) else (none)) else (none)) = some r := H
                  have A15 := Aside0.mk A150
                  clear A150
                  have HC16 := Aside0.mk H
                  clear H
                  go_upto_region 8 with (first | ((with_reducible refine gate_dst (N := 21) rfl ?_); (try (refine gate_guard (by rfl) ?_; dsimp only)); refine Kd.R_lit (Kd.int .u8) _ 5 ?hg (N := 21) ?hd (xs := ([] : List Int)) (inner := []) (ok := fun _ => True) (okp := fun _ => True) ?hr ?hp (fun _ hk => hk) trivial (Below.refl _ _) (Nat.le_refl _) (by simp) ?_; (case hd => rfl); (case hg => rfl); (case hr => first | (go_simp; done) | (go_simp; rfl)); (case hp => exact (Reps.none _ _)); intro v189 w17 ho18 hb hg_ hnew_; clear hg_ hnew_; (first | rw [← Ny188.out] at ho18 | (simp only [Int.reduceToNat] at ho18; rw [← Ny188.out] at ho18)); have n0_ := Aside0.mk (Kd.R_lower ho18 (below_size (by repeat (first | (with_reducible first | exact HB.out | apply below_alloc | apply pw_below_drewN | apply below_drew1) | exact HB.out)))); have n1_ := Aside0.mk (below_step (by repeat (first | (with_reducible first | exact HB.out | apply below_alloc | apply pw_below_drewN | apply below_drew1) | exact HB.out)) hb); clear HB; have HO190 := n0_; have HB := n1_; clear n0_ n1_; clear hb ho18) | ((with_reducible refine gate_builtin (b := .append) (xs := #[.tmp 21, .tmp 22]) rfl ?_); (try (refine gate_guard (by rfl) ?_; dsimp only)); at_builtin; refine Kd.R_append_rows (Kd.int .u8) (w0 := w) w.heap.size rfl (.tmp 21) (.tmp 22) 22 5 (.int .u8 0) 1 rfl Try.underlying22 info5 rfl (by decide) (by omega) v189 y188 l0 _ _ _ (fun _ => True) (fun _ => False) rfl rfl ?aO ?aR (fun _ _ h => h) (fun _ h => h.elim) ?aF ?aB ?aS ?aL ?_; (case aR => repeat (first | exact (Kd.C_below HR0.out HB.out) | (with_reducible refine Kd.C_alloc ?_ _) | (with_reducible refine Kd.C_drewN ?_ _) | (with_reducible refine Kd.C_drew ?_))); (case aB => exact (by repeat (first | (with_reducible first | exact HB.out | apply below_alloc | apply pw_below_drewN | apply below_drew1) | exact HB.out))); (case aF => exact (fun _ _ => trivial)); (case aO => exact (by (with_reducible repeat (first | apply Kd.R_alloc | apply Kd.R_drewN | apply Kd.R_drew)); exact HO190.out)); (case aS => exact (below_size (by repeat (first | (with_reducible first | exact HB.out | apply below_alloc | apply pw_below_drewN | apply below_drew1) | exact HB.out)))); (case aL => have := LMc10.out; omega); intro v192 w19 ho hb hg hat; rw [← Ny191.out] at ho; have n0_ := Aside0.mk (hb); have n1_ := Aside0.mk (ho); clear HB; clear HO190; have HB := n0_; have HO193 := n1_; clear n0_ n1_; clear ho hb hg hat) | ((with_reducible refine gate_dst (N := 24) rfl ?_); (try (refine gate_guard (by rfl) ?_; dsimp only)); refine Kd.R_lit (Kd.int .u8) _ 5 ?hg (N := 24) ?hd (xs := ([7, 7, 7, 7] : List Int)) (inner := [.int .u8 7, .int .u8 7, .int .u8 7, .int .u8 7]) (ok := fun _ => True) (okp := fun _ => True) ?hr ?hp (fun _ hk => hk) trivial (Below.refl _ _) (Nat.le_refl _) (by simp) ?_; (case hd => rfl); (case hg => rfl); (case hr => first | (go_simp; done) | (go_simp; rfl)); (case hp => exact (Reps.one (show Kd.M (Kd.int .u8) _ _ _ 7 [.int .u8 7] from rfl) (Reps.one (show Kd.M (Kd.int .u8) _ _ _ 7 [.int .u8 7] from rfl) (Reps.one (show Kd.M (Kd.int .u8) _ _ _ 7 [.int .u8 7] from rfl) (Reps.one (show Kd.M (Kd.int .u8) _ _ _ 7 [.int .u8 7] from rfl) (Reps.none _ _)))))); intro v195 w20 ho21 hb hg_ hnew_; clear hg_ hnew_; (first | rw [← Ny194.out] at ho21 | (simp only [Int.reduceToNat] at ho21; rw [← Ny194.out] at ho21)); have n0_ := Aside0.mk (Kd.R_elder' (by (with_reducible repeat (first | apply Kd.R_alloc | apply Kd.R_drewN | apply Kd.R_drew)); exact HO193.out) (Kd.R_base ho21) hb); have n1_ := Aside0.mk (Kd.R_lower (Kd.R_new' ho21 (Kd.R_lt (by (with_reducible repeat (first | apply Kd.R_alloc | apply Kd.R_drewN | apply Kd.R_drew)); exact HO193.out))) (below_size (by repeat (first | (with_reducible first | exact HB.out | apply below_alloc | apply pw_below_drewN | apply below_drew1) | exact HB.out)))); have n2_ := Aside0.mk (below_step (by repeat (first | (with_reducible first | exact HB.out | apply below_alloc | apply pw_below_drewN | apply below_drew1) | exact HB.out)) hb); clear HO193; clear HB; have HO193 := n0_; have HO196 := n1_; have HB := n2_; clear n0_ n1_ n2_; clear hb ho21; obtain ⟨Ao23, co23, eo23⟩ := Kd.R_slice HO196.out; subst eo23) | ((with_reducible refine gate_builtin (b := .append) (xs := #[.tmp 23, .tmp 24]) rfl ?_); (try (refine gate_guard (by rfl) ?_; dsimp only)); at_builtin; refine Kd.R_append_rows (Kd.int .u8) (w0 := w) w.heap.size rfl (.tmp 23) (.tmp 24) 22 5 (.int .u8 0) 1 rfl Try.underlying22 info5 rfl (by decide) (by omega) v192 y191 y194 _ _ _ (fun k_ => some k_ ≠ (.slice Ao23 y194.length co23 : Value).ownBlock) (fun _ => False) rfl rfl ?aO ?aR (fun _ _ h => h) (fun _ h => h.elim) ?aF ?aB ?aS ?aL ?_; (case aR => repeat (first | exact (Kd.R_reads' HO196.out).2.2 | (with_reducible refine Kd.C_alloc ?_ _) | (with_reducible refine Kd.C_drewN ?_ _) | (with_reducible refine Kd.C_drew ?_))); (case aB => exact (by repeat (first | (with_reducible first | exact HB.out | apply below_alloc | apply pw_below_drewN | apply below_drew1) | exact HB.out))); (case aF => exact (fun k_ hk => Kd.fresh' (Kd.R_lt (by (with_reducible repeat (first | apply Kd.R_alloc | apply Kd.R_drewN | apply Kd.R_drew)); exact HO196.out)) k_ hk)); (case aO => exact (by (with_reducible repeat (first | apply Kd.R_alloc | apply Kd.R_drewN | apply Kd.R_drew)); exact Kd.R_mono HO193.out (fun _ hk => hk.2))); (case aS => exact (below_size (by repeat (first | (with_reducible first | exact HB.out | apply below_alloc | apply pw_below_drewN | apply below_drew1) | exact HB.out)))); (case aL => have := LMc11.out; omega); intro v198 w22 ho hb hg hat; rw [← Ny197.out] at ho; have n0_ := Aside0.mk (Kd.R_after (ok := (fun _ => True)) (by (with_reducible repeat (first | apply Kd.R_alloc | apply Kd.R_drewN | apply Kd.R_drew)); exact HO196.out) hg hat); have n1_ := Aside0.mk (hb); have n2_ := Aside0.mk (ho); clear HO196; clear HB; clear HO193; have HO196 := n0_; have HB := n1_; have HO199 := n2_; clear n0_ n1_ n2_; clear ho hb hg hat; obtain ⟨Ao25, co25, eo25⟩ := Kd.R_slice HO199.out; subst eo25; have q24 : ((l0.length : Int) : Int) ≤ ((y197.length : Int) : Int) := of_decide_eq_true (by first | (with_reducible assumption) | assumption); obtain ⟨i024, hi024, _, hsz24, _⟩ := info_parts info5; have hroom24 : y197.length ≤ co25 := (Kd.R_reads' HO199.out).2.1; have hC24 : Kd.C (Kd.int .u8) _ Ao25 y197.length y197 := (Kd.R_reads' HO199.out).2.2; have hcut24 := cut_to (P := Try.prog) 22 5 .i64 Try.underlying22 hi024 Ao25 y197.length co25 (l0.length : Int) (of_decide_eq_true (by first | (with_reducible assumption) | assumption)) q24 hroom24; have hr24 := Kd.C_take (m := ((l0.length : Int) : Int).toNat) hC24 (by omega); have hy24 : y200.length = ((l0.length : Int) : Int).toNat := (by rw [Ny200.out, List.length_take]; omega); rw [← Ny200.out] at hr24; rw [← hy24] at hcut24; have HR203 := Aside0.mk hr24; have HC203 := Aside0.mk (show y200.length ≤ co25 from by omega); clear hr24 hC24 hroom24 hi024 hsz24; have KY24 := Aside0.mk hy24; clear hy24; have KL24 := Aside0.mk (show ((l0.length : Int) : Int).toNat ≤ y197.length from by omega); replace q24 := eq_true q24) | ((with_reducible refine gate_callee (f := 22) rfl ?_); refine goesL_ (some 32) rfl rfl Try.func22 (by kernel_rfl) rfl #[.slice Ao25 y200.length co25, .int .i32 a1] rfl (by (try simp only [List.map_toArray, List.map_cons, List.map_nil]); first | done | rfl | (simp only [List.length_drop, List.length_take]; rfl)) ?_; (with_reducible refine (utf_Put.calls kj5 _ _ y200 a1 t204 t205 _ ?side1 ?side2 A14.out).mono ?_); (case side1 => repeat (first | exact (by repeat (first | (with_reducible exact HR203.out) | (with_reducible refine Kd.C_alloc ?_ _) | (with_reducible refine Kd.C_drewN ?_ _) | (with_reducible refine Kd.C_drew ?_) | exact HR203.out)) | (with_reducible refine Kd.C_alloc ?_ _) | (with_reducible refine Kd.C_drewN ?_ _) | (with_reducible refine Kd.C_drew ?_))); (case side2 => exact HC203.out); rintro e w26 ⟨v206, rfl, ho0, hb⟩; refine ⟨_, rfl, ?_⟩; have n0_ := Aside0.mk (Kd.R_elder' (by (with_reducible repeat (first | apply Kd.R_alloc | apply Kd.R_drewN | apply Kd.R_drew)); exact HO196.out) (Kd.R_base ho0) hb); have n1_ := Aside0.mk (Kd.R_elder' (by (with_reducible repeat (first | apply Kd.R_alloc | apply Kd.R_drewN | apply Kd.R_drew)); exact HO199.out) (Kd.R_base ho0) hb); have n2_ := Aside0.mk (Kd.R_lower (Kd.R_new' (Kd.R_new' ho0 (Kd.R_lt (by (with_reducible repeat (first | apply Kd.R_alloc | apply Kd.R_drewN | apply Kd.R_drew)); exact HO196.out))) (Kd.R_lt (by (with_reducible repeat (first | apply Kd.R_alloc | apply Kd.R_drewN | apply Kd.R_drew)); exact HO199.out))) (below_size (by repeat (first | (with_reducible first | exact HB.out | apply below_alloc | apply pw_below_drewN | apply below_drew1) | exact HB.out)))); have n3_ := Aside0.mk (Kd.C_below (by repeat (first | (with_reducible exact HR203.out) | (with_reducible refine Kd.C_alloc ?_ _) | (with_reducible refine Kd.C_drewN ?_ _) | (with_reducible refine Kd.C_drew ?_) | exact HR203.out)) hb); have n4_ := Aside0.mk (below_step (by repeat (first | (with_reducible first | exact HB.out | apply below_alloc | apply pw_below_drewN | apply below_drew1) | exact HB.out)) hb); clear HO196; clear HO199; clear HR203; clear HB; have HO196 := n0_; have HO199 := n1_; have HO207 := n2_; have HR203 := n3_; have HB := n4_; clear n0_ n1_ n2_ n3_ n4_; (try clear hb); (try clear hb2); (try clear hk); (try clear hi); (try clear ho0)) | ((with_reducible refine gate_callee (f := 23) rfl ?_); refine goesL_ (some 36) rfl rfl Try.func23 (by kernel_rfl) rfl #[.int .i32 a1] rfl (by (try simp only [List.map_toArray, List.map_cons, List.map_nil]); first | done | rfl | (simp only [List.length_drop, List.length_take]; rfl)) ?_; (with_reducible refine (redpenref01_Bytes.calls kj5 a1 t208 _ A15.out).mono ?_); rintro e w27 ⟨v209, rfl, ho0, hb⟩; refine ⟨_, rfl, ?_⟩; have n0_ := Aside0.mk (Kd.R_elder' (by (with_reducible repeat (first | apply Kd.R_alloc | apply Kd.R_drewN | apply Kd.R_drew)); exact HO196.out) (Kd.R_base ho0) hb); have n1_ := Aside0.mk (Kd.R_elder' (by (with_reducible repeat (first | apply Kd.R_alloc | apply Kd.R_drewN | apply Kd.R_drew)); exact HO199.out) (Kd.R_base ho0) hb); have n2_ := Aside0.mk (Kd.R_elder' (by (with_reducible repeat (first | apply Kd.R_alloc | apply Kd.R_drewN | apply Kd.R_drew)); exact HO207.out) (Kd.R_base ho0) hb); have n3_ := Aside0.mk (Kd.R_lower (Kd.R_new' (Kd.R_new' (Kd.R_new' ho0 (Kd.R_lt (by (with_reducible repeat (first | apply Kd.R_alloc | apply Kd.R_drewN | apply Kd.R_drew)); exact HO196.out))) (Kd.R_lt (by (with_reducible repeat (first | apply Kd.R_alloc | apply Kd.R_drewN | apply Kd.R_drew)); exact HO199.out))) (Kd.R_lt (by (with_reducible repeat (first | apply Kd.R_alloc | apply Kd.R_drewN | apply Kd.R_drew)); exact HO207.out))) (below_size (by repeat (first | (with_reducible first | exact HB.out | apply below_alloc | apply pw_below_drewN | apply below_drew1) | exact HB.out)))); have n4_ := Aside0.mk (Kd.C_below (by repeat (first | (with_reducible exact HR203.out) | (with_reducible refine Kd.C_alloc ?_ _) | (with_reducible refine Kd.C_drewN ?_ _) | (with_reducible refine Kd.C_drew ?_) | exact HR203.out)) hb); have n5_ := Aside0.mk (below_step (by repeat (first | (with_reducible first | exact HB.out | apply below_alloc | apply pw_below_drewN | apply below_drew1) | exact HB.out)) hb); clear HO196; clear HO199; clear HO207; clear HR203; clear HB; have HO196 := n0_; have HO199 := n1_; have HO207 := n2_; have HO210 := n3_; have HR203 := n4_; have HB := n5_; clear n0_ n1_ n2_ n3_ n4_ n5_; (try clear hb); (try clear hb2); (try clear hk); (try clear hi); (try clear ho0)))
                  (try simp only [Act.put, List.setIfInBounds_toArray, List.set_cons_zero, List.set_cons_succ])
                  go_cut [53] (fun v53 wc => ∃ (kq : Nat) (x53_15 : Bool), v53 = .bool x53_15 ∧ Aside0 (redpenlaw02_UtfPuts.j1 kq l0 t204 t205 t208 x53_15 = some r) ∧ Aside0 (kq ≤ kj5) ∧ Aside0 (Kd.R (Kd.int .u8) 5 wc w.heap.size (fun k_ => some k_ ≠ (v209 : Value).ownBlock) v206 t204) ∧ Aside0 (Kd.R (Kd.int .u8) 5 wc w.heap.size (fun k_ => some k_ ≠ (v206 : Value).ownBlock) v209 t208) ∧ Aside0 (Kd.C (Kd.int .u8) wc Ao25 y200.length y200) ∧ Aside0 (Below w.heap.size w wc))
                  case first =>
                    have H := HC16.out
                    clear HC16
                    obtain ⟨ji28, hji28⟩ : ∃ j_ : Int, (wrap64 ((l0.length : Int) + 1)) = j_ := ⟨_, rfl⟩
                    replace H : (if 0 ≤ (ji28) then (if (ji28) ≤ (y197.length : Int) then ((some (y197.take ((ji28) : Int).toNat : List Int)).bind fun y211 => (if (l0.length : Int) < (y211.length : Int) then (if (rd y211 (l0.length : Int)) = 7 then ((utf_Text.f kj5 l2).bind fun t216 => ((redpenref01_Text.f kj5 l2).bind fun t217 => (redpenlaw02_UtfPuts.j1 kj5 l0 t204 t205 t208 (t216.toList != t217.toList)))) else (redpenlaw02_UtfPuts.j1 kj5 l0 t204 t205 t208 true)) else (none))) else (none)) else (none)) = some r := by first | (rw [hji28] at H; exact H) | (simp only [hji28] at H ⊢; exact H)
                    have hji28w : (IntKind.i64.wrap ((l0.length : Int) + 1)) = ji28 := (i64_w _).trans hji28
                    by_cases c29 : 0 ≤ (ji28)
                    · rw [if_pos c29] at H
                      have c29b0 := eq_true c29
                      have c29b1 : decide (0 ≤ (ji28)) = true := decide_eq_true c29
                      clear c29
                      by_cases c30 : (ji28) ≤ (y197.length : Int)
                      · rw [if_pos c30] at H
                        have c30b0 := eq_true c30
                        have c30b1 : decide ((ji28) ≤ (y197.length : Int)) = true := decide_eq_true c30
                        clear c30
                        obtain ⟨y211, hy211⟩ : ∃ y_ : List Int, y_ = (y197.take ((ji28) : Int).toNat) := ⟨_, rfl⟩
                        replace H : (if (l0.length : Int) < (y211.length : Int) then (if (rd y211 (l0.length : Int)) = 7 then ((utf_Text.f kj5 l2).bind fun t216 => ((redpenref01_Text.f kj5 l2).bind fun t217 => (redpenlaw02_UtfPuts.j1 kj5 l0 t204 t205 t208 (t216.toList != t217.toList)))) else (redpenlaw02_UtfPuts.j1 kj5 l0 t204 t205 t208 true)) else (none)) = some r := by first | (rw [hy211]; with_reducible exact H) | (have H2_ := (Option.bind_some _ _).symm.trans H; rw [hy211]; with_reducible exact H2_) | (have H2_ := (Option.bind_some _ _).symm.trans H; with_reducible exact H2_) | with_reducible exact H | (rw [hy211]; exact H) | exact H
                        have Ny211 := Aside0.mk hy211
                        clear hy211
                        by_cases c31 : (l0.length : Int) < (y211.length : Int)
                        · rw [if_pos c31] at H
                          have c31b0 : decide ((l0.length : Int) < (y211.length : Int)) = true := decide_eq_true c31
                          have c31b1 : decide (l0.length < y211.length) = true := decide_eq_true (Int.ofNat_lt.mp c31)
                          clear c31
                          (first | rw [c31b0] | (simp only [i64_w, i32_w]; rw [c31b0]) | skip)
                          by_cases c32 : (rd y211 (l0.length : Int)) = 7
                          · rw [if_pos c32] at H
                            have c32b0 : ((rd y211 (l0.length : Int)) == 7) = true := beq_iff_eq.mpr c32
                            have c32b1 : ((rd y211 (l0.length : Int)) != 7) = false := bne_eq_false_iff_eq.mpr c32
                            clear c32
                            replace H := Option.bind_eq_some_iff.mp H
                            obtain ⟨t216, A330, H⟩ := H
                            replace H : ((redpenref01_Text.f kj5 l2).bind fun t217 => (redpenlaw02_UtfPuts.j1 kj5 l0 t204 t205 t208 (t216.toList != t217.toList))) = some r := H
                            have A33 := Aside0.mk A330
                            clear A330
                            replace H := Option.bind_eq_some_iff.mp H
                            obtain ⟨t217, A340, H⟩ := H
                            replace H : (redpenlaw02_UtfPuts.j1 kj5 l0 t204 t205 t208 (t216.toList != t217.toList)) = some r := H
                            have A34 := Aside0.mk A340
                            clear A340
                            have H' := Aside0.mk H
                            clear H
                            have q35 : ((ji28) : Int) ≤ ((y197.length : Int) : Int) := of_decide_eq_true (by first | (with_reducible assumption) | assumption)
                            obtain ⟨i035, hi035, _, hsz35, _⟩ := info_parts info5
                            have hroom35 : y197.length ≤ co25 := (Kd.R_reads' HO199.out).2.1
                            have hC35 : Kd.C (Kd.int .u8) _ Ao25 y197.length y197 := (Kd.R_reads' HO199.out).2.2
                            have hcut35 := cut_past (P := Try.prog) 22 5 .i64 Try.underlying22 hi035 Ao25 y200.length y197.length co25 (ji28) (of_decide_eq_true (by first | (with_reducible assumption) | assumption)) q35 hroom35
                            have hr35 := Kd.C_take (m := ((ji28) : Int).toNat) hC35 (by omega)
                            have hy35 : y211.length = ((ji28) : Int).toNat := (by rw [Ny211.out, List.length_take]; omega)
                            rw [← Ny211.out] at hr35
                            rw [← hy35] at hcut35
                            have HR214 := Aside0.mk hr35
                            have HC214 := Aside0.mk (show y211.length ≤ co25 from by omega)
                            clear hr35 hC35 hroom35 hi035 hsz35
                            have KY35 := Aside0.mk hy35
                            clear hy35
                            have KL35 := Aside0.mk (show ((ji28) : Int).toNat ≤ y197.length from by omega)
                            replace q35 := eq_true q35
                            have p215 : 0 ≤ ((l0.length : Int) : Int) := of_decide_eq_true (by first | (with_reducible assumption) | assumption)
                            have q215 : (l0.length : Int) < (y211.length : Int) := of_decide_eq_true (by first | (with_reducible assumption) | assumption)
                            obtain ⟨ad215, e215, hx215_0⟩ := Kd.at_int (by repeat (first | (with_reducible exact HR214.out) | (with_reducible refine Kd.C_alloc ?_ _) | (with_reducible refine Kd.C_drewN ?_ _) | (with_reducible refine Kd.C_drew ?_) | exact HR214.out)) (l0.length : Int) p215 q215
                            cases e215
                            (try simp only [Go.IntWalk.toNatUp] at hx215_0)
                            replace p215 := eq_true p215
                            replace q215 := eq_true q215
                            go_wp2_with (first | (go_at_call 24; (with_reducible refine (utf_Text.calls kj5 _ _ l2 t216 _ ?side1 ?side2 A33.out).mono ?_); (case side1 => repeat (first | exact (Kd.C_below HR2.out HB.out) | (with_reducible refine Kd.C_alloc ?_ _) | (with_reducible refine Kd.C_drewN ?_ _) | (with_reducible refine Kd.C_drew ?_))); (case side2 => exact HC2.out); rintro e w36 ⟨rfl, hb⟩; have n0_ := Aside0.mk (Kd.R_below (by (with_reducible repeat (first | apply Kd.R_alloc | apply Kd.R_drewN | apply Kd.R_drew)); exact HO196.out) hb); have n1_ := Aside0.mk (Kd.R_below (by (with_reducible repeat (first | apply Kd.R_alloc | apply Kd.R_drewN | apply Kd.R_drew)); exact HO199.out) hb); have n2_ := Aside0.mk (Kd.R_below (by (with_reducible repeat (first | apply Kd.R_alloc | apply Kd.R_drewN | apply Kd.R_drew)); exact HO207.out) hb); have n3_ := Aside0.mk (Kd.R_below (by (with_reducible repeat (first | apply Kd.R_alloc | apply Kd.R_drewN | apply Kd.R_drew)); exact HO210.out) hb); have n4_ := Aside0.mk (Kd.C_below (by repeat (first | (with_reducible exact HR203.out) | (with_reducible refine Kd.C_alloc ?_ _) | (with_reducible refine Kd.C_drewN ?_ _) | (with_reducible refine Kd.C_drew ?_) | exact HR203.out)) hb); have n5_ := Aside0.mk (Kd.C_below (by repeat (first | (with_reducible exact HR214.out) | (with_reducible refine Kd.C_alloc ?_ _) | (with_reducible refine Kd.C_drewN ?_ _) | (with_reducible refine Kd.C_drew ?_) | exact HR214.out)) hb); have n6_ := Aside0.mk (below_step (by repeat (first | (with_reducible first | exact HB.out | apply below_alloc | apply pw_below_drewN | apply below_drew1) | exact HB.out)) hb); clear HO196; clear HO199; clear HO207; clear HO210; clear HR203; clear HR214; clear HB; have HO196 := n0_; have HO199 := n1_; have HO207 := n2_; have HO210 := n3_; have HR203 := n4_; have HR214 := n5_; have HB := n6_; clear n0_ n1_ n2_ n3_ n4_ n5_ n6_; (try clear hb); (try clear hb2); (try clear hk); (try clear hi)) | (go_at_call 19; (with_reducible refine (redpenref01_Text.calls kj5 _ _ l2 t217 _ ?side1 ?side2 A34.out).mono ?_); (case side1 => repeat (first | exact (Kd.C_below HR2.out HB.out) | (with_reducible refine Kd.C_alloc ?_ _) | (with_reducible refine Kd.C_drewN ?_ _) | (with_reducible refine Kd.C_drew ?_))); (case side2 => exact HC2.out); rintro e w37 ⟨rfl, hb⟩; have n0_ := Aside0.mk (Kd.R_below (by (with_reducible repeat (first | apply Kd.R_alloc | apply Kd.R_drewN | apply Kd.R_drew)); exact HO196.out) hb); have n1_ := Aside0.mk (Kd.R_below (by (with_reducible repeat (first | apply Kd.R_alloc | apply Kd.R_drewN | apply Kd.R_drew)); exact HO199.out) hb); have n2_ := Aside0.mk (Kd.R_below (by (with_reducible repeat (first | apply Kd.R_alloc | apply Kd.R_drewN | apply Kd.R_drew)); exact HO207.out) hb); have n3_ := Aside0.mk (Kd.R_below (by (with_reducible repeat (first | apply Kd.R_alloc | apply Kd.R_drewN | apply Kd.R_drew)); exact HO210.out) hb); have n4_ := Aside0.mk (Kd.C_below (by repeat (first | (with_reducible exact HR203.out) | (with_reducible refine Kd.C_alloc ?_ _) | (with_reducible refine Kd.C_drewN ?_ _) | (with_reducible refine Kd.C_drew ?_) | exact HR203.out)) hb); have n5_ := Aside0.mk (Kd.C_below (by repeat (first | (with_reducible exact HR214.out) | (with_reducible refine Kd.C_alloc ?_ _) | (with_reducible refine Kd.C_drewN ?_ _) | (with_reducible refine Kd.C_drew ?_) | exact HR214.out)) hb); have n6_ := Aside0.mk (below_step (by repeat (first | (with_reducible first | exact HB.out | apply below_alloc | apply pw_below_drewN | apply below_drew1) | exact HB.out)) hb); clear HO196; clear HO199; clear HO207; clear HO210; clear HR203; clear HR214; clear HB; have HO196 := n0_; have HO199 := n1_; have HO207 := n2_; have HO210 := n3_; have HR203 := n4_; have HR214 := n5_; have HB := n6_; clear n0_ n1_ n2_ n3_ n4_ n5_ n6_; (try clear hb); (try clear hb2); (try clear hk); (try clear hi)))
                            go_meet
                            case rel => exact ⟨_, ((t216.toList != t217.toList)), (by first | rfl | (simp; done) | (simp [*]; done)), H', ⟨by have := HJ5.out; first | omega | exact Nat.le_refl _⟩, ⟨by (with_reducible repeat (first | apply Kd.R_alloc | apply Kd.R_drewN | apply Kd.R_drew)); exact Kd.R_mono HO207.out (fun _ hk => hk.2)⟩, ⟨by (with_reducible repeat (first | apply Kd.R_alloc | apply Kd.R_drewN | apply Kd.R_drew)); exact Kd.R_mono HO210.out (fun _ hk => hk.2)⟩, ⟨by repeat (first | (with_reducible exact HR203.out) | (with_reducible refine Kd.C_alloc ?_ _) | (with_reducible refine Kd.C_drewN ?_ _) | (with_reducible refine Kd.C_drew ?_) | exact HR203.out)⟩, ⟨by repeat (first | (with_reducible first | exact HB.out | apply below_alloc | apply pw_below_drewN | apply below_drew1) | exact HB.out)⟩⟩
                          · rw [if_neg c32] at H
                            have c32b0 : ((rd y211 (l0.length : Int)) == 7) = false := beq_eq_false_iff_ne.mpr c32
                            have c32b1 : ((rd y211 (l0.length : Int)) != 7) = true := bne_iff_ne.mpr c32
                            have H' := Aside0.mk H
                            clear H
                            have q38 : ((ji28) : Int) ≤ ((y197.length : Int) : Int) := of_decide_eq_true (by first | (with_reducible assumption) | assumption)
                            obtain ⟨i038, hi038, _, hsz38, _⟩ := info_parts info5
                            have hroom38 : y197.length ≤ co25 := (Kd.R_reads' HO199.out).2.1
                            have hC38 : Kd.C (Kd.int .u8) _ Ao25 y197.length y197 := (Kd.R_reads' HO199.out).2.2
                            have hcut38 := cut_past (P := Try.prog) 22 5 .i64 Try.underlying22 hi038 Ao25 y200.length y197.length co25 (ji28) (of_decide_eq_true (by first | (with_reducible assumption) | assumption)) q38 hroom38
                            have hr38 := Kd.C_take (m := ((ji28) : Int).toNat) hC38 (by omega)
                            have hy38 : y211.length = ((ji28) : Int).toNat := (by rw [Ny211.out, List.length_take]; omega)
                            rw [← Ny211.out] at hr38
                            rw [← hy38] at hcut38
                            have HR214 := Aside0.mk hr38
                            have HC214 := Aside0.mk (show y211.length ≤ co25 from by omega)
                            clear hr38 hC38 hroom38 hi038 hsz38
                            have KY38 := Aside0.mk hy38
                            clear hy38
                            have KL38 := Aside0.mk (show ((ji28) : Int).toNat ≤ y197.length from by omega)
                            replace q38 := eq_true q38
                            have p215 : 0 ≤ ((l0.length : Int) : Int) := of_decide_eq_true (by first | (with_reducible assumption) | assumption)
                            have q215 : (l0.length : Int) < (y211.length : Int) := of_decide_eq_true (by first | (with_reducible assumption) | assumption)
                            obtain ⟨ad215, e215, hx215_0⟩ := Kd.at_int (by repeat (first | (with_reducible exact HR214.out) | (with_reducible refine Kd.C_alloc ?_ _) | (with_reducible refine Kd.C_drewN ?_ _) | (with_reducible refine Kd.C_drew ?_) | exact HR214.out)) (l0.length : Int) p215 q215
                            cases e215
                            (try simp only [Go.IntWalk.toNatUp] at hx215_0)
                            replace p215 := eq_true p215
                            replace q215 := eq_true q215
                            go_wp2
                            go_meet
                            case rel => exact ⟨_, (true), (by first | rfl | (simp; done) | (simp [*]; done)), H', ⟨by have := HJ5.out; first | omega | exact Nat.le_refl _⟩, ⟨by (with_reducible repeat (first | apply Kd.R_alloc | apply Kd.R_drewN | apply Kd.R_drew)); exact Kd.R_mono HO207.out (fun _ hk => hk.2)⟩, ⟨by (with_reducible repeat (first | apply Kd.R_alloc | apply Kd.R_drewN | apply Kd.R_drew)); exact Kd.R_mono HO210.out (fun _ hk => hk.2)⟩, ⟨by repeat (first | (with_reducible exact HR203.out) | (with_reducible refine Kd.C_alloc ?_ _) | (with_reducible refine Kd.C_drewN ?_ _) | (with_reducible refine Kd.C_drew ?_) | exact HR203.out)⟩, ⟨by repeat (first | (with_reducible first | exact HB.out | apply below_alloc | apply pw_below_drewN | apply below_drew1) | exact HB.out)⟩⟩
                        · rw [if_neg c31] at H
                          exact absurd H (by simp)
                      · rw [if_neg c30] at H
                        exact absurd H (by simp)
                    · rw [if_neg c29] at H
                      exact absurd H (by simp)
                  case rest =>
                    clear HC16
                    try clear c1
                    try clear c2
                    try clear p2
                    try clear q2
                    try clear hx2
                    try clear c3
                    try clear q3
                    try clear c5
                    try clear p6
                    try clear c8
                    try clear c8b0
                    try clear c8b1
                    try clear c9
                    try clear c10
                    try clear c11
                    try clear c12
                    try clear c12b0
                    try clear c12b1
                    try clear c13
                    try clear c13b0
                    try clear c13b1
                    try clear p21
                    try clear q21
                    try clear hx21
                    try clear c22
                    try clear c23
                    try clear q24
                    try clear c29
                    try clear c29b0
                    try clear c29b1
                    try clear c30
                    try clear c30b0
                    try clear c30b1
                    try clear c31
                    try clear c31b0
                    try clear c31b1
                    try clear c32
                    try clear c32b0
                    try clear c32b1
                    try clear q35
                    try clear q38
                    try clear hx215_0
                    try clear p2
                    try clear p215
                    try clear q215
                    try clear q24
                    try clear q35
                    try clear q38
                    obtain ⟨kq, x53_15, rfl, HA, HJ15, HO_8, HO_10, HR203, HB⟩ := hcut
                    cases kq with
                    | zero => exact absurd HA.out (by simp [redpenlaw02_UtfPuts.j1])
                    | succ kj15 =>
                      have H := HA.out
                      clear HA
                      simp only [redpenlaw02_UtfPuts.j1] at H
                      by_cases c39 : x53_15 = true
                      · subst c39
                        have H1 : (some false) = some r := by rw [if_pos rfl] at H; exact H
                        clear H
                        have H := H1
                        clear H1
                        obtain rfl := Option.some.inj H
                        go_wp2
                        go_ret
                        exact ⟨by first | rfl | (simp [errW_none, errW_some] <;> rfl) | (simp [*, errW_none, errW_some] <;> rfl), by repeat (first | (with_reducible first | exact HB.out | apply below_alloc | apply pw_below_drewN | apply below_drew1) | exact HB.out)⟩
                      · replace c39 := Bool.eq_false_iff.mpr c39
                        subst c39
                        have H1 : (if (t208.length : Int) = 0 then (if t205 = 2 then (some ((t204.length : Int) == 0)) else (some false)) else (if t205 = 0 then (if (strOfNums l0).size + (strOfNums t208).size ≤ 9223372036854775807 then (some ((strOfNums t204).toList == ((strOfNums l0) ++ (strOfNums t208)).toList)) else (none)) else (some false))) = some r := by rw [if_neg (show ¬ (false = true) by decide)] at H; exact H
                        clear H
                        have H := H1
                        clear H1
                        by_cases c40 : (t208.length : Int) = 0
                        · rw [if_pos c40] at H
                          have c40b0 : ((t208.length : Int) == 0) = true := beq_iff_eq.mpr c40
                          have c40b1 : ((t208.length : Int) != 0) = false := bne_eq_false_iff_eq.mpr c40
                          clear c40
                          by_cases c41 : t205 = 2
                          · rw [if_pos c41] at H
                            have c41b0 : (t205 == 2) = true := beq_iff_eq.mpr c41
                            have c41b1 : (t205 != 2) = false := bne_eq_false_iff_eq.mpr c41
                            clear c41
                            obtain rfl := Option.some.inj H
                            obtain ⟨Ao42, co42, eo42⟩ := Kd.R_slice HO_10.out
                            subst eo42
                            obtain ⟨Ao43, co43, eo43⟩ := Kd.R_slice HO_8.out
                            subst eo43
                            go_wp2
                            go_ret
                            exact ⟨by first | rfl | (simp [errW_none, errW_some] <;> rfl) | (simp [*, errW_none, errW_some] <;> rfl), by repeat (first | (with_reducible first | exact HB.out | apply below_alloc | apply pw_below_drewN | apply below_drew1) | exact HB.out)⟩
                          · rw [if_neg c41] at H
                            have c41b0 : (t205 == 2) = false := beq_eq_false_iff_ne.mpr c41
                            have c41b1 : (t205 != 2) = true := bne_iff_ne.mpr c41
                            obtain rfl := Option.some.inj H
                            obtain ⟨Ao44, co44, eo44⟩ := Kd.R_slice HO_10.out
                            subst eo44
                            go_wp2
                            go_ret
                            exact ⟨by first | rfl | (simp [errW_none, errW_some] <;> rfl) | (simp [*, errW_none, errW_some] <;> rfl), by repeat (first | (with_reducible first | exact HB.out | apply below_alloc | apply pw_below_drewN | apply below_drew1) | exact HB.out)⟩
                        · rw [if_neg c40] at H
                          have c40b0 : ((t208.length : Int) == 0) = false := beq_eq_false_iff_ne.mpr c40
                          have c40b1 : ((t208.length : Int) != 0) = true := bne_iff_ne.mpr c40
                          have c40b2 : ¬ (t208 = []) := fun h_ => c40 (by rw [h_]; rfl)
                          by_cases c45 : t205 = 0
                          · rw [if_pos c45] at H
                            have c45b0 : (t205 == 0) = true := beq_iff_eq.mpr c45
                            have c45b1 : (t205 != 0) = false := bne_eq_false_iff_eq.mpr c45
                            clear c45
                            by_cases c46 : (strOfNums l0).size + (strOfNums t208).size ≤ 9223372036854775807
                            · rw [if_pos c46] at H
                              have c46b0 := eq_true c46
                              have c46b1 : decide ((strOfNums l0).size + (strOfNums t208).size ≤ 9223372036854775807) = true := decide_eq_true c46
                              try have c46b2 : (9223372036854775807 < (strOfNums l0).size + (strOfNums t208).size) = False := eq_false (Nat.not_lt.2 c46)
                              obtain rfl := Option.some.inj H
                              obtain ⟨Ao47, co47, eo47⟩ := Kd.R_slice HO_10.out
                              subst eo47
                              have hcv48 := own_string (P := Try.prog) Try.underlying22 Try.underlying5 Try.underlying9 (Kd.own_of_R HO_8.out)
                              have hcv49 := Kd.C_string (P := Try.prog) (A := A0) (c := c0) Try.underlying22 Try.underlying5 Try.underlying9 (Kd.C_below HR0.out HB.out)
                              have hcv50 := own_string (P := Try.prog) Try.underlying22 Try.underlying5 Try.underlying9 (Kd.own_of_R HO_10.out)
                              go_wp2
                              go_ret
                              exact ⟨by first | rfl | (simp [errW_none, errW_some] <;> rfl) | (simp [*, errW_none, errW_some] <;> rfl), by repeat (first | (with_reducible first | exact HB.out | apply below_alloc | apply pw_below_drewN | apply below_drew1) | exact HB.out)⟩
                            · rw [if_neg c46] at H
                              exact absurd H (by simp)
                          · rw [if_neg c45] at H
                            have c45b0 : (t205 == 0) = false := beq_eq_false_iff_ne.mpr c45
                            have c45b1 : (t205 != 0) = true := bne_iff_ne.mpr c45
                            obtain rfl := Option.some.inj H
                            obtain ⟨Ao51, co51, eo51⟩ := Kd.R_slice HO_10.out
                            subst eo51
                            go_wp2
                            go_ret
                            exact ⟨by first | rfl | (simp [errW_none, errW_some] <;> rfl) | (simp [*, errW_none, errW_some] <;> rfl), by repeat (first | (with_reducible first | exact HB.out | apply below_alloc | apply pw_below_drewN | apply below_drew1) | exact HB.out)⟩
                · rw [if_neg c13] at H
                  exact absurd H (by simp)
              · rw [if_neg c12] at H
                exact absurd H (by simp)
            · rw [if_neg c11] at H
              exact absurd H (by simp)
          · rw [if_neg c10] at H
            exact absurd H (by simp)
  · replace c5 := Bool.eq_false_iff.mpr c5
    subst c5
    have H1 : (some false) = some r := by rw [if_neg (show ¬ (false = true) by decide)] at H; exact H
    clear H
    have H := H1
    clear H1
    obtain rfl := Option.some.inj H
    go_enter Try.func5, Try.ntmps5
    go_wp2_with (first | ((with_reducible refine gate_callee (f := 13) rfl ?_); refine goesL_ (some 11) rfl rfl Try.func13 (by kernel_rfl) rfl #[] rfl (by (try simp only [List.map_toArray, List.map_cons, List.map_nil]); first | done | rfl | (simp only [List.length_drop, List.length_take]; rfl)) ?_; (with_reducible refine (redpenlaw02_Awake.calls k  false _ A4.out).mono ?_); rintro e w52 ⟨rfl, hb⟩; refine ⟨_, rfl, ?_⟩; have n0_ := Aside0.mk (below_step (by repeat (first | (with_reducible first | exact HB.out | apply below_alloc | apply pw_below_drewN | apply below_drew1) | exact HB.out)) hb); clear HB; have HB := n0_; clear n0_; (try clear hb); (try clear hb2); (try clear hk); (try clear hi)))
    go_ret
    exact ⟨by first | rfl | (simp [errW_none, errW_some] <;> rfl) | (simp [*, errW_none, errW_some] <;> rfl), by repeat (first | (with_reducible first | exact HB.out | apply below_alloc | apply pw_below_drewN | apply below_drew1) | exact HB.out)⟩

/-- THE ONE PURE STATEMENT of redpenlaw02_UtfPuts: yours. -/
def redpenlaw02_UtfPuts.Pure : Prop := ∀ (l0 : List Int) (a1 : Int) (l2 : List Int), l0.length ≤ maxLen → l0.length * 1 ≤ 140737488351232 → (∀ x ∈ l0, (Lit.int .u8 x).wf = true) → (Lit.int .i32 a1).wf = true → l2.length ≤ maxLen → l2.length * 4 ≤ 140737488351232 → (∀ x ∈ l2, (Lit.int .i32 x).wf = true) → ∃ k, redpenlaw02_UtfPuts.f k l0 a1 l2 = some true
theorem redpenlaw02_UtfPuts.walk (P : redpenlaw02_UtfPuts.Pure) (a0 : Option Addr) (len0 cap0 : Nat) (z0 : List Int) (a1 : Int) (a2 : Option Addr) (len2 cap2 : Nat) (z2 : List Int) (w : World) (w0 : (a0 = none ∧ len0 = 0 ∧ cap0 = 0 ∧ z0 = []) ∨ ∃ x, a0 = some x ∧ len0 ≤ cap0 ∧ cap0 ≤ maxLen ∧ z0.length = cap0 ∧ (∀ i, i < z0.length → w.cell? (x.add i) = some (.int .u8 (z0.getD i 0))) ∧ ∀ n ∈ z0, (Lit.int .u8 n).wf = true) (y0 : len0 * 1 ≤ 140737488351232) (w1 : (Lit.int .i32 a1).wf = true) (w2 : (a2 = none ∧ len2 = 0 ∧ cap2 = 0 ∧ z2 = []) ∨ ∃ x, a2 = some x ∧ len2 ≤ cap2 ∧ cap2 ≤ maxLen ∧ z2.length = cap2 ∧ (∀ i, i < z2.length → w.cell? (x.add i) = some (.int .i32 (z2.getD i 0))) ∧ ∀ n ∈ z2, (Lit.int .i32 n).wf = true) (y2 : len2 * 4 ≤ 140737488351232) :
    Calls Try.prog 5 #[.slice a0 len0 cap0, .int .i32 a1, .slice a2 len2 cap2] w fun e w' => e = .returned (.bool true) ∧ Below w.heap.size w w' := by
  obtain ⟨l0, rfl, hr0, hm0, hw0, hc0⟩ := ReadsInt.ofRowC w0
  obtain ⟨l2, rfl, hr2, hm2, hw2, hc2⟩ := ReadsInt.ofRowC w2
  obtain ⟨k, h⟩ := P l0 a1 l2 hm0 y0 hw0 w1 hm2 y2 hw2
  refine (redpenlaw02_UtfPuts.calls k _ _ l0 a1 _ _ l2 true w (Kd.C_of_reads (d := (0 : Int)) (h1 := fun _ => rfl) hr0) hc0 (Kd.C_of_reads (d := (0 : Int)) (h1 := fun _ => rfl) hr2) hc2 h).mono ?_
  rintro e w' ⟨rfl, hd⟩
  exact ⟨rfl, hd⟩

end Go.Proofs.Ytgjnelloegkicaa.PUtfPuts
