-- Laid by a program of ours (the kit's print with words and contracts of our own beside it).
import Derived.Test.YtmnohlmdckcdeaaPFoldSignsx0
import Derived.Test.YtmnohlmdckcdeaaPFoldSignsx2
import Derived.Test.YtmnohlmdckcdeaaPFoldSignsx3
namespace Go.Proofs.Ytmnohlmdckcdeaa.PFoldSigns
open Go.RowKit Go.Proofs.Ytmnohlmdckcdeaa.X Go.Proofs.YtmnohlmdckcdeaaW.PrintWords Go.Proofs.YtmnohlmdckcdeaaW.PrintLast Go.Proofs.YtmnohlmdckcdeaaW.PrintMore
attribute [local go_sem] max2_int min2_int max_two min_two max_three min_three max_four min_four   -- for this text's walks alone
set_option linter.unusedVariables false
set_option linter.unusedSimpArgs false

/-! ### redpenlaw04_FoldSigns: function 3 -/
mutual
def redpenlaw04_FoldSigns.j0 : Nat → Int → Int → Int → Option (Bool)
  | 0, _, _, _ => none
  | k + 1, x0, x3, x4 => (redpenref01_Great.f x0).bind fun t199 => (if t199 = true then (redpenlaw04_FoldSigns.j1 k x0 x3 (wrap32 (x0 + 32))) else (redpenlaw04_FoldSigns.j1 k x0 x3 x4))
def redpenlaw04_FoldSigns.j1 : Nat → Int → Int → Int → Option (Bool)
  | 0, _, _, _ => none
  | k + 1, x0, x3, x4 => (fold_Letter.f x0).bind fun t200 => ((redpenref01_Letter.f x0).bind fun t201 => (if (t200 == t201) = true then ((fold_Great.f x0).bind fun t202 => ((redpenref01_Great.f x0).bind fun t203 => (if (t202 == t203) = true then ((fold_Small.f x0).bind fun t204 => ((redpenref01_Small.f x0).bind fun t205 => (if (t204 == t205) = true then ((fold_Up.f x0).bind fun t206 => (if t206 = x3 then ((fold_Down.f x0).bind fun t207 => (some (t207 == x4))) else (some false))) else (some false)))) else (some false)))) else (some false)))
end
def redpenlaw04_FoldSigns.f (k : Nat) (a0 : Int) : Option (Bool) := (redpenlaw04_Awake.f k).bind fun t197 => (if t197 = true then ((redpenref01_Small.f a0).bind fun t198 => (if t198 = true then (redpenlaw04_FoldSigns.j0 k a0 (wrap32 (a0 - 32)) a0) else (redpenlaw04_FoldSigns.j0 k a0 a0 a0))) else (some false))
theorem redpenlaw04_FoldSigns.mono_l : ∀ k, (∀ y0 y1 y2, LeO (redpenlaw04_FoldSigns.j0 k y0 y1 y2) (redpenlaw04_FoldSigns.j0 (k + 1) y0 y1 y2)) ∧ (∀ y0 y1 y2, LeO (redpenlaw04_FoldSigns.j1 k y0 y1 y2) (redpenlaw04_FoldSigns.j1 (k + 1) y0 y1 y2))
  | 0 => ⟨fun _ _ _ r h => by simp [redpenlaw04_FoldSigns.j0] at h, fun _ _ _ r h => by simp [redpenlaw04_FoldSigns.j1] at h⟩
  | k + 1 => by
    obtain ⟨ih0, ih1⟩ := redpenlaw04_FoldSigns.mono_l k
    refine ⟨?_, ?_⟩
    · intro y0 y1 y2
      unfold redpenlaw04_FoldSigns.j0
      repeat' first
      | (with_reducible exact ih0 _ _ _)
      | (with_reducible exact ih1 _ _ _)
      | (with_reducible exact redpenlaw04_Awake.mono _)
      | (with_reducible exact LeO.refl _)
      | (with_reducible exact LeO.none _)
      | (with_reducible refine LeO.ite ?_ ?_)
      | (with_reducible refine LeO.bind ?_ (fun _ => ?_))
      | exact ih0 _ _ _
      | exact ih1 _ _ _
      | exact redpenlaw04_Awake.mono _
      | exact LeO.none _
      | refine LeO.ite ?_ ?_
      | refine LeO.bind ?_ (fun _ => ?_)
    · intro y0 y1 y2
      unfold redpenlaw04_FoldSigns.j1
      repeat' first
      | (with_reducible exact ih0 _ _ _)
      | (with_reducible exact ih1 _ _ _)
      | (with_reducible exact redpenlaw04_Awake.mono _)
      | (with_reducible exact LeO.refl _)
      | (with_reducible exact LeO.none _)
      | (with_reducible refine LeO.ite ?_ ?_)
      | (with_reducible refine LeO.bind ?_ (fun _ => ?_))
      | exact ih0 _ _ _
      | exact ih1 _ _ _
      | exact redpenlaw04_Awake.mono _
      | exact LeO.none _
      | refine LeO.ite ?_ ?_
      | refine LeO.bind ?_ (fun _ => ?_)
theorem redpenlaw04_FoldSigns.mono : ∀ a0 k, LeO (redpenlaw04_FoldSigns.f k a0) (redpenlaw04_FoldSigns.f (k + 1) a0) := by
  intro a0 k
  obtain ⟨ih0, ih1⟩ := redpenlaw04_FoldSigns.mono_l k
  unfold redpenlaw04_FoldSigns.f
  repeat' first
      | (with_reducible exact ih0 _ _ _)
      | (with_reducible exact ih1 _ _ _)
      | (with_reducible exact redpenlaw04_Awake.mono _)
      | (with_reducible exact LeO.refl _)
      | (with_reducible exact LeO.none _)
      | (with_reducible refine LeO.ite ?_ ?_)
      | (with_reducible refine LeO.bind ?_ (fun _ => ?_))
      | exact ih0 _ _ _
      | exact ih1 _ _ _
      | exact redpenlaw04_Awake.mono _
      | exact LeO.none _
      | refine LeO.ite ?_ ?_
      | refine LeO.bind ?_ (fun _ => ?_)
set_option maxHeartbeats 8000000 in
set_option maxRecDepth 100000 in
theorem redpenlaw04_FoldSigns.calls (k : Nat) (a0 : Int) (r : Bool) (w : World) (h : redpenlaw04_FoldSigns.f k a0 = some r) :
    Calls Try.prog 3 #[.int .i32 a0] w fun e w' => e = .returned (.bool r) ∧ Below w.heap.size w w' := by
  have HB := Aside0.mk (Below.refl w.heap.size w)
  have H : ((redpenlaw04_Awake.f k).bind fun t197 => (if t197 = true then ((redpenref01_Small.f a0).bind fun t198 => (if t198 = true then (redpenlaw04_FoldSigns.j0 k a0 (wrap32 (a0 - 32)) a0) else (redpenlaw04_FoldSigns.j0 k a0 a0 a0))) else (some false))) = some r := h
  clear h
  replace H := Option.bind_eq_some_iff.mp H
  obtain ⟨t197, A20, H⟩ := H
  replace H : (if t197 = true then ((redpenref01_Small.f a0).bind fun t198 => (if t198 = true then (redpenlaw04_FoldSigns.j0 k a0 (wrap32 (a0 - 32)) a0) else (redpenlaw04_FoldSigns.j0 k a0 a0 a0))) else (some false)) = some r := H
  have A2 := Aside0.mk A20
  clear A20
  by_cases c3 : t197 = true
  · subst c3
    have H1 : ((redpenref01_Small.f a0).bind fun t198 => (if t198 = true then (redpenlaw04_FoldSigns.j0 k a0 (wrap32 (a0 - 32)) a0) else (redpenlaw04_FoldSigns.j0 k a0 a0 a0))) = some r := by rw [if_pos rfl] at H; exact H
    clear H
    have H := H1
    clear H1
    replace H := Option.bind_eq_some_iff.mp H
    obtain ⟨t198, A40, H⟩ := H
    replace H : (if t198 = true then (redpenlaw04_FoldSigns.j0 k a0 (wrap32 (a0 - 32)) a0) else (redpenlaw04_FoldSigns.j0 k a0 a0 a0)) = some r := H
    have A4 := Aside0.mk A40
    clear A40
    have HC5 := Aside0.mk H
    clear H
    go_enter Try.func3, Try.ntmps3
    go_upto_if 10 with (first | ((with_reducible refine gate_callee (f := 10) rfl ?_); refine goesL_ (some 5) rfl rfl Try.func10 (by kernel_rfl) rfl #[] rfl (by (try simp only [List.map_toArray, List.map_cons, List.map_nil]); first | done | rfl | (simp only [List.length_drop, List.length_take]; rfl)) ?_; (with_reducible refine (redpenlaw04_Awake.calls k  true _ A2.out).mono ?_); rintro e w6 ⟨rfl, hb⟩; refine ⟨_, rfl, ?_⟩; have n0_ := Aside0.mk (below_step (by repeat (first | (with_reducible first | exact HB.out | apply below_alloc | apply pw_below_drewN | apply below_drew1) | exact HB.out)) hb); clear HB; have HB := n0_; clear n0_; (try clear hb); (try clear hb2); (try clear hk); (try clear hi)) | ((with_reducible refine gate_callee (f := 11) rfl ?_); refine goesL_ (some 10) rfl rfl Try.func11 (by kernel_rfl) rfl #[.int .i32 a0] rfl (by (try simp only [List.map_toArray, List.map_cons, List.map_nil]); first | done | rfl | (simp only [List.length_drop, List.length_take]; rfl)) ?_; (with_reducible refine (redpenref01_Small.calls a0 t198 _ A4.out).mono ?_); rintro e w' ⟨rfl, ⟨nd, rfl⟩⟩; refine ⟨_, rfl, ?_⟩))
    (try simp only [Act.put, List.setIfInBounds_toArray, List.set_cons_zero, List.set_cons_succ])
    go_cut [3] (fun v3 wc => ∃ (kq : Nat) (x3_4 : Int), v3 = .int .i32 x3_4 ∧ Aside0 (redpenlaw04_FoldSigns.j0 kq a0 x3_4 a0 = some r) ∧ Aside0 (kq ≤ k) ∧ Aside0 (Below w.heap.size w wc))
    case first =>
      have H := HC5.out
      clear HC5
      by_cases c7 : t198 = true
      · subst c7
        have H1 : (redpenlaw04_FoldSigns.j0 k a0 (wrap32 (a0 - 32)) a0) = some r := by rw [if_pos rfl] at H; exact H
        clear H
        have H := H1
        clear H1
        have H' := Aside0.mk H
        clear H
        go_wp2
        go_meet
        case rel => exact ⟨_, (wrap32 (a0 - 32)), (by first | rfl | (simp; done) | (simp [*]; done)), H', ⟨by first | omega | exact Nat.le_refl _⟩, ⟨by repeat (first | (with_reducible first | exact HB.out | apply below_alloc | apply pw_below_drewN | apply below_drew1) | exact HB.out)⟩⟩
      · replace c7 := Bool.eq_false_iff.mpr c7
        subst c7
        have H1 : (redpenlaw04_FoldSigns.j0 k a0 a0 a0) = some r := by rw [if_neg (show ¬ (false = true) by decide)] at H; exact H
        clear H
        have H := H1
        clear H1
        have H' := Aside0.mk H
        clear H
        go_wp2
        go_meet
        case rel => exact ⟨_, (a0), (by first | rfl | (simp; done) | (simp [*]; done)), H', ⟨by first | omega | exact Nat.le_refl _⟩, ⟨by repeat (first | (with_reducible first | exact HB.out | apply below_alloc | apply pw_below_drewN | apply below_drew1) | exact HB.out)⟩⟩
    case rest =>
      clear HC5
      try clear c1
      try clear p2
      try clear c3
      try clear p3
      try clear c7
      obtain ⟨kq, x3_4, rfl, HA, HJ4, HB⟩ := hcut
      cases kq with
      | zero => exact absurd HA.out (by simp [redpenlaw04_FoldSigns.j0])
      | succ kj4 =>
        have H := HA.out
        clear HA
        simp only [redpenlaw04_FoldSigns.j0] at H
        replace H := Option.bind_eq_some_iff.mp H
        obtain ⟨t199, A80, H⟩ := H
        replace H : (if t199 = true then (redpenlaw04_FoldSigns.j1 kj4 a0 x3_4 (wrap32 (a0 + 32))) else (redpenlaw04_FoldSigns.j1 kj4 a0 x3_4 a0)) = some r := H
        have A8 := Aside0.mk A80
        clear A80
        have HC9 := Aside0.mk H
        clear H
        go_upto_if 14 with (first | ((with_reducible refine gate_callee (f := 12) rfl ?_); refine goesL_ (some 14) rfl rfl Try.func12 (by kernel_rfl) rfl #[.int .i32 a0] rfl (by (try simp only [List.map_toArray, List.map_cons, List.map_nil]); first | done | rfl | (simp only [List.length_drop, List.length_take]; rfl)) ?_; (with_reducible refine (redpenref01_Great.calls a0 t199 _ A8.out).mono ?_); rintro e w' ⟨rfl, ⟨nd, rfl⟩⟩; refine ⟨_, rfl, ?_⟩))
        (try simp only [Act.put, List.setIfInBounds_toArray, List.set_cons_zero, List.set_cons_succ])
        go_cut [4] (fun v4 wc => ∃ (kq : Nat) (x4_8 : Int), v4 = .int .i32 x4_8 ∧ Aside0 (redpenlaw04_FoldSigns.j1 kq a0 x3_4 x4_8 = some r) ∧ Aside0 (kq ≤ kj4) ∧ Aside0 (Below w.heap.size w wc))
        case first =>
          have H := HC9.out
          clear HC9
          by_cases c10 : t199 = true
          · subst c10
            have H1 : (redpenlaw04_FoldSigns.j1 kj4 a0 x3_4 (wrap32 (a0 + 32))) = some r := by rw [if_pos rfl] at H; exact H
            clear H
            have H := H1
            clear H1
            have H' := Aside0.mk H
            clear H
            go_wp2
            go_meet
            case rel => exact ⟨_, (wrap32 (a0 + 32)), (by first | rfl | (simp; done) | (simp [*]; done)), H', ⟨by have := HJ4.out; first | omega | exact Nat.le_refl _⟩, ⟨by repeat (first | (with_reducible first | exact HB.out | apply below_alloc | apply pw_below_drewN | apply below_drew1) | exact HB.out)⟩⟩
          · replace c10 := Bool.eq_false_iff.mpr c10
            subst c10
            have H1 : (redpenlaw04_FoldSigns.j1 kj4 a0 x3_4 a0) = some r := by rw [if_neg (show ¬ (false = true) by decide)] at H; exact H
            clear H
            have H := H1
            clear H1
            have H' := Aside0.mk H
            clear H
            go_wp2
            go_meet
            case rel => exact ⟨_, (a0), (by first | rfl | (simp; done) | (simp [*]; done)), H', ⟨by have := HJ4.out; first | omega | exact Nat.le_refl _⟩, ⟨by repeat (first | (with_reducible first | exact HB.out | apply below_alloc | apply pw_below_drewN | apply below_drew1) | exact HB.out)⟩⟩
        case rest =>
          clear HC9
          try clear c1
          try clear p2
          try clear c3
          try clear p3
          try clear c7
          try clear c10
          try clear p2
          try clear p3
          obtain ⟨kq, x4_8, rfl, HA, HJ8, HB⟩ := hcut
          cases kq with
          | zero => exact absurd HA.out (by simp [redpenlaw04_FoldSigns.j1])
          | succ kj8 =>
            have H := HA.out
            clear HA
            simp only [redpenlaw04_FoldSigns.j1] at H
            replace H := Option.bind_eq_some_iff.mp H
            obtain ⟨t200, A110, H⟩ := H
            replace H : ((redpenref01_Letter.f a0).bind fun t201 => (if (t200 == t201) = true then ((fold_Great.f a0).bind fun t202 => ((redpenref01_Great.f a0).bind fun t203 => (if (t202 == t203) = true then ((fold_Small.f a0).bind fun t204 => ((redpenref01_Small.f a0).bind fun t205 => (if (t204 == t205) = true then ((fold_Up.f a0).bind fun t206 => (if t206 = x3_4 then ((fold_Down.f a0).bind fun t207 => (some (t207 == x4_8))) else (some false))) else (some false)))) else (some false)))) else (some false))) = some r := H
            have A11 := Aside0.mk A110
            clear A110
            replace H := Option.bind_eq_some_iff.mp H
            obtain ⟨t201, A120, H⟩ := H
            replace H : (if (t200 == t201) = true then ((fold_Great.f a0).bind fun t202 => ((redpenref01_Great.f a0).bind fun t203 => (if (t202 == t203) = true then ((fold_Small.f a0).bind fun t204 => ((redpenref01_Small.f a0).bind fun t205 => (if (t204 == t205) = true then ((fold_Up.f a0).bind fun t206 => (if t206 = x3_4 then ((fold_Down.f a0).bind fun t207 => (some (t207 == x4_8))) else (some false))) else (some false)))) else (some false)))) else (some false)) = some r := H
            have A12 := Aside0.mk A120
            clear A120
            by_cases c13 : (t200 == t201) = true
            · rw [if_pos c13] at H
              have c13b0 : (t200 == t201) = true := c13
              (try (have c13b1 : decide (t200 = t201) = true := by simpa using c13))
              (try (have c13b2 : (t200 == t201) = true := by simpa using c13))
              clear c13
              replace H := Option.bind_eq_some_iff.mp H
              obtain ⟨t202, A140, H⟩ := H
              replace H : ((redpenref01_Great.f a0).bind fun t203 => (if (t202 == t203) = true then ((fold_Small.f a0).bind fun t204 => ((redpenref01_Small.f a0).bind fun t205 => (if (t204 == t205) = true then ((fold_Up.f a0).bind fun t206 => (if t206 = x3_4 then ((fold_Down.f a0).bind fun t207 => (some (t207 == x4_8))) else (some false))) else (some false)))) else (some false))) = some r := H
              have A14 := Aside0.mk A140
              clear A140
              replace H := Option.bind_eq_some_iff.mp H
              obtain ⟨t203, A150, H⟩ := H
              replace H : (if (t202 == t203) = true then ((fold_Small.f a0).bind fun t204 => ((redpenref01_Small.f a0).bind fun t205 => (if (t204 == t205) = true then ((fold_Up.f a0).bind fun t206 => (if t206 = x3_4 then ((fold_Down.f a0).bind fun t207 => (some (t207 == x4_8))) else (some false))) else (some false)))) else (some false)) = some r := H
              have A15 := Aside0.mk A150
              clear A150
              by_cases c16 : (t202 == t203) = true
              · rw [if_pos c16] at H
                have c16b0 : (t202 == t203) = true := c16
                (try (have c16b1 : decide (t202 = t203) = true := by simpa using c16))
                (try (have c16b2 : (t202 == t203) = true := by simpa using c16))
                clear c16
                replace H := Option.bind_eq_some_iff.mp H
                obtain ⟨t204, A170, H⟩ := H
                replace H : ((redpenref01_Small.f a0).bind fun t205 => (if (t204 == t205) = true then ((fold_Up.f a0).bind fun t206 => (if t206 = x3_4 then ((fold_Down.f a0).bind fun t207 => (some (t207 == x4_8))) else (some false))) else (some false))) = some r := H
                have A17 := Aside0.mk A170
                clear A170
                replace H := Option.bind_eq_some_iff.mp H
                obtain ⟨t205, A180, H⟩ := H
                replace H : (if (t204 == t205) = true then ((fold_Up.f a0).bind fun t206 => (if t206 = x3_4 then ((fold_Down.f a0).bind fun t207 => (some (t207 == x4_8))) else (some false))) else (some false)) = some r := H
                have A18 := Aside0.mk A180
                clear A180
                by_cases c19 : (t204 == t205) = true
                · rw [if_pos c19] at H
                  have c19b0 : (t204 == t205) = true := c19
                  (try (have c19b1 : decide (t204 = t205) = true := by simpa using c19))
                  (try (have c19b2 : (t204 == t205) = true := by simpa using c19))
                  clear c19
                  replace H := Option.bind_eq_some_iff.mp H
                  obtain ⟨t206, A200, H⟩ := H
                  replace H : (if t206 = x3_4 then ((fold_Down.f a0).bind fun t207 => (some (t207 == x4_8))) else (some false)) = some r := H
                  have A20 := Aside0.mk A200
                  clear A200
                  by_cases c21 : t206 = x3_4
                  · rw [if_pos c21] at H
                    have c21b0 : (t206 == x3_4) = true := beq_iff_eq.mpr c21
                    have c21b1 : (t206 != x3_4) = false := bne_eq_false_iff_eq.mpr c21
                    clear c21
                    replace H := Option.bind_eq_some_iff.mp H
                    obtain ⟨t207, A220, H⟩ := H
                    replace H : (some (t207 == x4_8)) = some r := H
                    have A22 := Aside0.mk A220
                    clear A220
                    obtain rfl := Option.some.inj H
                    go_wp2_with (first | ((with_reducible refine gate_callee (f := 13) rfl ?_); refine goesL_ (some 18) rfl rfl Try.func13 (by kernel_rfl) rfl #[.int .i32 a0] rfl (by (try simp only [List.map_toArray, List.map_cons, List.map_nil]); first | done | rfl | (simp only [List.length_drop, List.length_take]; rfl)) ?_; (with_reducible refine (fold_Letter.calls a0 t200 _ A11.out).mono ?_); rintro e w' ⟨rfl, ⟨nd, rfl⟩⟩; refine ⟨_, rfl, ?_⟩) | ((with_reducible refine gate_callee (f := 14) rfl ?_); refine goesL_ (some 20) rfl rfl Try.func14 (by kernel_rfl) rfl #[.int .i32 a0] rfl (by (try simp only [List.map_toArray, List.map_cons, List.map_nil]); first | done | rfl | (simp only [List.length_drop, List.length_take]; rfl)) ?_; (with_reducible refine (redpenref01_Letter.calls a0 t201 _ A12.out).mono ?_); rintro e w' ⟨rfl, ⟨nd, rfl⟩⟩; refine ⟨_, rfl, ?_⟩) | (go_at_call 15; (with_reducible refine (fold_Great.calls a0 t202 _ A14.out).mono ?_); rintro e w' ⟨rfl, ⟨nd, rfl⟩⟩) | (go_at_call 12; (with_reducible refine (redpenref01_Great.calls a0 t203 _ A15.out).mono ?_); rintro e w' ⟨rfl, ⟨nd, rfl⟩⟩) | (go_at_call 16; (with_reducible refine (fold_Small.calls a0 t204 _ A17.out).mono ?_); rintro e w' ⟨rfl, ⟨nd, rfl⟩⟩) | (go_at_call 11; (with_reducible refine (redpenref01_Small.calls a0 t205 _ A18.out).mono ?_); rintro e w' ⟨rfl, ⟨nd, rfl⟩⟩) | (go_at_call 17; (with_reducible refine (fold_Up.calls a0 t206 _ A20.out).mono ?_); rintro e w' ⟨rfl, ⟨nd, rfl⟩⟩) | (go_at_call 18; (with_reducible refine (fold_Down.calls a0 t207 _ A22.out).mono ?_); rintro e w' ⟨rfl, ⟨nd, rfl⟩⟩))
                    go_ret
                    exact ⟨by first | rfl | (simp [errW_none, errW_some] <;> rfl) | (simp [*, errW_none, errW_some] <;> rfl), by repeat (first | (with_reducible first | exact HB.out | apply below_alloc | apply pw_below_drewN | apply below_drew1) | exact HB.out)⟩
                  · rw [if_neg c21] at H
                    have c21b0 : (t206 == x3_4) = false := beq_eq_false_iff_ne.mpr c21
                    have c21b1 : (t206 != x3_4) = true := bne_iff_ne.mpr c21
                    obtain rfl := Option.some.inj H
                    go_wp2_with (first | ((with_reducible refine gate_callee (f := 13) rfl ?_); refine goesL_ (some 18) rfl rfl Try.func13 (by kernel_rfl) rfl #[.int .i32 a0] rfl (by (try simp only [List.map_toArray, List.map_cons, List.map_nil]); first | done | rfl | (simp only [List.length_drop, List.length_take]; rfl)) ?_; (with_reducible refine (fold_Letter.calls a0 t200 _ A11.out).mono ?_); rintro e w' ⟨rfl, ⟨nd, rfl⟩⟩; refine ⟨_, rfl, ?_⟩) | ((with_reducible refine gate_callee (f := 14) rfl ?_); refine goesL_ (some 20) rfl rfl Try.func14 (by kernel_rfl) rfl #[.int .i32 a0] rfl (by (try simp only [List.map_toArray, List.map_cons, List.map_nil]); first | done | rfl | (simp only [List.length_drop, List.length_take]; rfl)) ?_; (with_reducible refine (redpenref01_Letter.calls a0 t201 _ A12.out).mono ?_); rintro e w' ⟨rfl, ⟨nd, rfl⟩⟩; refine ⟨_, rfl, ?_⟩) | (go_at_call 15; (with_reducible refine (fold_Great.calls a0 t202 _ A14.out).mono ?_); rintro e w' ⟨rfl, ⟨nd, rfl⟩⟩) | (go_at_call 12; (with_reducible refine (redpenref01_Great.calls a0 t203 _ A15.out).mono ?_); rintro e w' ⟨rfl, ⟨nd, rfl⟩⟩) | (go_at_call 16; (with_reducible refine (fold_Small.calls a0 t204 _ A17.out).mono ?_); rintro e w' ⟨rfl, ⟨nd, rfl⟩⟩) | (go_at_call 11; (with_reducible refine (redpenref01_Small.calls a0 t205 _ A18.out).mono ?_); rintro e w' ⟨rfl, ⟨nd, rfl⟩⟩) | (go_at_call 17; (with_reducible refine (fold_Up.calls a0 t206 _ A20.out).mono ?_); rintro e w' ⟨rfl, ⟨nd, rfl⟩⟩))
                    go_ret
                    exact ⟨by first | rfl | (simp [errW_none, errW_some] <;> rfl) | (simp [*, errW_none, errW_some] <;> rfl), by repeat (first | (with_reducible first | exact HB.out | apply below_alloc | apply pw_below_drewN | apply below_drew1) | exact HB.out)⟩
                · rw [if_neg c19] at H
                  have c19b0 : (t204 == t205) = false := by simpa using c19
                  (try (have c19b1 : decide (t204 = t205) = false := by simpa using c19))
                  (try (have c19b2 : (t204 == t205) = false := by simpa using c19))
                  (try (have c19b3 : ¬ (t204 = t205) := by simpa using c19))
                  clear c19
                  obtain rfl := Option.some.inj H
                  go_wp2_with (first | ((with_reducible refine gate_callee (f := 13) rfl ?_); refine goesL_ (some 18) rfl rfl Try.func13 (by kernel_rfl) rfl #[.int .i32 a0] rfl (by (try simp only [List.map_toArray, List.map_cons, List.map_nil]); first | done | rfl | (simp only [List.length_drop, List.length_take]; rfl)) ?_; (with_reducible refine (fold_Letter.calls a0 t200 _ A11.out).mono ?_); rintro e w' ⟨rfl, ⟨nd, rfl⟩⟩; refine ⟨_, rfl, ?_⟩) | ((with_reducible refine gate_callee (f := 14) rfl ?_); refine goesL_ (some 20) rfl rfl Try.func14 (by kernel_rfl) rfl #[.int .i32 a0] rfl (by (try simp only [List.map_toArray, List.map_cons, List.map_nil]); first | done | rfl | (simp only [List.length_drop, List.length_take]; rfl)) ?_; (with_reducible refine (redpenref01_Letter.calls a0 t201 _ A12.out).mono ?_); rintro e w' ⟨rfl, ⟨nd, rfl⟩⟩; refine ⟨_, rfl, ?_⟩) | (go_at_call 15; (with_reducible refine (fold_Great.calls a0 t202 _ A14.out).mono ?_); rintro e w' ⟨rfl, ⟨nd, rfl⟩⟩) | (go_at_call 12; (with_reducible refine (redpenref01_Great.calls a0 t203 _ A15.out).mono ?_); rintro e w' ⟨rfl, ⟨nd, rfl⟩⟩) | (go_at_call 16; (with_reducible refine (fold_Small.calls a0 t204 _ A17.out).mono ?_); rintro e w' ⟨rfl, ⟨nd, rfl⟩⟩) | (go_at_call 11; (with_reducible refine (redpenref01_Small.calls a0 t205 _ A18.out).mono ?_); rintro e w' ⟨rfl, ⟨nd, rfl⟩⟩))
                  go_ret
                  exact ⟨by first | rfl | (simp [errW_none, errW_some] <;> rfl) | (simp [*, errW_none, errW_some] <;> rfl), by repeat (first | (with_reducible first | exact HB.out | apply below_alloc | apply pw_below_drewN | apply below_drew1) | exact HB.out)⟩
              · rw [if_neg c16] at H
                have c16b0 : (t202 == t203) = false := by simpa using c16
                (try (have c16b1 : decide (t202 = t203) = false := by simpa using c16))
                (try (have c16b2 : (t202 == t203) = false := by simpa using c16))
                (try (have c16b3 : ¬ (t202 = t203) := by simpa using c16))
                clear c16
                obtain rfl := Option.some.inj H
                go_wp2_with (first | ((with_reducible refine gate_callee (f := 13) rfl ?_); refine goesL_ (some 18) rfl rfl Try.func13 (by kernel_rfl) rfl #[.int .i32 a0] rfl (by (try simp only [List.map_toArray, List.map_cons, List.map_nil]); first | done | rfl | (simp only [List.length_drop, List.length_take]; rfl)) ?_; (with_reducible refine (fold_Letter.calls a0 t200 _ A11.out).mono ?_); rintro e w' ⟨rfl, ⟨nd, rfl⟩⟩; refine ⟨_, rfl, ?_⟩) | ((with_reducible refine gate_callee (f := 14) rfl ?_); refine goesL_ (some 20) rfl rfl Try.func14 (by kernel_rfl) rfl #[.int .i32 a0] rfl (by (try simp only [List.map_toArray, List.map_cons, List.map_nil]); first | done | rfl | (simp only [List.length_drop, List.length_take]; rfl)) ?_; (with_reducible refine (redpenref01_Letter.calls a0 t201 _ A12.out).mono ?_); rintro e w' ⟨rfl, ⟨nd, rfl⟩⟩; refine ⟨_, rfl, ?_⟩) | (go_at_call 15; (with_reducible refine (fold_Great.calls a0 t202 _ A14.out).mono ?_); rintro e w' ⟨rfl, ⟨nd, rfl⟩⟩) | (go_at_call 12; (with_reducible refine (redpenref01_Great.calls a0 t203 _ A15.out).mono ?_); rintro e w' ⟨rfl, ⟨nd, rfl⟩⟩))
                go_ret
                exact ⟨by first | rfl | (simp [errW_none, errW_some] <;> rfl) | (simp [*, errW_none, errW_some] <;> rfl), by repeat (first | (with_reducible first | exact HB.out | apply below_alloc | apply pw_below_drewN | apply below_drew1) | exact HB.out)⟩
            · rw [if_neg c13] at H
              have c13b0 : (t200 == t201) = false := by simpa using c13
              (try (have c13b1 : decide (t200 = t201) = false := by simpa using c13))
              (try (have c13b2 : (t200 == t201) = false := by simpa using c13))
              (try (have c13b3 : ¬ (t200 = t201) := by simpa using c13))
              clear c13
              obtain rfl := Option.some.inj H
              go_wp2_with (first | ((with_reducible refine gate_callee (f := 13) rfl ?_); refine goesL_ (some 18) rfl rfl Try.func13 (by kernel_rfl) rfl #[.int .i32 a0] rfl (by (try simp only [List.map_toArray, List.map_cons, List.map_nil]); first | done | rfl | (simp only [List.length_drop, List.length_take]; rfl)) ?_; (with_reducible refine (fold_Letter.calls a0 t200 _ A11.out).mono ?_); rintro e w' ⟨rfl, ⟨nd, rfl⟩⟩; refine ⟨_, rfl, ?_⟩) | ((with_reducible refine gate_callee (f := 14) rfl ?_); refine goesL_ (some 20) rfl rfl Try.func14 (by kernel_rfl) rfl #[.int .i32 a0] rfl (by (try simp only [List.map_toArray, List.map_cons, List.map_nil]); first | done | rfl | (simp only [List.length_drop, List.length_take]; rfl)) ?_; (with_reducible refine (redpenref01_Letter.calls a0 t201 _ A12.out).mono ?_); rintro e w' ⟨rfl, ⟨nd, rfl⟩⟩; refine ⟨_, rfl, ?_⟩))
              go_ret
              exact ⟨by first | rfl | (simp [errW_none, errW_some] <;> rfl) | (simp [*, errW_none, errW_some] <;> rfl), by repeat (first | (with_reducible first | exact HB.out | apply below_alloc | apply pw_below_drewN | apply below_drew1) | exact HB.out)⟩
  · replace c3 := Bool.eq_false_iff.mpr c3
    subst c3
    have H1 : (some false) = some r := by rw [if_neg (show ¬ (false = true) by decide)] at H; exact H
    clear H
    have H := H1
    clear H1
    obtain rfl := Option.some.inj H
    go_enter Try.func3, Try.ntmps3
    go_wp2_with (first | ((with_reducible refine gate_callee (f := 10) rfl ?_); refine goesL_ (some 5) rfl rfl Try.func10 (by kernel_rfl) rfl #[] rfl (by (try simp only [List.map_toArray, List.map_cons, List.map_nil]); first | done | rfl | (simp only [List.length_drop, List.length_take]; rfl)) ?_; (with_reducible refine (redpenlaw04_Awake.calls k  false _ A2.out).mono ?_); rintro e w23 ⟨rfl, hb⟩; refine ⟨_, rfl, ?_⟩; have n0_ := Aside0.mk (below_step (by repeat (first | (with_reducible first | exact HB.out | apply below_alloc | apply pw_below_drewN | apply below_drew1) | exact HB.out)) hb); clear HB; have HB := n0_; clear n0_; (try clear hb); (try clear hb2); (try clear hk); (try clear hi)))
    go_ret
    exact ⟨by first | rfl | (simp [errW_none, errW_some] <;> rfl) | (simp [*, errW_none, errW_some] <;> rfl), by repeat (first | (with_reducible first | exact HB.out | apply below_alloc | apply pw_below_drewN | apply below_drew1) | exact HB.out)⟩

/-- THE ONE PURE STATEMENT of redpenlaw04_FoldSigns: yours. -/
def redpenlaw04_FoldSigns.Pure : Prop := ∀ (a0 : Int), (Lit.int .i32 a0).wf = true → ∃ k, redpenlaw04_FoldSigns.f k a0 = some true
theorem redpenlaw04_FoldSigns.walk (P : redpenlaw04_FoldSigns.Pure) (a0 : Int) (w : World) (w0 : (Lit.int .i32 a0).wf = true) :
    Calls Try.prog 3 #[.int .i32 a0] w fun e w' => e = .returned (.bool true) ∧ Below w.heap.size w w' := by
  obtain ⟨k, h⟩ := P a0 w0
  refine (redpenlaw04_FoldSigns.calls k a0 true w h).mono ?_
  rintro e w' ⟨rfl, hd⟩
  exact ⟨rfl, hd⟩

end Go.Proofs.Ytmnohlmdckcdeaa.PFoldSigns
