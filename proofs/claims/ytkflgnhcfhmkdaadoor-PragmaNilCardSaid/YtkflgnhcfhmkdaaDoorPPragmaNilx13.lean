-- x
import Derived.Test.YtkflgnhcfhmkdaaDoorPPragmaNilx0
import Derived.Test.YtkflgnhcfhmkdaaDoorXApp
import Derived.Test.YtkflgnhcfhmkdaaDoorPPragmaNilx5
import Derived.Test.YtkflgnhcfhmkdaaDoorPPragmaNilx6
import Derived.Test.YtkflgnhcfhmkdaaDoorPPragmaNilx11
import Derived.Test.YtkflgnhcfhmkdaaDoorPPragmaNilx12
namespace Go.Proofs.YtkflgnhcfhmkdaaDoor.PPragmaNil
open Go.RowKit Go.Proofs.YtkflgnhcfhmkdaaDoor.X Go.Proofs.YtkflgnhcfhmkdaaDoorW.PrintWords Go.Proofs.YtkflgnhcfhmkdaaDoorW.PrintLast Go.Proofs.YtkflgnhcfhmkdaaDoorW.PrintMore
attribute [local go_sem] max2_int min2_int max_two min_two max_three min_three max_four min_four   -- for this text's walks alone
set_option linter.unusedVariables false
set_option linter.unusedSimpArgs false

/-! ### redpenlaw17_PragmaNil: function 6 -/
mutual
def redpenlaw17_PragmaNil.j0 : Nat → List Int → Int → ByteArray → Bool → Option (Bool)
 | 0, _, _, _, _ => none
 | k + 1, x0, x1, x2, x24 => if x24 = true then (some true) else (if 26 + x0.length ≤ 140737488355328 then ((some (([115, 112, 101, 108, 108, 58, 119, 111, 114, 100, 115, 32, 113, 113, 10, 115, 112, 101, 108, 108, 58, 108, 105, 110, 101, 10] : List Int) ++ x0)).bind fun t341 => ((some (([] : List Int) : List Int)).bind fun y344 => (if y344.length + t341.length < 140737488355328 then ((some (y344 ++ t341 : List Int)).bind fun y347 => ((pragma_Read.f k y347).bind fun t350 => (redpenlaw17_PragmaNil.l0 k x1 x2 t341 t350 y347 (y347.length : Int) 0))) else (none)))) else (none))
def redpenlaw17_PragmaNil.l0 : Nat → Int → ByteArray → List Int → List (Go.Proofs.YtkflgnhcfhmkdaaDoor.H.RlT) → List Int → Int → Int → Option (Bool)
 | 0, _, _, _, _, _, _, _ => none
 | k + 1, x1, x2, x8, x10, x31, x35, x36 => if x36 < x35 then (if 0 ≤ x36 then (if x36 < (x31.length : Int) then (redpenlaw17_PragmaNil.l0 k x1 x2 x8 x10 (x31.set (x36 : Int).toNat 122) x35 (wrap64 (x36 + 1))) else (none)) else (none)) else ((redpenref15_Read.f k x8).bind fun bt354 => ((pragma_Rules_Spans.f x10).bind fun t361 => (redpenlaw17_PragmaNil.l1 k x1 x2 x10 0 t361 bt354.1 bt354.2)))
def redpenlaw17_PragmaNil.l1 : Nat → Int → ByteArray → List (Go.Proofs.YtkflgnhcfhmkdaaDoor.H.RlT) → Int → List (S40) → List (S40) → List ByteArray → Option (Bool)
 | 0, _, _, _, _, _, _, _ => none
 | k + 1, x1, x2, x10, x13, x46, x361000, x361001 => if x13 < (x46.length : Int) then (if 0 ≤ x13 then (redpenlaw17_PragmaNil.l1 k x1 x2 x10 (wrap64 (x13 + 1)) (x46.set (x13 : Int).toNat (⟨0, 0⟩ : S40)) x361000 x361001) else (none)) else ((pragma_Rules_Off.f [] x1).bind fun t365 => (if t365 = true then (some false) else ((pragma_Rules_Knows.f k [] x2).bind fun t366 => (if t366 = true then (some false) else ((pragma_Rules_Spans.f []).bind fun t367 => (if (t367.length : Int) = 0 then ((pragma_Rules_Off.f x10 x1).bind fun t370 => ((redpenref15_Rules_Alone.f k x361000 x361001 x1).bind fun t371 => (if (t370 == t371) = true then ((pragma_Rules_Knows.f k x10 (⟨#[81, 81]⟩ : ByteArray)).bind fun t372 => (some t372)) else (some false)))) else (some false)))))))
end
def redpenlaw17_PragmaNil.f (k : Nat) (l0 : List Int) (a1 : Int) (a2 : ByteArray) : Option (Bool) := (redpenlaw17_Awake.f k).bind fun t340 => (if t340 = true then (if (l0.length : Int) > 500 then (redpenlaw17_PragmaNil.j0 k l0 a1 a2 true) else (redpenlaw17_PragmaNil.j0 k l0 a1 a2 (decide ((a2.size : Int) > 300)))) else (some false))
theorem redpenlaw17_PragmaNil.mono_l : ∀ k, (∀ y0 y1 y2 y3, LeO (redpenlaw17_PragmaNil.j0 k y0 y1 y2 y3) (redpenlaw17_PragmaNil.j0 (k + 1) y0 y1 y2 y3)) ∧ (∀ y0 y1 y2 y3 y4 y5 y6, LeO (redpenlaw17_PragmaNil.l0 k y0 y1 y2 y3 y4 y5 y6) (redpenlaw17_PragmaNil.l0 (k + 1) y0 y1 y2 y3 y4 y5 y6)) ∧ (∀ y0 y1 y2 y3 y4 y5 y6, LeO (redpenlaw17_PragmaNil.l1 k y0 y1 y2 y3 y4 y5 y6) (redpenlaw17_PragmaNil.l1 (k + 1) y0 y1 y2 y3 y4 y5 y6))
 | 0 => ⟨fun _ _ _ _ r h => by simp [redpenlaw17_PragmaNil.j0] at h, fun _ _ _ _ _ _ _ r h => by simp [redpenlaw17_PragmaNil.l0] at h, fun _ _ _ _ _ _ _ r h => by simp [redpenlaw17_PragmaNil.l1] at h⟩
 | k + 1 => by
  obtain ⟨ih0, ih1, ih2⟩ := redpenlaw17_PragmaNil.mono_l k
  refine ⟨?_, ?_, ?_⟩
  ·intro y0 y1 y2 y3
   unfold redpenlaw17_PragmaNil.j0
   repeat' first
   | (with_reducible exact ih0 _ _ _ _)
   | (with_reducible exact ih1 _ _ _ _ _ _ _)
   | (with_reducible exact ih2 _ _ _ _ _ _ _)
   | (with_reducible exact pragma_Read.mono _ _)
   | (with_reducible exact pragma_Rules_Knows.mono _ _ _)
   | (with_reducible exact redpenlaw17_Awake.mono _)
   | (with_reducible exact redpenref15_Read.mono _ _)
   | (with_reducible exact redpenref15_Rules_Alone.mono _ _ _ _)
   | (with_reducible exact LeO.refl _)
   | (with_reducible exact LeO.none _)
   | (with_reducible refine LeO.ite ?_ ?_)
   | (with_reducible refine LeO.bind ?_ (fun _ => ?_))
   | exact ih0 _ _ _ _
   | exact ih1 _ _ _ _ _ _ _
   | exact ih2 _ _ _ _ _ _ _
   | exact pragma_Read.mono _ _
   | exact pragma_Rules_Knows.mono _ _ _
   | exact redpenlaw17_Awake.mono _
   | exact redpenref15_Read.mono _ _
   | exact redpenref15_Rules_Alone.mono _ _ _ _
   | exact LeO.none _
   | refine LeO.ite ?_ ?_
   | refine LeO.bind ?_ (fun _ => ?_)
  ·intro y0 y1 y2 y3 y4 y5 y6
   unfold redpenlaw17_PragmaNil.l0
   repeat' first
   | (with_reducible exact ih0 _ _ _ _)
   | (with_reducible exact ih1 _ _ _ _ _ _ _)
   | (with_reducible exact ih2 _ _ _ _ _ _ _)
   | (with_reducible exact pragma_Read.mono _ _)
   | (with_reducible exact pragma_Rules_Knows.mono _ _ _)
   | (with_reducible exact redpenlaw17_Awake.mono _)
   | (with_reducible exact redpenref15_Read.mono _ _)
   | (with_reducible exact redpenref15_Rules_Alone.mono _ _ _ _)
   | (with_reducible exact LeO.refl _)
   | (with_reducible exact LeO.none _)
   | (with_reducible refine LeO.ite ?_ ?_)
   | (with_reducible refine LeO.bind ?_ (fun _ => ?_))
   | exact ih0 _ _ _ _
   | exact ih1 _ _ _ _ _ _ _
   | exact ih2 _ _ _ _ _ _ _
   | exact pragma_Read.mono _ _
   | exact pragma_Rules_Knows.mono _ _ _
   | exact redpenlaw17_Awake.mono _
   | exact redpenref15_Read.mono _ _
   | exact redpenref15_Rules_Alone.mono _ _ _ _
   | exact LeO.none _
   | refine LeO.ite ?_ ?_
   | refine LeO.bind ?_ (fun _ => ?_)
  ·intro y0 y1 y2 y3 y4 y5 y6
   unfold redpenlaw17_PragmaNil.l1
   repeat' first
   | (with_reducible exact ih0 _ _ _ _)
   | (with_reducible exact ih1 _ _ _ _ _ _ _)
   | (with_reducible exact ih2 _ _ _ _ _ _ _)
   | (with_reducible exact pragma_Read.mono _ _)
   | (with_reducible exact pragma_Rules_Knows.mono _ _ _)
   | (with_reducible exact redpenlaw17_Awake.mono _)
   | (with_reducible exact redpenref15_Read.mono _ _)
   | (with_reducible exact redpenref15_Rules_Alone.mono _ _ _ _)
   | (with_reducible exact LeO.refl _)
   | (with_reducible exact LeO.none _)
   | (with_reducible refine LeO.ite ?_ ?_)
   | (with_reducible refine LeO.bind ?_ (fun _ => ?_))
   | exact ih0 _ _ _ _
   | exact ih1 _ _ _ _ _ _ _
   | exact ih2 _ _ _ _ _ _ _
   | exact pragma_Read.mono _ _
   | exact pragma_Rules_Knows.mono _ _ _
   | exact redpenlaw17_Awake.mono _
   | exact redpenref15_Read.mono _ _
   | exact redpenref15_Rules_Alone.mono _ _ _ _
   | exact LeO.none _
   | refine LeO.ite ?_ ?_
   | refine LeO.bind ?_ (fun _ => ?_)
theorem redpenlaw17_PragmaNil.mono : ∀ a0 a1 a2 k, LeO (redpenlaw17_PragmaNil.f k a0 a1 a2) (redpenlaw17_PragmaNil.f (k + 1) a0 a1 a2) := by
 intro a0 a1 a2 k
 obtain ⟨ih0, ih1, ih2⟩ := redpenlaw17_PragmaNil.mono_l k
 unfold redpenlaw17_PragmaNil.f
 repeat' first
   | (with_reducible exact ih0 _ _ _ _)
   | (with_reducible exact ih1 _ _ _ _ _ _ _)
   | (with_reducible exact ih2 _ _ _ _ _ _ _)
   | (with_reducible exact pragma_Read.mono _ _)
   | (with_reducible exact pragma_Rules_Knows.mono _ _ _)
   | (with_reducible exact redpenlaw17_Awake.mono _)
   | (with_reducible exact redpenref15_Read.mono _ _)
   | (with_reducible exact redpenref15_Rules_Alone.mono _ _ _ _)
   | (with_reducible exact LeO.refl _)
   | (with_reducible exact LeO.none _)
   | (with_reducible refine LeO.ite ?_ ?_)
   | (with_reducible refine LeO.bind ?_ (fun _ => ?_))
   | exact ih0 _ _ _ _
   | exact ih1 _ _ _ _ _ _ _
   | exact ih2 _ _ _ _ _ _ _
   | exact pragma_Read.mono _ _
   | exact pragma_Rules_Knows.mono _ _ _
   | exact redpenlaw17_Awake.mono _
   | exact redpenref15_Read.mono _ _
   | exact redpenref15_Rules_Alone.mono _ _ _ _
   | exact LeO.none _
   | refine LeO.ite ?_ ?_
   | refine LeO.bind ?_ (fun _ => ?_)
def redpenlaw17_PragmaNil.T19 : Bool × List (List Nat × List Nat) := (true, [([], []), ([], []), ([0, 1], [0, 1]), ([2], [2]), ([3, 2], [3]), ([4], [4]), ([4], [4]), ([5, 6, 4, 4], [4, 5, 6]), ([7, 4], [4, 7]), ([4, 8], [4, 8]), ([9, 7], [9]), ([10], [10]), ([11, 10, 10], [10, 11]), ([12, 10], [10, 12]), ([13, 10], [10, 13]), ([10, 14], [10, 14]), ([15, 12], [15]), ([16], [16]), ([16], [16]), ([17, 18, 16, 16], [16, 17, 18]), ([16], [16]), ([16], [16]), ([20, 21, 19, 16], [16, 20, 21]), ([19, 22, 16], [16, 19, 22]), ([16, 23], [16, 23]), ([24, 22], [24]), ([25], [25]), ([26, 25, 25], [25, 26]), ([25, 27], [25, 27]), ([28, 27, 0, 1, 2, 3, 4, 5, 6, 7, 8, 9, 10, 11, 12, 13, 14, 15, 16, 17, 18, 19, 20, 21, 22, 23, 24, 25, 26, 27, 28], [28])])
def redpenlaw17_PragmaNil.B19 : List Nat := [0, 0, 3, 7, 15, 31, 31, 127, 255, 511, 1023, 2047, 4095, 8191, 16383, 32767, 65535, 131071, 131071, 524287, 131071, 131071, 4194303, 8388607, 16777215, 33554431, 67108863, 134217727, 268435455, 536870911]
theorem redpenlaw17_PragmaNil.tab19 : rtab .any (opsOf Tryd.f6 19) = redpenlaw17_PragmaNil.T19 := by kernel_rfl
theorem redpenlaw17_PragmaNil.bits19 : waitsOk redpenlaw17_PragmaNil.T19.2 redpenlaw17_PragmaNil.B19 = true := by kernel_rfl
set_option maxHeartbeats 8000000 in
set_option maxRecDepth 100000 in
theorem redpenlaw17_PragmaNil.calls (k : Nat) (A0 : Option Addr) (c0 : Nat) (l0 : List Int) (a1 : Int) (a2 : ByteArray) (r : Bool) (w : World) (hr0 : Kd.C (Kd.int .u8) w A0 l0.length l0) (hc0 : l0.length ≤ c0) (h : redpenlaw17_PragmaNil.f k l0 a1 a2 = some r) (hr_ : r = true) (hL : Go.Proofs.YtkflgnhcfhmkdaaDoor.H.Laid w) :
  Calls Tryd.prog 6 #[.slice A0 l0.length c0, .int .i64 a1, .string a2] w fun e w' => e = .returned (.bool r) ∧ Below w.heap.size w w' := by
 have HL := Aside0.mk hL
 clear hL
 have hu37 := Tryd.underlying37
 have hu40 := Tryd.underlying40
 have HR0 := Aside0.mk hr0
 have HC0 := Aside0.mk hc0
 clear hr0 hc0
 have HB := Aside0.mk (Below.refl w.heap.size w)
 have H : ((redpenlaw17_Awake.f k).bind fun t340 => (if t340 = true then (if (l0.length : Int) > 500 then (redpenlaw17_PragmaNil.j0 k l0 a1 a2 true) else (redpenlaw17_PragmaNil.j0 k l0 a1 a2 (decide ((a2.size : Int) > 300)))) else (some false))) = some r := h
 clear h
 replace H := Option.bind_eq_some_iff.mp H
 obtain ⟨t340, A40, H⟩ := H
 replace H : (if t340 = true then (if (l0.length : Int) > 500 then (redpenlaw17_PragmaNil.j0 k l0 a1 a2 true) else (redpenlaw17_PragmaNil.j0 k l0 a1 a2 (decide ((a2.size : Int) > 300)))) else (some false)) = some r := H
 have A4 := Aside0.mk A40
 clear A40
 by_cases c5 : t340 = true
 ·subst c5
  have H1 : (if (l0.length : Int) > 500 then (redpenlaw17_PragmaNil.j0 k l0 a1 a2 true) else (redpenlaw17_PragmaNil.j0 k l0 a1 a2 (decide ((a2.size : Int) > 300)))) = some r := by rw [if_pos rfl] at H; exact H
  clear H
  have H := H1
  clear H1
  have HC6 := Aside0.mk H
  clear H
  go_enter Tryd.func6, Tryd.ntmps6
  go_upto_region 3 with (first | ((with_reducible refine gate_callee (f := 8) rfl ?_); refine goesL_ (some 15) rfl rfl Tryd.func8 (by kernel_rfl) rfl #[] rfl (by (try simp only [List.map_toArray, List.map_cons, List.map_nil]); first | done | rfl | (simp only [List.length_drop, List.length_take]; rfl)) ?_; (with_reducible refine (redpenlaw17_Awake.calls k  true _ A4.out ?sideL).mono ?_); (case sideL => first | exact HL.out | exact HL.out.below HB.out | exact HL.out.below (by repeat (first | (with_reducible first | exact HB.out | apply below_alloc | apply pw_below_drewN | apply below_drew1 | refine below_set ?_ (Aside0.out (by assumption))) | exact HB.out))); rintro e w7 ⟨rfl, hb⟩; refine ⟨_, rfl, ?_⟩; have n0_ := Aside0.mk (below_step (by repeat (first | (with_reducible first | exact HB.out | apply below_alloc | apply pw_below_drewN | apply below_drew1) | exact HB.out)) hb); clear HB; have HB := n0_; clear n0_; (try clear hb); (try clear hb2); (try clear hk); (try clear hi)))
  (try simp only [Act.put, List.setIfInBounds_toArray, List.set_cons_zero, List.set_cons_succ])
  go_cut [24] (fun v24 wc => ∃ (kq : Nat) (x24_5 : Bool), v24 = .bool x24_5 ∧ Aside0 (redpenlaw17_PragmaNil.j0 kq l0 a1 a2 x24_5 = some r) ∧ Aside0 (kq ≤ k) ∧ Aside0 (Below w.heap.size w wc))
  case first =>
   have H := HC6.out
   clear HC6
   by_cases c8 : (l0.length : Int) > 500
   ·rw [if_pos c8] at H
    have c8b0 : decide (500 < (l0.length : Int)) = true := decide_eq_true c8
    have c8b1 : decide (500 < l0.length) = true := decide_eq_true (by omega)
    clear c8
    (first | rw [c8b0] | (simp only [i64_w, i32_w]; rw [c8b0]) | skip)
    have H' := Aside0.mk H
    clear H
    go_wp2
    go_meet
    case rel => exact ⟨_, (true), (by first | rfl | (simp; done) | (simp [*]; done) | (simp [wrap64, wrap32]; done)), H', ⟨by first | omega | exact Nat.le_refl _⟩, ⟨by repeat (first | (with_reducible first | exact HB.out | apply below_alloc | apply pw_below_drewN | apply below_drew1) | exact HB.out)⟩⟩
   ·rw [if_neg c8] at H
    have c8b0 : decide (500 < (l0.length : Int)) = false := decide_eq_false c8
    have c8b1 : decide (500 < l0.length) = false := decide_eq_false (by omega)
    clear c8
    (first | rw [c8b0] | (simp only [i64_w, i32_w]; rw [c8b0]) | skip)
    have H' := Aside0.mk H
    clear H
    go_wp2
    go_meet
    case rel => exact ⟨_, (decide ((a2.size : Int) > 300)), (by first | rfl | (simp; done) | (simp [*]; done) | (simp [wrap64, wrap32]; done)), H', ⟨by first | omega | exact Nat.le_refl _⟩, ⟨by repeat (first | (with_reducible first | exact HB.out | apply below_alloc | apply pw_below_drewN | apply below_drew1) | exact HB.out)⟩⟩
  case rest =>
   clear HC6
   try clear p2
   try clear c5
   try clear c6
   try clear c8
   try clear c8b0
   try clear c8b1
   obtain ⟨kq, x24_5, rfl, HA, HJ5, HB⟩ := hcut
   cases kq with
   | zero => exact absurd HA.out (by simp [redpenlaw17_PragmaNil.j0])
   | succ kj5 =>
    have H := HA.out
    clear HA
    simp only [redpenlaw17_PragmaNil.j0] at H
    by_cases c9 : x24_5 = true
    ·subst c9
     have H1 : (some true) = some r := by rw [if_pos rfl] at H; exact H
     clear H
     have H := H1
     clear H1
     obtain rfl := Option.some.inj H
     go_wp2
     go_ret
     exact ⟨by first | rfl | (simp [errW_none, errW_some] <;> rfl) | (simp [*, errW_none, errW_some] <;> rfl), by repeat (first | (with_reducible first | exact HB.out | apply below_alloc | apply pw_below_drewN | apply below_drew1) | exact HB.out)⟩
    ·replace c9 := Bool.eq_false_iff.mpr c9
     subst c9
     have H1 : (if 26 + l0.length ≤ 140737488355328 then ((some (([115, 112, 101, 108, 108, 58, 119, 111, 114, 100, 115, 32, 113, 113, 10, 115, 112, 101, 108, 108, 58, 108, 105, 110, 101, 10] : List Int) ++ l0)).bind fun t341 => ((some (([] : List Int) : List Int)).bind fun y344 => (if y344.length + t341.length < 140737488355328 then ((some (y344 ++ t341 : List Int)).bind fun y347 => ((pragma_Read.f kj5 y347).bind fun t350 => (redpenlaw17_PragmaNil.l0 kj5 a1 a2 t341 t350 y347 (y347.length : Int) 0))) else (none)))) else (none)) = some r := by rw [if_neg (show ¬ (false = true) by decide)] at H; exact H
     clear H
     have H := H1
     clear H1
     by_cases c10 : 26 + l0.length ≤ 140737488355328
     ·rw [if_pos c10] at H
      have c10b0 := eq_true c10
      have c10b1 : decide (26 + l0.length ≤ 140737488355328) = true := decide_eq_true c10
      try have c10b2 : (140737488355328 < 26 + l0.length) = False := eq_false (Nat.not_lt.2 c10)
      replace H := Option.bind_eq_some_iff.mp H
      obtain ⟨t341, A110, H⟩ := H
      replace H : ((some (([] : List Int) : List Int)).bind fun y344 => (if y344.length + t341.length < 140737488355328 then ((some (y344 ++ t341 : List Int)).bind fun y347 => ((pragma_Read.f kj5 y347).bind fun t350 => (redpenlaw17_PragmaNil.l0 kj5 a1 a2 t341 t350 y347 (y347.length : Int) 0))) else (none))) = some r := H
      have A11 := Aside0.mk A110
      clear A110
      obtain ⟨y344, hy344⟩ : ∃ y_ : List Int, y_ = (([] : List Int)) := ⟨_, rfl⟩
      replace H : (if y344.length + t341.length < 140737488355328 then ((some (y344 ++ t341 : List Int)).bind fun y347 => ((pragma_Read.f kj5 y347).bind fun t350 => (redpenlaw17_PragmaNil.l0 kj5 a1 a2 t341 t350 y347 (y347.length : Int) 0))) else (none)) = some r := by first | (rw [hy344]; with_reducible exact H) | (have H2_ := (Option.bind_some _ _).symm.trans H; rw [hy344]; with_reducible exact H2_) | (have H2_ := (Option.bind_some _ _).symm.trans H; with_reducible exact H2_) | with_reducible exact H | (rw [hy344]; exact H) | exact H
      have Ny344 := Aside0.mk hy344
      clear hy344
      by_cases c12 : y344.length + t341.length < 140737488355328
      ·rw [if_pos c12] at H
       have LMc12 := Aside0.mk c12
       clear c12
       obtain ⟨y347, hy347⟩ : ∃ y_ : List Int, y_ = (y344 ++ t341) := ⟨_, rfl⟩
       replace H : ((pragma_Read.f kj5 y347).bind fun t350 => (redpenlaw17_PragmaNil.l0 kj5 a1 a2 t341 t350 y347 (y347.length : Int) 0)) = some r := by first | (rw [hy347]; with_reducible exact H) | (have H2_ := (Option.bind_some _ _).symm.trans H; rw [hy347]; with_reducible exact H2_) | (have H2_ := (Option.bind_some _ _).symm.trans H; with_reducible exact H2_) | with_reducible exact H | (rw [hy347]; exact H) | exact H
       have Ny347 := Aside0.mk hy347
       clear hy347
       replace H := Option.bind_eq_some_iff.mp H
       obtain ⟨t350, A130, H⟩ := H
       replace H : (redpenlaw17_PragmaNil.l0 kj5 a1 a2 t341 t350 y347 (y347.length : Int) 0) = some r := H
       have A13 := Aside0.mk A130
       clear A130
       have H' := Aside0.mk H
       clear H
       have hLn := Aside0.mk c10
       go_wp2_with (first | ((with_reducible refine gate_dst (N := 26) rfl ?_); refine const_goes (N := some 26) rfl rfl (a0 := ([115, 112, 101, 108, 108, 58, 119, 111, 114, 100, 115, 32, 113, 113, 10, 115, 112, 101, 108, 108, 58, 108, 105, 110, 101, 10] : List Int)) rfl (by first | rfl | (simp; done)) (by first | rfl | (simp; done)) (by first | rfl | (simp; done)) Tryd.underlying22 Tryd.underlying5 ?_; (with_reducible refine (cst_row ([115, 112, 101, 108, 108, 58, 119, 111, 114, 100, 115, 32, 113, 113, 10, 115, 112, 101, 108, 108, 58, 108, 105, 110, 101, 10] : List Int) _).mono ?_); rintro e w13 ⟨v26, rfl, hv26, hb⟩; refine ⟨_, rfl, ?_⟩; have HV26 := Aside0.mk hv26; have n1_ := Aside0.mk (below_step (by repeat (first | (with_reducible first | exact HB.out | apply below_alloc | apply pw_below_drewN | apply below_drew1) | exact HB.out)) hb); clear HB; have HB := n1_; clear n1_; clear hb hv26) | ((with_reducible refine gate_builtin (b := .append) (xs := #[.tmp 26, .tmp 27]) rfl ?_); (try (refine gate_guard (by rfl) ?_; dsimp only)); obtain ⟨g26, rfl, hb26⟩ := HV26.out; at_builtin; refine app_full rfl (.tmp 26) (.tmp 27) 22 5 (.int .u8 0) rfl Tryd.underlying22 info5 rfl _ ([115, 112, 101, 108, 108, 58, 119, 111, 114, 100, 115, 32, 113, 113, 10, 115, 112, 101, 108, 108, 58, 108, 105, 110, 101, 10] : List Int) (26, 27) rfl A0 l0.length c0 l0 rfl ?aH ?aR ?aL ?_; (case aH => exact hb26); (case aR => repeat (first | exact (Kd.C_below HR0.out HB.out) | (with_reducible refine Kd.C_alloc ?_ _))); (case aL => exact hLn.out); intro v342 w15 ho hg; have n0_ := Aside0.mk (show Kd.V (Kd.int .u8) 5 w15 w.heap.size (fun _ => True) v342 t341 from by rw [← Option.some.inj A11.out]; exact ho); have n1_ := Aside0.mk (Below.grown (by repeat (first | (with_reducible first | exact HB.out | apply below_alloc | apply pw_below_drewN | apply below_drew1) | exact HB.out)) hg (below_size (by repeat (first | (with_reducible first | exact HB.out | apply below_alloc | apply pw_below_drewN | apply below_drew1) | exact HB.out))) (fun k h => by cases h)); clear HB; have HO343 := n0_; have HB := n1_; clear n0_ n1_; clear ho hg hb26 HV26) | ((with_reducible refine gate_dst (N := 29) rfl ?_); (try (refine gate_guard (by rfl) ?_; dsimp only)); refine Kd.R_lit (Kd.int .u8) _ 5 ?hg (N := 29) ?hd (xs := ([] : List Int)) (inner := []) (ok := fun _ => True) (okp := fun _ => True) ?hr ?hp (fun _ hk => hk) trivial (Below.refl _ _) (Nat.le_refl _) (by simp) ?_; (case hd => rfl); (case hg => rfl); (case hr => first | (go_simp; done) | (go_simp; rfl)); (case hp => exact (Reps.none _ _)); intro v345 w16 ho17 hb hg_ hnew_; clear hg_ hnew_; (first | rw [← Ny344.out] at ho17 | (simp only [Int.reduceToNat] at ho17; rw [← Ny344.out] at ho17)); have n0_ := Aside0.mk (Kd.V_elder' (by (with_reducible repeat (first | apply Kd.V_alloc | apply Kd.V_drewN | apply Kd.V_drew)); exact HO343.out) (Kd.R_base ho17) hb); have n1_ := Aside0.mk (Kd.R_lower ho17 (below_size (by repeat (first | (with_reducible first | exact HB.out | apply below_alloc | apply pw_below_drewN | apply below_drew1) | exact HB.out)))); have n2_ := Aside0.mk (below_step (by repeat (first | (with_reducible first | exact HB.out | apply below_alloc | apply pw_below_drewN | apply below_drew1) | exact HB.out)) hb); clear HO343; clear HB; have HO343 := n0_; have HO346 := n1_; have HB := n2_; clear n0_ n1_ n2_; clear hb ho17; obtain ⟨Ao19, co19, eo19⟩ := Kd.V_slice HO343.out; subst eo19) | ((with_reducible refine gate_builtin (b := .append) (xs := #[.tmp 29, .tmp 30]) rfl ?_); (try (refine gate_guard (by rfl) ?_; dsimp only)); at_builtin; refine Kd.R_append_rows (Kd.int .u8) (w0 := w) w.heap.size rfl (.tmp 29) (.tmp 30) 22 5 (.int .u8 0) 1 rfl Tryd.underlying22 info5 rfl (by decide) (by omega) v345 y344 t341 _ _ _ (fun _ => True) (fun _ => False) rfl rfl ?aO ?aR (fun _ _ h => h) (fun _ h => h.elim) ?aF ?aB ?aS ?aL ?_; (case aR => repeat (first | exact (Kd.V_reads' HO343.out).2.2 | (with_reducible refine Kd.C_alloc ?_ _) | (with_reducible refine Kd.C_drewN ?_ _) | (with_reducible refine Kd.C_drew ?_))); (case aB => exact (by repeat (first | (with_reducible first | exact HB.out | apply below_alloc | apply pw_below_drewN | apply below_drew1) | exact HB.out))); (case aF => exact (fun _ _ => trivial)); (case aO => exact (by (with_reducible repeat (first | apply Kd.R_alloc | apply Kd.R_drewN | apply Kd.R_drew)); exact HO346.out)); (case aS => exact (below_size (by repeat (first | (with_reducible first | exact HB.out | apply below_alloc | apply pw_below_drewN | apply below_drew1) | exact HB.out)))); (case aL => have := LMc12.out; omega); intro v348 w18 ho hb hg hat; rw [← Ny347.out] at ho; have n0_ := Aside0.mk (Kd.V_afterv (ok := (fun _ => True)) (by (with_reducible repeat (first | apply Kd.V_alloc | apply Kd.V_drewN | apply Kd.V_drew)); exact HO343.out) hg hat); have n1_ := Aside0.mk (hb); have n2_ := Aside0.mk (ho); clear HO343; clear HB; clear HO346; have HO343 := n0_; have HB := n1_; have HO349 := n2_; clear n0_ n1_ n2_; clear ho hb hg hat; obtain ⟨Ao20, co20, eo20⟩ := Kd.R_slice HO349.out; subst eo20) | ((with_reducible refine gate_callee (f := 9) rfl ?_); refine goesL_ (some 33) rfl rfl Tryd.func9 (by kernel_rfl) rfl #[.slice Ao20 y347.length co20] rfl (by (try simp only [List.map_toArray, List.map_cons, List.map_nil]); first | done | rfl | (simp only [List.length_drop, List.length_take]; rfl)) ?_; (with_reducible refine (pragma_Read.calls kj5 _ _ y347 t350 _ ?side1 ?side2 A13.out ?sideL).mono ?_); (case sideL => first | exact HL.out | exact HL.out.below HB.out | exact HL.out.below (by repeat (first | (with_reducible first | exact HB.out | apply below_alloc | apply pw_below_drewN | apply below_drew1 | refine below_set ?_ (Aside0.out (by assumption))) | exact HB.out))); (case side1 => repeat (first | exact (Kd.R_reads' HO349.out).2.2 | (with_reducible refine Kd.C_alloc ?_ _) | (with_reducible refine Kd.C_drewN ?_ _) | (with_reducible refine Kd.C_drew ?_))); (case side2 => exact (Kd.R_reads' HO349.out).2.1); rintro e w21 ⟨v351, rfl, ho0, hb⟩; refine ⟨_, rfl, ?_⟩; have n0_ := Aside0.mk (Kd.V_below (by (with_reducible repeat (first | apply Kd.V_alloc | apply Kd.V_drewN | apply Kd.V_drew)); exact HO343.out) hb); have n1_ := Aside0.mk (Kd.R_below (by (with_reducible repeat (first | apply Kd.R_alloc | apply Kd.R_drewN | apply Kd.R_drew)); exact HO349.out) hb); have n2_ := Aside0.mk (Kd.P_lower (Kd.P_mono (ok' := fun k_ => some k_ ≠ (.slice Ao20 y347.length co20 : Value).ownBlock) ho0 (fun k_ hk_ => (Kd.fresh' (Kd.R_lt (by (with_reducible repeat (first | apply Kd.R_alloc | apply Kd.R_drewN | apply Kd.R_drew)); exact HO349.out)) k_ hk_))) (below_size (by repeat (first | (with_reducible first | exact HB.out | apply below_alloc | apply pw_below_drewN | apply below_drew1) | exact HB.out)))); have n3_ := Aside0.mk (below_step (by repeat (first | (with_reducible first | exact HB.out | apply below_alloc | apply pw_below_drewN | apply below_drew1) | exact HB.out)) hb); clear HO343; clear HO349; clear HB; have HO343 := n0_; have HO349 := n1_; have HO352 := n2_; have HB := n3_; clear n0_ n1_ n2_ n3_; (try clear hb); (try clear hb2); (try clear hk); (try clear hi); (try clear ho0)))
       go_loopg [36] kj5 (fun kq v36 w' => ∃ (x31_2 : List Int) (x36_2 : Int), v36 = .int .i64 x36_2 ∧ Aside0 (redpenlaw17_PragmaNil.l0 kq a1 a2 t341 t350 x31_2 (y347.length : Int) x36_2 = some r) ∧ Aside0 (kq ≤ kj5) ∧ Aside0 (Kd.V (Kd.int .u8) 5 w' w.heap.size (fun k_ => some k_ ≠ ((.slice Ao20 y347.length co20) : Value).ownBlock) (.slice Ao19 t341.length co19) t341) ∧ Aside0 (Kd.P Go.Proofs.YtkflgnhcfhmkdaaDoor.H.RlP 900026 w' w.heap.size (fun k_ => some k_ ≠ ((.slice Ao20 y347.length co20) : Value).ownBlock) v351 t350) ∧ Aside0 (Kd.R (Kd.int .u8) 5 w' w.heap.size (fun _ => True) (.slice Ao20 y347.length co20) x31_2) ∧ Aside0 (Below w.heap.size w w'))
       case atStart => exact ⟨(y347), (0), (by first | rfl | (simp; done) | (simp [*]; done) | (simp [wrap64, wrap32]; done)), H', ⟨Nat.le_refl _⟩, ⟨by (with_reducible repeat (first | apply Kd.V_alloc | apply Kd.V_drewN | apply Kd.V_drew)); exact Kd.V_mono HO343.out (fun _ hk => hk.2)⟩, ⟨by (with_reducible repeat (first | apply Kd.P_alloc | apply Kd.P_drewN | apply Kd.P_drew)); exact HO352.out⟩, ⟨by (with_reducible repeat (first | apply Kd.R_alloc | apply Kd.R_drewN | apply Kd.R_drew)); exact HO349.out⟩, ⟨by repeat (first | (with_reducible first | exact HB.out | apply below_alloc | apply pw_below_drewN | apply below_drew1) | exact HB.out)⟩⟩
       case round =>
        clear H'
        try clear c1
        try clear hcv1
        try clear p2
        try clear c5
        try clear c6
        try clear c8
        try clear c8b0
        try clear c8b1
        try clear c9
        try clear c10
        try clear c10b0
        try clear c10b1
        try clear c10b2
        try clear c12
        try clear hcv14
        try clear p2
        obtain ⟨x31_2, x36_2, rfl, HA, HK2, HO_8, HO_10, HO_31, HB⟩ := hrel
        have hl31_2 : y347.length = x31_2.length := (Kd.R_reads' HO_31.out).1
        rw [hl31_2] at HO_31
        (try simp only [hl31_2])
        (try simp only [hl31_2] at HO_8)
        (try simp only [hl31_2] at HO_10)
        cases gk with
        | zero => exact absurd HA.out (by simp [redpenlaw17_PragmaNil.l0])
        | succ k2 =>
         have H := HA.out
         clear HA
         simp only [redpenlaw17_PragmaNil.l0] at H
         by_cases c22 : x36_2 < (y347.length : Int)
         ·rw [if_pos c22] at H
          have c22b0 : decide (x36_2 < (y347.length : Int)) = true := decide_eq_true c22
          (try simp only [hl31_2] at c22b0)
          clear c22
          by_cases c23 : 0 ≤ x36_2
          ·rw [if_pos c23] at H
           have c23b0 : decide (0 ≤ x36_2) = true := decide_eq_true c23
           clear c23
           by_cases c24 : x36_2 < (x31_2.length : Int)
           ·rw [if_pos c24] at H
            have c24b0 : decide (x36_2 < (x31_2.length : Int)) = true := decide_eq_true c24
            clear c24
            obtain ⟨y353, hy353⟩ : ∃ y_ : List Int, y_ = (x31_2.set (x36_2 : Int).toNat 122) := ⟨_, rfl⟩
            replace H : (redpenlaw17_PragmaNil.l0 k2 a1 a2 t341 t350 y353 (y347.length : Int) (wrap64 (x36_2 + 1))) = some r := by first | (rw [hy353]; with_reducible exact H) | (have H2_ := (Option.bind_some _ _).symm.trans H; rw [hy353]; with_reducible exact H2_) | (have H2_ := (Option.bind_some _ _).symm.trans H; with_reducible exact H2_) | with_reducible exact H | (rw [hy353]; exact H) | exact H
            have Ny353 := Aside0.mk hy353
            clear hy353
            have H' := Aside0.mk H
            clear H
            have p25 : 0 ≤ (x36_2 : Int) := of_decide_eq_true (by first | (with_reducible assumption) | assumption)
            have q25 : (x36_2 : Int) < ((x31_2.length : Int) : Int) := of_decide_eq_true (by first | (with_reducible assumption) | assumption)
            obtain ⟨go25, co25, eo25, gb25, gl25, cl25, HG25⟩ := Kd.R_form HO_31.out (by omega)
            (first | cases eo25 | (injection eo25 with ea_ en_ ec_; (first | subst ea_ | (injection ea_ with ea_; subst ea_)); subst ec_; clear en_))
            have GB25 := Aside0.mk gb25
            have GG25 := Aside0.mk HG25
            clear gb25 gl25 HG25
            obtain ⟨hx25_0, hf25_0⟩ := Kd.R_celln 0 HO_31.out (x36_2 : Int) p25 q25
            replace p25 := eq_true p25
            replace q25 := eq_true q25
            have HP26 := Kd.R_putg HO_31.out (x36_2 : Int) 122
            go_wp2_with (first | ((with_reducible refine gate_store (t := 5) (p := 41) rfl ?_); refine store_event (t := 5) (p := 41) (v := ?vo_w27) (w1 := (wr.setCell ⟨go25, (x36_2 : Int).toNat, none⟩ (.int .u8 122))) ?hg ?ho ?hn ?hr ?_; (case ho => rfl); (case hg => rfl); (case hn => rfl); (case hr => first | (go_simp; done) | (go_simp; rfl)); intro w27 hw; have hg : wr.grownBy w27 (some go25) := (by rw [hw]; exact HP26.2); have hp_ : Kd.R (Kd.int .u8) 5 w27 w.heap.size (fun _ => True) (.slice (some ⟨go25, 0, none⟩) x31_2.length co20) y353 := (by rw [hw, Ny353.out]; exact HP26.1); clear HP26; have n0_ := Aside0.mk (Kd.V_afterv (v := (.slice (some ⟨go25, 0, none⟩) x31_2.length co20)) (v1 := (.slice (some ⟨go25, 0, none⟩) x31_2.length co20)) (ok := (fun _ => True)) (by (with_reducible repeat (first | apply Kd.V_alloc | apply Kd.V_drewN | apply Kd.V_drew)); exact Kd.V_mono HO_8.out (fun _ hk => ⟨trivial, hk⟩)) hg (.inl rfl)); have n1_ := Aside0.mk (Kd.P_afterv (v := (.slice (some ⟨go25, 0, none⟩) x31_2.length co20)) (v1 := (.slice (some ⟨go25, 0, none⟩) x31_2.length co20)) (ok := (fun _ => True)) (by (with_reducible repeat (first | apply Kd.P_alloc | apply Kd.P_drewN | apply Kd.P_drew)); exact Kd.P_mono HO_10.out (fun _ hk => ⟨trivial, hk⟩)) hg (.inl rfl)); have n2_ := Aside0.mk (hp_); have n3_ := Aside0.mk ((by rw [hw]; exact below_set (HB.out) GB25.out : Below w.heap.size w w27)); clear HO_8; clear HO_10; clear HO_31; clear HB; have HO_8 := n0_; have HO_10 := n1_; have HO_31 := n2_; have HB := n3_; clear n0_ n1_ n2_ n3_; clear hg hw hp_))
            (try simp only [← hl31_2])
            go_roundg k2
            case measure => have := HJ5.out; have := HK2.out; omega
            case rel => exact ⟨(y353), (wrap64 (x36_2 + 1)), (by first | rfl | (simp; done) | (simp [*]; done) | (simp [wrap64, wrap32]; done)), H', ⟨by have := HJ5.out; have := HK2.out; omega⟩, ⟨by (try simp only [hl31_2]); (with_reducible repeat (first | apply Kd.V_alloc | apply Kd.V_drewN | apply Kd.V_drew)); exact Kd.V_mono HO_8.out (fun _ hk => hk.2)⟩, ⟨by (try simp only [hl31_2]); (with_reducible repeat (first | apply Kd.P_alloc | apply Kd.P_drewN | apply Kd.P_drew)); exact Kd.P_mono HO_10.out (fun _ hk => hk.2)⟩, ⟨by (try simp only [hl31_2]); (with_reducible repeat (first | apply Kd.R_alloc | apply Kd.R_drewN | apply Kd.R_drew)); exact HO_31.out⟩, ⟨by repeat (first | (with_reducible first | exact HB.out | apply below_alloc | apply pw_below_drewN | apply below_drew1) | exact HB.out)⟩⟩
           ·rw [if_neg c24] at H
            exact absurd H (by simp)
          ·rw [if_neg c23] at H
           exact absurd H (by simp)
         ·rw [if_neg c22] at H
          have c22b0 : decide (x36_2 < (y347.length : Int)) = false := decide_eq_false c22
          (try simp only [hl31_2] at c22b0)
          clear c22
          replace H := Option.bind_eq_some_iff.mp H
          obtain ⟨⟨t354, t357⟩, A280, H⟩ := H
          replace H : ((pragma_Rules_Spans.f t350).bind fun t361 => (redpenlaw17_PragmaNil.l1 k2 a1 a2 t350 0 t361 t354 t357)) = some r := H
          have A28 := Aside0.mk A280
          clear A280
          replace H := Option.bind_eq_some_iff.mp H
          obtain ⟨t361, A290, H⟩ := H
          replace H : (redpenlaw17_PragmaNil.l1 k2 a1 a2 t350 0 t361 t354 t357) = some r := H
          have A29 := Aside0.mk A290
          clear A290
          have H' := Aside0.mk H
          clear H
          go_wp2_with (first | ((with_reducible refine gate_callee (f := 14) rfl ?_); refine goesL_ (some 44) rfl rfl Tryd.func14 (by kernel_rfl) rfl #[.slice Ao19 t341.length co19] rfl (by (try simp only [List.map_toArray, List.map_cons, List.map_nil]); first | done | rfl | (simp only [List.length_drop, List.length_take]; rfl)) ?_; (with_reducible refine (redpenref15_Read.calls k2 _ _ t341 t354 t357 _ ?side1 ?side2 A28.out).mono ?_); (case side1 => repeat (first | exact (Kd.V_reads' HO_8.out).2.2 | (with_reducible refine Kd.C_alloc ?_ _) | (with_reducible refine Kd.C_drewN ?_ _) | (with_reducible refine Kd.C_drew ?_))); (case side2 => exact (Kd.V_reads' HO_8.out).2.1); rintro e w30 ⟨v355, v358, rfl, ho0, ho1, hb⟩; refine ⟨_, rfl, ?_⟩; have n0_ := Aside0.mk (Kd.V_mono (Kd.V_told (Kd.V_told (Kd.V_old (by (with_reducible repeat (first | apply Kd.V_alloc | apply Kd.V_drewN | apply Kd.V_drew)); exact HO_8.out) hb) (Kd.R_base ho0)) (Kd.R_base ho1)) (fun _ h_ => h_.1)); have n1_ := Aside0.mk (Kd.P_mono (Kd.P_told (Kd.P_told (Kd.P_old (by (with_reducible repeat (first | apply Kd.P_alloc | apply Kd.P_drewN | apply Kd.P_drew)); exact HO_10.out) hb) (Kd.R_base ho0)) (Kd.R_base ho1)) (fun _ h_ => h_.1)); have n2_ := Aside0.mk (Kd.R_below (by (with_reducible repeat (first | apply Kd.R_alloc | apply Kd.R_drewN | apply Kd.R_drew)); exact HO_31.out) hb); have n3_ := Aside0.mk (Kd.R_lower ho0 (below_size (by repeat (first | (with_reducible first | exact HB.out | apply below_alloc | apply pw_below_drewN | apply below_drew1) | exact HB.out)))); have n4_ := Aside0.mk (Kd.R_lower ho1 (below_size (by repeat (first | (with_reducible first | exact HB.out | apply below_alloc | apply pw_below_drewN | apply below_drew1) | exact HB.out)))); have n5_ := Aside0.mk (below_step (by repeat (first | (with_reducible first | exact HB.out | apply below_alloc | apply pw_below_drewN | apply below_drew1) | exact HB.out)) hb); clear HO_8; clear HO_10; clear HO_31; clear HB; have HO_8 := n0_; have HO_10 := n1_; have HO_31 := n2_; have HO356 := n3_; have HO359 := n4_; have HB := n5_; clear n0_ n1_ n2_ n3_ n4_ n5_; (try clear hb); (try clear hb2); (try clear hk); (try clear hi); (try clear ho0); (try clear ho1)) | ((with_reducible refine gate_dst (N := 12) rfl ?_); (try (refine gate_guard (by rfl) ?_; dsimp only)); refine box_event ?hg (N := 12) ?hd (cs := #[.slice none 0 0, .slice none 0 0]) (t := 37) ?hr ?_; (case hd => rfl); (case hg => rfl); (case hr => first | (go_simp; done) | (go_simp; rfl)); intro gb360 hg w31 hbox hb; have n0_ := Aside0.mk (Kd.V_below (Kd.V_elderB (by (with_reducible repeat (first | apply Kd.V_alloc | apply Kd.V_drewN | apply Kd.V_drew)); exact HO_8.out) gb360 (Nat.le_of_eq hg.symm)) hb); have n1_ := Aside0.mk (Kd.P_below (Kd.P_elderB (by (with_reducible repeat (first | apply Kd.P_alloc | apply Kd.P_drewN | apply Kd.P_drew)); exact HO_10.out) gb360 (Nat.le_of_eq hg.symm)) hb); have n2_ := Aside0.mk (Kd.R_below (by (with_reducible repeat (first | apply Kd.R_alloc | apply Kd.R_drewN | apply Kd.R_drew)); exact HO_31.out) hb); have n3_ := Aside0.mk (Kd.R_below (by (with_reducible repeat (first | apply Kd.R_alloc | apply Kd.R_drewN | apply Kd.R_drew)); exact HO356.out) hb); have n4_ := Aside0.mk (Kd.R_below (by (with_reducible repeat (first | apply Kd.R_alloc | apply Kd.R_drewN | apply Kd.R_drew)); exact HO359.out) hb); have n5_ := Aside0.mk (below_step (by repeat (first | (with_reducible first | exact HB.out | apply below_alloc | apply pw_below_drewN | apply below_drew1) | exact HB.out)) hb); have n6_ := Aside0.mk (hbox); have n7_ := Aside0.mk ((by rw [hg]; exact (below_size (by repeat (first | (with_reducible first | exact HB.out | apply below_alloc | apply pw_below_drewN | apply below_drew1) | exact HB.out))) : w.heap.size ≤ gb360)); have n8_ := Aside0.mk ((by rw [hg]; exact (below_size (by repeat (first | (with_reducible first | exact HB.out | apply below_alloc | apply pw_below_drewN | apply below_drew1) | exact HB.out))) : w.heap.size ≤ gb360)); clear HO_8; clear HO_10; clear HO_31; clear HO356; clear HO359; clear HB; have HO_8 := n0_; have HO_10 := n1_; have HO_31 := n2_; have HO356 := n3_; have HO359 := n4_; have HB := n5_; have BK360 := n6_; have GW360 := n7_; have GE360 := n8_; clear n0_ n1_ n2_ n3_ n4_ n5_ n6_ n7_ n8_; clear hb hbox hg; obtain ⟨Ao32, co32, eo32⟩ := Kd.R_slice HO356.out; subst eo32; have hcz33_0 : w31.cell? ⟨gb360, 0, none⟩ = some (.slice none 0 0) := (blk_cell BK360.out 0).trans rfl; have hcz33_1 : w31.cell? ⟨gb360, 1, none⟩ = some (.slice none 0 0) := (blk_cell BK360.out 1).trans rfl; have hfz33_0 := blk_frozen BK360.out 0; have hfz33_1 := blk_frozen BK360.out 1; obtain ⟨Ao34, co34, eo34⟩ := Kd.R_slice HO359.out; subst eo34) | ((with_reducible refine gate_callee (f := 11) rfl ?_); refine goesL_ (some 46) rfl rfl Tryd.func11 (by kernel_rfl) rfl #[v351] rfl (by (try simp only [List.map_toArray, List.map_cons, List.map_nil]); first | done | rfl | (simp only [List.length_drop, List.length_take]; rfl)) ?_; (with_reducible refine (pragma_Rules_Spans.calls _ t350 t361 _ ?side1 A29.out).mono ?_); (case side1 => exact Kd.P_now (by (with_reducible repeat (first | apply Kd.P_alloc | apply Kd.P_drewN | apply Kd.P_drew)); exact (Kd.P_far (p := ⟨gb360, 1, none⟩) (Kd.P_far (p := ⟨gb360, 0, none⟩) (Kd.P_mono HO_10.out (fun k_ hk => (⟨hk, hk.2⟩ : _ ∧ k_ ≠ gb360))) (fun _ hk => hk.2) (.slice Ao32 t354.length co32)) (fun _ hk => hk.2) (.slice Ao34 t357.length co34)))); rintro e w35 ⟨v362, rfl, ho0, hb⟩; refine ⟨_, rfl, ?_⟩; have n0_ := Aside0.mk (Kd.V_elder' (by (with_reducible repeat (first | apply Kd.V_alloc | apply Kd.V_drewN | apply Kd.V_drew)); exact (Kd.V_mono (Kd.V_far (p := ⟨gb360, 1, none⟩) (Kd.V_far (p := ⟨gb360, 0, none⟩) (Kd.V_mono HO_8.out (fun k_ hk => (⟨hk, hk.2⟩ : _ ∧ k_ ≠ gb360))) (fun _ hk => hk.2) (.slice Ao32 t354.length co32)) (fun _ hk => hk.2) (.slice Ao34 t357.length co34)) (fun _ h_ => h_.1))) (Kd.R_base ho0) hb); have n1_ := Aside0.mk (Kd.P_elder' (by (with_reducible repeat (first | apply Kd.P_alloc | apply Kd.P_drewN | apply Kd.P_drew)); exact (Kd.P_mono (Kd.P_far (p := ⟨gb360, 1, none⟩) (Kd.P_far (p := ⟨gb360, 0, none⟩) (Kd.P_mono HO_10.out (fun k_ hk => (⟨hk, hk.2⟩ : _ ∧ k_ ≠ gb360))) (fun _ hk => hk.2) (.slice Ao32 t354.length co32)) (fun _ hk => hk.2) (.slice Ao34 t357.length co34)) (fun _ h_ => h_.1))) (Kd.R_base ho0) hb); have n2_ := Aside0.mk (Kd.R_below (by (with_reducible repeat (first | apply Kd.R_alloc | apply Kd.R_drewN | apply Kd.R_drew)); exact (Kd.R_mono (Kd.R_far (p := ⟨gb360, 1, none⟩) (Kd.R_far (p := ⟨gb360, 0, none⟩) (Kd.R_types HO_31.out BK360.out (by decide)) (fun _ hk => hk.2) (.slice Ao32 t354.length co32)) (fun _ hk => hk.2) (.slice Ao34 t357.length co34)) (fun _ h_ => h_.1))) hb); have n3_ := Aside0.mk (Kd.R_elder' (by (with_reducible repeat (first | apply Kd.R_alloc | apply Kd.R_drewN | apply Kd.R_drew)); exact (Kd.R_mono (Kd.R_far (p := ⟨gb360, 1, none⟩) (Kd.R_far (p := ⟨gb360, 0, none⟩) (Kd.R_types HO356.out BK360.out (by decide)) (fun _ hk => hk.2) (.slice Ao32 t354.length co32)) (fun _ hk => hk.2) (.slice Ao34 t357.length co34)) (fun _ h_ => h_.1))) (Kd.R_base ho0) hb); have n4_ := Aside0.mk (Kd.R_below (by (with_reducible repeat (first | apply Kd.R_alloc | apply Kd.R_drewN | apply Kd.R_drew)); exact (Kd.R_mono (Kd.R_far (p := ⟨gb360, 1, none⟩) (Kd.R_far (p := ⟨gb360, 0, none⟩) (Kd.R_types HO359.out BK360.out (by decide)) (fun _ hk => hk.2) (.slice Ao32 t354.length co32)) (fun _ hk => hk.2) (.slice Ao34 t357.length co34)) (fun _ h_ => h_.1))) hb); have n5_ := Aside0.mk (Kd.R_lower (Kd.R_new' ho0 (Kd.R_lt (by (with_reducible repeat (first | apply Kd.R_alloc | apply Kd.R_drewN | apply Kd.R_drew)); exact (Kd.R_mono (Kd.R_far (p := ⟨gb360, 1, none⟩) (Kd.R_far (p := ⟨gb360, 0, none⟩) (Kd.R_types HO356.out BK360.out (by decide)) (fun _ hk => hk.2) (.slice Ao32 t354.length co32)) (fun _ hk => hk.2) (.slice Ao34 t357.length co34)) (fun _ h_ => h_.1))))) (below_size (by repeat (first | (with_reducible first | exact HB.out | apply below_alloc | apply pw_below_drewN | apply below_drew1 | refine below_set ?_ GE360.out) | exact HB.out)))); have n6_ := Aside0.mk (blk_below (g := gb360) (o := .cells #[.slice Ao32 t354.length co32, .slice Ao34 t357.length co34] 37 (0, 0)) (by (with_reducible repeat (first | refine blk_drewN ?_ _ | refine blk_drew ?_ | refine blk_alloc ?_ _)); refine blk_put (cs := #[.slice Ao32 t354.length co32, .slice none 0 0]) ?_ 1 _ rfl; (with_reducible repeat (first | refine blk_drewN ?_ _ | refine blk_drew ?_ | refine blk_alloc ?_ _)); refine blk_put (cs := #[.slice none 0 0, .slice none 0 0]) ?_ 0 _ rfl; (with_reducible repeat (first | refine blk_drewN ?_ _ | refine blk_drew ?_ | refine blk_alloc ?_ _)); exact BK360.out) hb); have n7_ := Aside0.mk (below_step (by repeat (first | (with_reducible first | exact HB.out | apply below_alloc | apply pw_below_drewN | apply below_drew1 | refine below_set ?_ GE360.out) | exact HB.out)) hb); clear HO_8; clear HO_10; clear HO_31; clear HO356; clear HO359; clear BK360; clear HB; have HO_8 := n0_; have HO_10 := n1_; have HO_31 := n2_; have HO356 := n3_; have HO359 := n4_; have HO363 := n5_; have BK360 := n6_; have HB := n7_; clear n0_ n1_ n2_ n3_ n4_ n5_ n6_ n7_; (try clear hb); (try clear hb2); (try clear hk); (try clear hi); (try clear ho0)))
          go_loopg [13] k2 (fun kq v13 w' => ∃ (x13_3 : Int) (x46_3 : List (S40)), v13 = .int .i64 x13_3 ∧ Aside0 (redpenlaw17_PragmaNil.l1 kq a1 a2 t350 x13_3 x46_3 t354 t357 = some r) ∧ Aside0 (kq ≤ k2) ∧ Aside0 (Kd.P Go.Proofs.YtkflgnhcfhmkdaaDoor.H.RlP 900026 w' w.heap.size (fun k_ => some k_ ≠ (v362 : Value).ownBlock ∧ some k_ ≠ ((.slice Ao32 t354.length co32) : Value).ownBlock ∧ some k_ ≠ ((.slice Ao34 t357.length co34) : Value).ownBlock ∧ k_ ≠ gb360) v351 t350) ∧ Aside0 (Kd.R k40 40 w' w.heap.size (fun k_ => some k_ ≠ ((.slice Ao32 t354.length co32) : Value).ownBlock) v362 x46_3) ∧ Aside0 (Kd.R k40 40 w' w.heap.size (fun k_ => some k_ ≠ (v362 : Value).ownBlock) (.slice Ao32 t354.length co32) t354) ∧ Aside0 (Kd.R Kd.string 9 w' w.heap.size (fun _ => True) (.slice Ao34 t357.length co34) t357) ∧ Aside0 (w'.heap[gb360]? = some (.cells #[(.slice Ao32 t354.length co32), (.slice Ao34 t357.length co34)] 37 (0, 0))) ∧ Aside0 (Below w.heap.size w w'))
          case atStart => exact ⟨(0), (t361), (by first | rfl | (simp; done) | (simp [*]; done) | (simp [wrap64, wrap32]; done)), H', ⟨Nat.le_refl _⟩, ⟨by (try simp only [hl31_2]); (with_reducible repeat (first | apply Kd.P_alloc | apply Kd.P_drewN | apply Kd.P_drew)); exact Kd.P_mono HO_10.out (fun _ hk => ⟨hk.2, ⟨hk.1.1.1.2, ⟨hk.1.1.2, hk.1.2⟩⟩⟩)⟩, ⟨by (try simp only [hl31_2]); (with_reducible repeat (first | apply Kd.R_alloc | apply Kd.R_drewN | apply Kd.R_drew)); exact Kd.R_mono HO363.out (fun _ hk => hk.2)⟩, ⟨by (try simp only [hl31_2]); (with_reducible repeat (first | apply Kd.R_alloc | apply Kd.R_drewN | apply Kd.R_drew)); exact Kd.R_mono HO356.out (fun _ hk => hk.2)⟩, ⟨by (try simp only [hl31_2]); (with_reducible repeat (first | apply Kd.R_alloc | apply Kd.R_drewN | apply Kd.R_drew)); exact HO359.out⟩, ⟨by (try simp only [hl31_2]); (with_reducible repeat (first | refine blk_drewN ?_ _ | refine blk_drew ?_ | refine blk_alloc ?_ _)); exact BK360.out⟩, ⟨by repeat (first | (with_reducible first | exact HB.out | apply below_alloc | apply pw_below_drewN | apply below_drew1 | refine below_set ?_ GE360.out) | exact HB.out)⟩⟩
          case round =>
           clear H'
           try clear c1
           try clear hcv1
           try clear c2
           try clear p2
           try clear q2
           try clear hx2
           try clear c5
           try clear c6
           try clear p6
           try clear c8
           try clear c8b0
           try clear c8b1
           try clear c9
           try clear c10
           try clear c10b0
           try clear c10b1
           try clear c10b2
           try clear c11
           try clear c12
           try clear c14
           try clear hcv14
           try clear c22
           try clear c22b0
           try clear c23
           try clear c23b0
           try clear c24
           try clear c24b0
           try clear p25
           try clear q25
           try clear hx25
           try clear hf25
           try clear hcz33_0
           try clear hcz33_1
           try clear hfz33_0
           try clear hfz33_1
           try clear hx25_0
           try clear p2
           try clear p25
           try clear q25
           obtain ⟨x13_3, x46_3, rfl, HA, HK3, HO_10, HO_46, HO_361000, HO_361001, BK360, HB⟩ := hrel
           cases gk with
           | zero => exact absurd HA.out (by simp [redpenlaw17_PragmaNil.l1])
           | succ k3 =>
            have H := HA.out
            clear HA
            simp only [redpenlaw17_PragmaNil.l1] at H
            by_cases c36 : x13_3 < (x46_3.length : Int)
            ·rw [if_pos c36] at H
             have c36b0 : decide (x13_3 < (x46_3.length : Int)) = true := decide_eq_true c36
             clear c36
             by_cases c37 : 0 ≤ x13_3
             ·rw [if_pos c37] at H
              have c37b0 : decide (0 ≤ x13_3) = true := decide_eq_true c37
              clear c37
              obtain ⟨y364, hy364⟩ : ∃ y_ : List (S40), y_ = (x46_3.set (x13_3 : Int).toNat (⟨0, 0⟩ : S40)) := ⟨_, rfl⟩
              replace H : (redpenlaw17_PragmaNil.l1 k3 a1 a2 t350 (wrap64 (x13_3 + 1)) y364 t354 t357) = some r := by first | (rw [hy364]; with_reducible exact H) | (have H2_ := (Option.bind_some _ _).symm.trans H; rw [hy364]; with_reducible exact H2_) | (have H2_ := (Option.bind_some _ _).symm.trans H; with_reducible exact H2_) | with_reducible exact H | (rw [hy364]; exact H) | exact H
              have Ny364 := Aside0.mk hy364
              clear hy364
              have H' := Aside0.mk H
              clear H
              obtain ⟨Ao39, co39, eo39⟩ := Kd.R_slice HO_46.out
              subst eo39
              have p38 : 0 ≤ (x13_3 : Int) := of_decide_eq_true (by first | (with_reducible assumption) | assumption)
              have q38 : (x13_3 : Int) < ((x46_3.length : Int) : Int) := of_decide_eq_true (by first | (with_reducible assumption) | assumption)
              obtain ⟨go38, co38, eo38, gb38, gl38, cl38, HG38⟩ := Kd.R_form HO_46.out (by omega)
              (first | cases eo38 | (injection eo38 with ea_ en_ ec_; (first | subst ea_ | (injection ea_ with ea_; subst ea_)); subst ec_; clear en_))
              have GB38 := Aside0.mk gb38
              have GG38 := Aside0.mk HG38
              clear gb38 gl38 HG38
              obtain ⟨ce38, hcl38, hM38, hcc38, hfr38⟩ := Kd.R_elem HO_46.out z40 (x13_3 : Int) p38 q38
              obtain rfl := k40_openM hM38
              have hx38_0 : wr.cell? ⟨go38, (x13_3 : Int).toNat * 2, none⟩ = some (.int .i64 ((rd_T40 x46_3 x13_3).f0)) := hcc38 0 _ rfl
              have hx38_1 : wr.cell? ⟨go38, (x13_3 : Int).toNat * 2 + 1, none⟩ = some (.int .i64 ((rd_T40 x46_3 x13_3).f1)) := hcc38 1 _ rfl
              have hf38_0 : wr.frozen? ⟨go38, (x13_3 : Int).toNat * 2, none⟩ = false := hfr38 0
              have hf38_1 : wr.frozen? ⟨go38, (x13_3 : Int).toNat * 2 + 1, none⟩ = false := hfr38 1
              clear hcl38 hcc38 hfr38 hM38
              replace p38 := eq_true p38
              replace q38 := eq_true q38
              have HX40 := Aside0.mk (show Kd.R k40 40 wr w.heap.size (fun k_ => some k_ ≠ (.slice Ao32 t354.length co32 : Value).ownBlock) (.slice (some ⟨go38, 0, none⟩) x46_3.length co39) x46_3 from (by (with_reducible repeat (first | apply Kd.R_alloc | apply Kd.R_drewN | apply Kd.R_drew)); exact HO_46.out))
              obtain ⟨ce40, hcl40, hM40, hcc40, hfr40⟩ := Kd.R_elem HX40.out z40 (x13_3 : Int) (of_decide_eq_true (by first | (with_reducible assumption) | assumption)) (by have h_ : (x13_3 : Int) < ((x46_3.length : Int) : Int) := of_decide_eq_true (by first | (with_reducible assumption) | assumption); first | exact h_ | (have e_ := (Kd.R_reads' HO_46.out).1; omega) | simpa using h_)
              obtain rfl := k40_openM hM40
              have HP40 := Kd.R_seg HX40.out (x13_3 : Int) (of_decide_eq_true (by first | (with_reducible assumption) | assumption)) (by have h_ : (x13_3 : Int) < ((x46_3.length : Int) : Int) := of_decide_eq_true (by first | (with_reducible assumption) | assumption); first | exact h_ | (have e_ := (Kd.R_reads' HO_46.out).1; omega) | simpa using h_) (seg := [.int .i64 0, .int .i64 0]) (j := 0) hcl40 hcc40 (show 2 ≤ 2 from by decide) (x' := (⟨0, 0⟩ : S40)) (k40_mkM _ _ _ (⟨0, 0⟩ : S40) ) (fun _ hk => hk)
              have hx40_0 := hcc40 0 _ rfl
              (try simp only [show (k40).sz = 2 from rfl, Nat.mul_one, Nat.add_zero] at hx40_0)
              have hf40_0 := hfr40 0
              (try simp only [show (k40).sz = 2 from rfl, Nat.mul_one, Nat.add_zero] at hf40_0)
              have hx40_1 := hcc40 1 _ rfl
              (try simp only [show (k40).sz = 2 from rfl, Nat.mul_one, Nat.add_zero] at hx40_1)
              have hf40_1 := hfr40 1
              (try simp only [show (k40).sz = 2 from rfl, Nat.mul_one, Nat.add_zero] at hf40_1)
              clear hcl40 hcc40 hfr40 hM40
              go_wp2_with (first | ((with_reducible refine gate_store (t := 40) (p := 56) rfl ?_); refine store_event (t := 40) (p := 56) (v := ?vo_w41) (w1 := ((wr.setCell ⟨go38, (x13_3 : Int).toNat * 2, none⟩ (.int .i64 0)).setCell ⟨go38, (x13_3 : Int).toNat * 2 + 1, none⟩ (.int .i64 0))) ?hg ?ho ?hn ?hr ?_; (case ho => rfl); (case hg => rfl); (case hn => rfl); (case hr => first | (go_simp; done) | (go_simp; rfl)); intro w41 hw; have hg : wr.grownBy w41 (some go38) := (by rw [hw]; exact HP40.2); have hp_ : Kd.R k40 40 w41 w.heap.size (fun k_ => some k_ ≠ (.slice Ao32 t354.length co32 : Value).ownBlock) (.slice (some ⟨go38, 0, none⟩) x46_3.length co39) y364 := (by rw [hw, Ny364.out]; exact HP40.1); clear HP40; have n0_ := Aside0.mk (Kd.P_afterv (v := (.slice (some ⟨go38, 0, none⟩) x46_3.length co39)) (v1 := (.slice (some ⟨go38, 0, none⟩) x46_3.length co39)) (ok := (fun k_ => some k_ ≠ (.slice Ao32 t354.length co32 : Value).ownBlock ∧ some k_ ≠ (.slice Ao34 t357.length co34 : Value).ownBlock ∧ k_ ≠ gb360)) (by (with_reducible repeat (first | apply Kd.P_alloc | apply Kd.P_drewN | apply Kd.P_drew)); exact Kd.P_mono HO_10.out (fun _ hk => ⟨⟨hk.2.1, ⟨hk.2.2.1, hk.2.2.2⟩⟩, hk.1⟩)) hg (.inl rfl)); have n1_ := Aside0.mk (hp_); have n2_ := Aside0.mk (Kd.R_after (v := (.slice (some ⟨go38, 0, none⟩) x46_3.length co39)) (v1 := (.slice (some ⟨go38, 0, none⟩) x46_3.length co39)) (ok := (fun _ => True)) (by (with_reducible repeat (first | apply Kd.R_alloc | apply Kd.R_drewN | apply Kd.R_drew)); exact Kd.R_mono HO_361000.out (fun _ hk => ⟨trivial, hk⟩)) hg (.inl rfl)); have n3_ := Aside0.mk (Kd.R_over' (v := (.slice (some ⟨go38, 0, none⟩) x46_3.length co39)) (by (with_reducible repeat (first | apply Kd.R_alloc | apply Kd.R_drewN | apply Kd.R_drew)); exact HO_361001.out) (Kd.R_typed HO_46.out) (by decide) hg); have n4_ := Aside0.mk (blk_grown (g := gb360) (o := .cells #[.slice Ao32 t354.length co32, .slice Ao34 t357.length co34] 37 (0, 0)) (by (with_reducible repeat (first | refine blk_drewN ?_ _ | refine blk_drew ?_ | refine blk_alloc ?_ _)); exact BK360.out) hg (Kd.R_ne HO_46.out BK360.out (by decide))); have n5_ := Aside0.mk ((by rw [hw]; exact below_set (below_set (HB.out) GB38.out) GB38.out : Below w.heap.size w w41)); clear HO_10; clear HO_46; clear HO_361000; clear HO_361001; clear BK360; clear HB; have HO_10 := n0_; have HO_46 := n1_; have HO_361000 := n2_; have HO_361001 := n3_; have BK360 := n4_; have HB := n5_; clear n0_ n1_ n2_ n3_ n4_ n5_; clear hg hw hp_))
              go_roundg k3
              case measure => have := HJ5.out; have := HK2.out; have := HK3.out; omega
              case rel => exact ⟨(wrap64 (x13_3 + 1)), (y364), (by first | rfl | (simp; done) | (simp [*]; done) | (simp [wrap64, wrap32]; done)), H', ⟨by have := HJ5.out; have := HK2.out; have := HK3.out; omega⟩, ⟨by (try simp only [hl31_2]); (with_reducible repeat (first | apply Kd.P_alloc | apply Kd.P_drewN | apply Kd.P_drew)); exact Kd.P_mono HO_10.out (fun _ hk => ⟨hk.2, ⟨hk.1.1, ⟨hk.1.2.1, hk.1.2.2⟩⟩⟩)⟩, ⟨by (try simp only [hl31_2]); (with_reducible repeat (first | apply Kd.R_alloc | apply Kd.R_drewN | apply Kd.R_drew)); exact HO_46.out⟩, ⟨by (try simp only [hl31_2]); (with_reducible repeat (first | apply Kd.R_alloc | apply Kd.R_drewN | apply Kd.R_drew)); exact Kd.R_mono HO_361000.out (fun _ hk => hk.2)⟩, ⟨by (try simp only [hl31_2]); (with_reducible repeat (first | apply Kd.R_alloc | apply Kd.R_drewN | apply Kd.R_drew)); exact HO_361001.out⟩, ⟨by (try simp only [hl31_2]); (with_reducible repeat (first | refine blk_drewN ?_ _ | refine blk_drew ?_ | refine blk_alloc ?_ _)); exact BK360.out⟩, ⟨by repeat (first | (with_reducible first | exact HB.out | apply below_alloc | apply pw_below_drewN | apply below_drew1 | refine below_set ?_ GE360.out) | exact HB.out)⟩⟩
             ·rw [if_neg c37] at H
              exact absurd H (by simp)
            ·rw [if_neg c36] at H
             have c36b0 : decide (x13_3 < (x46_3.length : Int)) = false := decide_eq_false c36
             clear c36
             replace H := Option.bind_eq_some_iff.mp H
             obtain ⟨t365, A420, H⟩ := H
             replace H : (if t365 = true then (some false) else ((pragma_Rules_Knows.f k3 [] a2).bind fun t366 => (if t366 = true then (some false) else ((pragma_Rules_Spans.f []).bind fun t367 => (if (t367.length : Int) = 0 then ((pragma_Rules_Off.f t350 a1).bind fun t370 => ((redpenref15_Rules_Alone.f k3 t354 t357 a1).bind fun t371 => (if (t370 == t371) = true then ((pragma_Rules_Knows.f k3 t350 (⟨#[81, 81]⟩ : ByteArray)).bind fun t372 => (some t372)) else (some false)))) else (some false)))))) = some r := H
             have A42 := Aside0.mk A420
             clear A420
             by_cases c43 : t365 = true
             ·subst c43
              have H1 : (some false) = some r := by rw [if_pos rfl] at H; exact H
              clear H
              have H := H1
              clear H1
              have hf_ := Option.some.inj H
              rw [hr_] at hf_
              cases hf_
             ·replace c43 := Bool.eq_false_iff.mpr c43
              subst c43
              have H1 : ((pragma_Rules_Knows.f k3 [] a2).bind fun t366 => (if t366 = true then (some false) else ((pragma_Rules_Spans.f []).bind fun t367 => (if (t367.length : Int) = 0 then ((pragma_Rules_Off.f t350 a1).bind fun t370 => ((redpenref15_Rules_Alone.f k3 t354 t357 a1).bind fun t371 => (if (t370 == t371) = true then ((pragma_Rules_Knows.f k3 t350 (⟨#[81, 81]⟩ : ByteArray)).bind fun t372 => (some t372)) else (some false)))) else (some false))))) = some r := by rw [if_neg (show ¬ (false = true) by decide)] at H; exact H
              clear H
              have H := H1
              clear H1
              replace H := Option.bind_eq_some_iff.mp H
              obtain ⟨t366, A440, H⟩ := H
              replace H : (if t366 = true then (some false) else ((pragma_Rules_Spans.f []).bind fun t367 => (if (t367.length : Int) = 0 then ((pragma_Rules_Off.f t350 a1).bind fun t370 => ((redpenref15_Rules_Alone.f k3 t354 t357 a1).bind fun t371 => (if (t370 == t371) = true then ((pragma_Rules_Knows.f k3 t350 (⟨#[81, 81]⟩ : ByteArray)).bind fun t372 => (some t372)) else (some false)))) else (some false)))) = some r := H
              have A44 := Aside0.mk A440
              clear A440
              by_cases c45 : t366 = true
              ·subst c45
               have H1 : (some false) = some r := by rw [if_pos rfl] at H; exact H
               clear H
               have H := H1
               clear H1
               have hf_ := Option.some.inj H
               rw [hr_] at hf_
               cases hf_
              ·replace c45 := Bool.eq_false_iff.mpr c45
               subst c45
               have H1 : ((pragma_Rules_Spans.f []).bind fun t367 => (if (t367.length : Int) = 0 then ((pragma_Rules_Off.f t350 a1).bind fun t370 => ((redpenref15_Rules_Alone.f k3 t354 t357 a1).bind fun t371 => (if (t370 == t371) = true then ((pragma_Rules_Knows.f k3 t350 (⟨#[81, 81]⟩ : ByteArray)).bind fun t372 => (some t372)) else (some false)))) else (some false))) = some r := by rw [if_neg (show ¬ (false = true) by decide)] at H; exact H
               clear H
               have H := H1
               clear H1
               replace H := Option.bind_eq_some_iff.mp H
               obtain ⟨t367, A460, H⟩ := H
               replace H : (if (t367.length : Int) = 0 then ((pragma_Rules_Off.f t350 a1).bind fun t370 => ((redpenref15_Rules_Alone.f k3 t354 t357 a1).bind fun t371 => (if (t370 == t371) = true then ((pragma_Rules_Knows.f k3 t350 (⟨#[81, 81]⟩ : ByteArray)).bind fun t372 => (some t372)) else (some false)))) else (some false)) = some r := H
               have A46 := Aside0.mk A460
               clear A460
               by_cases c47 : (t367.length : Int) = 0
               ·rw [if_pos c47] at H
                have c47b0 : ((t367.length : Int) == 0) = true := beq_iff_eq.mpr c47
                have c47b1 : ((t367.length : Int) != 0) = false := bne_eq_false_iff_eq.mpr c47
                clear c47
                replace H := Option.bind_eq_some_iff.mp H
                obtain ⟨t370, A480, H⟩ := H
                replace H : ((redpenref15_Rules_Alone.f k3 t354 t357 a1).bind fun t371 => (if (t370 == t371) = true then ((pragma_Rules_Knows.f k3 t350 (⟨#[81, 81]⟩ : ByteArray)).bind fun t372 => (some t372)) else (some false))) = some r := H
                have A48 := Aside0.mk A480
                clear A480
                replace H := Option.bind_eq_some_iff.mp H
                obtain ⟨t371, A490, H⟩ := H
                replace H : (if (t370 == t371) = true then ((pragma_Rules_Knows.f k3 t350 (⟨#[81, 81]⟩ : ByteArray)).bind fun t372 => (some t372)) else (some false)) = some r := H
                have A49 := Aside0.mk A490
                clear A490
                by_cases c50 : (t370 == t371) = true
                ·rw [if_pos c50] at H
                 have c50b0 : (t370 == t371) = true := c50
                 (try (have c50b1 : decide (t370 = t371) = true := by simpa using c50))
                 (try (have c50b2 : (t370 == t371) = true := by simpa using c50))
                 clear c50
                 replace H := Option.bind_eq_some_iff.mp H
                 obtain ⟨t372, A510, H⟩ := H
                 replace H : (some t372) = some r := H
                 have A51 := Aside0.mk A510
                 clear A510
                 obtain rfl := Option.some.inj H
                 obtain ⟨Ao52, co52, eo52⟩ := Kd.R_slice HO_46.out
                 subst eo52
                 try go_wp2
                 have n0_ := Aside0.mk (Kd.P_drew HO_10.out)
                 have n1_ := Aside0.mk (Kd.R_drew HO_46.out)
                 have n2_ := Aside0.mk (Kd.R_drew HO_361000.out)
                 have n3_ := Aside0.mk (Kd.R_drew HO_361001.out)
                 have n4_ := Aside0.mk (blk_drew BK360.out)
                 have n5_ := Aside0.mk (below_drew1 HB.out)
                 clear HO_10
                 clear HO_46
                 clear HO_361000
                 clear HO_361001
                 clear BK360
                 clear HB
                 have HO_10 := n0_
                 have HO_46 := n1_
                 have HO_361000 := n2_
                 have HO_361001 := n3_
                 have BK360 := n4_
                 have HB := n5_
                 clear n0_ n1_ n2_ n3_ n4_ n5_
                 refine start_ (n := 30) (S := fun w' => w'.cell? ⟨gb360, 0, none⟩ = some (.slice Ao32 t354.length co32) ∧ w'.cell? ⟨gb360, 1, none⟩ = some (.slice Ao34 t357.length co34)) (ds := []) #[false, false, false, false, false, false, false, false, false, false, false, false, false, false, false, false, false, false, false, false, false, false, false, false, false, false, false, false, false, false] (by kernel_rfl) rfl rfl ⟨(blk_cell BK360.out 0).trans rfl, (blk_cell BK360.out 1).trans rfl⟩ (fun hHeld => ?_); refine with_tabW redpenlaw17_PragmaNil.tab19 redpenlaw17_PragmaNil.bits19 (fun HT_ HW_ => ?_)
                 generalize wr.drew = w53 at HO_10 HO_46 HO_361000 HO_361001 BK360 HB hHeld ⊢
                 refine pure_ (i := 0) (N := some 57) (v := ?_) (a' := ?_) #[true, false, false, false, false, false, false, false, false, false, false, false, false, false, false, false, false, false, false, false, false, false, false, false, false, false, false, false, false, false] rfl rfl (any_of HT_.out (by kernel_rfl)) (fun _ _ _ h => h) (Or.inl ⟨by rfl, ?_⟩) ?_ ?_
                 rotate_left
                 ·intro w'
                  go_simp
                  with_reducible rfl
                 rotate_left
                 ·simp only [Act.put, List.setIfInBounds_toArray, List.set_cons_zero, List.set_cons_succ, i64_w, i32_w]
                  rfl
                 refine pure_ (i := 1) (N := some 58) (v := ?_) (a' := ?_) #[true, true, false, false, false, false, false, false, false, false, false, false, false, false, false, false, false, false, false, false, false, false, false, false, false, false, false, false, false, false] rfl rfl (any_of HT_.out (by kernel_rfl)) (fun _ _ _ h => h) (Or.inl ⟨by rfl, ?_⟩) ?_ ?_
                 rotate_left
                 ·intro w'
                  go_simp
                  with_reducible rfl
                 rotate_left
                 ·simp only [Act.put, List.setIfInBounds_toArray, List.set_cons_zero, List.set_cons_succ, i64_w, i32_w]
                  rfl
                 refine one_ (i := 2) (N := some 59) #[true, true, true, false, false, false, false, false, false, false, false, false, false, false, false, false, false, false, false, false, false, false, false, false, false, false, false, false, false, false] rfl rfl (one_of HT_.out (by kernel_rfl)) (by decide) (fun K hK => ?_)
                 refine goes_ Tryd.func10 (by kernel_rfl) rfl #[.pointer none, .int .i64 a1] (by rfl) rfl rfl (by (try simp only [List.map_toArray, List.map_cons, List.map_nil]); first | done | rfl | (simp only [List.length_drop, List.length_take]; rfl)) ?_
                 with_reducible refine (pragma_Rules_Off.calls _ [] a1 false _ ?side1 A42.out).mono ?_
                 (case side1 => exact .inl ⟨rfl, rfl⟩)
                 rintro e w54 ⟨rfl, hb⟩
                 refine ⟨_, rfl, ?_⟩
                 have n0_ := Aside0.mk (Kd.P_below (by (with_reducible repeat (first | apply Kd.P_alloc | apply Kd.P_drewN | apply Kd.P_drew)); exact HO_10.out) hb)
                 have n1_ := Aside0.mk (Kd.R_below (by (with_reducible repeat (first | apply Kd.R_alloc | apply Kd.R_drewN | apply Kd.R_drew)); exact HO_46.out) hb)
                 have n2_ := Aside0.mk (Kd.R_below (by (with_reducible repeat (first | apply Kd.R_alloc | apply Kd.R_drewN | apply Kd.R_drew)); exact HO_361000.out) hb)
                 have n3_ := Aside0.mk (Kd.R_below (by (with_reducible repeat (first | apply Kd.R_alloc | apply Kd.R_drewN | apply Kd.R_drew)); exact HO_361001.out) hb)
                 have n4_ := Aside0.mk (blk_below (g := gb360) (o := .cells #[.slice Ao32 t354.length co32, .slice Ao34 t357.length co34] 37 (0, 0)) (by (with_reducible repeat (first | refine blk_drewN ?_ _ | refine blk_drew ?_ | refine blk_alloc ?_ _)); exact BK360.out) hb)
                 have n5_ := Aside0.mk (below_step (by repeat (first | (with_reducible first | exact HB.out | apply below_alloc | apply pw_below_drewN | apply below_drew1 | refine below_set ?_ GE360.out) | exact HB.out)) hb)
                 clear HO_10
                 clear HO_46
                 clear HO_361000
                 clear HO_361001
                 clear BK360
                 clear HB
                 have HO_10 := n0_
                 have HO_46 := n1_
                 have HO_361000 := n2_
                 have HO_361001 := n3_
                 have BK360 := n4_
                 have HB := n5_
                 clear n0_ n1_ n2_ n3_ n4_ n5_
                 (try clear hb)
                 (try clear hb2)
                 (try clear hk)
                 (try clear hi)
                 refine hK.out _ _ ⟨(blk_cell BK360.out 0).trans rfl, (blk_cell BK360.out 1).trans rfl⟩ (fun hHeld => ?_)
                 clear hK K
                 refine norm_ (a' := ?_) ?_ ?_
                 rotate_left
                 ·show Act.put _ (some 59) _ = _
                  simp only [Act.put, List.setIfInBounds_toArray, List.set_cons_zero, List.set_cons_succ, i64_w, i32_w]
                  rfl
                 refine pure_ (i := 3) (N := some 60) (v := ?_) (a' := ?_) #[true, true, true, true, false, false, false, false, false, false, false, false, false, false, false, false, false, false, false, false, false, false, false, false, false, false, false, false, false, false] rfl rfl (any_of HT_.out (by kernel_rfl)) (fun _ _ _ h => h) (Or.inl ⟨by rfl, ?_⟩) ?_ ?_
                 rotate_left
                 ·intro w'
                  go_simp
                  with_reducible rfl
                 rotate_left
                 ·simp only [Act.put, List.setIfInBounds_toArray, List.set_cons_zero, List.set_cons_succ, i64_w, i32_w]
                  rfl
                 refine pure_ (i := 4) (N := some 61) (v := ?_) (a' := ?_) #[true, true, true, true, true, false, false, false, false, false, false, false, false, false, false, false, false, false, false, false, false, false, false, false, false, false, false, false, false, false] rfl rfl (any_of HT_.out (by kernel_rfl)) (fun _ _ _ h => h) (Or.inl ⟨by rfl, ?_⟩) ?_ ?_
                 rotate_left
                 ·intro w'
                  go_simp
                  with_reducible rfl
                 rotate_left
                 ·simp only [Act.put, List.setIfInBounds_toArray, List.set_cons_zero, List.set_cons_succ, i64_w, i32_w]
                  rfl
                 refine pure_ (i := 5) (N := some 62) (v := ?_) (a' := ?_) #[true, true, true, true, true, true, false, false, false, false, false, false, false, false, false, false, false, false, false, false, false, false, false, false, false, false, false, false, false, false] rfl rfl (any_of HT_.out (by kernel_rfl)) (fun _ _ _ h => h) (Or.inl ⟨by rfl, ?_⟩) ?_ ?_
                 rotate_left
                 ·intro w'
                  go_simp
                  with_reducible rfl
                 rotate_left
                 ·simp only [Act.put, List.setIfInBounds_toArray, List.set_cons_zero, List.set_cons_succ, i64_w, i32_w]
                  rfl
                 refine pure_ (i := 6) (N := some 63) (v := ?_) (a' := ?_) #[true, true, true, true, true, true, true, false, false, false, false, false, false, false, false, false, false, false, false, false, false, false, false, false, false, false, false, false, false, false] rfl rfl (any_of HT_.out (by kernel_rfl)) (fun _ _ _ h => h) (Or.inl ⟨by rfl, ?_⟩) ?_ ?_
                 rotate_left
                 ·intro w'
                  go_simp
                  with_reducible rfl
                 rotate_left
                 ·simp only [Act.put, List.setIfInBounds_toArray, List.set_cons_zero, List.set_cons_succ, i64_w, i32_w]
                  rfl
                 refine one_ (i := 7) (N := some 64) #[true, true, true, true, true, true, true, true, false, false, false, false, false, false, false, false, false, false, false, false, false, false, false, false, false, false, false, false, false, false] rfl rfl (one_of HT_.out (by kernel_rfl)) (by decide) (fun K hK => ?_)
                 refine goes_ Tryd.func16 (by kernel_rfl) rfl #[.pointer none, .string a2] (by rfl) rfl rfl (by (try simp only [List.map_toArray, List.map_cons, List.map_nil]); first | done | rfl | (simp only [List.length_drop, List.length_take]; rfl)) ?_
                 with_reducible refine (pragma_Rules_Knows.calls k3 _ [] a2 false _ ?side1 A44.out).mono ?_
                 (case side1 => exact .inl ⟨rfl, rfl⟩)
                 rintro e w55 ⟨rfl, hb⟩
                 refine ⟨_, rfl, ?_⟩
                 have n0_ := Aside0.mk (Kd.P_below (by (with_reducible repeat (first | apply Kd.P_alloc | apply Kd.P_drewN | apply Kd.P_drew)); exact HO_10.out) hb)
                 have n1_ := Aside0.mk (Kd.R_below (by (with_reducible repeat (first | apply Kd.R_alloc | apply Kd.R_drewN | apply Kd.R_drew)); exact HO_46.out) hb)
                 have n2_ := Aside0.mk (Kd.R_below (by (with_reducible repeat (first | apply Kd.R_alloc | apply Kd.R_drewN | apply Kd.R_drew)); exact HO_361000.out) hb)
                 have n3_ := Aside0.mk (Kd.R_below (by (with_reducible repeat (first | apply Kd.R_alloc | apply Kd.R_drewN | apply Kd.R_drew)); exact HO_361001.out) hb)
                 have n4_ := Aside0.mk (blk_below (g := gb360) (o := .cells #[.slice Ao32 t354.length co32, .slice Ao34 t357.length co34] 37 (0, 0)) (by (with_reducible repeat (first | refine blk_drewN ?_ _ | refine blk_drew ?_ | refine blk_alloc ?_ _)); exact BK360.out) hb)
                 have n5_ := Aside0.mk (below_step (by repeat (first | (with_reducible first | exact HB.out | apply below_alloc | apply pw_below_drewN | apply below_drew1 | refine below_set ?_ GE360.out) | exact HB.out)) hb)
                 clear HO_10
                 clear HO_46
                 clear HO_361000
                 clear HO_361001
                 clear BK360
                 clear HB
                 have HO_10 := n0_
                 have HO_46 := n1_
                 have HO_361000 := n2_
                 have HO_361001 := n3_
                 have BK360 := n4_
                 have HB := n5_
                 clear n0_ n1_ n2_ n3_ n4_ n5_
                 (try clear hb)
                 (try clear hb2)
                 (try clear hk)
                 (try clear hi)
                 refine hK.out _ _ ⟨(blk_cell BK360.out 0).trans rfl, (blk_cell BK360.out 1).trans rfl⟩ (fun hHeld => ?_)
                 clear hK K
                 refine norm_ (a' := ?_) ?_ ?_
                 rotate_left
                 ·show Act.put _ (some 64) _ = _
                  simp only [Act.put, List.setIfInBounds_toArray, List.set_cons_zero, List.set_cons_succ, i64_w, i32_w]
                  rfl
                 refine pure_ (i := 8) (N := some 65) (v := ?_) (a' := ?_) #[true, true, true, true, true, true, true, true, true, false, false, false, false, false, false, false, false, false, false, false, false, false, false, false, false, false, false, false, false, false] rfl rfl (any_of HT_.out (by kernel_rfl)) (fun _ _ _ h => h) (Or.inl ⟨by rfl, ?_⟩) ?_ ?_
                 rotate_left
                 ·intro w'
                  go_simp
                  with_reducible rfl
                 rotate_left
                 ·simp only [Act.put, List.setIfInBounds_toArray, List.set_cons_zero, List.set_cons_succ, i64_w, i32_w]
                  rfl
                 refine pure_ (i := 9) (N := some 66) (v := ?_) (a' := ?_) #[true, true, true, true, true, true, true, true, true, true, false, false, false, false, false, false, false, false, false, false, false, false, false, false, false, false, false, false, false, false] rfl rfl (any_of HT_.out (by kernel_rfl)) (fun _ _ _ h => h) (Or.inl ⟨by rfl, ?_⟩) ?_ ?_
                 rotate_left
                 ·intro w'
                  go_simp
                  with_reducible rfl
                 rotate_left
                 ·simp only [Act.put, List.setIfInBounds_toArray, List.set_cons_zero, List.set_cons_succ, i64_w, i32_w]
                  rfl
                 refine pure_ (i := 10) (N := some 67) (v := ?_) (a' := ?_) #[true, true, true, true, true, true, true, true, true, true, true, false, false, false, false, false, false, false, false, false, false, false, false, false, false, false, false, false, false, false] rfl rfl (any_of HT_.out (by kernel_rfl)) (fun _ _ _ h => h) (Or.inl ⟨by rfl, ?_⟩) ?_ ?_
                 rotate_left
                 ·intro w'
                  go_simp
                  with_reducible rfl
                 rotate_left
                 ·simp only [Act.put, List.setIfInBounds_toArray, List.set_cons_zero, List.set_cons_succ, i64_w, i32_w]
                  rfl
                 refine pure_ (i := 11) (N := some 68) (v := ?_) (a' := ?_) #[true, true, true, true, true, true, true, true, true, true, true, true, false, false, false, false, false, false, false, false, false, false, false, false, false, false, false, false, false, false] rfl rfl (any_of HT_.out (by kernel_rfl)) (fun _ _ _ h => h) (Or.inl ⟨by rfl, ?_⟩) ?_ ?_
                 rotate_left
                 ·intro w'
                  go_simp
                  with_reducible rfl
                 rotate_left
                 ·simp only [Act.put, List.setIfInBounds_toArray, List.set_cons_zero, List.set_cons_succ, i64_w, i32_w]
                  rfl
                 refine one_ (i := 12) (N := some 69) #[true, true, true, true, true, true, true, true, true, true, true, true, true, false, false, false, false, false, false, false, false, false, false, false, false, false, false, false, false, false] rfl rfl (one_of HT_.out (by kernel_rfl)) (by decide) (fun K hK => ?_)
                 refine goes_ Tryd.func11 (by kernel_rfl) rfl #[.pointer none] (by rfl) rfl rfl (by (try simp only [List.map_toArray, List.map_cons, List.map_nil]); first | done | rfl | (simp only [List.length_drop, List.length_take]; rfl)) ?_
                 with_reducible refine (pragma_Rules_Spans.calls _ [] t367 _ ?side1 A46.out).mono ?_
                 (case side1 => exact .inl ⟨rfl, rfl⟩)
                 rintro e w56 ⟨v368, rfl, ho0, hb⟩
                 refine ⟨_, rfl, ?_⟩
                 have n0_ := Aside0.mk (Kd.P_elder' (by (with_reducible repeat (first | apply Kd.P_alloc | apply Kd.P_drewN | apply Kd.P_drew)); exact HO_10.out) (Kd.R_base ho0) hb)
                 have n1_ := Aside0.mk (Kd.R_elder' (by (with_reducible repeat (first | apply Kd.R_alloc | apply Kd.R_drewN | apply Kd.R_drew)); exact HO_46.out) (Kd.R_base ho0) hb)
                 have n2_ := Aside0.mk (Kd.R_elder' (by (with_reducible repeat (first | apply Kd.R_alloc | apply Kd.R_drewN | apply Kd.R_drew)); exact HO_361000.out) (Kd.R_base ho0) hb)
                 have n3_ := Aside0.mk (Kd.R_below (by (with_reducible repeat (first | apply Kd.R_alloc | apply Kd.R_drewN | apply Kd.R_drew)); exact HO_361001.out) hb)
                 have n4_ := Aside0.mk (Kd.R_lower (Kd.R_new' (Kd.R_new' ho0 (Kd.R_lt (by (with_reducible repeat (first | apply Kd.R_alloc | apply Kd.R_drewN | apply Kd.R_drew)); exact HO_46.out))) (Kd.R_lt (by (with_reducible repeat (first | apply Kd.R_alloc | apply Kd.R_drewN | apply Kd.R_drew)); exact HO_361000.out))) (below_size (by repeat (first | (with_reducible first | exact HB.out | apply below_alloc | apply pw_below_drewN | apply below_drew1 | refine below_set ?_ GE360.out) | exact HB.out))))
                 have n5_ := Aside0.mk (blk_below (g := gb360) (o := .cells #[.slice Ao32 t354.length co32, .slice Ao34 t357.length co34] 37 (0, 0)) (by (with_reducible repeat (first | refine blk_drewN ?_ _ | refine blk_drew ?_ | refine blk_alloc ?_ _)); exact BK360.out) hb)
                 have n6_ := Aside0.mk (below_step (by repeat (first | (with_reducible first | exact HB.out | apply below_alloc | apply pw_below_drewN | apply below_drew1 | refine below_set ?_ GE360.out) | exact HB.out)) hb)
                 clear HO_10
                 clear HO_46
                 clear HO_361000
                 clear HO_361001
                 clear BK360
                 clear HB
                 have HO_10 := n0_
                 have HO_46 := n1_
                 have HO_361000 := n2_
                 have HO_361001 := n3_
                 have HO369 := n4_
                 have BK360 := n5_
                 have HB := n6_
                 clear n0_ n1_ n2_ n3_ n4_ n5_ n6_
                 (try clear hb)
                 (try clear hb2)
                 (try clear hk)
                 (try clear hi)
                 (try clear ho0)
                 obtain ⟨Ao57, co57, eo57⟩ := Kd.R_slice HO369.out
                 (first | subst eo57 | (injection eo57 with f1_ f2_ f3_; have f4_ := f1_.symm; have f5_ := f3_.symm; clear f1_ f2_ f3_; subst f4_; subst f5_))
                 refine hK.out _ _ ⟨(blk_cell BK360.out 0).trans rfl, (blk_cell BK360.out 1).trans rfl⟩ (fun hHeld => ?_)
                 clear hK K
                 refine norm_ (a' := ?_) ?_ ?_
                 rotate_left
                 ·show Act.put _ (some 69) _ = _
                  simp only [Act.put, List.setIfInBounds_toArray, List.set_cons_zero, List.set_cons_succ, i64_w, i32_w]
                  rfl
                 refine pure_ (i := 13) (N := some 70) (v := ?_) (a' := ?_) #[true, true, true, true, true, true, true, true, true, true, true, true, true, true, false, false, false, false, false, false, false, false, false, false, false, false, false, false, false, false] rfl rfl (any_of HT_.out (by kernel_rfl)) (fun _ _ _ h => h) (Or.inl ⟨by rfl, ?_⟩) ?_ ?_
                 rotate_left
                 ·intro w'
                  go_simp
                  with_reducible rfl
                 rotate_left
                 ·simp only [Act.put, List.setIfInBounds_toArray, List.set_cons_zero, List.set_cons_succ, i64_w, i32_w]
                  rfl
                 refine pure_ (i := 14) (N := some 71) (v := ?_) (a' := ?_) #[true, true, true, true, true, true, true, true, true, true, true, true, true, true, true, false, false, false, false, false, false, false, false, false, false, false, false, false, false, false] rfl rfl (any_of HT_.out (by kernel_rfl)) (fun _ _ _ h => h) (Or.inl ⟨by rfl, ?_⟩) ?_ ?_
                 rotate_left
                 ·intro w'
                  go_simp
                  with_reducible rfl
                 rotate_left
                 ·simp only [Act.put, List.setIfInBounds_toArray, List.set_cons_zero, List.set_cons_succ, i64_w, i32_w]
                  rfl
                 refine pure_ (i := 15) (N := some 72) (v := ?_) (a' := ?_) #[true, true, true, true, true, true, true, true, true, true, true, true, true, true, true, true, false, false, false, false, false, false, false, false, false, false, false, false, false, false] rfl rfl (any_of HT_.out (by kernel_rfl)) (fun _ _ _ h => h) (Or.inl ⟨by rfl, ?_⟩) ?_ ?_
                 rotate_left
                 ·intro w'
                  go_simp
                  with_reducible rfl
                 rotate_left
                 ·simp only [Act.put, List.setIfInBounds_toArray, List.set_cons_zero, List.set_cons_succ, i64_w, i32_w]
                  rfl
                 refine pure_ (i := 16) (N := some 73) (v := ?_) (a' := ?_) #[true, true, true, true, true, true, true, true, true, true, true, true, true, true, true, true, true, false, false, false, false, false, false, false, false, false, false, false, false, false] rfl rfl (any_of HT_.out (by kernel_rfl)) (fun _ _ _ h => h) (Or.inl ⟨by rfl, ?_⟩) ?_ ?_
                 rotate_left
                 ·intro w'
                  go_simp
                  with_reducible rfl
                 rotate_left
                 ·simp only [Act.put, List.setIfInBounds_toArray, List.set_cons_zero, List.set_cons_succ, i64_w, i32_w]
                  rfl
                 refine pure_ (i := 17) (N := some 74) (v := ?_) (a' := ?_) #[true, true, true, true, true, true, true, true, true, true, true, true, true, true, true, true, true, true, false, false, false, false, false, false, false, false, false, false, false, false] rfl rfl (any_of HT_.out (by kernel_rfl)) (fun _ _ _ h => h) (Or.inl ⟨by rfl, ?_⟩) ?_ ?_
                 rotate_left
                 ·intro w'
                  go_simp
                  with_reducible rfl
                 rotate_left
                 ·simp only [Act.put, List.setIfInBounds_toArray, List.set_cons_zero, List.set_cons_succ, i64_w, i32_w]
                  rfl
                 refine pure_ (i := 18) (N := some 75) (v := ?_) (a' := ?_) #[true, true, true, true, true, true, true, true, true, true, true, true, true, true, true, true, true, true, true, false, false, false, false, false, false, false, false, false, false, false] rfl rfl (any_of HT_.out (by kernel_rfl)) (fun _ _ _ h => h) (Or.inl ⟨by rfl, ?_⟩) ?_ ?_
                 rotate_left
                 ·intro w'
                  go_simp
                  with_reducible rfl
                 rotate_left
                 ·simp only [Act.put, List.setIfInBounds_toArray, List.set_cons_zero, List.set_cons_succ, i64_w, i32_w]
                  rfl
                 refine pure_ (i := 21) (N := some 78) (v := ?_) (a' := ?_) #[true, true, true, true, true, true, true, true, true, true, true, true, true, true, true, true, true, true, true, false, false, true, false, false, false, false, false, false, false, false] rfl rfl (any_of HT_.out (by kernel_rfl)) (fun _ _ _ h => h) (Or.inl ⟨by rfl, ?_⟩) ?_ ?_
                 rotate_left
                 ·intro w'
                  go_simp
                  with_reducible rfl
                 rotate_left
                 ·simp only [Act.put, List.setIfInBounds_toArray, List.set_cons_zero, List.set_cons_succ, i64_w, i32_w]
                  rfl
                 refine take_ (i := 20) (N := some 77) (v := ?_) (a' := ?_) #[true, true, true, true, true, true, true, true, true, true, true, true, true, true, true, true, true, true, true, false, true, true, false, false, false, false, false, false, false, false] rfl rfl (take_ofW HT_.out HW_.out (by kernel_rfl)) (fun _ _ _ h => h) (Or.inl ⟨by rfl, ?_⟩) hHeld ?_ ?_
                 rotate_left
                 ·rintro w' ⟨s0, s1⟩
                  go_simp
                  with_reducible rfl
                 rotate_left
                 ·simp only [Act.put, List.setIfInBounds_toArray, List.set_cons_zero, List.set_cons_succ, i64_w, i32_w]
                  rfl
                 refine one_ (i := 19) (N := some 76) #[true, true, true, true, true, true, true, true, true, true, true, true, true, true, true, true, true, true, true, true, true, true, false, false, false, false, false, false, false, false] rfl rfl (one_of HT_.out (by kernel_rfl)) (by decide) (fun K hK => ?_)
                 refine goes_ Tryd.func10 (by kernel_rfl) rfl #[v351, .int .i64 a1] (by rfl) rfl rfl (by (try simp only [List.map_toArray, List.map_cons, List.map_nil]); first | done | rfl | (simp only [List.length_drop, List.length_take]; rfl)) ?_
                 with_reducible refine (pragma_Rules_Off.calls _ t350 a1 t370 _ ?side1 A48.out).mono ?_
                 (case side1 => exact Kd.P_now (by (with_reducible repeat (first | apply Kd.P_alloc | apply Kd.P_drewN | apply Kd.P_drew)); exact HO_10.out))
                 rintro e w58 ⟨rfl, hb⟩
                 refine ⟨_, rfl, ?_⟩
                 have n0_ := Aside0.mk (Kd.P_below (by (with_reducible repeat (first | apply Kd.P_alloc | apply Kd.P_drewN | apply Kd.P_drew)); exact HO_10.out) hb)
                 have n1_ := Aside0.mk (Kd.R_below (by (with_reducible repeat (first | apply Kd.R_alloc | apply Kd.R_drewN | apply Kd.R_drew)); exact HO_46.out) hb)
                 have n2_ := Aside0.mk (Kd.R_below (by (with_reducible repeat (first | apply Kd.R_alloc | apply Kd.R_drewN | apply Kd.R_drew)); exact HO_361000.out) hb)
                 have n3_ := Aside0.mk (Kd.R_below (by (with_reducible repeat (first | apply Kd.R_alloc | apply Kd.R_drewN | apply Kd.R_drew)); exact HO_361001.out) hb)
                 have n4_ := Aside0.mk (Kd.R_below (by (with_reducible repeat (first | apply Kd.R_alloc | apply Kd.R_drewN | apply Kd.R_drew)); exact HO369.out) hb)
                 have n5_ := Aside0.mk (blk_below (g := gb360) (o := .cells #[.slice Ao32 t354.length co32, .slice Ao34 t357.length co34] 37 (0, 0)) (by (with_reducible repeat (first | refine blk_drewN ?_ _ | refine blk_drew ?_ | refine blk_alloc ?_ _)); exact BK360.out) hb)
                 have n6_ := Aside0.mk (below_step (by repeat (first | (with_reducible first | exact HB.out | apply below_alloc | apply pw_below_drewN | apply below_drew1 | refine below_set ?_ GE360.out) | exact HB.out)) hb)
                 clear HO_10
                 clear HO_46
                 clear HO_361000
                 clear HO_361001
                 clear HO369
                 clear BK360
                 clear HB
                 have HO_10 := n0_
                 have HO_46 := n1_
                 have HO_361000 := n2_
                 have HO_361001 := n3_
                 have HO369 := n4_
                 have BK360 := n5_
                 have HB := n6_
                 clear n0_ n1_ n2_ n3_ n4_ n5_ n6_
                 (try clear hb)
                 (try clear hb2)
                 (try clear hk)
                 (try clear hi)
                 refine hK.out _ _ ⟨(blk_cell BK360.out 0).trans rfl, (blk_cell BK360.out 1).trans rfl⟩ (fun hHeld => ?_)
                 clear hK K
                 refine norm_ (a' := ?_) ?_ ?_
                 rotate_left
                 ·show Act.put _ (some 76) _ = _
                  simp only [Act.put, List.setIfInBounds_toArray, List.set_cons_zero, List.set_cons_succ, i64_w, i32_w]
                  rfl
                 refine one_ (i := 22) (N := some 79) #[true, true, true, true, true, true, true, true, true, true, true, true, true, true, true, true, true, true, true, true, true, true, true, false, false, false, false, false, false, false] rfl rfl (one_of HT_.out (by kernel_rfl)) (by decide) (fun K hK => ?_)
                 refine goes_ Tryd.func15 (by kernel_rfl) rfl #[.agg #[.slice Ao32 t354.length co32, .slice Ao34 t357.length co34], .int .i64 a1] (by rfl) rfl rfl (by (try simp only [List.map_toArray, List.map_cons, List.map_nil]); first | done | rfl | (simp only [List.length_drop, List.length_take]; rfl)) ?_
                 with_reducible refine (redpenref15_Rules_Alone.calls k3 _ _ t354 _ _ t357 a1 t371 _ ?side1 ?side2 ?side3 ?side4 A49.out).mono ?_
                 (case side1 => repeat (first | exact (Kd.R_reads' HO_361000.out).2.2 | (with_reducible refine Kd.C_alloc ?_ _) | (with_reducible refine Kd.C_drewN ?_ _) | (with_reducible refine Kd.C_drew ?_)))
                 (case side2 => exact (Kd.R_reads' HO_361000.out).2.1)
                 (case side3 => repeat (first | exact (Kd.R_reads' HO_361001.out).2.2 | (with_reducible refine Kd.C_alloc ?_ _) | (with_reducible refine Kd.C_drewN ?_ _) | (with_reducible refine Kd.C_drew ?_)))
                 (case side4 => exact (Kd.R_reads' HO_361001.out).2.1)
                 rintro e w59 ⟨rfl, hb⟩
                 refine ⟨_, rfl, ?_⟩
                 have n0_ := Aside0.mk (Kd.P_below (by (with_reducible repeat (first | apply Kd.P_alloc | apply Kd.P_drewN | apply Kd.P_drew)); exact HO_10.out) hb)
                 have n1_ := Aside0.mk (Kd.R_below (by (with_reducible repeat (first | apply Kd.R_alloc | apply Kd.R_drewN | apply Kd.R_drew)); exact HO_46.out) hb)
                 have n2_ := Aside0.mk (Kd.R_below (by (with_reducible repeat (first | apply Kd.R_alloc | apply Kd.R_drewN | apply Kd.R_drew)); exact HO_361000.out) hb)
                 have n3_ := Aside0.mk (Kd.R_below (by (with_reducible repeat (first | apply Kd.R_alloc | apply Kd.R_drewN | apply Kd.R_drew)); exact HO_361001.out) hb)
                 have n4_ := Aside0.mk (Kd.R_below (by (with_reducible repeat (first | apply Kd.R_alloc | apply Kd.R_drewN | apply Kd.R_drew)); exact HO369.out) hb)
                 have n5_ := Aside0.mk (blk_below (g := gb360) (o := .cells #[.slice Ao32 t354.length co32, .slice Ao34 t357.length co34] 37 (0, 0)) (by (with_reducible repeat (first | refine blk_drewN ?_ _ | refine blk_drew ?_ | refine blk_alloc ?_ _)); exact BK360.out) hb)
                 have n6_ := Aside0.mk (below_step (by repeat (first | (with_reducible first | exact HB.out | apply below_alloc | apply pw_below_drewN | apply below_drew1 | refine below_set ?_ GE360.out) | exact HB.out)) hb)
                 clear HO_10
                 clear HO_46
                 clear HO_361000
                 clear HO_361001
                 clear HO369
                 clear BK360
                 clear HB
                 have HO_10 := n0_
                 have HO_46 := n1_
                 have HO_361000 := n2_
                 have HO_361001 := n3_
                 have HO369 := n4_
                 have BK360 := n5_
                 have HB := n6_
                 clear n0_ n1_ n2_ n3_ n4_ n5_ n6_
                 (try clear hb)
                 (try clear hb2)
                 (try clear hk)
                 (try clear hi)
                 refine hK.out _ _ ⟨(blk_cell BK360.out 0).trans rfl, (blk_cell BK360.out 1).trans rfl⟩ (fun hHeld => ?_)
                 clear hK K
                 refine norm_ (a' := ?_) ?_ ?_
                 rotate_left
                 ·show Act.put _ (some 79) _ = _
                  simp only [Act.put, List.setIfInBounds_toArray, List.set_cons_zero, List.set_cons_succ, i64_w, i32_w]
                  rfl
                 refine pure_ (i := 23) (N := some 80) (v := ?_) (a' := ?_) #[true, true, true, true, true, true, true, true, true, true, true, true, true, true, true, true, true, true, true, true, true, true, true, true, false, false, false, false, false, false] rfl rfl (any_of HT_.out (by kernel_rfl)) (fun _ _ _ h => h) (Or.inl ⟨by rfl, ?_⟩) ?_ ?_
                 rotate_left
                 ·intro w'
                  go_simp
                  with_reducible rfl
                 rotate_left
                 ·simp only [Act.put, List.setIfInBounds_toArray, List.set_cons_zero, List.set_cons_succ, i64_w, i32_w]
                  rfl
                 refine pure_ (i := 24) (N := some 81) (v := ?_) (a' := ?_) #[true, true, true, true, true, true, true, true, true, true, true, true, true, true, true, true, true, true, true, true, true, true, true, true, true, false, false, false, false, false] rfl rfl (any_of HT_.out (by kernel_rfl)) (fun _ _ _ h => h) (Or.inl ⟨by rfl, ?_⟩) ?_ ?_
                 rotate_left
                 ·intro w'
                  go_simp
                  with_reducible rfl
                 rotate_left
                 ·simp only [Act.put, List.setIfInBounds_toArray, List.set_cons_zero, List.set_cons_succ, i64_w, i32_w]
                  rfl
                 refine pure_ (i := 25) (N := some 82) (v := ?_) (a' := ?_) #[true, true, true, true, true, true, true, true, true, true, true, true, true, true, true, true, true, true, true, true, true, true, true, true, true, true, false, false, false, false] rfl rfl (any_of HT_.out (by kernel_rfl)) (fun _ _ _ h => h) (Or.inl ⟨by rfl, ?_⟩) ?_ ?_
                 rotate_left
                 ·intro w'
                  go_simp
                  with_reducible rfl
                 rotate_left
                 ·simp only [Act.put, List.setIfInBounds_toArray, List.set_cons_zero, List.set_cons_succ, i64_w, i32_w]
                  rfl
                 refine pure_ (i := 26) (N := some 83) (v := ?_) (a' := ?_) #[true, true, true, true, true, true, true, true, true, true, true, true, true, true, true, true, true, true, true, true, true, true, true, true, true, true, true, false, false, false] rfl rfl (any_of HT_.out (by kernel_rfl)) (fun _ _ _ h => h) (Or.inl ⟨by rfl, ?_⟩) ?_ ?_
                 rotate_left
                 ·intro w'
                  go_simp
                  with_reducible rfl
                 rotate_left
                 ·simp only [Act.put, List.setIfInBounds_toArray, List.set_cons_zero, List.set_cons_succ, i64_w, i32_w]
                  rfl
                 refine one_ (i := 27) (N := some 84) #[true, true, true, true, true, true, true, true, true, true, true, true, true, true, true, true, true, true, true, true, true, true, true, true, true, true, true, true, false, false] rfl rfl (one_of HT_.out (by kernel_rfl)) (by decide) (fun K hK => ?_)
                 refine goes_ Tryd.func16 (by kernel_rfl) rfl #[v351, .string (⟨#[81, 81]⟩ : ByteArray)] (by rfl) rfl rfl (by (try simp only [List.map_toArray, List.map_cons, List.map_nil]); first | done | rfl | (simp only [List.length_drop, List.length_take]; rfl)) ?_
                 with_reducible refine (pragma_Rules_Knows.calls k3 _ t350 (⟨#[81, 81]⟩ : ByteArray) t372 _ ?side1 A51.out).mono ?_
                 (case side1 => exact Kd.P_now (by (with_reducible repeat (first | apply Kd.P_alloc | apply Kd.P_drewN | apply Kd.P_drew)); exact HO_10.out))
                 rintro e w60 ⟨rfl, hb⟩
                 refine ⟨_, rfl, ?_⟩
                 have n0_ := Aside0.mk (Kd.P_below (by (with_reducible repeat (first | apply Kd.P_alloc | apply Kd.P_drewN | apply Kd.P_drew)); exact HO_10.out) hb)
                 have n1_ := Aside0.mk (Kd.R_below (by (with_reducible repeat (first | apply Kd.R_alloc | apply Kd.R_drewN | apply Kd.R_drew)); exact HO_46.out) hb)
                 have n2_ := Aside0.mk (Kd.R_below (by (with_reducible repeat (first | apply Kd.R_alloc | apply Kd.R_drewN | apply Kd.R_drew)); exact HO_361000.out) hb)
                 have n3_ := Aside0.mk (Kd.R_below (by (with_reducible repeat (first | apply Kd.R_alloc | apply Kd.R_drewN | apply Kd.R_drew)); exact HO_361001.out) hb)
                 have n4_ := Aside0.mk (Kd.R_below (by (with_reducible repeat (first | apply Kd.R_alloc | apply Kd.R_drewN | apply Kd.R_drew)); exact HO369.out) hb)
                 have n5_ := Aside0.mk (blk_below (g := gb360) (o := .cells #[.slice Ao32 t354.length co32, .slice Ao34 t357.length co34] 37 (0, 0)) (by (with_reducible repeat (first | refine blk_drewN ?_ _ | refine blk_drew ?_ | refine blk_alloc ?_ _)); exact BK360.out) hb)
                 have n6_ := Aside0.mk (below_step (by repeat (first | (with_reducible first | exact HB.out | apply below_alloc | apply pw_below_drewN | apply below_drew1 | refine below_set ?_ GE360.out) | exact HB.out)) hb)
                 clear HO_10
                 clear HO_46
                 clear HO_361000
                 clear HO_361001
                 clear HO369
                 clear BK360
                 clear HB
                 have HO_10 := n0_
                 have HO_46 := n1_
                 have HO_361000 := n2_
                 have HO_361001 := n3_
                 have HO369 := n4_
                 have BK360 := n5_
                 have HB := n6_
                 clear n0_ n1_ n2_ n3_ n4_ n5_ n6_
                 (try clear hb)
                 (try clear hb2)
                 (try clear hk)
                 (try clear hi)
                 refine hK.out _ _ ⟨(blk_cell BK360.out 0).trans rfl, (blk_cell BK360.out 1).trans rfl⟩ (fun hHeld => ?_)
                 clear hK K
                 refine norm_ (a' := ?_) ?_ ?_
                 rotate_left
                 ·show Act.put _ (some 84) _ = _
                  simp only [Act.put, List.setIfInBounds_toArray, List.set_cons_zero, List.set_cons_succ, i64_w, i32_w]
                  rfl
                 refine pure_ (i := 28) (N := some 85) (v := ?_) (a' := ?_) #[true, true, true, true, true, true, true, true, true, true, true, true, true, true, true, true, true, true, true, true, true, true, true, true, true, true, true, true, true, false] rfl rfl (any_of HT_.out (by kernel_rfl)) (fun _ _ _ h => h) (Or.inl ⟨by rfl, ?_⟩) ?_ ?_
                 rotate_left
                 ·intro w'
                  go_simp
                  with_reducible rfl
                 rotate_left
                 ·simp only [Act.put, List.setIfInBounds_toArray, List.set_cons_zero, List.set_cons_succ, i64_w, i32_w]
                  rfl
                 refine pure_ (i := 29) (N := some 6) (v := ?_) (a' := ?_) #[true, true, true, true, true, true, true, true, true, true, true, true, true, true, true, true, true, true, true, true, true, true, true, true, true, true, true, true, true, true] rfl rfl (any_of HT_.out (by kernel_rfl)) (fun _ _ _ h => h) (Or.inl ⟨by rfl, ?_⟩) ?_ ?_
                 rotate_left
                 ·intro w'
                  go_simp
                  with_reducible rfl
                 rotate_left
                 ·simp only [Act.put, List.setIfInBounds_toArray, List.set_cons_zero, List.set_cons_succ, i64_w, i32_w]
                  rfl
                 refine done_ (done_of HT_.out (by kernel_rfl)) ?_
                 try go_wp2
                 go_ret
                 exact ⟨by first | rfl | (simp [errW_none, errW_some] <;> rfl) | (simp [*, errW_none, errW_some] <;> rfl), by repeat (first | (with_reducible first | exact HB.out | apply below_alloc | apply pw_below_drewN | apply below_drew1 | refine below_set ?_ GE360.out) | exact HB.out)⟩
                ·rw [if_neg c50] at H
                 have c50b0 : (t370 == t371) = false := by simpa using c50
                 (try (have c50b1 : decide (t370 = t371) = false := by simpa using c50))
                 (try (have c50b2 : (t370 == t371) = false := by simpa using c50))
                 (try (have c50b3 : ¬ (t370 = t371) := by simpa using c50))
                 clear c50
                 have hf_ := Option.some.inj H
                 rw [hr_] at hf_
                 cases hf_
               ·rw [if_neg c47] at H
                have c47b0 : ((t367.length : Int) == 0) = false := beq_eq_false_iff_ne.mpr c47
                have c47b1 : ((t367.length : Int) != 0) = true := bne_iff_ne.mpr c47
                have c47b2 : ¬ (t367 = []) := fun h_ => c47 (by rw [h_]; rfl)
                have hf_ := Option.some.inj H
                rw [hr_] at hf_
                cases hf_
      ·rw [if_neg c12] at H
       exact absurd H (by simp)
     ·rw [if_neg c10] at H
      exact absurd H (by simp)
 ·replace c5 := Bool.eq_false_iff.mpr c5
  subst c5
  have H1 : (some false) = some r := by rw [if_neg (show ¬ (false = true) by decide)] at H; exact H
  clear H
  have H := H1
  clear H1
  have hf_ := Option.some.inj H
  rw [hr_] at hf_
  cases hf_

end Go.Proofs.YtkflgnhcfhmkdaaDoor.PPragmaNil
