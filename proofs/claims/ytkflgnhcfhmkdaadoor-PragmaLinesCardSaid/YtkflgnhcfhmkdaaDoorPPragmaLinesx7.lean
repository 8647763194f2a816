-- Laid by a program of ours (the kit's print with words and contracts of our own beside it).
import Derived.Test.YtkflgnhcfhmkdaaDoorPPragmaLinesx0
import Derived.Test.YtkflgnhcfhmkdaaDoorPPragmaLinesx5
import Derived.Test.YtkflgnhcfhmkdaaDoorPPragmaLinesx6
namespace Go.Proofs.YtkflgnhcfhmkdaaDoor.PPragmaLines
open Go.RowKit Go.Proofs.YtkflgnhcfhmkdaaDoor.X Go.Proofs.YtkflgnhcfhmkdaaDoorW.PrintWords Go.Proofs.YtkflgnhcfhmkdaaDoorW.PrintLast Go.Proofs.YtkflgnhcfhmkdaaDoorW.PrintMore
attribute [local go_sem] max2_int min2_int max_two min_two max_three min_three max_four min_four   -- for this text's walks alone
set_option linter.unusedVariables false
set_option linter.unusedSimpArgs false

/-! ### redpenlaw17_PragmaLines: function 3 -/
mutual
def redpenlaw17_PragmaLines.j2 : Nat → List Int → List Int → List Bool → Option (Bool)
 | 0, _, _, _ => none
 | k + 1, x3, x4, x5 => (pragma_Read.f k x3).bind fun t251 => (redpenlaw17_PragmaLines.l1 k x5 t251 0 x4 (x4.length : Int) 0)
def redpenlaw17_PragmaLines.l1 : Nat → List Bool → List (Go.Proofs.YtkflgnhcfhmkdaaDoor.H.RlT) → Int → List Int → Int → Int → Option (Bool)
 | 0, _, _, _, _, _, _ => none
 | k + 1, x5, x11, x12, x62, x63, x64 => if x64 < x63 then (if 0 ≤ x64 then (if x64 < (x62.length : Int) then ((pragma_Rules_Off.f x11 (rd x62 x64)).bind fun t258 => (if x64 < (x5.length : Int) then (if (t258 != (rdOf false x5 x64)) = true then (some false) else (if rdOf false x5 x64 = true then (redpenlaw17_PragmaLines.l1 k x5 x11 (wrap64 (x12 + 1)) x62 x63 (wrap64 (x64 + 1))) else (redpenlaw17_PragmaLines.l1 k x5 x11 x12 x62 x63 (wrap64 (x64 + 1))))) else (none))) else (none)) else (none)) else ((pragma_Rules_Spans.f x11).bind fun t254 => (some ((t254.length : Int) == x12)))
def redpenlaw17_PragmaLines.l0 : Nat → List Int → List Int → List Bool → Bool → Bool → List Int → Int → Int → Option (Bool)
 | 0, _, _, _, _, _, _, _, _ => none
 | k + 1, x3, x4, x5, x6, x7, x17, x18, x19 => if x19 < x18 then (if 0 ≤ x19 then (if x19 < (x17.length : Int) then (if x19 > 60 then (redpenlaw17_PragmaLines.j2 k x3 x4 x5) else (if x4.length < 17592186044416 then ((some (x4 ++ [(x3.length : Int)] : List Int)).bind fun y218 => (if x6 = true then (redpenlaw17_PragmaLines.j1 k x3 y218 x5 x6 (rd x17 x19) true x17 x18 x19) else (redpenlaw17_PragmaLines.j1 k x3 y218 x5 x6 (rd x17 x19) x7 x17 x18 x19))) else (none))) else (none)) else (none)) else (redpenlaw17_PragmaLines.j2 k x3 x4 x5)
def redpenlaw17_PragmaLines.j1 : Nat → List Int → List Int → List Bool → Bool → Int → Bool → List Int → Int → Int → Option (Bool)
 | 0, _, _, _, _, _, _, _, _, _ => none
 | k + 1, x3, x4, x5, x6, x9, x10, x17, x18, x19 => if (Int.tmod x9 5) = 0 then (if x3.length + 14 < 140737488355328 then (if x5.length < 140737488355328 then (redpenlaw17_PragmaLines.l0 k (x3 ++ bytesOf (⟨#[120, 32, 115, 112, 101, 108, 108, 58, 111, 102, 102, 32, 121, 10]⟩ : ByteArray)) x4 (x5 ++ [true]) true false x17 x18 (wrap64 (x19 + 1))) else (none)) else (none)) else (if (Int.tmod x9 5) = 1 then (if x3.length + 9 < 140737488355328 then (if x5.length < 140737488355328 then (redpenlaw17_PragmaLines.l0 k (x3 ++ bytesOf (⟨#[115, 112, 101, 108, 108, 58, 111, 110, 10]⟩ : ByteArray)) x4 (x5 ++ [x10]) false false x17 x18 (wrap64 (x19 + 1))) else (none)) else (none)) else (if (Int.tmod x9 5) = 2 then (if x3.length + 11 < 140737488355328 then (if x5.length < 140737488355328 then (redpenlaw17_PragmaLines.l0 k (x3 ++ bytesOf (⟨#[115, 112, 101, 108, 108, 58, 108, 105, 110, 101, 10]⟩ : ByteArray)) x4 (x5 ++ [true]) x6 false x17 x18 (wrap64 (x19 + 1))) else (none)) else (none)) else (if (Int.tmod x9 5) = 3 then (if x3.length + 11 < 140737488355328 then (if x5.length < 140737488355328 then (redpenlaw17_PragmaLines.l0 k (x3 ++ bytesOf (⟨#[115, 112, 101, 108, 108, 58, 110, 101, 120, 116, 10]⟩ : ByteArray)) x4 (x5 ++ [x10]) x6 true x17 x18 (wrap64 (x19 + 1))) else (none)) else (none)) else (if x3.length + 6 < 140737488355328 then (if x5.length < 140737488355328 then (redpenlaw17_PragmaLines.l0 k (x3 ++ bytesOf (⟨#[112, 108, 97, 105, 110, 10]⟩ : ByteArray)) x4 (x5 ++ [x10]) x6 false x17 x18 (wrap64 (x19 + 1))) else (none)) else (none)))))
end
def redpenlaw17_PragmaLines.f (k : Nat) (l0 : List Int) : Option (Bool) := (redpenlaw17_Awake.f k).bind fun t216 => (if t216 = true then (redpenlaw17_PragmaLines.l0 k ([] : List Int) ([] : List Int) ([] : List Bool) false false l0 (l0.length : Int) 0) else (some false))
theorem redpenlaw17_PragmaLines.mono_l : ∀ k, (∀ y0 y1 y2, LeO (redpenlaw17_PragmaLines.j2 k y0 y1 y2) (redpenlaw17_PragmaLines.j2 (k + 1) y0 y1 y2)) ∧ (∀ y0 y1 y2 y3 y4 y5, LeO (redpenlaw17_PragmaLines.l1 k y0 y1 y2 y3 y4 y5) (redpenlaw17_PragmaLines.l1 (k + 1) y0 y1 y2 y3 y4 y5)) ∧ (∀ y0 y1 y2 y3 y4 y5 y6 y7, LeO (redpenlaw17_PragmaLines.l0 k y0 y1 y2 y3 y4 y5 y6 y7) (redpenlaw17_PragmaLines.l0 (k + 1) y0 y1 y2 y3 y4 y5 y6 y7)) ∧ (∀ y0 y1 y2 y3 y4 y5 y6 y7 y8, LeO (redpenlaw17_PragmaLines.j1 k y0 y1 y2 y3 y4 y5 y6 y7 y8) (redpenlaw17_PragmaLines.j1 (k + 1) y0 y1 y2 y3 y4 y5 y6 y7 y8))
 | 0 => ⟨fun _ _ _ r h => by simp [redpenlaw17_PragmaLines.j2] at h, fun _ _ _ _ _ _ r h => by simp [redpenlaw17_PragmaLines.l1] at h, fun _ _ _ _ _ _ _ _ r h => by simp [redpenlaw17_PragmaLines.l0] at h, fun _ _ _ _ _ _ _ _ _ r h => by simp [redpenlaw17_PragmaLines.j1] at h⟩
 | k + 1 => by
  obtain ⟨ih0, ih1, ih2, ih3⟩ := redpenlaw17_PragmaLines.mono_l k
  refine ⟨?_, ?_, ?_, ?_⟩
  ·intro y0 y1 y2
   unfold redpenlaw17_PragmaLines.j2
   repeat' first
   | (with_reducible exact ih0 _ _ _)
   | (with_reducible exact ih1 _ _ _ _ _ _)
   | (with_reducible exact ih2 _ _ _ _ _ _ _ _)
   | (with_reducible exact ih3 _ _ _ _ _ _ _ _ _)
   | (with_reducible exact pragma_Read.mono _ _)
   | (with_reducible exact redpenlaw17_Awake.mono _)
   | (with_reducible exact LeO.refl _)
   | (with_reducible exact LeO.none _)
   | (with_reducible refine LeO.ite ?_ ?_)
   | (with_reducible refine LeO.bind ?_ (fun _ => ?_))
   | exact ih0 _ _ _
   | exact ih1 _ _ _ _ _ _
   | exact ih2 _ _ _ _ _ _ _ _
   | exact ih3 _ _ _ _ _ _ _ _ _
   | exact pragma_Read.mono _ _
   | exact redpenlaw17_Awake.mono _
   | exact LeO.none _
   | refine LeO.ite ?_ ?_
   | refine LeO.bind ?_ (fun _ => ?_)
  ·intro y0 y1 y2 y3 y4 y5
   unfold redpenlaw17_PragmaLines.l1
   repeat' first
   | (with_reducible exact ih0 _ _ _)
   | (with_reducible exact ih1 _ _ _ _ _ _)
   | (with_reducible exact ih2 _ _ _ _ _ _ _ _)
   | (with_reducible exact ih3 _ _ _ _ _ _ _ _ _)
   | (with_reducible exact pragma_Read.mono _ _)
   | (with_reducible exact redpenlaw17_Awake.mono _)
   | (with_reducible exact LeO.refl _)
   | (with_reducible exact LeO.none _)
   | (with_reducible refine LeO.ite ?_ ?_)
   | (with_reducible refine LeO.bind ?_ (fun _ => ?_))
   | exact ih0 _ _ _
   | exact ih1 _ _ _ _ _ _
   | exact ih2 _ _ _ _ _ _ _ _
   | exact ih3 _ _ _ _ _ _ _ _ _
   | exact pragma_Read.mono _ _
   | exact redpenlaw17_Awake.mono _
   | exact LeO.none _
   | refine LeO.ite ?_ ?_
   | refine LeO.bind ?_ (fun _ => ?_)
  ·intro y0 y1 y2 y3 y4 y5 y6 y7
   unfold redpenlaw17_PragmaLines.l0
   repeat' first
   | (with_reducible exact ih0 _ _ _)
   | (with_reducible exact ih1 _ _ _ _ _ _)
   | (with_reducible exact ih2 _ _ _ _ _ _ _ _)
   | (with_reducible exact ih3 _ _ _ _ _ _ _ _ _)
   | (with_reducible exact pragma_Read.mono _ _)
   | (with_reducible exact redpenlaw17_Awake.mono _)
   | (with_reducible exact LeO.refl _)
   | (with_reducible exact LeO.none _)
   | (with_reducible refine LeO.ite ?_ ?_)
   | (with_reducible refine LeO.bind ?_ (fun _ => ?_))
   | exact ih0 _ _ _
   | exact ih1 _ _ _ _ _ _
   | exact ih2 _ _ _ _ _ _ _ _
   | exact ih3 _ _ _ _ _ _ _ _ _
   | exact pragma_Read.mono _ _
   | exact redpenlaw17_Awake.mono _
   | exact LeO.none _
   | refine LeO.ite ?_ ?_
   | refine LeO.bind ?_ (fun _ => ?_)
  ·intro y0 y1 y2 y3 y4 y5 y6 y7 y8
   unfold redpenlaw17_PragmaLines.j1
   repeat' first
   | (with_reducible exact ih0 _ _ _)
   | (with_reducible exact ih1 _ _ _ _ _ _)
   | (with_reducible exact ih2 _ _ _ _ _ _ _ _)
   | (with_reducible exact ih3 _ _ _ _ _ _ _ _ _)
   | (with_reducible exact pragma_Read.mono _ _)
   | (with_reducible exact redpenlaw17_Awake.mono _)
   | (with_reducible exact LeO.refl _)
   | (with_reducible exact LeO.none _)
   | (with_reducible refine LeO.ite ?_ ?_)
   | (with_reducible refine LeO.bind ?_ (fun _ => ?_))
   | exact ih0 _ _ _
   | exact ih1 _ _ _ _ _ _
   | exact ih2 _ _ _ _ _ _ _ _
   | exact ih3 _ _ _ _ _ _ _ _ _
   | exact pragma_Read.mono _ _
   | exact redpenlaw17_Awake.mono _
   | exact LeO.none _
   | refine LeO.ite ?_ ?_
   | refine LeO.bind ?_ (fun _ => ?_)
theorem redpenlaw17_PragmaLines.mono : ∀ a0 k, LeO (redpenlaw17_PragmaLines.f k a0) (redpenlaw17_PragmaLines.f (k + 1) a0) := by
 intro a0 k
 obtain ⟨ih0, ih1, ih2, ih3⟩ := redpenlaw17_PragmaLines.mono_l k
 unfold redpenlaw17_PragmaLines.f
 repeat' first
   | (with_reducible exact ih0 _ _ _)
   | (with_reducible exact ih1 _ _ _ _ _ _)
   | (with_reducible exact ih2 _ _ _ _ _ _ _ _)
   | (with_reducible exact ih3 _ _ _ _ _ _ _ _ _)
   | (with_reducible exact pragma_Read.mono _ _)
   | (with_reducible exact redpenlaw17_Awake.mono _)
   | (with_reducible exact LeO.refl _)
   | (with_reducible exact LeO.none _)
   | (with_reducible refine LeO.ite ?_ ?_)
   | (with_reducible refine LeO.bind ?_ (fun _ => ?_))
   | exact ih0 _ _ _
   | exact ih1 _ _ _ _ _ _
   | exact ih2 _ _ _ _ _ _ _ _
   | exact ih3 _ _ _ _ _ _ _ _ _
   | exact pragma_Read.mono _ _
   | exact redpenlaw17_Awake.mono _
   | exact LeO.none _
   | refine LeO.ite ?_ ?_
   | refine LeO.bind ?_ (fun _ => ?_)
def redpenlaw17_PragmaLines.T35 : Bool × List (List Nat × List Nat) := (true, [([], []), ([], []), ([0, 1], [0, 1]), ([], []), ([], []), ([3, 4], [3, 4]), ([5], [5]), ([2, 6], [2, 6])])
def redpenlaw17_PragmaLines.B35 : List Nat := [0, 0, 3, 0, 0, 24, 56, 127]
theorem redpenlaw17_PragmaLines.tab35 : rtab .any (opsOf Tryd.f3 35) = redpenlaw17_PragmaLines.T35 := by kernel_rfl
theorem redpenlaw17_PragmaLines.bits35 : waitsOk redpenlaw17_PragmaLines.T35.2 redpenlaw17_PragmaLines.B35 = true := by kernel_rfl
set_option maxHeartbeats 8000000 in
set_option maxRecDepth 100000 in
theorem redpenlaw17_PragmaLines.calls (k : Nat) (A0 : Option Addr) (c0 : Nat) (l0 : List Int) (r : Bool) (w : World) (hr0 : Kd.C (Kd.int .u8) w A0 l0.length l0) (hc0 : l0.length ≤ c0) (h : redpenlaw17_PragmaLines.f k l0 = some r) (hr_ : r = true) (hL : Go.Proofs.YtkflgnhcfhmkdaaDoor.H.Laid w) :
  Calls Tryd.prog 3 #[.slice A0 l0.length c0] w fun e w' => e = .returned (.bool r) ∧ Below w.heap.size w w' := by
 have HL := Aside0.mk hL
 clear hL
 have HR0 := Aside0.mk hr0
 have HC0 := Aside0.mk hc0
 clear hr0 hc0
 have HB := Aside0.mk (Below.refl w.heap.size w)
 have H : ((redpenlaw17_Awake.f k).bind fun t216 => (if t216 = true then (redpenlaw17_PragmaLines.l0 k ([] : List Int) ([] : List Int) ([] : List Bool) false false l0 (l0.length : Int) 0) else (some false))) = some r := h
 clear h
 replace H := Option.bind_eq_some_iff.mp H
 obtain ⟨t216, A20, H⟩ := H
 replace H : (if t216 = true then (redpenlaw17_PragmaLines.l0 k ([] : List Int) ([] : List Int) ([] : List Bool) false false l0 (l0.length : Int) 0) else (some false)) = some r := H
 have A2 := Aside0.mk A20
 clear A20
 by_cases c3 : t216 = true
 ·subst c3
  have H1 : (redpenlaw17_PragmaLines.l0 k ([] : List Int) ([] : List Int) ([] : List Bool) false false l0 (l0.length : Int) 0) = some r := by rw [if_pos rfl] at H; exact H
  clear H
  have H := H1
  clear H1
  have HC4 := Aside0.mk H
  clear H
  go_enter Tryd.func3, Tryd.ntmps3
  go_upto_block 0 with (first | ((with_reducible refine gate_callee (f := 8) rfl ?_); refine goesL_ (some 15) rfl rfl Tryd.func8 (by kernel_rfl) rfl #[] rfl (by (try simp only [List.map_toArray, List.map_cons, List.map_nil]); first | done | rfl | (simp only [List.length_drop, List.length_take]; rfl)) ?_; (with_reducible refine (redpenlaw17_Awake.calls k  true _ A2.out ?sideL).mono ?_); (case sideL => first | exact HL.out | exact HL.out.below HB.out | exact HL.out.below (by repeat (first | (with_reducible first | exact HB.out | apply below_alloc | apply pw_below_drewN | apply below_drew1 | refine below_set ?_ (Aside0.out (by assumption))) | exact HB.out))); rintro e w5 ⟨rfl, hb⟩; refine ⟨_, rfl, ?_⟩; have n0_ := Aside0.mk (below_step (by repeat (first | (with_reducible first | exact HB.out | apply below_alloc | apply pw_below_drewN | apply below_drew1) | exact HB.out)) hb); clear HB; have HB := n0_; clear n0_; (try clear hb); (try clear hb2); (try clear hk); (try clear hi)))
  (try simp only [Act.put, List.setIfInBounds_toArray, List.set_cons_zero, List.set_cons_succ])
  go_cut [3, 4, 5] (fun v3 v4 v5 wc => ∃ (kq : Nat) (x3_3 : List Int) (x4_3 : List Int) (x5_3 : List Bool), Aside0 (redpenlaw17_PragmaLines.j2 kq x3_3 x4_3 x5_3 = some r) ∧ Aside0 (kq ≤ k) ∧ Aside0 (Kd.R (Kd.int .u8) 5 wc w.heap.size (fun _ => True) v3 x3_3) ∧ Aside0 (Kd.R (Kd.int .i64) 3 wc w.heap.size (fun _ => True) v4 x4_3) ∧ Aside0 (Kd.R Kd.bool 4 wc w.heap.size (fun _ => True) v5 x5_3) ∧ Aside0 (Below w.heap.size w wc))
  case first =>
   have H := HC4.out
   clear HC4
   have H' := Aside0.mk H
   clear H
   go_wp2
   go_loopg [3, 4, 5, 6, 7, 19] k (fun kq v3 v4 v5 v6 v7 v19 w' => ∃ (x3_1 : List Int) (x4_1 : List Int) (x5_1 : List Bool) (x6_1 : Bool) (x7_1 : Bool) (x19_1 : Int), v6 = .bool x6_1 ∧ v7 = .bool x7_1 ∧ v19 = .int .i64 x19_1 ∧ Aside0 (redpenlaw17_PragmaLines.l0 kq x3_1 x4_1 x5_1 x6_1 x7_1 l0 (l0.length : Int) x19_1 = some r) ∧ Aside0 (kq ≤ k) ∧ Aside0 (Kd.R (Kd.int .u8) 5 w' w.heap.size (fun _ => True) v3 x3_1) ∧ Aside0 (Kd.R (Kd.int .i64) 3 w' w.heap.size (fun _ => True) v4 x4_1) ∧ Aside0 (Kd.R Kd.bool 4 w' w.heap.size (fun _ => True) v5 x5_1) ∧ Aside0 (Below w.heap.size w w'))
   case atStart => exact ⟨(([] : List Int)), (([] : List Int)), (([] : List Bool)), (false), (false), (0), (by first | rfl | (simp; done) | (simp [*]; done) | (simp [wrap64, wrap32]; done)), (by first | rfl | (simp; done) | (simp [*]; done) | (simp [wrap64, wrap32]; done)), (by first | rfl | (simp; done) | (simp [*]; done) | (simp [wrap64, wrap32]; done)), H', ⟨Nat.le_refl _⟩, ⟨by first | exact Kd.R_nil _ _ _ _ _ | exact Kd.N_nil _ _ _ _ _ | exact Kd.V_nil _ _ _ _ _ | exact Kd.Q_nil _ _ _ _ _ | exact Kd.S_nil _ _ _ _ _⟩, ⟨by first | exact Kd.R_nil _ _ _ _ _ | exact Kd.N_nil _ _ _ _ _ | exact Kd.V_nil _ _ _ _ _ | exact Kd.Q_nil _ _ _ _ _ | exact Kd.S_nil _ _ _ _ _⟩, ⟨by first | exact Kd.R_nil _ _ _ _ _ | exact Kd.N_nil _ _ _ _ _ | exact Kd.V_nil _ _ _ _ _ | exact Kd.Q_nil _ _ _ _ _ | exact Kd.S_nil _ _ _ _ _⟩, ⟨by repeat (first | (with_reducible first | exact HB.out | apply below_alloc | apply pw_below_drewN | apply below_drew1) | exact HB.out)⟩⟩
   case round =>
    clear H'
    try clear p2
    try clear c3
    obtain ⟨x3_1, x4_1, x5_1, x6_1, x7_1, x19_1, rfl, rfl, rfl, HA, HK1, HO_3, HO_4, HO_5, HB⟩ := hrel
    cases gk with
    | zero => exact absurd HA.out (by simp [redpenlaw17_PragmaLines.l0])
    | succ k1 =>
     have H := HA.out
     clear HA
     simp only [redpenlaw17_PragmaLines.l0] at H
     by_cases c6 : x19_1 < (l0.length : Int)
     ·rw [if_pos c6] at H
      have c6b0 : decide (x19_1 < (l0.length : Int)) = true := decide_eq_true c6
      clear c6
      (first | rw [c6b0] | (simp only [i64_w, i32_w]; rw [c6b0]) | skip)
      by_cases c7 : 0 ≤ x19_1
      ·rw [if_pos c7] at H
       have c7b0 : decide (0 ≤ x19_1) = true := decide_eq_true c7
       clear c7
       by_cases c8 : x19_1 < (l0.length : Int)
       ·rw [if_pos c8] at H
        have c8b0 : decide (x19_1 < (l0.length : Int)) = true := decide_eq_true c8
        clear c8
        by_cases c9 : x19_1 > 60
        ·rw [if_pos c9] at H
         have c9b0 : decide (60 < x19_1) = true := decide_eq_true c9
         clear c9
         have H' := Aside0.mk H
         clear H
         have p217 : 0 ≤ (x19_1 : Int) := of_decide_eq_true (by first | (with_reducible assumption) | assumption)
         have q217 : x19_1 < (l0.length : Int) := of_decide_eq_true (by first | (with_reducible assumption) | assumption)
         obtain ⟨ad217, e217, hx217_0⟩ := Kd.at_int HR0.out x19_1 p217 q217
         cases e217
         replace hx217_0 := (HB.out.cell (World.block_lt_of_cell? w _ hx217_0)).trans hx217_0
         replace p217 := eq_true p217
         replace q217 := eq_true q217
         go_wp2
         go_meet
         case rel => exact ⟨_, (x3_1), (x4_1), (x5_1), H', ⟨by have := HK1.out; first | omega | exact Nat.le_refl _⟩, ⟨by (with_reducible repeat (first | apply Kd.R_alloc | apply Kd.R_drewN | apply Kd.R_drew)); exact HO_3.out⟩, ⟨by (with_reducible repeat (first | apply Kd.R_alloc | apply Kd.R_drewN | apply Kd.R_drew)); exact HO_4.out⟩, ⟨by (with_reducible repeat (first | apply Kd.R_alloc | apply Kd.R_drewN | apply Kd.R_drew)); exact HO_5.out⟩, ⟨by repeat (first | (with_reducible first | exact HB.out | apply below_alloc | apply pw_below_drewN | apply below_drew1) | exact HB.out)⟩⟩
        ·rw [if_neg c9] at H
         have c9b0 : decide (60 < x19_1) = false := decide_eq_false c9
         clear c9
         by_cases c10 : x4_1.length < 17592186044416
         ·rw [if_pos c10] at H
          have LMc10 := Aside0.mk c10
          clear c10
          obtain ⟨y218, hy218⟩ : ∃ y_ : List Int, y_ = (x4_1 ++ [(x3_1.length : Int)]) := ⟨_, rfl⟩
          replace H : (if x6_1 = true then (redpenlaw17_PragmaLines.j1 k1 x3_1 y218 x5_1 x6_1 (rd l0 x19_1) true l0 (l0.length : Int) x19_1) else (redpenlaw17_PragmaLines.j1 k1 x3_1 y218 x5_1 x6_1 (rd l0 x19_1) x7_1 l0 (l0.length : Int) x19_1)) = some r := by first | (rw [hy218]; with_reducible exact H) | (have H2_ := (Option.bind_some _ _).symm.trans H; rw [hy218]; with_reducible exact H2_) | (have H2_ := (Option.bind_some _ _).symm.trans H; with_reducible exact H2_) | with_reducible exact H | (rw [hy218]; exact H) | exact H
          have Ny218 := Aside0.mk hy218
          clear hy218
          have HC11 := Aside0.mk H
          clear H
          have p217 : 0 ≤ (x19_1 : Int) := of_decide_eq_true (by first | (with_reducible assumption) | assumption)
          have q217 : x19_1 < (l0.length : Int) := of_decide_eq_true (by first | (with_reducible assumption) | assumption)
          obtain ⟨ad217, e217, hx217_0⟩ := Kd.at_int HR0.out x19_1 p217 q217
          cases e217
          replace hx217_0 := (HB.out.cell (World.block_lt_of_cell? w _ hx217_0)).trans hx217_0
          replace p217 := eq_true p217
          replace q217 := eq_true q217
          obtain ⟨Ao12, co12, eo12⟩ := Kd.R_slice HO_3.out
          subst eo12
          go_upto_region 12 with (first | ((with_reducible refine gate_builtin (b := .append) (xs := #[.tmp 26, .tmp 29]) rfl ?_); at_builtin; refine Kd.R_append (Kd.int .i64) (w0 := w) w.heap.size rfl (.tmp 26) (.tmp 29) 24 3 (.int .i64 0) 8 rfl Tryd.underlying24 info3 rfl (by decide) (by omega) u4 x4_1 (x3_1.length : Int) [.int .i64 (x3_1.length : Int)] (fun _ => True) (fun _ => False) rfl rfl ?aP (fun _ hk => hk.elim) ?aF ?aO ?aB ?aS ?aL ?_; (case aP => exact rfl); (case aB => exact (by repeat (first | (with_reducible first | exact HB.out | apply below_alloc | apply pw_below_drewN | apply below_drew1) | exact HB.out))); (case aF => exact (fun _ _ => trivial)); (case aO => exact (by (with_reducible repeat (first | apply Kd.R_alloc | apply Kd.R_drewN | apply Kd.R_drew)); exact HO_4.out)); (case aS => exact (below_size (by repeat (first | (with_reducible first | exact HB.out | apply below_alloc | apply pw_below_drewN | apply below_drew1) | exact HB.out)))); (case aL => have := LMc10.out; omega); intro v219 w13 ho hb hg hat; rw [← Ny218.out] at ho; have n0_ := Aside0.mk (Kd.R_over' (by (with_reducible repeat (first | apply Kd.R_alloc | apply Kd.R_drewN | apply Kd.R_drew)); exact HO_3.out) (Kd.R_typed (by (with_reducible repeat (first | apply Kd.R_alloc | apply Kd.R_drewN | apply Kd.R_drew)); exact HO_4.out)) (by decide) hg); have n1_ := Aside0.mk (Kd.R_over' (by (with_reducible repeat (first | apply Kd.R_alloc | apply Kd.R_drewN | apply Kd.R_drew)); exact HO_5.out) (Kd.R_typed (by (with_reducible repeat (first | apply Kd.R_alloc | apply Kd.R_drewN | apply Kd.R_drew)); exact HO_4.out)) (by decide) hg); have n2_ := Aside0.mk (hb); have n3_ := Aside0.mk (ho); clear HO_3; clear HO_5; clear HB; clear HO_4; have HO_3 := n0_; have HO_5 := n1_; have HB := n2_; have HO220 := n3_; clear n0_ n1_ n2_ n3_; clear ho hb hg hat))
          (try simp only [Act.put, List.setIfInBounds_toArray, List.set_cons_zero, List.set_cons_succ])
          go_cut [10] (fun v10 wc => ∃ (kq : Nat) (x10_10 : Bool), v10 = .bool x10_10 ∧ Aside0 (redpenlaw17_PragmaLines.j1 kq x3_1 y218 x5_1 x6_1 (rd l0 x19_1) x10_10 l0 (l0.length : Int) x19_1 = some r) ∧ Aside0 (kq ≤ k1) ∧ Aside0 (Kd.R (Kd.int .u8) 5 wc w.heap.size (fun _ => True) (.slice Ao12 x3_1.length co12) x3_1) ∧ Aside0 (Kd.R (Kd.int .i64) 3 wc w.heap.size (fun _ => True) v219 y218) ∧ Aside0 (Kd.R Kd.bool 4 wc w.heap.size (fun _ => True) u5 x5_1) ∧ Aside0 (Below w.heap.size w wc))
          case first =>
           have H := HC11.out
           clear HC11
           by_cases c14 : x6_1 = true
           ·subst c14
            have H1 : (redpenlaw17_PragmaLines.j1 k1 x3_1 y218 x5_1 true (rd l0 x19_1) true l0 (l0.length : Int) x19_1) = some r := by rw [if_pos rfl] at H; exact H
            clear H
            have H := H1
            clear H1
            have H' := Aside0.mk H
            clear H
            go_wp2
            go_meet
            case rel => exact ⟨_, (true), (by first | rfl | (simp; done) | (simp [*]; done) | (simp [wrap64, wrap32]; done)), H', ⟨by have := HK1.out; first | omega | exact Nat.le_refl _⟩, ⟨by (with_reducible repeat (first | apply Kd.R_alloc | apply Kd.R_drewN | apply Kd.R_drew)); exact HO_3.out⟩, ⟨by (with_reducible repeat (first | apply Kd.R_alloc | apply Kd.R_drewN | apply Kd.R_drew)); exact HO220.out⟩, ⟨by (with_reducible repeat (first | apply Kd.R_alloc | apply Kd.R_drewN | apply Kd.R_drew)); exact HO_5.out⟩, ⟨by repeat (first | (with_reducible first | exact HB.out | apply below_alloc | apply pw_below_drewN | apply below_drew1) | exact HB.out)⟩⟩
           ·replace c14 := Bool.eq_false_iff.mpr c14
            subst c14
            have H1 : (redpenlaw17_PragmaLines.j1 k1 x3_1 y218 x5_1 false (rd l0 x19_1) x7_1 l0 (l0.length : Int) x19_1) = some r := by rw [if_neg (show ¬ (false = true) by decide)] at H; exact H
            clear H
            have H := H1
            clear H1
            have H' := Aside0.mk H
            clear H
            go_wp2
            go_meet
            case rel => exact ⟨_, (x7_1), (by first | rfl | (simp; done) | (simp [*]; done) | (simp [wrap64, wrap32]; done)), H', ⟨by have := HK1.out; first | omega | exact Nat.le_refl _⟩, ⟨by (with_reducible repeat (first | apply Kd.R_alloc | apply Kd.R_drewN | apply Kd.R_drew)); exact HO_3.out⟩, ⟨by (with_reducible repeat (first | apply Kd.R_alloc | apply Kd.R_drewN | apply Kd.R_drew)); exact HO220.out⟩, ⟨by (with_reducible repeat (first | apply Kd.R_alloc | apply Kd.R_drewN | apply Kd.R_drew)); exact HO_5.out⟩, ⟨by repeat (first | (with_reducible first | exact HB.out | apply below_alloc | apply pw_below_drewN | apply below_drew1) | exact HB.out)⟩⟩
          case rest =>
           clear HC11
           try clear c1
           try clear p2
           try clear q2
           try clear hx2
           try clear c3
           try clear c6
           try clear c6b0
           try clear c7
           try clear c7b0
           try clear c8
           try clear c8b0
           try clear c9
           try clear c9b0
           try clear c10
           try clear c14
           try clear hx217_0
           try clear p2
           try clear p217
           try clear q217
           obtain ⟨kq, x10_10, rfl, HA, HJ10, HO_3, HO_4, HO_5, HB⟩ := hcut
           cases kq with
           | zero => exact absurd HA.out (by simp [redpenlaw17_PragmaLines.j1])
           | succ kj10 =>
            have H := HA.out
            clear HA
            simp only [redpenlaw17_PragmaLines.j1] at H
            by_cases c15 : (Int.tmod (rd l0 x19_1) 5) = 0
            ·rw [if_pos c15] at H
             have c15b0 : ((Int.tmod (rd l0 x19_1) 5) == 0) = true := beq_iff_eq.mpr c15
             have c15b1 : ((Int.tmod (rd l0 x19_1) 5) != 0) = false := bne_eq_false_iff_eq.mpr c15
             clear c15
             by_cases c16 : x3_1.length + 14 < 140737488355328
             ·rw [if_pos c16] at H
              have LMc16 := Aside0.mk c16
              clear c16
              obtain ⟨y221, hy221⟩ : ∃ y_ : List Int, y_ = (x3_1 ++ bytesOf (⟨#[120, 32, 115, 112, 101, 108, 108, 58, 111, 102, 102, 32, 121, 10]⟩ : ByteArray)) := ⟨_, rfl⟩
              replace H : (if x5_1.length < 140737488355328 then (redpenlaw17_PragmaLines.l0 kj10 y221 y218 (x5_1 ++ [true]) true false l0 (l0.length : Int) (wrap64 (x19_1 + 1))) else (none)) = some r := by first | (rw [hy221]; with_reducible exact H) | (have H2_ := (Option.bind_some _ _).symm.trans H; rw [hy221]; with_reducible exact H2_) | (have H2_ := (Option.bind_some _ _).symm.trans H; with_reducible exact H2_) | with_reducible exact H | (rw [hy221]; exact H) | exact H
              have Ny221 := Aside0.mk hy221
              clear hy221
              by_cases c17 : x5_1.length < 140737488355328
              ·rw [if_pos c17] at H
               have LMc17 := Aside0.mk c17
               clear c17
               obtain ⟨y224, hy224⟩ : ∃ y_ : List Bool, y_ = (x5_1 ++ [true]) := ⟨_, rfl⟩
               replace H : (redpenlaw17_PragmaLines.l0 kj10 y221 y218 y224 true false l0 (l0.length : Int) (wrap64 (x19_1 + 1))) = some r := by first | (rw [hy224]; with_reducible exact H) | (have H2_ := (Option.bind_some _ _).symm.trans H; rw [hy224]; with_reducible exact H2_) | (have H2_ := (Option.bind_some _ _).symm.trans H; with_reducible exact H2_) | with_reducible exact H | (rw [hy224]; exact H) | exact H
               have Ny224 := Aside0.mk hy224
               clear hy224
               have H' := Aside0.mk H
               clear H
               go_wp2_with (first | (at_builtin; refine print_append_str (w0 := w) w.heap.size rfl (.tmp 41) _ 22 9 5 rfl Tryd.underlying22 Tryd.underlying9 info5 (.slice Ao12 x3_1.length co12) x3_1 (⟨#[120, 32, 115, 112, 101, 108, 108, 58, 111, 102, 102, 32, 121, 10]⟩ : ByteArray) rfl rfl ?aO ?aB ?aS ?aL ?_; (case aB => exact (by repeat (first | (with_reducible first | exact HB.out | apply below_alloc | apply pw_below_drewN | apply below_drew1) | exact HB.out))); (case aO => exact (Kd.own_of_R (by (with_reducible repeat (first | apply Kd.R_alloc | apply Kd.R_drewN | apply Kd.R_drew)); exact HO_3.out))); (case aS => exact (below_size (by repeat (first | (with_reducible first | exact HB.out | apply below_alloc | apply pw_below_drewN | apply below_drew1) | exact HB.out)))); (case aL => have := LMc16.out; first | omega | (unfold ByteArray.size; simp only [List.size_toArray, List.length_cons, List.length_nil]; omega)); intro v222 w18 ho0 hb hg; have ho := Kd.R_of_own (h1 := fun _ => rfl) (ok := fun _ => True) ho0 (fun _ _ => trivial); clear ho0; have hat := True.intro; rw [← Ny221.out] at ho; change Kd.R (Kd.int .u8) 5 w18 w.heap.size (fun _ => True) v222 y221 at ho; have n0_ := Aside0.mk (Kd.R_over' (by (with_reducible repeat (first | apply Kd.R_alloc | apply Kd.R_drewN | apply Kd.R_drew)); exact HO_4.out) (Kd.R_typed (by (with_reducible repeat (first | apply Kd.R_alloc | apply Kd.R_drewN | apply Kd.R_drew)); exact HO_3.out)) (by decide) hg); have n1_ := Aside0.mk (Kd.R_over' (by (with_reducible repeat (first | apply Kd.R_alloc | apply Kd.R_drewN | apply Kd.R_drew)); exact HO_5.out) (Kd.R_typed (by (with_reducible repeat (first | apply Kd.R_alloc | apply Kd.R_drewN | apply Kd.R_drew)); exact HO_3.out)) (by decide) hg); have n2_ := Aside0.mk (hb); have n3_ := Aside0.mk (ho); clear HO_4; clear HO_5; clear HB; clear HO_3; have HO_4 := n0_; have HO_5 := n1_; have HB := n2_; have HO223 := n3_; clear n0_ n1_ n2_ n3_; clear ho hb hg hat) | ((with_reducible refine gate_builtin (b := .append) (xs := #[.tmp 55, .tmp 57]) rfl ?_); at_builtin; refine Kd.R_append Kd.bool (w0 := w) w.heap.size rfl (.tmp 55) (.tmp 57) 25 4 (.bool false) 1 rfl Tryd.underlying25 info4 rfl (by decide) (by omega) u5 x5_1 true [.bool true] (fun _ => True) (fun _ => False) rfl rfl ?aP (fun _ hk => hk.elim) ?aF ?aO ?aB ?aS ?aL ?_; (case aP => exact rfl); (case aB => exact (by repeat (first | (with_reducible first | exact HB.out | apply below_alloc | apply pw_below_drewN | apply below_drew1) | exact HB.out))); (case aF => exact (fun _ _ => trivial)); (case aO => exact (by (with_reducible repeat (first | apply Kd.R_alloc | apply Kd.R_drewN | apply Kd.R_drew)); exact HO_5.out)); (case aS => exact (below_size (by repeat (first | (with_reducible first | exact HB.out | apply below_alloc | apply pw_below_drewN | apply below_drew1) | exact HB.out)))); (case aL => have := LMc17.out; omega); intro v225 w19 ho hb hg hat; rw [← Ny224.out] at ho; have n0_ := Aside0.mk (Kd.R_over' (by (with_reducible repeat (first | apply Kd.R_alloc | apply Kd.R_drewN | apply Kd.R_drew)); exact HO_4.out) (Kd.R_typed (by (with_reducible repeat (first | apply Kd.R_alloc | apply Kd.R_drewN | apply Kd.R_drew)); exact HO_5.out)) (by decide) hg); have n1_ := Aside0.mk (Kd.R_over' (by (with_reducible repeat (first | apply Kd.R_alloc | apply Kd.R_drewN | apply Kd.R_drew)); exact HO223.out) (Kd.R_typed (by (with_reducible repeat (first | apply Kd.R_alloc | apply Kd.R_drewN | apply Kd.R_drew)); exact HO_5.out)) (by decide) hg); have n2_ := Aside0.mk (hb); have n3_ := Aside0.mk (ho); clear HO_4; clear HO223; clear HB; clear HO_5; have HO_4 := n0_; have HO223 := n1_; have HB := n2_; have HO226 := n3_; clear n0_ n1_ n2_ n3_; clear ho hb hg hat))
               go_roundg kj10
               case measure => have := HK1.out; have := HJ10.out; omega
               case rel => exact ⟨(y221), (y218), (y224), (true), (false), (wrap64 (x19_1 + 1)), (by first | rfl | (simp; done) | (simp [*]; done) | (simp [wrap64, wrap32]; done)), (by first | rfl | (simp; done) | (simp [*]; done) | (simp [wrap64, wrap32]; done)), (by first | rfl | (simp; done) | (simp [*]; done) | (simp [wrap64, wrap32]; done)), H', ⟨by have := HK1.out; have := HJ10.out; omega⟩, ⟨by (with_reducible repeat (first | apply Kd.R_alloc | apply Kd.R_drewN | apply Kd.R_drew)); exact HO223.out⟩, ⟨by (with_reducible repeat (first | apply Kd.R_alloc | apply Kd.R_drewN | apply Kd.R_drew)); exact HO_4.out⟩, ⟨by (with_reducible repeat (first | apply Kd.R_alloc | apply Kd.R_drewN | apply Kd.R_drew)); exact HO226.out⟩, ⟨by repeat (first | (with_reducible first | exact HB.out | apply below_alloc | apply pw_below_drewN | apply below_drew1) | exact HB.out)⟩⟩
              ·rw [if_neg c17] at H
               exact absurd H (by simp)
             ·rw [if_neg c16] at H
              exact absurd H (by simp)
            ·rw [if_neg c15] at H
             have c15b0 : ((Int.tmod (rd l0 x19_1) 5) == 0) = false := beq_eq_false_iff_ne.mpr c15
             have c15b1 : ((Int.tmod (rd l0 x19_1) 5) != 0) = true := bne_iff_ne.mpr c15
             by_cases c20 : (Int.tmod (rd l0 x19_1) 5) = 1
             ·rw [if_pos c20] at H
              have c20b0 : ((Int.tmod (rd l0 x19_1) 5) == 1) = true := beq_iff_eq.mpr c20
              have c20b1 : ((Int.tmod (rd l0 x19_1) 5) != 1) = false := bne_eq_false_iff_eq.mpr c20
              clear c20
              by_cases c21 : x3_1.length + 9 < 140737488355328
              ·rw [if_pos c21] at H
               have LMc21 := Aside0.mk c21
               clear c21
               obtain ⟨y227, hy227⟩ : ∃ y_ : List Int, y_ = (x3_1 ++ bytesOf (⟨#[115, 112, 101, 108, 108, 58, 111, 110, 10]⟩ : ByteArray)) := ⟨_, rfl⟩
               replace H : (if x5_1.length < 140737488355328 then (redpenlaw17_PragmaLines.l0 kj10 y227 y218 (x5_1 ++ [x10_10]) false false l0 (l0.length : Int) (wrap64 (x19_1 + 1))) else (none)) = some r := by first | (rw [hy227]; with_reducible exact H) | (have H2_ := (Option.bind_some _ _).symm.trans H; rw [hy227]; with_reducible exact H2_) | (have H2_ := (Option.bind_some _ _).symm.trans H; with_reducible exact H2_) | with_reducible exact H | (rw [hy227]; exact H) | exact H
               have Ny227 := Aside0.mk hy227
               clear hy227
               by_cases c22 : x5_1.length < 140737488355328
               ·rw [if_pos c22] at H
                have LMc22 := Aside0.mk c22
                clear c22
                obtain ⟨y230, hy230⟩ : ∃ y_ : List Bool, y_ = (x5_1 ++ [x10_10]) := ⟨_, rfl⟩
                replace H : (redpenlaw17_PragmaLines.l0 kj10 y227 y218 y230 false false l0 (l0.length : Int) (wrap64 (x19_1 + 1))) = some r := by first | (rw [hy230]; with_reducible exact H) | (have H2_ := (Option.bind_some _ _).symm.trans H; rw [hy230]; with_reducible exact H2_) | (have H2_ := (Option.bind_some _ _).symm.trans H; with_reducible exact H2_) | with_reducible exact H | (rw [hy230]; exact H) | exact H
                have Ny230 := Aside0.mk hy230
                clear hy230
                have H' := Aside0.mk H
                clear H
                go_wp2_with (first | (at_builtin; refine print_append_str (w0 := w) w.heap.size rfl (.tmp 45) _ 22 9 5 rfl Tryd.underlying22 Tryd.underlying9 info5 (.slice Ao12 x3_1.length co12) x3_1 (⟨#[115, 112, 101, 108, 108, 58, 111, 110, 10]⟩ : ByteArray) rfl rfl ?aO ?aB ?aS ?aL ?_; (case aB => exact (by repeat (first | (with_reducible first | exact HB.out | apply below_alloc | apply pw_below_drewN | apply below_drew1) | exact HB.out))); (case aO => exact (Kd.own_of_R (by (with_reducible repeat (first | apply Kd.R_alloc | apply Kd.R_drewN | apply Kd.R_drew)); exact HO_3.out))); (case aS => exact (below_size (by repeat (first | (with_reducible first | exact HB.out | apply below_alloc | apply pw_below_drewN | apply below_drew1) | exact HB.out)))); (case aL => have := LMc21.out; first | omega | (unfold ByteArray.size; simp only [List.size_toArray, List.length_cons, List.length_nil]; omega)); intro v228 w23 ho0 hb hg; have ho := Kd.R_of_own (h1 := fun _ => rfl) (ok := fun _ => True) ho0 (fun _ _ => trivial); clear ho0; have hat := True.intro; rw [← Ny227.out] at ho; change Kd.R (Kd.int .u8) 5 w23 w.heap.size (fun _ => True) v228 y227 at ho; have n0_ := Aside0.mk (Kd.R_over' (by (with_reducible repeat (first | apply Kd.R_alloc | apply Kd.R_drewN | apply Kd.R_drew)); exact HO_4.out) (Kd.R_typed (by (with_reducible repeat (first | apply Kd.R_alloc | apply Kd.R_drewN | apply Kd.R_drew)); exact HO_3.out)) (by decide) hg); have n1_ := Aside0.mk (Kd.R_over' (by (with_reducible repeat (first | apply Kd.R_alloc | apply Kd.R_drewN | apply Kd.R_drew)); exact HO_5.out) (Kd.R_typed (by (with_reducible repeat (first | apply Kd.R_alloc | apply Kd.R_drewN | apply Kd.R_drew)); exact HO_3.out)) (by decide) hg); have n2_ := Aside0.mk (hb); have n3_ := Aside0.mk (ho); clear HO_4; clear HO_5; clear HB; clear HO_3; have HO_4 := n0_; have HO_5 := n1_; have HB := n2_; have HO229 := n3_; clear n0_ n1_ n2_ n3_; clear ho hb hg hat) | ((with_reducible refine gate_builtin (b := .append) (xs := #[.tmp 55, .tmp 57]) rfl ?_); at_builtin; refine Kd.R_append Kd.bool (w0 := w) w.heap.size rfl (.tmp 55) (.tmp 57) 25 4 (.bool false) 1 rfl Tryd.underlying25 info4 rfl (by decide) (by omega) u5 x5_1 x10_10 [.bool x10_10] (fun _ => True) (fun _ => False) rfl rfl ?aP (fun _ hk => hk.elim) ?aF ?aO ?aB ?aS ?aL ?_; (case aP => exact rfl); (case aB => exact (by repeat (first | (with_reducible first | exact HB.out | apply below_alloc | apply pw_below_drewN | apply below_drew1) | exact HB.out))); (case aF => exact (fun _ _ => trivial)); (case aO => exact (by (with_reducible repeat (first | apply Kd.R_alloc | apply Kd.R_drewN | apply Kd.R_drew)); exact HO_5.out)); (case aS => exact (below_size (by repeat (first | (with_reducible first | exact HB.out | apply below_alloc | apply pw_below_drewN | apply below_drew1) | exact HB.out)))); (case aL => have := LMc22.out; omega); intro v231 w24 ho hb hg hat; rw [← Ny230.out] at ho; have n0_ := Aside0.mk (Kd.R_over' (by (with_reducible repeat (first | apply Kd.R_alloc | apply Kd.R_drewN | apply Kd.R_drew)); exact HO_4.out) (Kd.R_typed (by (with_reducible repeat (first | apply Kd.R_alloc | apply Kd.R_drewN | apply Kd.R_drew)); exact HO_5.out)) (by decide) hg); have n1_ := Aside0.mk (Kd.R_over' (by (with_reducible repeat (first | apply Kd.R_alloc | apply Kd.R_drewN | apply Kd.R_drew)); exact HO229.out) (Kd.R_typed (by (with_reducible repeat (first | apply Kd.R_alloc | apply Kd.R_drewN | apply Kd.R_drew)); exact HO_5.out)) (by decide) hg); have n2_ := Aside0.mk (hb); have n3_ := Aside0.mk (ho); clear HO_4; clear HO229; clear HB; clear HO_5; have HO_4 := n0_; have HO229 := n1_; have HB := n2_; have HO232 := n3_; clear n0_ n1_ n2_ n3_; clear ho hb hg hat))
                go_roundg kj10
                case measure => have := HK1.out; have := HJ10.out; omega
                case rel => exact ⟨(y227), (y218), (y230), (false), (false), (wrap64 (x19_1 + 1)), (by first | rfl | (simp; done) | (simp [*]; done) | (simp [wrap64, wrap32]; done)), (by first | rfl | (simp; done) | (simp [*]; done) | (simp [wrap64, wrap32]; done)), (by first | rfl | (simp; done) | (simp [*]; done) | (simp [wrap64, wrap32]; done)), H', ⟨by have := HK1.out; have := HJ10.out; omega⟩, ⟨by (with_reducible repeat (first | apply Kd.R_alloc | apply Kd.R_drewN | apply Kd.R_drew)); exact HO229.out⟩, ⟨by (with_reducible repeat (first | apply Kd.R_alloc | apply Kd.R_drewN | apply Kd.R_drew)); exact HO_4.out⟩, ⟨by (with_reducible repeat (first | apply Kd.R_alloc | apply Kd.R_drewN | apply Kd.R_drew)); exact HO232.out⟩, ⟨by repeat (first | (with_reducible first | exact HB.out | apply below_alloc | apply pw_below_drewN | apply below_drew1) | exact HB.out)⟩⟩
               ·rw [if_neg c22] at H
                exact absurd H (by simp)
              ·rw [if_neg c21] at H
               exact absurd H (by simp)
             ·rw [if_neg c20] at H
              have c20b0 : ((Int.tmod (rd l0 x19_1) 5) == 1) = false := beq_eq_false_iff_ne.mpr c20
              have c20b1 : ((Int.tmod (rd l0 x19_1) 5) != 1) = true := bne_iff_ne.mpr c20
              by_cases c25 : (Int.tmod (rd l0 x19_1) 5) = 2
              ·rw [if_pos c25] at H
               have c25b0 : ((Int.tmod (rd l0 x19_1) 5) == 2) = true := beq_iff_eq.mpr c25
               have c25b1 : ((Int.tmod (rd l0 x19_1) 5) != 2) = false := bne_eq_false_iff_eq.mpr c25
               clear c25
               by_cases c26 : x3_1.length + 11 < 140737488355328
               ·rw [if_pos c26] at H
                have LMc26 := Aside0.mk c26
                clear c26
                obtain ⟨y233, hy233⟩ : ∃ y_ : List Int, y_ = (x3_1 ++ bytesOf (⟨#[115, 112, 101, 108, 108, 58, 108, 105, 110, 101, 10]⟩ : ByteArray)) := ⟨_, rfl⟩
                replace H : (if x5_1.length < 140737488355328 then (redpenlaw17_PragmaLines.l0 kj10 y233 y218 (x5_1 ++ [true]) x6_1 false l0 (l0.length : Int) (wrap64 (x19_1 + 1))) else (none)) = some r := by first | (rw [hy233]; with_reducible exact H) | (have H2_ := (Option.bind_some _ _).symm.trans H; rw [hy233]; with_reducible exact H2_) | (have H2_ := (Option.bind_some _ _).symm.trans H; with_reducible exact H2_) | with_reducible exact H | (rw [hy233]; exact H) | exact H
                have Ny233 := Aside0.mk hy233
                clear hy233
                by_cases c27 : x5_1.length < 140737488355328
                ·rw [if_pos c27] at H
                 have LMc27 := Aside0.mk c27
                 clear c27
                 obtain ⟨y236, hy236⟩ : ∃ y_ : List Bool, y_ = (x5_1 ++ [true]) := ⟨_, rfl⟩
                 replace H : (redpenlaw17_PragmaLines.l0 kj10 y233 y218 y236 x6_1 false l0 (l0.length : Int) (wrap64 (x19_1 + 1))) = some r := by first | (rw [hy236]; with_reducible exact H) | (have H2_ := (Option.bind_some _ _).symm.trans H; rw [hy236]; with_reducible exact H2_) | (have H2_ := (Option.bind_some _ _).symm.trans H; with_reducible exact H2_) | with_reducible exact H | (rw [hy236]; exact H) | exact H
                 have Ny236 := Aside0.mk hy236
                 clear hy236
                 have H' := Aside0.mk H
                 clear H
                 go_wp2_with (first | (at_builtin; refine print_append_str (w0 := w) w.heap.size rfl (.tmp 49) _ 22 9 5 rfl Tryd.underlying22 Tryd.underlying9 info5 (.slice Ao12 x3_1.length co12) x3_1 (⟨#[115, 112, 101, 108, 108, 58, 108, 105, 110, 101, 10]⟩ : ByteArray) rfl rfl ?aO ?aB ?aS ?aL ?_; (case aB => exact (by repeat (first | (with_reducible first | exact HB.out | apply below_alloc | apply pw_below_drewN | apply below_drew1) | exact HB.out))); (case aO => exact (Kd.own_of_R (by (with_reducible repeat (first | apply Kd.R_alloc | apply Kd.R_drewN | apply Kd.R_drew)); exact HO_3.out))); (case aS => exact (below_size (by repeat (first | (with_reducible first | exact HB.out | apply below_alloc | apply pw_below_drewN | apply below_drew1) | exact HB.out)))); (case aL => have := LMc26.out; first | omega | (unfold ByteArray.size; simp only [List.size_toArray, List.length_cons, List.length_nil]; omega)); intro v234 w28 ho0 hb hg; have ho := Kd.R_of_own (h1 := fun _ => rfl) (ok := fun _ => True) ho0 (fun _ _ => trivial); clear ho0; have hat := True.intro; rw [← Ny233.out] at ho; change Kd.R (Kd.int .u8) 5 w28 w.heap.size (fun _ => True) v234 y233 at ho; have n0_ := Aside0.mk (Kd.R_over' (by (with_reducible repeat (first | apply Kd.R_alloc | apply Kd.R_drewN | apply Kd.R_drew)); exact HO_4.out) (Kd.R_typed (by (with_reducible repeat (first | apply Kd.R_alloc | apply Kd.R_drewN | apply Kd.R_drew)); exact HO_3.out)) (by decide) hg); have n1_ := Aside0.mk (Kd.R_over' (by (with_reducible repeat (first | apply Kd.R_alloc | apply Kd.R_drewN | apply Kd.R_drew)); exact HO_5.out) (Kd.R_typed (by (with_reducible repeat (first | apply Kd.R_alloc | apply Kd.R_drewN | apply Kd.R_drew)); exact HO_3.out)) (by decide) hg); have n2_ := Aside0.mk (hb); have n3_ := Aside0.mk (ho); clear HO_4; clear HO_5; clear HB; clear HO_3; have HO_4 := n0_; have HO_5 := n1_; have HB := n2_; have HO235 := n3_; clear n0_ n1_ n2_ n3_; clear ho hb hg hat) | ((with_reducible refine gate_builtin (b := .append) (xs := #[.tmp 55, .tmp 57]) rfl ?_); at_builtin; refine Kd.R_append Kd.bool (w0 := w) w.heap.size rfl (.tmp 55) (.tmp 57) 25 4 (.bool false) 1 rfl Tryd.underlying25 info4 rfl (by decide) (by omega) u5 x5_1 true [.bool true] (fun _ => True) (fun _ => False) rfl rfl ?aP (fun _ hk => hk.elim) ?aF ?aO ?aB ?aS ?aL ?_; (case aP => exact rfl); (case aB => exact (by repeat (first | (with_reducible first | exact HB.out | apply below_alloc | apply pw_below_drewN | apply below_drew1) | exact HB.out))); (case aF => exact (fun _ _ => trivial)); (case aO => exact (by (with_reducible repeat (first | apply Kd.R_alloc | apply Kd.R_drewN | apply Kd.R_drew)); exact HO_5.out)); (case aS => exact (below_size (by repeat (first | (with_reducible first | exact HB.out | apply below_alloc | apply pw_below_drewN | apply below_drew1) | exact HB.out)))); (case aL => have := LMc27.out; omega); intro v237 w29 ho hb hg hat; rw [← Ny236.out] at ho; have n0_ := Aside0.mk (Kd.R_over' (by (with_reducible repeat (first | apply Kd.R_alloc | apply Kd.R_drewN | apply Kd.R_drew)); exact HO_4.out) (Kd.R_typed (by (with_reducible repeat (first | apply Kd.R_alloc | apply Kd.R_drewN | apply Kd.R_drew)); exact HO_5.out)) (by decide) hg); have n1_ := Aside0.mk (Kd.R_over' (by (with_reducible repeat (first | apply Kd.R_alloc | apply Kd.R_drewN | apply Kd.R_drew)); exact HO235.out) (Kd.R_typed (by (with_reducible repeat (first | apply Kd.R_alloc | apply Kd.R_drewN | apply Kd.R_drew)); exact HO_5.out)) (by decide) hg); have n2_ := Aside0.mk (hb); have n3_ := Aside0.mk (ho); clear HO_4; clear HO235; clear HB; clear HO_5; have HO_4 := n0_; have HO235 := n1_; have HB := n2_; have HO238 := n3_; clear n0_ n1_ n2_ n3_; clear ho hb hg hat))
                 go_roundg kj10
                 case measure => have := HK1.out; have := HJ10.out; omega
                 case rel => exact ⟨(y233), (y218), (y236), (x6_1), (false), (wrap64 (x19_1 + 1)), (by first | rfl | (simp; done) | (simp [*]; done) | (simp [wrap64, wrap32]; done)), (by first | rfl | (simp; done) | (simp [*]; done) | (simp [wrap64, wrap32]; done)), (by first | rfl | (simp; done) | (simp [*]; done) | (simp [wrap64, wrap32]; done)), H', ⟨by have := HK1.out; have := HJ10.out; omega⟩, ⟨by (with_reducible repeat (first | apply Kd.R_alloc | apply Kd.R_drewN | apply Kd.R_drew)); exact HO235.out⟩, ⟨by (with_reducible repeat (first | apply Kd.R_alloc | apply Kd.R_drewN | apply Kd.R_drew)); exact HO_4.out⟩, ⟨by (with_reducible repeat (first | apply Kd.R_alloc | apply Kd.R_drewN | apply Kd.R_drew)); exact HO238.out⟩, ⟨by repeat (first | (with_reducible first | exact HB.out | apply below_alloc | apply pw_below_drewN | apply below_drew1) | exact HB.out)⟩⟩
                ·rw [if_neg c27] at H
                 exact absurd H (by simp)
               ·rw [if_neg c26] at H
                exact absurd H (by simp)
              ·rw [if_neg c25] at H
               have c25b0 : ((Int.tmod (rd l0 x19_1) 5) == 2) = false := beq_eq_false_iff_ne.mpr c25
               have c25b1 : ((Int.tmod (rd l0 x19_1) 5) != 2) = true := bne_iff_ne.mpr c25
               by_cases c30 : (Int.tmod (rd l0 x19_1) 5) = 3
               ·rw [if_pos c30] at H
                have c30b0 : ((Int.tmod (rd l0 x19_1) 5) == 3) = true := beq_iff_eq.mpr c30
                have c30b1 : ((Int.tmod (rd l0 x19_1) 5) != 3) = false := bne_eq_false_iff_eq.mpr c30
                clear c30
                by_cases c31 : x3_1.length + 11 < 140737488355328
                ·rw [if_pos c31] at H
                 have LMc31 := Aside0.mk c31
                 clear c31
                 obtain ⟨y239, hy239⟩ : ∃ y_ : List Int, y_ = (x3_1 ++ bytesOf (⟨#[115, 112, 101, 108, 108, 58, 110, 101, 120, 116, 10]⟩ : ByteArray)) := ⟨_, rfl⟩
                 replace H : (if x5_1.length < 140737488355328 then (redpenlaw17_PragmaLines.l0 kj10 y239 y218 (x5_1 ++ [x10_10]) x6_1 true l0 (l0.length : Int) (wrap64 (x19_1 + 1))) else (none)) = some r := by first | (rw [hy239]; with_reducible exact H) | (have H2_ := (Option.bind_some _ _).symm.trans H; rw [hy239]; with_reducible exact H2_) | (have H2_ := (Option.bind_some _ _).symm.trans H; with_reducible exact H2_) | with_reducible exact H | (rw [hy239]; exact H) | exact H
                 have Ny239 := Aside0.mk hy239
                 clear hy239
                 by_cases c32 : x5_1.length < 140737488355328
                 ·rw [if_pos c32] at H
                  have LMc32 := Aside0.mk c32
                  clear c32
                  obtain ⟨y242, hy242⟩ : ∃ y_ : List Bool, y_ = (x5_1 ++ [x10_10]) := ⟨_, rfl⟩
                  replace H : (redpenlaw17_PragmaLines.l0 kj10 y239 y218 y242 x6_1 true l0 (l0.length : Int) (wrap64 (x19_1 + 1))) = some r := by first | (rw [hy242]; with_reducible exact H) | (have H2_ := (Option.bind_some _ _).symm.trans H; rw [hy242]; with_reducible exact H2_) | (have H2_ := (Option.bind_some _ _).symm.trans H; with_reducible exact H2_) | with_reducible exact H | (rw [hy242]; exact H) | exact H
                  have Ny242 := Aside0.mk hy242
                  clear hy242
                  have H' := Aside0.mk H
                  clear H
                  go_wp2_with (first | (at_builtin; refine print_append_str (w0 := w) w.heap.size rfl (.tmp 53) _ 22 9 5 rfl Tryd.underlying22 Tryd.underlying9 info5 (.slice Ao12 x3_1.length co12) x3_1 (⟨#[115, 112, 101, 108, 108, 58, 110, 101, 120, 116, 10]⟩ : ByteArray) rfl rfl ?aO ?aB ?aS ?aL ?_; (case aB => exact (by repeat (first | (with_reducible first | exact HB.out | apply below_alloc | apply pw_below_drewN | apply below_drew1) | exact HB.out))); (case aO => exact (Kd.own_of_R (by (with_reducible repeat (first | apply Kd.R_alloc | apply Kd.R_drewN | apply Kd.R_drew)); exact HO_3.out))); (case aS => exact (below_size (by repeat (first | (with_reducible first | exact HB.out | apply below_alloc | apply pw_below_drewN | apply below_drew1) | exact HB.out)))); (case aL => have := LMc31.out; first | omega | (unfold ByteArray.size; simp only [List.size_toArray, List.length_cons, List.length_nil]; omega)); intro v240 w33 ho0 hb hg; have ho := Kd.R_of_own (h1 := fun _ => rfl) (ok := fun _ => True) ho0 (fun _ _ => trivial); clear ho0; have hat := True.intro; rw [← Ny239.out] at ho; change Kd.R (Kd.int .u8) 5 w33 w.heap.size (fun _ => True) v240 y239 at ho; have n0_ := Aside0.mk (Kd.R_over' (by (with_reducible repeat (first | apply Kd.R_alloc | apply Kd.R_drewN | apply Kd.R_drew)); exact HO_4.out) (Kd.R_typed (by (with_reducible repeat (first | apply Kd.R_alloc | apply Kd.R_drewN | apply Kd.R_drew)); exact HO_3.out)) (by decide) hg); have n1_ := Aside0.mk (Kd.R_over' (by (with_reducible repeat (first | apply Kd.R_alloc | apply Kd.R_drewN | apply Kd.R_drew)); exact HO_5.out) (Kd.R_typed (by (with_reducible repeat (first | apply Kd.R_alloc | apply Kd.R_drewN | apply Kd.R_drew)); exact HO_3.out)) (by decide) hg); have n2_ := Aside0.mk (hb); have n3_ := Aside0.mk (ho); clear HO_4; clear HO_5; clear HB; clear HO_3; have HO_4 := n0_; have HO_5 := n1_; have HB := n2_; have HO241 := n3_; clear n0_ n1_ n2_ n3_; clear ho hb hg hat) | ((with_reducible refine gate_builtin (b := .append) (xs := #[.tmp 55, .tmp 57]) rfl ?_); at_builtin; refine Kd.R_append Kd.bool (w0 := w) w.heap.size rfl (.tmp 55) (.tmp 57) 25 4 (.bool false) 1 rfl Tryd.underlying25 info4 rfl (by decide) (by omega) u5 x5_1 x10_10 [.bool x10_10] (fun _ => True) (fun _ => False) rfl rfl ?aP (fun _ hk => hk.elim) ?aF ?aO ?aB ?aS ?aL ?_; (case aP => exact rfl); (case aB => exact (by repeat (first | (with_reducible first | exact HB.out | apply below_alloc | apply pw_below_drewN | apply below_drew1) | exact HB.out))); (case aF => exact (fun _ _ => trivial)); (case aO => exact (by (with_reducible repeat (first | apply Kd.R_alloc | apply Kd.R_drewN | apply Kd.R_drew)); exact HO_5.out)); (case aS => exact (below_size (by repeat (first | (with_reducible first | exact HB.out | apply below_alloc | apply pw_below_drewN | apply below_drew1) | exact HB.out)))); (case aL => have := LMc32.out; omega); intro v243 w34 ho hb hg hat; rw [← Ny242.out] at ho; have n0_ := Aside0.mk (Kd.R_over' (by (with_reducible repeat (first | apply Kd.R_alloc | apply Kd.R_drewN | apply Kd.R_drew)); exact HO_4.out) (Kd.R_typed (by (with_reducible repeat (first | apply Kd.R_alloc | apply Kd.R_drewN | apply Kd.R_drew)); exact HO_5.out)) (by decide) hg); have n1_ := Aside0.mk (Kd.R_over' (by (with_reducible repeat (first | apply Kd.R_alloc | apply Kd.R_drewN | apply Kd.R_drew)); exact HO241.out) (Kd.R_typed (by (with_reducible repeat (first | apply Kd.R_alloc | apply Kd.R_drewN | apply Kd.R_drew)); exact HO_5.out)) (by decide) hg); have n2_ := Aside0.mk (hb); have n3_ := Aside0.mk (ho); clear HO_4; clear HO241; clear HB; clear HO_5; have HO_4 := n0_; have HO241 := n1_; have HB := n2_; have HO244 := n3_; clear n0_ n1_ n2_ n3_; clear ho hb hg hat))
                  go_roundg kj10
                  case measure => have := HK1.out; have := HJ10.out; omega
                  case rel => exact ⟨(y239), (y218), (y242), (x6_1), (true), (wrap64 (x19_1 + 1)), (by first | rfl | (simp; done) | (simp [*]; done) | (simp [wrap64, wrap32]; done)), (by first | rfl | (simp; done) | (simp [*]; done) | (simp [wrap64, wrap32]; done)), (by first | rfl | (simp; done) | (simp [*]; done) | (simp [wrap64, wrap32]; done)), H', ⟨by have := HK1.out; have := HJ10.out; omega⟩, ⟨by (with_reducible repeat (first | apply Kd.R_alloc | apply Kd.R_drewN | apply Kd.R_drew)); exact HO241.out⟩, ⟨by (with_reducible repeat (first | apply Kd.R_alloc | apply Kd.R_drewN | apply Kd.R_drew)); exact HO_4.out⟩, ⟨by (with_reducible repeat (first | apply Kd.R_alloc | apply Kd.R_drewN | apply Kd.R_drew)); exact HO244.out⟩, ⟨by repeat (first | (with_reducible first | exact HB.out | apply below_alloc | apply pw_below_drewN | apply below_drew1) | exact HB.out)⟩⟩
                 ·rw [if_neg c32] at H
                  exact absurd H (by simp)
                ·rw [if_neg c31] at H
                 exact absurd H (by simp)
               ·rw [if_neg c30] at H
                have c30b0 : ((Int.tmod (rd l0 x19_1) 5) == 3) = false := beq_eq_false_iff_ne.mpr c30
                have c30b1 : ((Int.tmod (rd l0 x19_1) 5) != 3) = true := bne_iff_ne.mpr c30
                by_cases c35 : x3_1.length + 6 < 140737488355328
                ·rw [if_pos c35] at H
                 have LMc35 := Aside0.mk c35
                 clear c35
                 obtain ⟨y245, hy245⟩ : ∃ y_ : List Int, y_ = (x3_1 ++ bytesOf (⟨#[112, 108, 97, 105, 110, 10]⟩ : ByteArray)) := ⟨_, rfl⟩
                 replace H : (if x5_1.length < 140737488355328 then (redpenlaw17_PragmaLines.l0 kj10 y245 y218 (x5_1 ++ [x10_10]) x6_1 false l0 (l0.length : Int) (wrap64 (x19_1 + 1))) else (none)) = some r := by first | (rw [hy245]; with_reducible exact H) | (have H2_ := (Option.bind_some _ _).symm.trans H; rw [hy245]; with_reducible exact H2_) | (have H2_ := (Option.bind_some _ _).symm.trans H; with_reducible exact H2_) | with_reducible exact H | (rw [hy245]; exact H) | exact H
                 have Ny245 := Aside0.mk hy245
                 clear hy245
                 by_cases c36 : x5_1.length < 140737488355328
                 ·rw [if_pos c36] at H
                  have LMc36 := Aside0.mk c36
                  clear c36
                  obtain ⟨y248, hy248⟩ : ∃ y_ : List Bool, y_ = (x5_1 ++ [x10_10]) := ⟨_, rfl⟩
                  replace H : (redpenlaw17_PragmaLines.l0 kj10 y245 y218 y248 x6_1 false l0 (l0.length : Int) (wrap64 (x19_1 + 1))) = some r := by first | (rw [hy248]; with_reducible exact H) | (have H2_ := (Option.bind_some _ _).symm.trans H; rw [hy248]; with_reducible exact H2_) | (have H2_ := (Option.bind_some _ _).symm.trans H; with_reducible exact H2_) | with_reducible exact H | (rw [hy248]; exact H) | exact H
                  have Ny248 := Aside0.mk hy248
                  clear hy248
                  have H' := Aside0.mk H
                  clear H
                  go_wp2_with (first | (at_builtin; refine print_append_str (w0 := w) w.heap.size rfl (.tmp 37) _ 22 9 5 rfl Tryd.underlying22 Tryd.underlying9 info5 (.slice Ao12 x3_1.length co12) x3_1 (⟨#[112, 108, 97, 105, 110, 10]⟩ : ByteArray) rfl rfl ?aO ?aB ?aS ?aL ?_; (case aB => exact (by repeat (first | (with_reducible first | exact HB.out | apply below_alloc | apply pw_below_drewN | apply below_drew1) | exact HB.out))); (case aO => exact (Kd.own_of_R (by (with_reducible repeat (first | apply Kd.R_alloc | apply Kd.R_drewN | apply Kd.R_drew)); exact HO_3.out))); (case aS => exact (below_size (by repeat (first | (with_reducible first | exact HB.out | apply below_alloc | apply pw_below_drewN | apply below_drew1) | exact HB.out)))); (case aL => have := LMc35.out; first | omega | (unfold ByteArray.size; simp only [List.size_toArray, List.length_cons, List.length_nil]; omega)); intro v246 w37 ho0 hb hg; have ho := Kd.R_of_own (h1 := fun _ => rfl) (ok := fun _ => True) ho0 (fun _ _ => trivial); clear ho0; have hat := True.intro; rw [← Ny245.out] at ho; change Kd.R (Kd.int .u8) 5 w37 w.heap.size (fun _ => True) v246 y245 at ho; have n0_ := Aside0.mk (Kd.R_over' (by (with_reducible repeat (first | apply Kd.R_alloc | apply Kd.R_drewN | apply Kd.R_drew)); exact HO_4.out) (Kd.R_typed (by (with_reducible repeat (first | apply Kd.R_alloc | apply Kd.R_drewN | apply Kd.R_drew)); exact HO_3.out)) (by decide) hg); have n1_ := Aside0.mk (Kd.R_over' (by (with_reducible repeat (first | apply Kd.R_alloc | apply Kd.R_drewN | apply Kd.R_drew)); exact HO_5.out) (Kd.R_typed (by (with_reducible repeat (first | apply Kd.R_alloc | apply Kd.R_drewN | apply Kd.R_drew)); exact HO_3.out)) (by decide) hg); have n2_ := Aside0.mk (hb); have n3_ := Aside0.mk (ho); clear HO_4; clear HO_5; clear HB; clear HO_3; have HO_4 := n0_; have HO_5 := n1_; have HB := n2_; have HO247 := n3_; clear n0_ n1_ n2_ n3_; clear ho hb hg hat) | ((with_reducible refine gate_builtin (b := .append) (xs := #[.tmp 55, .tmp 57]) rfl ?_); at_builtin; refine Kd.R_append Kd.bool (w0 := w) w.heap.size rfl (.tmp 55) (.tmp 57) 25 4 (.bool false) 1 rfl Tryd.underlying25 info4 rfl (by decide) (by omega) u5 x5_1 x10_10 [.bool x10_10] (fun _ => True) (fun _ => False) rfl rfl ?aP (fun _ hk => hk.elim) ?aF ?aO ?aB ?aS ?aL ?_; (case aP => exact rfl); (case aB => exact (by repeat (first | (with_reducible first | exact HB.out | apply below_alloc | apply pw_below_drewN | apply below_drew1) | exact HB.out))); (case aF => exact (fun _ _ => trivial)); (case aO => exact (by (with_reducible repeat (first | apply Kd.R_alloc | apply Kd.R_drewN | apply Kd.R_drew)); exact HO_5.out)); (case aS => exact (below_size (by repeat (first | (with_reducible first | exact HB.out | apply below_alloc | apply pw_below_drewN | apply below_drew1) | exact HB.out)))); (case aL => have := LMc36.out; omega); intro v249 w38 ho hb hg hat; rw [← Ny248.out] at ho; have n0_ := Aside0.mk (Kd.R_over' (by (with_reducible repeat (first | apply Kd.R_alloc | apply Kd.R_drewN | apply Kd.R_drew)); exact HO_4.out) (Kd.R_typed (by (with_reducible repeat (first | apply Kd.R_alloc | apply Kd.R_drewN | apply Kd.R_drew)); exact HO_5.out)) (by decide) hg); have n1_ := Aside0.mk (Kd.R_over' (by (with_reducible repeat (first | apply Kd.R_alloc | apply Kd.R_drewN | apply Kd.R_drew)); exact HO247.out) (Kd.R_typed (by (with_reducible repeat (first | apply Kd.R_alloc | apply Kd.R_drewN | apply Kd.R_drew)); exact HO_5.out)) (by decide) hg); have n2_ := Aside0.mk (hb); have n3_ := Aside0.mk (ho); clear HO_4; clear HO247; clear HB; clear HO_5; have HO_4 := n0_; have HO247 := n1_; have HB := n2_; have HO250 := n3_; clear n0_ n1_ n2_ n3_; clear ho hb hg hat))
                  go_roundg kj10
                  case measure => have := HK1.out; have := HJ10.out; omega
                  case rel => exact ⟨(y245), (y218), (y248), (x6_1), (false), (wrap64 (x19_1 + 1)), (by first | rfl | (simp; done) | (simp [*]; done) | (simp [wrap64, wrap32]; done)), (by first | rfl | (simp; done) | (simp [*]; done) | (simp [wrap64, wrap32]; done)), (by first | rfl | (simp; done) | (simp [*]; done) | (simp [wrap64, wrap32]; done)), H', ⟨by have := HK1.out; have := HJ10.out; omega⟩, ⟨by (with_reducible repeat (first | apply Kd.R_alloc | apply Kd.R_drewN | apply Kd.R_drew)); exact HO247.out⟩, ⟨by (with_reducible repeat (first | apply Kd.R_alloc | apply Kd.R_drewN | apply Kd.R_drew)); exact HO_4.out⟩, ⟨by (with_reducible repeat (first | apply Kd.R_alloc | apply Kd.R_drewN | apply Kd.R_drew)); exact HO250.out⟩, ⟨by repeat (first | (with_reducible first | exact HB.out | apply below_alloc | apply pw_below_drewN | apply below_drew1) | exact HB.out)⟩⟩
                 ·rw [if_neg c36] at H
                  exact absurd H (by simp)
                ·rw [if_neg c35] at H
                 exact absurd H (by simp)
         ·rw [if_neg c10] at H
          exact absurd H (by simp)
       ·rw [if_neg c8] at H
        exact absurd H (by simp)
      ·rw [if_neg c7] at H
       exact absurd H (by simp)
     ·rw [if_neg c6] at H
      have c6b0 : decide (x19_1 < (l0.length : Int)) = false := decide_eq_false c6
      clear c6
      (first | rw [c6b0] | (simp only [i64_w, i32_w]; rw [c6b0]) | skip)
      have H' := Aside0.mk H
      clear H
      go_wp2
      go_meet
      case rel => exact ⟨_, (x3_1), (x4_1), (x5_1), H', ⟨by have := HK1.out; first | omega | exact Nat.le_refl _⟩, ⟨by (with_reducible repeat (first | apply Kd.R_alloc | apply Kd.R_drewN | apply Kd.R_drew)); exact HO_3.out⟩, ⟨by (with_reducible repeat (first | apply Kd.R_alloc | apply Kd.R_drewN | apply Kd.R_drew)); exact HO_4.out⟩, ⟨by (with_reducible repeat (first | apply Kd.R_alloc | apply Kd.R_drewN | apply Kd.R_drew)); exact HO_5.out⟩, ⟨by repeat (first | (with_reducible first | exact HB.out | apply below_alloc | apply pw_below_drewN | apply below_drew1) | exact HB.out)⟩⟩
  case rest =>
   clear HC4
   try clear c1
   try clear c2
   try clear p2
   try clear q2
   try clear hx2
   try clear c3
   try clear c6
   try clear c6b0
   try clear p6
   try clear c7
   try clear c7b0
   try clear c8
   try clear c8b0
   try clear c9
   try clear c9b0
   try clear c10
   try clear c14
   try clear c15
   try clear c15b0
   try clear c15b1
   try clear c16
   try clear c17
   try clear c20
   try clear c20b0
   try clear c20b1
   try clear c21
   try clear p21
   try clear q21
   try clear hx21
   try clear c22
   try clear c25
   try clear c25b0
   try clear c25b1
   try clear c26
   try clear c27
   try clear c30
   try clear c30b0
   try clear c30b1
   try clear c31
   try clear c32
   try clear c35
   try clear c36
   try clear hx217_0
   try clear p2
   try clear p217
   try clear q2
   try clear q217
   obtain ⟨kq, x3_3, x4_3, x5_3, HA, HJ3, HO_3, HO_4, HO_5, HB⟩ := hcut
   cases kq with
   | zero => exact absurd HA.out (by simp [redpenlaw17_PragmaLines.j2])
   | succ kj3 =>
    have H := HA.out
    clear HA
    simp only [redpenlaw17_PragmaLines.j2] at H
    replace H := Option.bind_eq_some_iff.mp H
    obtain ⟨t251, A390, H⟩ := H
    replace H : (redpenlaw17_PragmaLines.l1 kj3 x5_3 t251 0 x4_3 (x4_3.length : Int) 0) = some r := H
    have A39 := Aside0.mk A390
    clear A390
    have H' := Aside0.mk H
    clear H
    obtain ⟨Ao40, co40, eo40⟩ := Kd.R_slice HO_3.out
    subst eo40
    go_wp2_with (first | ((with_reducible refine gate_callee (f := 9) rfl ?_); refine goesL_ (some 61) rfl rfl Tryd.func9 (by kernel_rfl) rfl #[.slice Ao40 x3_3.length co40] rfl (by (try simp only [List.map_toArray, List.map_cons, List.map_nil]); first | done | rfl | (simp only [List.length_drop, List.length_take]; rfl)) ?_; (with_reducible refine (pragma_Read.calls kj3 _ _ x3_3 t251 _ ?side1 ?side2 A39.out ?sideL).mono ?_); (case sideL => first | exact HL.out | exact HL.out.below HB.out | exact HL.out.below (by repeat (first | (with_reducible first | exact HB.out | apply below_alloc | apply pw_below_drewN | apply below_drew1 | refine below_set ?_ (Aside0.out (by assumption))) | exact HB.out))); (case side1 => repeat (first | exact (Kd.R_reads' HO_3.out).2.2 | (with_reducible refine Kd.C_alloc ?_ _) | (with_reducible refine Kd.C_drewN ?_ _) | (with_reducible refine Kd.C_drew ?_))); (case side2 => exact (Kd.R_reads' HO_3.out).2.1); rintro e w41 ⟨v252, rfl, ho0, hb⟩; refine ⟨_, rfl, ?_⟩; have n0_ := Aside0.mk (Kd.R_below (by (with_reducible repeat (first | apply Kd.R_alloc | apply Kd.R_drewN | apply Kd.R_drew)); exact HO_3.out) hb); have n1_ := Aside0.mk (Kd.R_below (by (with_reducible repeat (first | apply Kd.R_alloc | apply Kd.R_drewN | apply Kd.R_drew)); exact HO_4.out) hb); have n2_ := Aside0.mk (Kd.R_below (by (with_reducible repeat (first | apply Kd.R_alloc | apply Kd.R_drewN | apply Kd.R_drew)); exact HO_5.out) hb); have n3_ := Aside0.mk (Kd.P_lower (Kd.P_mono (ok' := fun k_ => some k_ ≠ (.slice Ao40 x3_3.length co40 : Value).ownBlock ∧ some k_ ≠ (u4 : Value).ownBlock ∧ some k_ ≠ (u5 : Value).ownBlock) ho0 (fun k_ hk_ => ⟨(Kd.fresh' (Kd.R_lt (by (with_reducible repeat (first | apply Kd.R_alloc | apply Kd.R_drewN | apply Kd.R_drew)); exact HO_3.out)) k_ hk_), (Kd.fresh' (Kd.R_lt (by (with_reducible repeat (first | apply Kd.R_alloc | apply Kd.R_drewN | apply Kd.R_drew)); exact HO_4.out)) k_ hk_), (Kd.fresh' (Kd.R_lt (by (with_reducible repeat (first | apply Kd.R_alloc | apply Kd.R_drewN | apply Kd.R_drew)); exact HO_5.out)) k_ hk_)⟩)) (below_size (by repeat (first | (with_reducible first | exact HB.out | apply below_alloc | apply pw_below_drewN | apply below_drew1) | exact HB.out)))); have n4_ := Aside0.mk (below_step (by repeat (first | (with_reducible first | exact HB.out | apply below_alloc | apply pw_below_drewN | apply below_drew1) | exact HB.out)) hb); clear HO_3; clear HO_4; clear HO_5; clear HB; have HO_3 := n0_; have HO_4 := n1_; have HO_5 := n2_; have HO253 := n3_; have HB := n4_; clear n0_ n1_ n2_ n3_ n4_; (try clear hb); (try clear hb2); (try clear hk); (try clear hi); (try clear ho0); obtain ⟨Ao42, co42, eo42⟩ := Kd.R_slice HO_4.out; subst eo42))
    go_loopg [12, 64] kj3 (fun kq v12 v64 w' => ∃ (x12_2 : Int) (x64_2 : Int), v12 = .int .i64 x12_2 ∧ v64 = .int .i64 x64_2 ∧ Aside0 (redpenlaw17_PragmaLines.l1 kq x5_3 t251 x12_2 x4_3 (x4_3.length : Int) x64_2 = some r) ∧ Aside0 (kq ≤ kj3) ∧ Aside0 (Kd.R Kd.bool 4 w' w.heap.size (fun _ => True) u5 x5_3) ∧ Aside0 (Kd.P Go.Proofs.YtkflgnhcfhmkdaaDoor.H.RlP 900026 w' w.heap.size (fun k_ => some k_ ≠ (u5 : Value).ownBlock ∧ some k_ ≠ ((.slice Ao42 x4_3.length co42) : Value).ownBlock) v252 t251) ∧ Aside0 (Kd.R (Kd.int .i64) 3 w' w.heap.size (fun _ => True) (.slice Ao42 x4_3.length co42) x4_3) ∧ Aside0 (Below w.heap.size w w'))
    case atStart => exact ⟨(0), (0), (by first | rfl | (simp; done) | (simp [*]; done) | (simp [wrap64, wrap32]; done)), (by first | rfl | (simp; done) | (simp [*]; done) | (simp [wrap64, wrap32]; done)), H', ⟨Nat.le_refl _⟩, ⟨by (with_reducible repeat (first | apply Kd.R_alloc | apply Kd.R_drewN | apply Kd.R_drew)); exact HO_5.out⟩, ⟨by (with_reducible repeat (first | apply Kd.P_alloc | apply Kd.P_drewN | apply Kd.P_drew)); exact Kd.P_mono HO253.out (fun _ hk => ⟨hk.2.2, hk.2.1⟩)⟩, ⟨by (with_reducible repeat (first | apply Kd.R_alloc | apply Kd.R_drewN | apply Kd.R_drew)); exact HO_4.out⟩, ⟨by repeat (first | (with_reducible first | exact HB.out | apply below_alloc | apply pw_below_drewN | apply below_drew1) | exact HB.out)⟩⟩
    case round =>
     clear H'
     try clear c1
     try clear c2
     try clear p2
     try clear q2
     try clear hx2
     try clear c3
     try clear c6
     try clear c6b0
     try clear p6
     try clear c7
     try clear c7b0
     try clear c8
     try clear c8b0
     try clear c9
     try clear c9b0
     try clear c10
     try clear c14
     try clear c15
     try clear c15b0
     try clear c15b1
     try clear c16
     try clear c17
     try clear c20
     try clear c20b0
     try clear c20b1
     try clear c21
     try clear p21
     try clear q21
     try clear hx21
     try clear c22
     try clear c25
     try clear c25b0
     try clear c25b1
     try clear c26
     try clear c27
     try clear c30
     try clear c30b0
     try clear c30b1
     try clear c31
     try clear c32
     try clear c35
     try clear c36
     try clear hx217_0
     try clear p2
     try clear p21
     try clear p217
     try clear p6
     try clear q2
     try clear q21
     try clear q217
     obtain ⟨x12_2, x64_2, rfl, rfl, HA, HK2, HO_5, HO_11, HO_62, HB⟩ := hrel
     cases gk with
     | zero => exact absurd HA.out (by simp [redpenlaw17_PragmaLines.l1])
     | succ k2 =>
      have H := HA.out
      clear HA
      simp only [redpenlaw17_PragmaLines.l1] at H
      by_cases c43 : x64_2 < (x4_3.length : Int)
      ·rw [if_pos c43] at H
       have c43b0 : decide (x64_2 < (x4_3.length : Int)) = true := decide_eq_true c43
       clear c43
       by_cases c44 : 0 ≤ x64_2
       ·rw [if_pos c44] at H
        have c44b0 : decide (0 ≤ x64_2) = true := decide_eq_true c44
        clear c44
        by_cases c45 : x64_2 < (x4_3.length : Int)
        ·rw [if_pos c45] at H
         have c45b0 : decide (x64_2 < (x4_3.length : Int)) = true := decide_eq_true c45
         clear c45
         replace H := Option.bind_eq_some_iff.mp H
         obtain ⟨t258, A460, H⟩ := H
         replace H : (if x64_2 < (x5_3.length : Int) then (if (t258 != (rdOf false x5_3 x64_2)) = true then (some false) else (if rdOf false x5_3 x64_2 = true then (redpenlaw17_PragmaLines.l1 k2 x5_3 t251 (wrap64 (x12_2 + 1)) x4_3 (x4_3.length : Int) (wrap64 (x64_2 + 1))) else (redpenlaw17_PragmaLines.l1 k2 x5_3 t251 x12_2 x4_3 (x4_3.length : Int) (wrap64 (x64_2 + 1))))) else (none)) = some r := H
         have A46 := Aside0.mk A460
         clear A460
         by_cases c47 : x64_2 < (x5_3.length : Int)
         ·rw [if_pos c47] at H
          have c47b0 : decide (x64_2 < (x5_3.length : Int)) = true := decide_eq_true c47
          clear c47
          by_cases c48 : (t258 != (rdOf false x5_3 x64_2)) = true
          ·rw [if_pos c48] at H
           have c48b0 : (t258 != (rdOf false x5_3 x64_2)) = true := c48
           (try (have c48b1 : decide (t258 = (rdOf false x5_3 x64_2)) = false := by simpa using c48))
           (try (have c48b2 : (t258 == (rdOf false x5_3 x64_2)) = false := by simpa using c48))
           (try (have c48b3 : ¬ (t258 = (rdOf false x5_3 x64_2)) := by simpa using c48))
           clear c48
           have hf_ := Option.some.inj H
           rw [hr_] at hf_
           cases hf_
          ·rw [if_neg c48] at H
           have c48b0 : (t258 != (rdOf false x5_3 x64_2)) = false := by simpa using c48
           (try (have c48b1 : decide (t258 = (rdOf false x5_3 x64_2)) = true := by simpa using c48))
           (try (have c48b2 : (t258 == (rdOf false x5_3 x64_2)) = true := by simpa using c48))
           clear c48
           obtain ⟨bq49, hbq49⟩ : ∃ b_ : Bool, b_ = (rdOf false x5_3 x64_2) := ⟨_, rfl⟩
           replace H : (if bq49 = true then (redpenlaw17_PragmaLines.l1 k2 x5_3 t251 (wrap64 (x12_2 + 1)) x4_3 (x4_3.length : Int) (wrap64 (x64_2 + 1))) else (redpenlaw17_PragmaLines.l1 k2 x5_3 t251 x12_2 x4_3 (x4_3.length : Int) (wrap64 (x64_2 + 1)))) = some r := by rw [← hbq49] at H; exact H
           have Nbq49 := Aside0.mk hbq49
           clear hbq49
           by_cases c50 : bq49 = true
           ·subst c50
            have H1 : (redpenlaw17_PragmaLines.l1 k2 x5_3 t251 (wrap64 (x12_2 + 1)) x4_3 (x4_3.length : Int) (wrap64 (x64_2 + 1))) = some r := by rw [if_pos rfl] at H; exact H
            clear H
            have H := H1
            clear H1
            have H' := Aside0.mk H
            clear H
            have p257 : 0 ≤ (x64_2 : Int) := of_decide_eq_true (by first | (with_reducible assumption) | assumption)
            have q257 : x64_2 < (x4_3.length : Int) := of_decide_eq_true (by first | (with_reducible assumption) | assumption)
            obtain ⟨ad257, e257, hx257_0⟩ := Kd.at_int (Kd.R_reads' HO_62.out).2.2 x64_2 p257 q257
            cases e257
            replace p257 := eq_true p257
            replace q257 := eq_true q257
            try go_wp2
            have n0_ := Aside0.mk (Kd.R_drew HO_5.out)
            have n1_ := Aside0.mk (Kd.P_drew HO_11.out)
            have n2_ := Aside0.mk (Kd.R_drew HO_62.out)
            have n3_ := Aside0.mk (below_drew1 HB.out)
            clear HO_5
            clear HO_11
            clear HO_62
            clear HB
            have HO_5 := n0_
            have HO_11 := n1_
            have HO_62 := n2_
            have HB := n3_
            clear n0_ n1_ n2_ n3_
            obtain ⟨Ao52, co52, eo52⟩ := Kd.R_slice HO_5.out
            (first | subst eo52 | (injection eo52 with f1_ f2_ f3_; have f4_ := f1_.symm; have f5_ := f3_.symm; clear f1_ f2_ f3_; subst f4_; subst f5_))
            have p259 : 0 ≤ (x64_2 : Int) := of_decide_eq_true (by first | (with_reducible assumption) | assumption)
            have q259 : x64_2 < (x5_3.length : Int) := of_decide_eq_true (by first | (with_reducible assumption) | assumption)
            obtain ⟨ad259, e259, hx259_0⟩ := Kd.at_bool (Kd.R_reads' HO_5.out).2.2 x64_2 p259 q259
            (try rw [← Nbq49.out] at hx259_0)
            cases e259
            replace p259 := eq_true p259
            replace q259 := eq_true q259
            refine start_ (n := 8) (S := fun w' => w'.cell? (ad259.add (x64_2).toNat) = some (.bool true)) (ds := []) #[false, false, false, false, false, false, false, false] (by kernel_rfl) rfl rfl (hx259_0) (fun hHeld => ?_); refine with_tabW redpenlaw17_PragmaLines.tab35 redpenlaw17_PragmaLines.bits35 (fun HT_ HW_ => ?_)
            generalize wr.drew = w51 at HO_5 HO_11 HO_62 HB hx259_0 hHeld ⊢
            refine pure_ (i := 0) (N := some 69) (v := ?_) (a' := ?_) #[true, false, false, false, false, false, false, false] rfl rfl (any_of HT_.out (by kernel_rfl)) (fun _ _ _ h => h) (Or.inl ⟨by rfl, ?_⟩) ?_ ?_
            rotate_left
            ·intro w'
             go_simp
             with_reducible rfl
            rotate_left
            ·simp only [Act.put, List.setIfInBounds_toArray, List.set_cons_zero, List.set_cons_succ, i64_w, i32_w]
             rfl
            refine pure_ (i := 1) (N := some 70) (v := ?_) (a' := ?_) #[true, true, false, false, false, false, false, false] rfl rfl (any_of HT_.out (by kernel_rfl)) (fun _ _ _ h => h) (Or.inl ⟨by rfl, ?_⟩) ?_ ?_
            rotate_left
            ·intro w'
             go_simp
             with_reducible rfl
            rotate_left
            ·simp only [Act.put, List.setIfInBounds_toArray, List.set_cons_zero, List.set_cons_succ, i64_w, i32_w]
             rfl
            refine pure_ (i := 3) (N := some 72) (v := ?_) (a' := ?_) #[true, true, false, true, false, false, false, false] rfl rfl (any_of HT_.out (by kernel_rfl)) (fun _ _ _ h => h) (Or.inl ⟨by rfl, ?_⟩) ?_ ?_
            rotate_left
            ·intro w'
             go_simp
             with_reducible rfl
            rotate_left
            ·simp only [Act.put, List.setIfInBounds_toArray, List.set_cons_zero, List.set_cons_succ, i64_w, i32_w]
             rfl
            refine pure_ (i := 4) (N := some 73) (v := ?_) (a' := ?_) #[true, true, false, true, true, false, false, false] rfl rfl (any_of HT_.out (by kernel_rfl)) (fun _ _ _ h => h) (Or.inl ⟨by rfl, ?_⟩) ?_ ?_
            rotate_left
            ·intro w'
             go_simp
             with_reducible rfl
            rotate_left
            ·simp only [Act.put, List.setIfInBounds_toArray, List.set_cons_zero, List.set_cons_succ, i64_w, i32_w]
             rfl
            refine pure_ (i := 5) (N := some 74) (v := ?_) (a' := ?_) #[true, true, false, true, true, true, false, false] rfl rfl (any_of HT_.out (by kernel_rfl)) (fun _ _ _ h => h) (Or.inl ⟨by rfl, ?_⟩) ?_ ?_
            rotate_left
            ·intro w'
             go_simp
             with_reducible rfl
            rotate_left
            ·simp only [Act.put, List.setIfInBounds_toArray, List.set_cons_zero, List.set_cons_succ, i64_w, i32_w]
             rfl
            refine take_ (i := 6) (N := some 75) (v := ?_) (a' := ?_) #[true, true, false, true, true, true, true, false] rfl rfl (take_ofW HT_.out HW_.out (by kernel_rfl)) (fun _ _ _ h => h) (Or.inl ⟨by rfl, ?_⟩) hHeld ?_ ?_
            rotate_left
            ·intro w' s0
             go_simp
             with_reducible rfl
            rotate_left
            ·simp only [Act.put, List.setIfInBounds_toArray, List.set_cons_zero, List.set_cons_succ, i64_w, i32_w]
             rfl
            refine one_ (i := 2) (N := some 71) #[true, true, true, true, true, true, true, false] rfl rfl (one_of HT_.out (by kernel_rfl)) (by decide) (fun K hK => ?_)
            refine goes_ Tryd.func10 (by kernel_rfl) rfl #[v252, .int .i64 (rd x4_3 x64_2)] (by rfl) rfl rfl (by (try simp only [List.map_toArray, List.map_cons, List.map_nil]); first | done | rfl | (simp only [List.length_drop, List.length_take]; rfl)) ?_
            with_reducible refine (pragma_Rules_Off.calls _ t251 (rd x4_3 x64_2) t258 _ ?side1 A46.out).mono ?_
            (case side1 => exact Kd.P_now (by (with_reducible repeat (first | apply Kd.P_alloc | apply Kd.P_drewN | apply Kd.P_drew)); exact HO_11.out))
            rintro e w53 ⟨rfl, hb⟩
            have HS0_ := (hb.cell (World.block_lt_of_cell? _ _ (hHeld))).trans (hHeld)
            refine ⟨_, rfl, ?_⟩
            have n0_ := Aside0.mk (Kd.R_below (by (with_reducible repeat (first | apply Kd.R_alloc | apply Kd.R_drewN | apply Kd.R_drew)); exact HO_5.out) hb)
            have n1_ := Aside0.mk (Kd.P_below (by (with_reducible repeat (first | apply Kd.P_alloc | apply Kd.P_drewN | apply Kd.P_drew)); exact HO_11.out) hb)
            have n2_ := Aside0.mk (Kd.R_below (by (with_reducible repeat (first | apply Kd.R_alloc | apply Kd.R_drewN | apply Kd.R_drew)); exact HO_62.out) hb)
            have n3_ := Aside0.mk (below_step (by repeat (first | (with_reducible first | exact HB.out | apply below_alloc | apply pw_below_drewN | apply below_drew1) | exact HB.out)) hb)
            clear HO_5
            clear HO_11
            clear HO_62
            clear HB
            have HO_5 := n0_
            have HO_11 := n1_
            have HO_62 := n2_
            have HB := n3_
            clear n0_ n1_ n2_ n3_
            (try clear hb)
            (try clear hb2)
            (try clear hk)
            (try clear hi)
            refine hK.out _ _ (HS0_) (fun hHeld => ?_)
            clear hK K
            refine norm_ (a' := ?_) ?_ ?_
            rotate_left
            ·show Act.put _ (some 71) _ = _
             simp only [Act.put, List.setIfInBounds_toArray, List.set_cons_zero, List.set_cons_succ, i64_w, i32_w]
             rfl
            refine pure_ (i := 7) (N := some 76) (v := ?_) (a' := ?_) #[true, true, true, true, true, true, true, true] rfl rfl (any_of HT_.out (by kernel_rfl)) (fun _ _ _ h => h) (Or.inl ⟨by rfl, ?_⟩) ?_ ?_
            rotate_left
            ·intro w'
             go_simp
             with_reducible rfl
            rotate_left
            ·simp only [Act.put, List.setIfInBounds_toArray, List.set_cons_zero, List.set_cons_succ, i64_w, i32_w]
             rfl
            refine done_ (done_of HT_.out (by kernel_rfl)) ?_
            have p260 : 0 ≤ (x64_2 : Int) := of_decide_eq_true (by first | (with_reducible assumption) | assumption)
            have q260 : x64_2 < (x5_3.length : Int) := of_decide_eq_true (by first | (with_reducible assumption) | assumption)
            obtain ⟨ad260, e260, hx260_0⟩ := Kd.at_bool (Kd.R_reads' HO_5.out).2.2 x64_2 p260 q260
            (try rw [← Nbq49.out] at hx260_0)
            obtain rfl : ad259 = ad260 := (by injection e260)
            replace p260 := eq_true p260
            replace q260 := eq_true q260
            obtain rfl := (of_decide_eq_true c48b1).trans Nbq49.out.symm
            try go_wp2
            go_roundg k2
            case measure => have := HJ3.out; have := HK2.out; omega
            case rel => exact ⟨(wrap64 (x12_2 + 1)), (wrap64 (x64_2 + 1)), (by first | rfl | (simp; done) | (simp [*]; done) | (simp [wrap64, wrap32]; done)), (by first | rfl | (simp; done) | (simp [*]; done) | (simp [wrap64, wrap32]; done)), H', ⟨by have := HJ3.out; have := HK2.out; omega⟩, ⟨by (with_reducible repeat (first | apply Kd.R_alloc | apply Kd.R_drewN | apply Kd.R_drew)); exact HO_5.out⟩, ⟨by (with_reducible repeat (first | apply Kd.P_alloc | apply Kd.P_drewN | apply Kd.P_drew)); exact HO_11.out⟩, ⟨by (with_reducible repeat (first | apply Kd.R_alloc | apply Kd.R_drewN | apply Kd.R_drew)); exact HO_62.out⟩, ⟨by repeat (first | (with_reducible first | exact HB.out | apply below_alloc | apply pw_below_drewN | apply below_drew1) | exact HB.out)⟩⟩
           ·replace c50 := Bool.eq_false_iff.mpr c50
            subst c50
            have H1 : (redpenlaw17_PragmaLines.l1 k2 x5_3 t251 x12_2 x4_3 (x4_3.length : Int) (wrap64 (x64_2 + 1))) = some r := by rw [if_neg (show ¬ (false = true) by decide)] at H; exact H
            clear H
            have H := H1
            clear H1
            have H' := Aside0.mk H
            clear H
            have p257 : 0 ≤ (x64_2 : Int) := of_decide_eq_true (by first | (with_reducible assumption) | assumption)
            have q257 : x64_2 < (x4_3.length : Int) := of_decide_eq_true (by first | (with_reducible assumption) | assumption)
            obtain ⟨ad257, e257, hx257_0⟩ := Kd.at_int (Kd.R_reads' HO_62.out).2.2 x64_2 p257 q257
            cases e257
            replace p257 := eq_true p257
            replace q257 := eq_true q257
            try go_wp2
            have n0_ := Aside0.mk (Kd.R_drew HO_5.out)
            have n1_ := Aside0.mk (Kd.P_drew HO_11.out)
            have n2_ := Aside0.mk (Kd.R_drew HO_62.out)
            have n3_ := Aside0.mk (below_drew1 HB.out)
            clear HO_5
            clear HO_11
            clear HO_62
            clear HB
            have HO_5 := n0_
            have HO_11 := n1_
            have HO_62 := n2_
            have HB := n3_
            clear n0_ n1_ n2_ n3_
            obtain ⟨Ao55, co55, eo55⟩ := Kd.R_slice HO_5.out
            (first | subst eo55 | (injection eo55 with f1_ f2_ f3_; have f4_ := f1_.symm; have f5_ := f3_.symm; clear f1_ f2_ f3_; subst f4_; subst f5_))
            have p259 : 0 ≤ (x64_2 : Int) := of_decide_eq_true (by first | (with_reducible assumption) | assumption)
            have q259 : x64_2 < (x5_3.length : Int) := of_decide_eq_true (by first | (with_reducible assumption) | assumption)
            obtain ⟨ad259, e259, hx259_0⟩ := Kd.at_bool (Kd.R_reads' HO_5.out).2.2 x64_2 p259 q259
            (try rw [← Nbq49.out] at hx259_0)
            cases e259
            replace p259 := eq_true p259
            replace q259 := eq_true q259
            refine start_ (n := 8) (S := fun w' => w'.cell? (ad259.add (x64_2).toNat) = some (.bool false)) (ds := []) #[false, false, false, false, false, false, false, false] (by kernel_rfl) rfl rfl (hx259_0) (fun hHeld => ?_); refine with_tabW redpenlaw17_PragmaLines.tab35 redpenlaw17_PragmaLines.bits35 (fun HT_ HW_ => ?_)
            generalize wr.drew = w54 at HO_5 HO_11 HO_62 HB hx259_0 hHeld ⊢
            refine pure_ (i := 0) (N := some 69) (v := ?_) (a' := ?_) #[true, false, false, false, false, false, false, false] rfl rfl (any_of HT_.out (by kernel_rfl)) (fun _ _ _ h => h) (Or.inl ⟨by rfl, ?_⟩) ?_ ?_
            rotate_left
            ·intro w'
             go_simp
             with_reducible rfl
            rotate_left
            ·simp only [Act.put, List.setIfInBounds_toArray, List.set_cons_zero, List.set_cons_succ, i64_w, i32_w]
             rfl
            refine pure_ (i := 1) (N := some 70) (v := ?_) (a' := ?_) #[true, true, false, false, false, false, false, false] rfl rfl (any_of HT_.out (by kernel_rfl)) (fun _ _ _ h => h) (Or.inl ⟨by rfl, ?_⟩) ?_ ?_
            rotate_left
            ·intro w'
             go_simp
             with_reducible rfl
            rotate_left
            ·simp only [Act.put, List.setIfInBounds_toArray, List.set_cons_zero, List.set_cons_succ, i64_w, i32_w]
             rfl
            refine pure_ (i := 3) (N := some 72) (v := ?_) (a' := ?_) #[true, true, false, true, false, false, false, false] rfl rfl (any_of HT_.out (by kernel_rfl)) (fun _ _ _ h => h) (Or.inl ⟨by rfl, ?_⟩) ?_ ?_
            rotate_left
            ·intro w'
             go_simp
             with_reducible rfl
            rotate_left
            ·simp only [Act.put, List.setIfInBounds_toArray, List.set_cons_zero, List.set_cons_succ, i64_w, i32_w]
             rfl
            refine pure_ (i := 4) (N := some 73) (v := ?_) (a' := ?_) #[true, true, false, true, true, false, false, false] rfl rfl (any_of HT_.out (by kernel_rfl)) (fun _ _ _ h => h) (Or.inl ⟨by rfl, ?_⟩) ?_ ?_
            rotate_left
            ·intro w'
             go_simp
             with_reducible rfl
            rotate_left
            ·simp only [Act.put, List.setIfInBounds_toArray, List.set_cons_zero, List.set_cons_succ, i64_w, i32_w]
             rfl
            refine pure_ (i := 5) (N := some 74) (v := ?_) (a' := ?_) #[true, true, false, true, true, true, false, false] rfl rfl (any_of HT_.out (by kernel_rfl)) (fun _ _ _ h => h) (Or.inl ⟨by rfl, ?_⟩) ?_ ?_
            rotate_left
            ·intro w'
             go_simp
             with_reducible rfl
            rotate_left
            ·simp only [Act.put, List.setIfInBounds_toArray, List.set_cons_zero, List.set_cons_succ, i64_w, i32_w]
             rfl
            refine take_ (i := 6) (N := some 75) (v := ?_) (a' := ?_) #[true, true, false, true, true, true, true, false] rfl rfl (take_ofW HT_.out HW_.out (by kernel_rfl)) (fun _ _ _ h => h) (Or.inl ⟨by rfl, ?_⟩) hHeld ?_ ?_
            rotate_left
            ·intro w' s0
             go_simp
             with_reducible rfl
            rotate_left
            ·simp only [Act.put, List.setIfInBounds_toArray, List.set_cons_zero, List.set_cons_succ, i64_w, i32_w]
             rfl
            refine one_ (i := 2) (N := some 71) #[true, true, true, true, true, true, true, false] rfl rfl (one_of HT_.out (by kernel_rfl)) (by decide) (fun K hK => ?_)
            refine goes_ Tryd.func10 (by kernel_rfl) rfl #[v252, .int .i64 (rd x4_3 x64_2)] (by rfl) rfl rfl (by (try simp only [List.map_toArray, List.map_cons, List.map_nil]); first | done | rfl | (simp only [List.length_drop, List.length_take]; rfl)) ?_
            with_reducible refine (pragma_Rules_Off.calls _ t251 (rd x4_3 x64_2) t258 _ ?side1 A46.out).mono ?_
            (case side1 => exact Kd.P_now (by (with_reducible repeat (first | apply Kd.P_alloc | apply Kd.P_drewN | apply Kd.P_drew)); exact HO_11.out))
            rintro e w56 ⟨rfl, hb⟩
            have HS0_ := (hb.cell (World.block_lt_of_cell? _ _ (hHeld))).trans (hHeld)
            refine ⟨_, rfl, ?_⟩
            have n0_ := Aside0.mk (Kd.R_below (by (with_reducible repeat (first | apply Kd.R_alloc | apply Kd.R_drewN | apply Kd.R_drew)); exact HO_5.out) hb)
            have n1_ := Aside0.mk (Kd.P_below (by (with_reducible repeat (first | apply Kd.P_alloc | apply Kd.P_drewN | apply Kd.P_drew)); exact HO_11.out) hb)
            have n2_ := Aside0.mk (Kd.R_below (by (with_reducible repeat (first | apply Kd.R_alloc | apply Kd.R_drewN | apply Kd.R_drew)); exact HO_62.out) hb)
            have n3_ := Aside0.mk (below_step (by repeat (first | (with_reducible first | exact HB.out | apply below_alloc | apply pw_below_drewN | apply below_drew1) | exact HB.out)) hb)
            clear HO_5
            clear HO_11
            clear HO_62
            clear HB
            have HO_5 := n0_
            have HO_11 := n1_
            have HO_62 := n2_
            have HB := n3_
            clear n0_ n1_ n2_ n3_
            (try clear hb)
            (try clear hb2)
            (try clear hk)
            (try clear hi)
            refine hK.out _ _ (HS0_) (fun hHeld => ?_)
            clear hK K
            refine norm_ (a' := ?_) ?_ ?_
            rotate_left
            ·show Act.put _ (some 71) _ = _
             simp only [Act.put, List.setIfInBounds_toArray, List.set_cons_zero, List.set_cons_succ, i64_w, i32_w]
             rfl
            refine pure_ (i := 7) (N := some 76) (v := ?_) (a' := ?_) #[true, true, true, true, true, true, true, true] rfl rfl (any_of HT_.out (by kernel_rfl)) (fun _ _ _ h => h) (Or.inl ⟨by rfl, ?_⟩) ?_ ?_
            rotate_left
            ·intro w'
             go_simp
             with_reducible rfl
            rotate_left
            ·simp only [Act.put, List.setIfInBounds_toArray, List.set_cons_zero, List.set_cons_succ, i64_w, i32_w]
             rfl
            refine done_ (done_of HT_.out (by kernel_rfl)) ?_
            have p260 : 0 ≤ (x64_2 : Int) := of_decide_eq_true (by first | (with_reducible assumption) | assumption)
            have q260 : x64_2 < (x5_3.length : Int) := of_decide_eq_true (by first | (with_reducible assumption) | assumption)
            obtain ⟨ad260, e260, hx260_0⟩ := Kd.at_bool (Kd.R_reads' HO_5.out).2.2 x64_2 p260 q260
            (try rw [← Nbq49.out] at hx260_0)
            obtain rfl : ad259 = ad260 := (by injection e260)
            replace p260 := eq_true p260
            replace q260 := eq_true q260
            obtain rfl := (of_decide_eq_true c48b1).trans Nbq49.out.symm
            try go_wp2
            go_roundg k2
            case measure => have := HJ3.out; have := HK2.out; omega
            case rel => exact ⟨(x12_2), (wrap64 (x64_2 + 1)), (by first | rfl | (simp; done) | (simp [*]; done) | (simp [wrap64, wrap32]; done)), (by first | rfl | (simp; done) | (simp [*]; done) | (simp [wrap64, wrap32]; done)), H', ⟨by have := HJ3.out; have := HK2.out; omega⟩, ⟨by (with_reducible repeat (first | apply Kd.R_alloc | apply Kd.R_drewN | apply Kd.R_drew)); exact HO_5.out⟩, ⟨by (with_reducible repeat (first | apply Kd.P_alloc | apply Kd.P_drewN | apply Kd.P_drew)); exact HO_11.out⟩, ⟨by (with_reducible repeat (first | apply Kd.R_alloc | apply Kd.R_drewN | apply Kd.R_drew)); exact HO_62.out⟩, ⟨by repeat (first | (with_reducible first | exact HB.out | apply below_alloc | apply pw_below_drewN | apply below_drew1) | exact HB.out)⟩⟩
         ·rw [if_neg c47] at H
          exact absurd H (by simp)
        ·rw [if_neg c45] at H
         exact absurd H (by simp)
       ·rw [if_neg c44] at H
        exact absurd H (by simp)
      ·rw [if_neg c43] at H
       have c43b0 : decide (x64_2 < (x4_3.length : Int)) = false := decide_eq_false c43
       clear c43
       replace H := Option.bind_eq_some_iff.mp H
       obtain ⟨t254, A570, H⟩ := H
       replace H : (some ((t254.length : Int) == x12_2)) = some r := H
       have A57 := Aside0.mk A570
       clear A570
       obtain rfl := Option.some.inj H
       go_wp2_with (first | ((with_reducible refine gate_callee (f := 11) rfl ?_); refine goesL_ (some 85) rfl rfl Tryd.func11 (by kernel_rfl) rfl #[v252] rfl (by (try simp only [List.map_toArray, List.map_cons, List.map_nil]); first | done | rfl | (simp only [List.length_drop, List.length_take]; rfl)) ?_; (with_reducible refine (pragma_Rules_Spans.calls _ t251 t254 _ ?side1 A57.out).mono ?_); (case side1 => exact Kd.P_now (by (with_reducible repeat (first | apply Kd.P_alloc | apply Kd.P_drewN | apply Kd.P_drew)); exact HO_11.out)); rintro e w58 ⟨v255, rfl, ho0, hb⟩; refine ⟨_, rfl, ?_⟩; have n0_ := Aside0.mk (Kd.R_below (by (with_reducible repeat (first | apply Kd.R_alloc | apply Kd.R_drewN | apply Kd.R_drew)); exact HO_5.out) hb); have n1_ := Aside0.mk (Kd.P_elder' (by (with_reducible repeat (first | apply Kd.P_alloc | apply Kd.P_drewN | apply Kd.P_drew)); exact HO_11.out) (Kd.R_base ho0) hb); have n2_ := Aside0.mk (Kd.R_below (by (with_reducible repeat (first | apply Kd.R_alloc | apply Kd.R_drewN | apply Kd.R_drew)); exact HO_62.out) hb); have n3_ := Aside0.mk (Kd.R_lower ho0 (below_size (by repeat (first | (with_reducible first | exact HB.out | apply below_alloc | apply pw_below_drewN | apply below_drew1) | exact HB.out)))); have n4_ := Aside0.mk (below_step (by repeat (first | (with_reducible first | exact HB.out | apply below_alloc | apply pw_below_drewN | apply below_drew1) | exact HB.out)) hb); clear HO_5; clear HO_11; clear HO_62; clear HB; have HO_5 := n0_; have HO_11 := n1_; have HO_62 := n2_; have HO256 := n3_; have HB := n4_; clear n0_ n1_ n2_ n3_ n4_; (try clear hb); (try clear hb2); (try clear hk); (try clear hi); (try clear ho0); obtain ⟨Ao59, co59, eo59⟩ := Kd.R_slice HO256.out; subst eo59))
       go_ret
       exact ⟨by first | rfl | (simp [errW_none, errW_some] <;> rfl) | (simp [*, errW_none, errW_some] <;> rfl), by repeat (first | (with_reducible first | exact HB.out | apply below_alloc | apply pw_below_drewN | apply below_drew1) | exact HB.out)⟩
 ·replace c3 := Bool.eq_false_iff.mpr c3
  subst c3
  have H1 : (some false) = some r := by rw [if_neg (show ¬ (false = true) by decide)] at H; exact H
  clear H
  have H := H1
  clear H1
  have hf_ := Option.some.inj H
  rw [hr_] at hf_
  cases hf_

end Go.Proofs.YtkflgnhcfhmkdaaDoor.PPragmaLines
