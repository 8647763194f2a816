-- Laid by a program of ours (the kit's print with words and contracts of our own beside it).
import Derived.Test.YtjabpbnlpljlkaaDoorPShowPrintsx0
namespace Go.Proofs.YtjabpbnlpljlkaaDoor.PShowPrints
open Go.RowKit Go.Proofs.YtjabpbnlpljlkaaDoor.X Go.Proofs.YtjabpbnlpljlkaaDoorW.PrintWords Go.Proofs.YtjabpbnlpljlkaaDoorW.PrintLast Go.Proofs.YtjabpbnlpljlkaaDoorW.PrintMore
attribute [local go_sem] max2_int min2_int max_two min_two max_three min_three max_four min_four   -- for this text's walks alone
set_option linter.unusedVariables false
set_option linter.unusedSimpArgs false

/-! ### redpenlaw20_Tidied: function 15 -/
mutual
def redpenlaw20_Tidied.l0 : Nat → Int → Int → Int → Int → Int → Int → List (S29) → Option (Int × Int × Int × Int × (List (S29)))
 | 0, _, _, _, _, _, _, _ => none
 | k + 1, x38, x39, x111000, x111001, x111002, x111003, x111004 => if x39 < x38 then (if 0 ≤ x39 then (if x39 < (x111004.length : Int) then (if 0 ≤ (Int.tmod ((rd_T29 x111004 x39).f0) 3) then (if (Int.tmod ((rd_T29 x111004 x39).f0) 3) < 3 then ((some (x111004.set (x39 : Int).toNat (⟨bt (⟨#[32, 45, 43]⟩ : ByteArray) (Int.tmod ((rd_T29 x111004 x39).f0) 3), (rd_T29 x111004 x39).f1, (rd_T29 x111004 x39).f2⟩ : S29) : List (S29))).bind fun y124 => (redpenlaw20_Tidied.l1 k x39 ([] : List Int) x38 x39 (mn (((rd_T29 y124 x39).f1).size : Int) 9) 0 x111000 x111001 x111002 x111003 y124)) else (none)) else (none)) else (none)) else (none)) else (some (x111000, x111001, x111002, x111003, x111004))
def redpenlaw20_Tidied.l1 : Nat → Int → List Int → Int → Int → Int → Int → Int → Int → Int → Int → List (S29) → Option (Int × Int × Int × Int × (List (S29)))
 | 0, _, _, _, _, _, _, _, _, _, _, _ => none
 | k + 1, x5, x7, x38, x39, x60, x61, x111000, x111001, x111002, x111003, x111004 => if x61 < x60 then (if 0 ≤ x5 then (if x5 < (x111004.length : Int) then (if 0 ≤ x61 then (if x61 < (((rd_T29 x111004 x5).f1).size : Int) then (if (bt ((rd_T29 x111004 x5).f1) x61) = 10 then (redpenlaw20_Tidied.l1 k x5 x7 x38 x39 x60 (wrap64 (x61 + 1)) x111000 x111001 x111002 x111003 x111004) else (if x7.length < 140737488355328 then (redpenlaw20_Tidied.l1 k x5 (x7 ++ [bt ((rd_T29 x111004 x5).f1) x61]) x38 x39 x60 (wrap64 (x61 + 1)) x111000 x111001 x111002 x111003 x111004) else (none))) else (none)) else (none)) else (none)) else (none)) else (if 0 ≤ x5 then (if x5 < (x111004.length : Int) then ((some (x111004.set (x5 : Int).toNat (⟨(rd_T29 x111004 x5).f0, strOfNums x7, (rd_T29 x111004 x5).f2⟩ : S29) : List (S29))).bind fun y131 => (if (rd_T29 y131 x5).f2 = true then (redpenlaw20_Tidied.j2 k x5 x38 x39 x111000 x111001 x111002 x111003 (y131.set (x5 : Int).toNat (⟨(rd_T29 y131 x5).f0, (rd_T29 y131 x5).f1, decide ((wrap64 (x5 + 2)) ≥ (x111004.length : Int))⟩ : S29))) else (redpenlaw20_Tidied.j2 k x5 x38 x39 x111000 x111001 x111002 x111003 (y131.set (x5 : Int).toNat (⟨(rd_T29 y131 x5).f0, (rd_T29 y131 x5).f1, false⟩ : S29))))) else (none)) else (none))
def redpenlaw20_Tidied.j2 : Nat → Int → Int → Int → Int → Int → Int → Int → List (S29) → Option (Int × Int × Int × Int × (List (S29)))
 | 0, _, _, _, _, _, _, _, _ => none
 | k + 1, x5, x38, x39, x111000, x111001, x111002, x111003, x111004 => if 0 ≤ x5 then (if x5 < (x111004.length : Int) then (if ((rd_T29 x111004 x5).f0) = 43 then (if ((rd_T29 x111004 x5).f0) = 45 then (redpenlaw20_Tidied.l0 k x38 (wrap64 (x39 + 1)) x111000 x111001 x111002 x111003 x111004) else (redpenlaw20_Tidied.l0 k x38 (wrap64 (x39 + 1)) x111000 x111001 x111002 (wrap64 (x111003 + 1)) x111004)) else (if ((rd_T29 x111004 x5).f0) = 45 then (redpenlaw20_Tidied.l0 k x38 (wrap64 (x39 + 1)) x111000 (wrap64 (x111001 + 1)) x111002 x111003 x111004) else (redpenlaw20_Tidied.l0 k x38 (wrap64 (x39 + 1)) x111000 (wrap64 (x111001 + 1)) x111002 (wrap64 (x111003 + 1)) x111004))) else (none)) else (none)
end
def redpenlaw20_Tidied.f (k : Nat) (a0_0 : Int) (a0_1 : Int) (a0_2 : Int) (a0_3 : Int) (l0_4 : List (S29)) (a1 : Bool) : Option (Int × Int × Int × Int × (List (S29))) := (some (([] : List (S29)) : List (S29))).bind fun y112 => (if 0 ≤ (mn (l0_4.length : Int) 12) then (if (mn (l0_4.length : Int) 12) ≤ (l0_4.length : Int) then ((some (l0_4.take ((mn (l0_4.length : Int) 12) : Int).toNat : List (S29))).bind fun y115 => (if y112.length + y115.length < 4398046511104 then ((some (y112 ++ y115 : List (S29))).bind fun y119 => (if a1 = true then (redpenlaw20_Tidied.l0 k (y119.length : Int) 0 (wrap64 (Int.tmod (IntKind.u64.wrap (a0_0)) 50)) 0 (wrap64 (Int.tmod (IntKind.u64.wrap (a0_2)) 50)) 0 y119) else (some (a0_0, a0_1, a0_2, a0_3, y119)))) else (none))) else (none)) else (none))
theorem redpenlaw20_Tidied.mono_l : ∀ k, (∀ y0 y1 y2 y3 y4 y5 y6, LeO (redpenlaw20_Tidied.l0 k y0 y1 y2 y3 y4 y5 y6) (redpenlaw20_Tidied.l0 (k + 1) y0 y1 y2 y3 y4 y5 y6)) ∧ (∀ y0 y1 y2 y3 y4 y5 y6 y7 y8 y9 y10, LeO (redpenlaw20_Tidied.l1 k y0 y1 y2 y3 y4 y5 y6 y7 y8 y9 y10) (redpenlaw20_Tidied.l1 (k + 1) y0 y1 y2 y3 y4 y5 y6 y7 y8 y9 y10)) ∧ (∀ y0 y1 y2 y3 y4 y5 y6 y7, LeO (redpenlaw20_Tidied.j2 k y0 y1 y2 y3 y4 y5 y6 y7) (redpenlaw20_Tidied.j2 (k + 1) y0 y1 y2 y3 y4 y5 y6 y7))
 | 0 => ⟨fun _ _ _ _ _ _ _ r h => by simp [redpenlaw20_Tidied.l0] at h, fun _ _ _ _ _ _ _ _ _ _ _ r h => by simp [redpenlaw20_Tidied.l1] at h, fun _ _ _ _ _ _ _ _ r h => by simp [redpenlaw20_Tidied.j2] at h⟩
 | k + 1 => by
  obtain ⟨ih0, ih1, ih2⟩ := redpenlaw20_Tidied.mono_l k
  refine ⟨?_, ?_, ?_⟩
  ·intro y0 y1 y2 y3 y4 y5 y6
   unfold redpenlaw20_Tidied.l0
   repeat' first
   | (with_reducible exact ih0 _ _ _ _ _ _ _)
   | (with_reducible exact ih1 _ _ _ _ _ _ _ _ _ _ _)
   | (with_reducible exact ih2 _ _ _ _ _ _ _ _)
   | (with_reducible exact LeO.refl _)
   | (with_reducible exact LeO.none _)
   | (with_reducible refine LeO.ite ?_ ?_)
   | (with_reducible refine LeO.bind ?_ (fun _ => ?_))
   | exact ih0 _ _ _ _ _ _ _
   | exact ih1 _ _ _ _ _ _ _ _ _ _ _
   | exact ih2 _ _ _ _ _ _ _ _
   | exact LeO.none _
   | refine LeO.ite ?_ ?_
   | refine LeO.bind ?_ (fun _ => ?_)
  ·intro y0 y1 y2 y3 y4 y5 y6 y7 y8 y9 y10
   unfold redpenlaw20_Tidied.l1
   repeat' first
   | (with_reducible exact ih0 _ _ _ _ _ _ _)
   | (with_reducible exact ih1 _ _ _ _ _ _ _ _ _ _ _)
   | (with_reducible exact ih2 _ _ _ _ _ _ _ _)
   | (with_reducible exact LeO.refl _)
   | (with_reducible exact LeO.none _)
   | (with_reducible refine LeO.ite ?_ ?_)
   | (with_reducible refine LeO.bind ?_ (fun _ => ?_))
   | exact ih0 _ _ _ _ _ _ _
   | exact ih1 _ _ _ _ _ _ _ _ _ _ _
   | exact ih2 _ _ _ _ _ _ _ _
   | exact LeO.none _
   | refine LeO.ite ?_ ?_
   | refine LeO.bind ?_ (fun _ => ?_)
  ·intro y0 y1 y2 y3 y4 y5 y6 y7
   unfold redpenlaw20_Tidied.j2
   repeat' first
   | (with_reducible exact ih0 _ _ _ _ _ _ _)
   | (with_reducible exact ih1 _ _ _ _ _ _ _ _ _ _ _)
   | (with_reducible exact ih2 _ _ _ _ _ _ _ _)
   | (with_reducible exact LeO.refl _)
   | (with_reducible exact LeO.none _)
   | (with_reducible refine LeO.ite ?_ ?_)
   | (with_reducible refine LeO.bind ?_ (fun _ => ?_))
   | exact ih0 _ _ _ _ _ _ _
   | exact ih1 _ _ _ _ _ _ _ _ _ _ _
   | exact ih2 _ _ _ _ _ _ _ _
   | exact LeO.none _
   | refine LeO.ite ?_ ?_
   | refine LeO.bind ?_ (fun _ => ?_)
theorem redpenlaw20_Tidied.mono : ∀ a0 a1 a2 a3 a4 a5 k, LeO (redpenlaw20_Tidied.f k a0 a1 a2 a3 a4 a5) (redpenlaw20_Tidied.f (k + 1) a0 a1 a2 a3 a4 a5) := by
 intro a0 a1 a2 a3 a4 a5 k
 obtain ⟨ih0, ih1, ih2⟩ := redpenlaw20_Tidied.mono_l k
 unfold redpenlaw20_Tidied.f
 repeat' first
   | (with_reducible exact ih0 _ _ _ _ _ _ _)
   | (with_reducible exact ih1 _ _ _ _ _ _ _ _ _ _ _)
   | (with_reducible exact ih2 _ _ _ _ _ _ _ _)
   | (with_reducible exact LeO.refl _)
   | (with_reducible exact LeO.none _)
   | (with_reducible refine LeO.ite ?_ ?_)
   | (with_reducible refine LeO.bind ?_ (fun _ => ?_))
   | exact ih0 _ _ _ _ _ _ _
   | exact ih1 _ _ _ _ _ _ _ _ _ _ _
   | exact ih2 _ _ _ _ _ _ _ _
   | exact LeO.none _
   | refine LeO.ite ?_ ?_
   | refine LeO.bind ?_ (fun _ => ?_)
set_option maxHeartbeats 8000000 in
set_option maxRecDepth 100000 in
theorem redpenlaw20_Tidied.calls (k : Nat) (a0_0 : Int) (a0_1 : Int) (a0_2 : Int) (a0_3 : Int) (A0_4 : Option Addr) (c0_4 : Nat) (l0_4 : List (S29)) (a1 : Bool) (r1 : Int) (r2 : Int) (r3 : Int) (r4 : Int) (r5 : List (S29)) (w : World) (hr0_4 : Kd.C k29 w A0_4 l0_4.length l0_4) (hc0_4 : l0_4.length ≤ c0_4) (h : redpenlaw20_Tidied.f k a0_0 a0_1 a0_2 a0_3 l0_4 a1 = some (r1, r2, r3, r4, r5)) :
  Calls Tryd.prog 15 #[.agg #[.int .i64 a0_0, .int .i64 a0_1, .int .i64 a0_2, .int .i64 a0_3, .slice A0_4 l0_4.length c0_4], .bool a1] w fun e w' => ∃ v4_ : Value, e = .returned (.agg #[.int .i64 r1, .int .i64 r2, .int .i64 r3, .int .i64 r4, v4_]) ∧ Kd.R k29 29 w' w.heap.size (fun _ => True) v4_ r5 ∧ Below w.heap.size w w' := by
 have hu26 := Tryd.underlying26
 have HR0_4 := Aside0.mk hr0_4
 have HC0_4 := Aside0.mk hc0_4
 clear hr0_4 hc0_4
 have HB := Aside0.mk (Below.refl w.heap.size w)
 have H : ((some (([] : List (S29)) : List (S29))).bind fun y112 => (if 0 ≤ (mn (l0_4.length : Int) 12) then (if (mn (l0_4.length : Int) 12) ≤ (l0_4.length : Int) then ((some (l0_4.take ((mn (l0_4.length : Int) 12) : Int).toNat : List (S29))).bind fun y115 => (if y112.length + y115.length < 4398046511104 then ((some (y112 ++ y115 : List (S29))).bind fun y119 => (if a1 = true then (redpenlaw20_Tidied.l0 k (y119.length : Int) 0 (wrap64 (Int.tmod (IntKind.u64.wrap (a0_0)) 50)) 0 (wrap64 (Int.tmod (IntKind.u64.wrap (a0_2)) 50)) 0 y119) else (some (a0_0, a0_1, a0_2, a0_3, y119)))) else (none))) else (none)) else (none))) = some (r1, r2, r3, r4, r5) := h
 clear h
 obtain ⟨y112, hy112⟩ : ∃ y_ : List (S29), y_ = (([] : List (S29))) := ⟨_, rfl⟩
 replace H : (if 0 ≤ (mn (l0_4.length : Int) 12) then (if (mn (l0_4.length : Int) 12) ≤ (l0_4.length : Int) then ((some (l0_4.take ((mn (l0_4.length : Int) 12) : Int).toNat : List (S29))).bind fun y115 => (if y112.length + y115.length < 4398046511104 then ((some (y112 ++ y115 : List (S29))).bind fun y119 => (if a1 = true then (redpenlaw20_Tidied.l0 k (y119.length : Int) 0 (wrap64 (Int.tmod (IntKind.u64.wrap (a0_0)) 50)) 0 (wrap64 (Int.tmod (IntKind.u64.wrap (a0_2)) 50)) 0 y119) else (some (a0_0, a0_1, a0_2, a0_3, y119)))) else (none))) else (none)) else (none)) = some (r1, r2, r3, r4, r5) := by first | (rw [hy112]; with_reducible exact H) | (have H2_ := (Option.bind_some _ _).symm.trans H; rw [hy112]; with_reducible exact H2_) | (have H2_ := (Option.bind_some _ _).symm.trans H; with_reducible exact H2_) | with_reducible exact H | (rw [hy112]; exact H) | exact H
 have Ny112 := Aside0.mk hy112
 clear hy112
 obtain ⟨ji3, hji3⟩ : ∃ j_ : Int, (mn (l0_4.length : Int) 12) = j_ := ⟨_, rfl⟩
 replace H : (if 0 ≤ (ji3) then (if (ji3) ≤ (l0_4.length : Int) then ((some (l0_4.take ((ji3) : Int).toNat : List (S29))).bind fun y115 => (if y112.length + y115.length < 4398046511104 then ((some (y112 ++ y115 : List (S29))).bind fun y119 => (if a1 = true then (redpenlaw20_Tidied.l0 k (y119.length : Int) 0 (wrap64 (Int.tmod (IntKind.u64.wrap (a0_0)) 50)) 0 (wrap64 (Int.tmod (IntKind.u64.wrap (a0_2)) 50)) 0 y119) else (some (a0_0, a0_1, a0_2, a0_3, y119)))) else (none))) else (none)) else (none)) = some (r1, r2, r3, r4, r5) := by first | (rw [hji3] at H; exact H) | (simp only [hji3] at H ⊢; exact H)
 (try (have hji3h : ji3 ≤ 12 := by (rw [← hji3]; unfold mn; (repeat' split) <;> omega)))
 (try (have hji3g : ji3 ≤ 64 := by omega))
 (try (have hji3l : 0 ≤ ji3 := by (rw [← hji3]; unfold mn; (repeat' split) <;> omega)))
 (try (have hji3m : 0 ≤ ji3 := by omega))
 have hji3_ : (if 12 < (l0_4.length : Int) then 12 else (l0_4.length : Int)) = ji3 := hji3
 by_cases c4 : 0 ≤ (ji3)
 ·rw [if_pos c4] at H
  have c4b0 := eq_true c4
  have c4b1 : decide (0 ≤ (ji3)) = true := decide_eq_true c4
  clear c4
  by_cases c5 : (ji3) ≤ (l0_4.length : Int)
  ·rw [if_pos c5] at H
   have c5b0 := eq_true c5
   have c5b1 : decide ((ji3) ≤ (l0_4.length : Int)) = true := decide_eq_true c5
   clear c5
   obtain ⟨y115, hy115⟩ : ∃ y_ : List (S29), y_ = (l0_4.take ((ji3) : Int).toNat) := ⟨_, rfl⟩
   replace H : (if y112.length + y115.length < 4398046511104 then ((some (y112 ++ y115 : List (S29))).bind fun y119 => (if a1 = true then (redpenlaw20_Tidied.l0 k (y119.length : Int) 0 (wrap64 (Int.tmod (IntKind.u64.wrap (a0_0)) 50)) 0 (wrap64 (Int.tmod (IntKind.u64.wrap (a0_2)) 50)) 0 y119) else (some (a0_0, a0_1, a0_2, a0_3, y119)))) else (none)) = some (r1, r2, r3, r4, r5) := by first | (rw [hy115]; with_reducible exact H) | (have H2_ := (Option.bind_some _ _).symm.trans H; rw [hy115]; with_reducible exact H2_) | (have H2_ := (Option.bind_some _ _).symm.trans H; with_reducible exact H2_) | with_reducible exact H | (rw [hy115]; exact H) | exact H
   have Ny115 := Aside0.mk hy115
   clear hy115
   by_cases c6 : y112.length + y115.length < 4398046511104
   ·rw [if_pos c6] at H
    have LMc6 := Aside0.mk c6
    clear c6
    obtain ⟨y119, hy119⟩ : ∃ y_ : List (S29), y_ = (y112 ++ y115) := ⟨_, rfl⟩
    replace H : (if a1 = true then (redpenlaw20_Tidied.l0 k (y119.length : Int) 0 (wrap64 (Int.tmod (IntKind.u64.wrap (a0_0)) 50)) 0 (wrap64 (Int.tmod (IntKind.u64.wrap (a0_2)) 50)) 0 y119) else (some (a0_0, a0_1, a0_2, a0_3, y119))) = some (r1, r2, r3, r4, r5) := by first | (rw [hy119]; with_reducible exact H) | (have H2_ := (Option.bind_some _ _).symm.trans H; rw [hy119]; with_reducible exact H2_) | (have H2_ := (Option.bind_some _ _).symm.trans H; with_reducible exact H2_) | with_reducible exact H | (rw [hy119]; exact H) | exact H
    have Ny119 := Aside0.mk hy119
    clear hy119
    by_cases c7 : a1 = true
    ·subst c7
     have H1 : (redpenlaw20_Tidied.l0 k (y119.length : Int) 0 (wrap64 (Int.tmod (IntKind.u64.wrap (a0_0)) 50)) 0 (wrap64 (Int.tmod (IntKind.u64.wrap (a0_2)) 50)) 0 y119) = some (r1, r2, r3, r4, r5) := by rw [if_pos rfl] at H; exact H
     clear H
     have H := H1
     clear H1
     have H' := Aside0.mk H
     clear H
     go_enter Tryd.func15, Tryd.ntmps15
     go_wp2_with (first | ((with_reducible refine gate_dst (N := 2) rfl ?_); (try (refine gate_guard (by rfl) ?_; dsimp only)); refine box_event ?hg (N := 2) ?hd (cs := #[.int .i64 a0_0, .int .i64 a0_1, .int .i64 a0_2, .int .i64 a0_3, .slice A0_4 l0_4.length c0_4]) (t := 26) ?hr ?_; (case hd => rfl); (case hg => rfl); (case hr => first | (go_simp; done) | (go_simp; rfl)); intro gb110 hg w8 hbox hb; have n0_ := Aside0.mk (below_step (by repeat (first | (with_reducible first | exact HB.out | apply below_alloc | apply pw_below_drewN | apply below_drew1) | exact HB.out)) hb); have n1_ := Aside0.mk (hbox); have n2_ := Aside0.mk ((by rw [hg]; exact (below_size (by repeat (first | (with_reducible first | exact HB.out | apply below_alloc | apply pw_below_drewN | apply below_drew1) | exact HB.out))) : w.heap.size ≤ gb110)); have n3_ := Aside0.mk ((by rw [hg]; exact (below_size (by repeat (first | (with_reducible first | exact HB.out | apply below_alloc | apply pw_below_drewN | apply below_drew1) | exact HB.out))) : w.heap.size ≤ gb110)); clear HB; have HB := n0_; have BK110 := n1_; have GW110 := n2_; have GE110 := n3_; clear n0_ n1_ n2_ n3_; clear hb hbox hg) | ((with_reducible refine gate_dst (N := 4) rfl ?_); (try (refine gate_guard (by rfl) ?_; dsimp only)); refine box_event ?hg (N := 4) ?hd (cs := #[.int .i64 0, .int .i64 0, .int .i64 0, .int .i64 0, .slice none 0 0]) (t := 26) ?hr ?_; (case hd => rfl); (case hg => rfl); (case hr => first | (go_simp; done) | (go_simp; rfl)); intro gb111 hg w9 hbox hb; have n0_ := Aside0.mk (blk_below (g := gb110) (o := .cells #[.int .i64 a0_0, .int .i64 a0_1, .int .i64 a0_2, .int .i64 a0_3, .slice A0_4 l0_4.length c0_4] 26 (0, 0)) (by (with_reducible repeat (first | refine blk_drewN ?_ _ | refine blk_drew ?_ | refine blk_alloc ?_ _)); exact BK110.out) hb); have n1_ := Aside0.mk (below_step (by repeat (first | (with_reducible first | exact HB.out | apply below_alloc | apply pw_below_drewN | apply below_drew1 | refine below_set ?_ GE110.out) | exact HB.out)) hb); have n2_ := Aside0.mk (hbox); have n3_ := Aside0.mk ((by rw [hg]; exact (below_size (by repeat (first | (with_reducible first | exact HB.out | apply below_alloc | apply pw_below_drewN | apply below_drew1 | refine below_set ?_ GE110.out) | exact HB.out))) : w.heap.size ≤ gb111)); have n4_ := Aside0.mk ((by rw [hg]; exact (below_size (by repeat (first | (with_reducible first | exact HB.out | apply below_alloc | apply pw_below_drewN | apply below_drew1 | refine below_set ?_ GE110.out) | exact HB.out))) : w.heap.size ≤ gb111)); have n5_ := Aside0.mk ((by rw [hg]; exact Nat.ne_of_lt (blk_lt (g := gb110) (o := .cells #[.int .i64 a0_0, .int .i64 a0_1, .int .i64 a0_2, .int .i64 a0_3, .slice A0_4 l0_4.length c0_4] 26 (0, 0)) (by (with_reducible repeat (first | refine blk_drewN ?_ _ | refine blk_drew ?_ | refine blk_alloc ?_ _)); exact BK110.out)) : gb110 ≠ gb111)); have n6_ := Aside0.mk ((by rw [hg]; exact Nat.ne_of_gt (blk_lt (g := gb110) (o := .cells #[.int .i64 a0_0, .int .i64 a0_1, .int .i64 a0_2, .int .i64 a0_3, .slice A0_4 l0_4.length c0_4] 26 (0, 0)) (by (with_reducible repeat (first | refine blk_drewN ?_ _ | refine blk_drew ?_ | refine blk_alloc ?_ _)); exact BK110.out)) : gb111 ≠ gb110)); clear BK110; clear HB; have BK110 := n0_; have HB := n1_; have BK111 := n2_; have GW111 := n3_; have GE111 := n4_; have NB110_111 := n5_; have NB111_110 := n6_; clear n0_ n1_ n2_ n3_ n4_ n5_ n6_; clear hb hbox hg) | ((with_reducible refine gate_dst (N := 9) rfl ?_); (try (refine gate_guard (by rfl) ?_; dsimp only)); refine Kd.R_lit k29 _ 29 ?hg (N := 9) ?hd (xs := ([] : List (S29))) (inner := []) (ok := fun _ => True) (okp := fun _ => True) ?hr ?hp (fun _ hk => hk) trivial (Below.refl _ _) (Nat.le_refl _) (by simp) ?_; (case hd => rfl); (case hg => rfl); (case hr => first | (go_simp; done) | (go_simp; rfl)); (case hp => exact (Reps.none _ _)); intro v113 w10 ho11 hb hg_ hnew_; clear hg_ hnew_; (first | rw [← Ny112.out] at ho11 | (simp only [Int.reduceToNat] at ho11; rw [← Ny112.out] at ho11)); have n0_ := Aside0.mk (Kd.R_lower ho11 (below_size (by repeat (first | (with_reducible first | exact HB.out | apply below_alloc | apply pw_below_drewN | apply below_drew1 | refine below_set ?_ GE110.out | refine below_set ?_ GE111.out) | exact HB.out)))); have n1_ := Aside0.mk (blk_below (g := gb110) (o := .cells #[.int .i64 a0_0, .int .i64 a0_1, .int .i64 a0_2, .int .i64 a0_3, .slice A0_4 l0_4.length c0_4] 26 (0, 0)) (by (with_reducible repeat (first | refine blk_drewN ?_ _ | refine blk_drew ?_ | refine blk_alloc ?_ _)); exact BK110.out) hb); have n2_ := Aside0.mk (blk_below (g := gb111) (o := .cells #[.int .i64 0, .int .i64 0, .int .i64 0, .int .i64 0, .slice none 0 0] 26 (0, 0)) (by (with_reducible repeat (first | refine blk_drewN ?_ _ | refine blk_drew ?_ | refine blk_alloc ?_ _)); exact BK111.out) hb); have n3_ := Aside0.mk (below_step (by repeat (first | (with_reducible first | exact HB.out | apply below_alloc | apply pw_below_drewN | apply below_drew1 | refine below_set ?_ GE110.out | refine below_set ?_ GE111.out) | exact HB.out)) hb); clear BK110; clear BK111; clear HB; have HO114 := n0_; have BK110 := n1_; have BK111 := n2_; have HB := n3_; clear n0_ n1_ n2_ n3_; clear hb ho11; have hnb12 := NB110_111.out; have hnc12 := NB111_110.out; have hcz13_0 : w10.cell? ⟨gb110, 0, none⟩ = some (.int .i64 a0_0) := (blk_cell BK110.out 0).trans rfl; have hcz13_1 : w10.cell? ⟨gb110, 1, none⟩ = some (.int .i64 a0_1) := (blk_cell BK110.out 1).trans rfl; have hcz13_2 : w10.cell? ⟨gb110, 2, none⟩ = some (.int .i64 a0_2) := (blk_cell BK110.out 2).trans rfl; have hcz13_3 : w10.cell? ⟨gb110, 3, none⟩ = some (.int .i64 a0_3) := (blk_cell BK110.out 3).trans rfl; have hcz13_4 : w10.cell? ⟨gb110, 4, none⟩ = some (.slice A0_4 l0_4.length c0_4) := (blk_cell BK110.out 4).trans rfl; have hfz13_0 := blk_frozen BK110.out 0; have hfz13_1 := blk_frozen BK110.out 1; have hfz13_2 := blk_frozen BK110.out 2; have hfz13_3 := blk_frozen BK110.out 3; have hfz13_4 := blk_frozen BK110.out 4; have q14 : ((ji3) : Int) ≤ ((l0_4.length : Int) : Int) := of_decide_eq_true (by first | (with_reducible assumption) | assumption); obtain ⟨i014, hi014, _, hsz14, _⟩ := info_parts info29; have hroom14 : l0_4.length ≤ c0_4 := HC0_4.out; have hC14 : Kd.C k29 _ A0_4 l0_4.length l0_4 := HR0_4.out; have hcut14 := cut_to (P := Tryd.prog) 24 29 .i64 Tryd.underlying24 hi014 A0_4 l0_4.length c0_4 (ji3) (of_decide_eq_true (by first | (with_reducible assumption) | assumption)) q14 hroom14; have hr14 := Kd.C_take (m := ((ji3) : Int).toNat) hC14 (by omega); have hy14 : y115.length = ((ji3) : Int).toNat := (by rw [Ny115.out, List.length_take]; omega); rw [← Ny115.out] at hr14; rw [← hy14] at hcut14; have HR118 := Aside0.mk hr14; have HC118 := Aside0.mk (show y115.length ≤ c0_4 from by omega); clear hr14 hC14 hroom14 hi014 hsz14; have KY14 := Aside0.mk hy14; clear hy14; replace q14 := eq_true q14) | ((with_reducible refine gate_builtin (b := .append) (xs := #[.tmp 9, .tmp 16]) rfl ?_); (try (refine gate_guard (by rfl) ?_; dsimp only)); at_builtin; refine Kd.R_append_rows k29 (w0 := w) w.heap.size rfl (.tmp 9) (.tmp 16) 24 29 (.agg #[(.int .u8 0), (.string ⟨#[]⟩), (.bool false)]) 32 rfl Tryd.underlying24 info29 rfl (by decide) (by omega) v113 y112 y115 _ _ _ (fun _ => True) (fun _ => False) rfl rfl ?aO ?aR (fun _ _ h => h) (fun _ h => h.elim) ?aF ?aB ?aS ?aL ?_; (case aR => repeat (first | exact (Kd.C_below HR118.out HB.out) | (with_reducible refine Kd.C_alloc ?_ _) | (with_reducible refine Kd.C_drewN ?_ _) | (with_reducible refine Kd.C_drew ?_))); (case aB => exact (by repeat (first | (with_reducible first | exact HB.out | apply below_alloc | apply pw_below_drewN | apply below_drew1 | refine below_set ?_ GE110.out | refine below_set ?_ GE111.out) | exact HB.out))); (case aF => exact (fun _ _ => trivial)); (case aO => exact (by (with_reducible repeat (first | apply Kd.R_alloc | apply Kd.R_drewN | apply Kd.R_drew)); exact HO114.out)); (case aS => exact (below_size (by repeat (first | (with_reducible first | exact HB.out | apply below_alloc | apply pw_below_drewN | apply below_drew1 | refine below_set ?_ GE110.out | refine below_set ?_ GE111.out) | exact HB.out)))); (case aL => have := LMc6.out; omega); intro v120 w15 ho hb hg hat; rw [← Ny119.out] at ho; have n0_ := Aside0.mk (blk_grown (g := gb110) (o := .cells #[.int .i64 a0_0, .int .i64 a0_1, .int .i64 a0_2, .int .i64 a0_3, .slice A0_4 l0_4.length c0_4] 26 (0, 0)) (by (with_reducible repeat (first | refine blk_drewN ?_ _ | refine blk_drew ?_ | refine blk_alloc ?_ _)); exact BK110.out) hg (Kd.R_ne HO114.out BK110.out (by decide))); have n1_ := Aside0.mk (blk_grown (g := gb111) (o := .cells #[.int .i64 0, .int .i64 0, .int .i64 0, .int .i64 0, .slice none 0 0] 26 (0, 0)) (by (with_reducible repeat (first | refine blk_drewN ?_ _ | refine blk_drew ?_ | refine blk_alloc ?_ _)); exact BK111.out) hg (Kd.R_ne HO114.out BK111.out (by decide))); have n2_ := Aside0.mk (hb); have n3_ := Aside0.mk (ho); clear BK110; clear BK111; clear HB; clear HO114; have BK110 := n0_; have BK111 := n1_; have HB := n2_; have HO121 := n3_; clear n0_ n1_ n2_ n3_; clear ho hb hg hat; obtain ⟨Ao16, co16, eo16⟩ := Kd.R_slice HO121.out; subst eo16; have hcz17_0 : w15.cell? ⟨gb110, 0, none⟩ = some (.int .i64 a0_0) := (blk_cell BK110.out 0).trans rfl; have hcz17_1 : w15.cell? ⟨gb110, 1, none⟩ = some (.int .i64 a0_1) := (blk_cell BK110.out 1).trans rfl; have hcz17_2 : w15.cell? ⟨gb110, 2, none⟩ = some (.int .i64 a0_2) := (blk_cell BK110.out 2).trans rfl; have hcz17_3 : w15.cell? ⟨gb110, 3, none⟩ = some (.int .i64 a0_3) := (blk_cell BK110.out 3).trans rfl; have hcz17_4 : w15.cell? ⟨gb110, 4, none⟩ = some (.slice A0_4 l0_4.length c0_4) := (blk_cell BK110.out 4).trans rfl; have hfz17_0 := blk_frozen BK110.out 0; have hfz17_1 := blk_frozen BK110.out 1; have hfz17_2 := blk_frozen BK110.out 2; have hfz17_3 := blk_frozen BK110.out 3; have hfz17_4 := blk_frozen BK110.out 4))
     go_loopg [39] k (fun kq v39 w' => ∃ (x39_1 : Int) (x111001_1 : Int) (x111003_1 : Int) (x111004_1 : List (S29)) (u111004 : Value), v39 = .int .i64 x39_1 ∧ Aside0 (redpenlaw20_Tidied.l0 kq (y119.length : Int) x39_1 (wrap64 (Int.tmod (IntKind.u64.wrap (a0_0)) 50)) x111001_1 (wrap64 (Int.tmod (IntKind.u64.wrap (a0_2)) 50)) x111003_1 x111004_1 = some (r1, r2, r3, r4, r5)) ∧ Aside0 (kq ≤ k) ∧ Aside0 (Kd.R k29 29 w' w.heap.size (fun _ => True) u111004 x111004_1) ∧ Aside0 (w'.heap[gb110]? = some (.cells #[.int .i64 (wrap64 (Int.tmod (IntKind.u64.wrap (a0_0)) 50)), .int .i64 x111001_1, .int .i64 (wrap64 (Int.tmod (IntKind.u64.wrap (a0_2)) 50)), .int .i64 x111003_1, u111004] 26 (0, 0))) ∧ Aside0 (w'.heap[gb111]? = some (.cells #[.int .i64 0, .int .i64 0, .int .i64 0, .int .i64 0, (.slice none 0 0)] 26 (0, 0))) ∧ Aside0 (Below w.heap.size w w'))
     case atStart => exact ⟨(0), (0), (0), (y119), (.slice Ao16 y119.length co16), (by first | rfl | (simp; done) | (simp [*]; done) | (simp [wrap64, wrap32]; done)), H', ⟨Nat.le_refl _⟩, ⟨by (with_reducible repeat (first | apply Kd.R_alloc | apply Kd.R_drewN | apply Kd.R_drew)); exact Kd.R_mono (Kd.R_far (p := ⟨gb110, 2, none⟩) (Kd.R_far (p := ⟨gb110, 0, none⟩) (Kd.R_far (p := ⟨gb110, 3, none⟩) (Kd.R_far (p := ⟨gb110, 1, none⟩) (Kd.R_far (p := ⟨gb110, 4, none⟩) (Kd.R_types HO121.out BK110.out (by decide)) (fun _ hk => hk.2) (.slice Ao16 y119.length co16)) (fun _ hk => hk.2) (.int .i64 0)) (fun _ hk => hk.2) (.int .i64 0)) (fun _ hk => hk.2) (.int .i64 (wrap64 (Int.tmod (IntKind.u64.wrap (a0_0)) 50)))) (fun _ hk => hk.2) (.int .i64 (wrap64 (Int.tmod (IntKind.u64.wrap (a0_2)) 50)))) (fun _ hk => trivial)⟩, ⟨by (with_reducible repeat (first | refine blk_drewN ?_ _ | refine blk_drew ?_ | refine blk_alloc ?_ _)); refine blk_put (cs := #[.int .i64 (wrap64 (Int.tmod (IntKind.u64.wrap (a0_0)) 50)), .int .i64 0, .int .i64 a0_2, .int .i64 0, .slice Ao16 y119.length co16]) ?_ 2 _ rfl; (with_reducible repeat (first | refine blk_drewN ?_ _ | refine blk_drew ?_ | refine blk_alloc ?_ _)); refine blk_put (cs := #[.int .i64 a0_0, .int .i64 0, .int .i64 a0_2, .int .i64 0, .slice Ao16 y119.length co16]) ?_ 0 _ rfl; (with_reducible repeat (first | refine blk_drewN ?_ _ | refine blk_drew ?_ | refine blk_alloc ?_ _)); refine blk_put (cs := #[.int .i64 a0_0, .int .i64 0, .int .i64 a0_2, .int .i64 a0_3, .slice Ao16 y119.length co16]) ?_ 3 _ rfl; (with_reducible repeat (first | refine blk_drewN ?_ _ | refine blk_drew ?_ | refine blk_alloc ?_ _)); refine blk_put (cs := #[.int .i64 a0_0, .int .i64 a0_1, .int .i64 a0_2, .int .i64 a0_3, .slice Ao16 y119.length co16]) ?_ 1 _ rfl; (with_reducible repeat (first | refine blk_drewN ?_ _ | refine blk_drew ?_ | refine blk_alloc ?_ _)); refine blk_put (cs := #[.int .i64 a0_0, .int .i64 a0_1, .int .i64 a0_2, .int .i64 a0_3, .slice A0_4 l0_4.length c0_4]) ?_ 4 _ rfl; (with_reducible repeat (first | refine blk_drewN ?_ _ | refine blk_drew ?_ | refine blk_alloc ?_ _)); exact BK110.out⟩, ⟨by (with_reducible repeat (first | refine blk_drewN ?_ _ | refine blk_drew ?_ | refine blk_alloc ?_ _)); refine blk_far ?_ NB111_110.out _; (with_reducible repeat (first | refine blk_drewN ?_ _ | refine blk_drew ?_ | refine blk_alloc ?_ _)); refine blk_far ?_ NB111_110.out _; (with_reducible repeat (first | refine blk_drewN ?_ _ | refine blk_drew ?_ | refine blk_alloc ?_ _)); refine blk_far ?_ NB111_110.out _; (with_reducible repeat (first | refine blk_drewN ?_ _ | refine blk_drew ?_ | refine blk_alloc ?_ _)); refine blk_far ?_ NB111_110.out _; (with_reducible repeat (first | refine blk_drewN ?_ _ | refine blk_drew ?_ | refine blk_alloc ?_ _)); refine blk_far ?_ NB111_110.out _; (with_reducible repeat (first | refine blk_drewN ?_ _ | refine blk_drew ?_ | refine blk_alloc ?_ _)); exact BK111.out⟩, ⟨by repeat (first | (with_reducible first | exact HB.out | apply below_alloc | apply pw_below_drewN | apply below_drew1 | refine below_set ?_ GE110.out | refine below_set ?_ GE111.out) | exact HB.out)⟩⟩
     case round =>
      clear H'
      try clear c1
      try clear q1
      try clear p2
      try clear c4
      try clear c4b0
      try clear c4b1
      try clear c5
      try clear c5b0
      try clear c5b1
      try clear c6
      try clear p6
      try clear c7
      try clear c12
      try clear q14
      try clear c15
      try clear hcz13_0
      try clear hcz13_1
      try clear hcz13_2
      try clear hcz13_3
      try clear hcz13_4
      try clear hcz17_0
      try clear hcz17_1
      try clear hcz17_2
      try clear hcz17_3
      try clear hcz17_4
      try clear hfz13_0
      try clear hfz13_1
      try clear hfz13_2
      try clear hfz13_3
      try clear hfz13_4
      try clear hfz17_0
      try clear hfz17_1
      try clear hfz17_2
      try clear hfz17_3
      try clear hfz17_4
      try clear q14
      obtain ⟨x39_1, x111001_1, x111003_1, x111004_1, u111004, rfl, HA, HK1, HO_111004, BK110, BK111, HB⟩ := hrel
      cases gk with
      | zero => exact absurd HA.out (by simp [redpenlaw20_Tidied.l0])
      | succ k1 =>
       have H := HA.out
       clear HA
       simp only [redpenlaw20_Tidied.l0] at H
       by_cases c18 : x39_1 < (y119.length : Int)
       ·rw [if_pos c18] at H
        have c18b0 : decide (x39_1 < (y119.length : Int)) = true := decide_eq_true c18
        clear c18
        by_cases c19 : 0 ≤ x39_1
        ·rw [if_pos c19] at H
         have c19b0 : decide (0 ≤ x39_1) = true := decide_eq_true c19
         clear c19
         by_cases c20 : x39_1 < (x111004_1.length : Int)
         ·rw [if_pos c20] at H
          have c20b0 : decide (x39_1 < (x111004_1.length : Int)) = true := decide_eq_true c20
          clear c20
          obtain ⟨ji21, hji21⟩ : ∃ j_ : Int, (Int.tmod ((rd_T29 x111004_1 x39_1).f0) 3) = j_ := ⟨_, rfl⟩
          replace H : (if 0 ≤ (ji21) then (if (ji21) < 3 then ((some (x111004_1.set (x39_1 : Int).toNat (⟨bt (⟨#[32, 45, 43]⟩ : ByteArray) (ji21), (rd_T29 x111004_1 x39_1).f1, (rd_T29 x111004_1 x39_1).f2⟩ : S29) : List (S29))).bind fun y124 => (redpenlaw20_Tidied.l1 k1 x39_1 ([] : List Int) (y119.length : Int) x39_1 (mn (((rd_T29 y124 x39_1).f1).size : Int) 9) 0 (wrap64 (Int.tmod (IntKind.u64.wrap (a0_0)) 50)) x111001_1 (wrap64 (Int.tmod (IntKind.u64.wrap (a0_2)) 50)) x111003_1 y124)) else (none)) else (none)) = some (r1, r2, r3, r4, r5) := by first | (rw [hji21] at H; exact H) | (simp only [hji21] at H ⊢; exact H)
          by_cases c22 : 0 ≤ (ji21)
          ·rw [if_pos c22] at H
           have c22b0 : decide (0 ≤ (ji21)) = true := decide_eq_true c22
           clear c22
           by_cases c23 : (ji21) < 3
           ·rw [if_pos c23] at H
            have c23b0 : decide ((ji21) < 3) = true := decide_eq_true c23
            clear c23
            obtain ⟨y124, hy124⟩ : ∃ y_ : List (S29), y_ = (x111004_1.set (x39_1 : Int).toNat (⟨bt (⟨#[32, 45, 43]⟩ : ByteArray) (ji21), (rd_T29 x111004_1 x39_1).f1, (rd_T29 x111004_1 x39_1).f2⟩ : S29)) := ⟨_, rfl⟩
            replace H : (redpenlaw20_Tidied.l1 k1 x39_1 ([] : List Int) (y119.length : Int) x39_1 (mn (((rd_T29 y124 x39_1).f1).size : Int) 9) 0 (wrap64 (Int.tmod (IntKind.u64.wrap (a0_0)) 50)) x111001_1 (wrap64 (Int.tmod (IntKind.u64.wrap (a0_2)) 50)) x111003_1 y124) = some (r1, r2, r3, r4, r5) := by first | (rw [hy124]; with_reducible exact H) | (have H2_ := (Option.bind_some _ _).symm.trans H; rw [hy124]; with_reducible exact H2_) | (have H2_ := (Option.bind_some _ _).symm.trans H; with_reducible exact H2_) | with_reducible exact H | (rw [hy124]; exact H) | exact H
            have Ny124 := Aside0.mk hy124
            clear hy124
            obtain ⟨ji26, hji26⟩ : ∃ j_ : Int, (mn (((rd_T29 y124 x39_1).f1).size : Int) 9) = j_ := ⟨_, rfl⟩
            replace H : (redpenlaw20_Tidied.l1 k1 x39_1 ([] : List Int) (y119.length : Int) x39_1 ji26 0 (wrap64 (Int.tmod (IntKind.u64.wrap (a0_0)) 50)) x111001_1 (wrap64 (Int.tmod (IntKind.u64.wrap (a0_2)) 50)) x111003_1 y124) = some (r1, r2, r3, r4, r5) := by first | (rw [hji26] at H; exact H) | (simp only [hji26] at H ⊢; exact H)
            have hji26_ : (if 9 < (((rd_T29 y124 x39_1).f1).size : Int) then 9 else (((rd_T29 y124 x39_1).f1).size : Int)) = ji26 := hji26
            have H' := Aside0.mk H
            clear H
            have hnb27 := NB110_111.out
            have hnc27 := NB111_110.out
            have hcz28_0 : wr.cell? ⟨gb110, 0, none⟩ = some (.int .i64 (wrap64 (Int.tmod (IntKind.u64.wrap (a0_0)) 50))) := (blk_cell BK110.out 0).trans rfl
            have hcz28_1 : wr.cell? ⟨gb110, 1, none⟩ = some (.int .i64 x111001_1) := (blk_cell BK110.out 1).trans rfl
            have hcz28_2 : wr.cell? ⟨gb110, 2, none⟩ = some (.int .i64 (wrap64 (Int.tmod (IntKind.u64.wrap (a0_2)) 50))) := (blk_cell BK110.out 2).trans rfl
            have hcz28_3 : wr.cell? ⟨gb110, 3, none⟩ = some (.int .i64 x111003_1) := (blk_cell BK110.out 3).trans rfl
            have hcz28_4 : wr.cell? ⟨gb110, 4, none⟩ = some (u111004) := (blk_cell BK110.out 4).trans rfl
            have hfz28_0 := blk_frozen BK110.out 0
            have hfz28_1 := blk_frozen BK110.out 1
            have hfz28_2 := blk_frozen BK110.out 2
            have hfz28_3 := blk_frozen BK110.out 3
            have hfz28_4 := blk_frozen BK110.out 4
            obtain ⟨Ao29, co29, eo29⟩ := Kd.R_slice HO_111004.out
            subst eo29
            have p122 : 0 ≤ (x39_1 : Int) := of_decide_eq_true (by first | (with_reducible assumption) | assumption)
            have q122 : x39_1 < (x111004_1.length : Int) := of_decide_eq_true (by first | (with_reducible assumption) | assumption)
            obtain ⟨ad122, e122, hx122_0, hx122_1, hx122_2⟩ := at_T29 (Kd.R_reads' HO_111004.out).2.2 x39_1 p122 q122
            cases e122
            replace p122 := eq_true p122
            replace q122 := eq_true q122
            have p123 : 0 ≤ (x39_1 : Int) := of_decide_eq_true (by first | (with_reducible assumption) | assumption)
            have q123 : x39_1 < (x111004_1.length : Int) := of_decide_eq_true (by first | (with_reducible assumption) | assumption)
            obtain ⟨ad123, e123, hx123_0, hx123_1, hx123_2⟩ := at_T29 (Kd.R_reads' HO_111004.out).2.2 x39_1 p123 q123
            obtain rfl : ad122 = ad123 := (by injection e123)
            replace p123 := eq_true p123
            replace q123 := eq_true q123
            have p24 : 0 ≤ ((ji21) : Int) := of_decide_eq_true (by first | (with_reducible assumption) | assumption)
            have q24 : (ji21) < (3 : Int) := of_decide_eq_true (by first | (with_reducible assumption) | assumption)
            have hx24 := bt_at (⟨#[32, 45, 43]⟩ : ByteArray) (ji21)
            replace p24 := eq_true p24
            replace q24 := eq_true q24
            have p25 : 0 ≤ (x39_1 : Int) := of_decide_eq_true (by first | (with_reducible assumption) | assumption)
            have q25 : (x39_1 : Int) < ((x111004_1.length : Int) : Int) := of_decide_eq_true (by first | (with_reducible assumption) | assumption)
            obtain ⟨go25, co25, eo25, gb25, gl25, cl25, HG25⟩ := Kd.R_form HO_111004.out (by omega)
            (first | cases eo25 | (injection eo25 with ea_ en_ ec_; (first | subst ea_ | (injection ea_ with ea_; subst ea_)); subst ec_; clear en_))
            have GB25 := Aside0.mk gb25
            have GG25 := Aside0.mk HG25
            clear gb25 gl25 HG25
            (first | simp only [add_plain] at hx122_0 | skip)
            (first | simp only [add_plain] at hx122_1 | skip)
            (first | simp only [add_plain] at hx122_2 | skip)
            (first | simp only [add_plain] at hx123_0 | skip)
            (first | simp only [add_plain] at hx123_1 | skip)
            (first | simp only [add_plain] at hx123_2 | skip)
            obtain ⟨ce25, hcl25, hM25, hcc25, hfr25⟩ := Kd.R_elem HO_111004.out z29 (x39_1 : Int) p25 q25
            obtain rfl := k29_openM hM25
            have hx25_0 : wr.cell? ⟨go25, (x39_1 : Int).toNat * 3, none⟩ = some (.int .u8 ((rd_T29 x111004_1 x39_1).f0)) := hcc25 0 _ rfl
            have hx25_1 : wr.cell? ⟨go25, (x39_1 : Int).toNat * 3 + 1, none⟩ = some (.string ((rd_T29 x111004_1 x39_1).f1)) := hcc25 1 _ rfl
            have hx25_2 : wr.cell? ⟨go25, (x39_1 : Int).toNat * 3 + 2, none⟩ = some (.bool ((rd_T29 x111004_1 x39_1).f2)) := hcc25 2 _ rfl
            have hf25_0 : wr.frozen? ⟨go25, (x39_1 : Int).toNat * 3, none⟩ = false := hfr25 0
            have hf25_1 : wr.frozen? ⟨go25, (x39_1 : Int).toNat * 3 + 1, none⟩ = false := hfr25 1
            have hf25_2 : wr.frozen? ⟨go25, (x39_1 : Int).toNat * 3 + 2, none⟩ = false := hfr25 2
            clear hcl25 hcc25 hfr25 hM25
            replace p25 := eq_true p25
            replace q25 := eq_true q25
            have HX30 := Aside0.mk (show Kd.R k29 29 wr w.heap.size (fun _ => True) (.slice (some ⟨go25, 0, none⟩) x111004_1.length co29) x111004_1 from (by (with_reducible repeat (first | apply Kd.R_alloc | apply Kd.R_drewN | apply Kd.R_drew)); exact HO_111004.out))
            obtain ⟨ce30, hcl30, hM30, hcc30, hfr30⟩ := Kd.R_elem HX30.out z29 (x39_1 : Int) (of_decide_eq_true (by first | (with_reducible assumption) | assumption)) (by have h_ : (x39_1 : Int) < ((x111004_1.length : Int) : Int) := of_decide_eq_true (by first | (with_reducible assumption) | assumption); first | exact h_ | (have e_ := (Kd.R_reads' HO_111004.out).1; omega) | simpa using h_)
            obtain rfl := k29_openM hM30
            have HP30 := Kd.R_seg HX30.out (x39_1 : Int) (of_decide_eq_true (by first | (with_reducible assumption) | assumption)) (by have h_ : (x39_1 : Int) < ((x111004_1.length : Int) : Int) := of_decide_eq_true (by first | (with_reducible assumption) | assumption); first | exact h_ | (have e_ := (Kd.R_reads' HO_111004.out).1; omega) | simpa using h_) (seg := [.int .u8 (bt (⟨#[32, 45, 43]⟩ : ByteArray) (ji21))]) (j := 0) hcl30 hcc30 (show 1 ≤ 3 from by decide) (x' := (⟨bt (⟨#[32, 45, 43]⟩ : ByteArray) (ji21), (rd_T29 x111004_1 x39_1).f1, (rd_T29 x111004_1 x39_1).f2⟩ : S29)) (k29_mkM _ _ _ (⟨bt (⟨#[32, 45, 43]⟩ : ByteArray) (ji21), (rd_T29 x111004_1 x39_1).f1, (rd_T29 x111004_1 x39_1).f2⟩ : S29) ) (fun _ hk => hk)
            have hx30_0 := hcc30 0 _ rfl
            (try simp only [show (k29).sz = 3 from rfl, Nat.mul_one, Nat.add_zero] at hx30_0)
            have hf30_0 := hfr30 0
            (try simp only [show (k29).sz = 3 from rfl, Nat.mul_one, Nat.add_zero] at hf30_0)
            clear hcl30 hcc30 hfr30 hM30
            go_wp2_with (first | ((with_reducible refine gate_store (t := 5) (p := 54) rfl ?_); refine store_event (t := 5) (p := 54) (v := ?vo_w31) (w1 := (wr.setCell ⟨go25, (x39_1 : Int).toNat * 3, none⟩ (.int .u8 (bt (⟨#[32, 45, 43]⟩ : ByteArray) (ji21))))) ?hg ?ho ?hn ?hr ?_; (case ho => rfl); (case hg => rfl); (case hn => rfl); (case hr => first | (go_simp; done) | (go_simp; rfl)); intro w31 hw; have hg : wr.grownBy w31 (some go25) := (by rw [hw]; exact HP30.2); have hp_ : Kd.R k29 29 w31 w.heap.size (fun _ => True) (.slice (some ⟨go25, 0, none⟩) x111004_1.length co29) y124 := (by rw [hw, Ny124.out]; exact HP30.1); clear HP30; have n0_ := Aside0.mk (hp_); have n1_ := Aside0.mk (blk_grown (g := gb110) (o := .cells #[.int .i64 (wrap64 (Int.tmod (IntKind.u64.wrap (a0_0)) 50)), .int .i64 x111001_1, .int .i64 (wrap64 (Int.tmod (IntKind.u64.wrap (a0_2)) 50)), .int .i64 x111003_1, .slice (some ⟨go25, 0, none⟩) x111004_1.length co29] 26 (0, 0)) (by (with_reducible repeat (first | refine blk_drewN ?_ _ | refine blk_drew ?_ | refine blk_alloc ?_ _)); exact BK110.out) hg (Kd.R_ne HO_111004.out BK110.out (by decide))); have n2_ := Aside0.mk (blk_grown (g := gb111) (o := .cells #[.int .i64 0, .int .i64 0, .int .i64 0, .int .i64 0, .slice none 0 0] 26 (0, 0)) (by (with_reducible repeat (first | refine blk_drewN ?_ _ | refine blk_drew ?_ | refine blk_alloc ?_ _)); exact BK111.out) hg (Kd.R_ne HO_111004.out BK111.out (by decide))); have n3_ := Aside0.mk ((by rw [hw]; exact below_set (HB.out) GB25.out : Below w.heap.size w w31)); clear HO_111004; clear BK110; clear BK111; clear HB; have HO_111004 := n0_; have BK110 := n1_; have BK111 := n2_; have HB := n3_; clear n0_ n1_ n2_ n3_; clear hg hw hp_; have hcz32_0 : w31.cell? ⟨gb110, 0, none⟩ = some (.int .i64 (wrap64 (Int.tmod (IntKind.u64.wrap (a0_0)) 50))) := (blk_cell BK110.out 0).trans rfl; have hcz32_1 : w31.cell? ⟨gb110, 1, none⟩ = some (.int .i64 x111001_1) := (blk_cell BK110.out 1).trans rfl; have hcz32_2 : w31.cell? ⟨gb110, 2, none⟩ = some (.int .i64 (wrap64 (Int.tmod (IntKind.u64.wrap (a0_2)) 50))) := (blk_cell BK110.out 2).trans rfl; have hcz32_3 : w31.cell? ⟨gb110, 3, none⟩ = some (.int .i64 x111003_1) := (blk_cell BK110.out 3).trans rfl; have hcz32_4 : w31.cell? ⟨gb110, 4, none⟩ = some (.slice (some ⟨go25, 0, none⟩) x111004_1.length co29) := (blk_cell BK110.out 4).trans rfl; have hfz32_0 := blk_frozen BK110.out 0; have hfz32_1 := blk_frozen BK110.out 1; have hfz32_2 := blk_frozen BK110.out 2; have hfz32_3 := blk_frozen BK110.out 3; have hfz32_4 := blk_frozen BK110.out 4; have p125 : 0 ≤ (x39_1 : Int) := of_decide_eq_true (by first | (with_reducible assumption) | assumption); have q125 : x39_1 < (y124.length : Int) := (by have h_ : (x39_1 : Int) < ((x111004_1.length : Int) : Int) := of_decide_eq_true (by first | (with_reducible assumption) | assumption); first | (have e_ := (Kd.R_reads' HO_111004.out).1; omega) | simpa only [Ny124.out, List.length_set] using h_); have ql125 : ((x39_1 : Int) < ((x111004_1.length : Int) : Int)) = True := eq_true (of_decide_eq_true (by first | (with_reducible assumption) | assumption)); obtain ⟨ad125, e125, hx125_0, hx125_1, hx125_2⟩ := at_T29 (Kd.R_reads' HO_111004.out).2.2 x39_1 p125 q125; obtain rfl : (⟨go25, 0, none⟩ : Addr) = ad125 := (by injection e125); (first | simp only [add_plain] at hx125_0 | simp only [add_at] at hx125_0 | simp only [Addr.add, Nat.zero_add] at hx125_0 | skip); (first | simp only [add_plain] at hx125_1 | simp only [add_at] at hx125_1 | simp only [Addr.add, Nat.zero_add] at hx125_1 | skip); (first | simp only [add_plain] at hx125_2 | simp only [add_at] at hx125_2 | simp only [Addr.add, Nat.zero_add] at hx125_2 | skip); replace p125 := eq_true p125; replace q125 := eq_true q125))
            go_loopg [7, 61] k1 (fun kq v7 v61 w' => ∃ (x7_2 : List Int) (x61_2 : Int), v61 = .int .i64 x61_2 ∧ Aside0 (redpenlaw20_Tidied.l1 kq x39_1 x7_2 (y119.length : Int) x39_1 ji26 x61_2 (wrap64 (Int.tmod (IntKind.u64.wrap (a0_0)) 50)) x111001_1 (wrap64 (Int.tmod (IntKind.u64.wrap (a0_2)) 50)) x111003_1 y124 = some (r1, r2, r3, r4, r5)) ∧ Aside0 (kq ≤ k1) ∧ Aside0 (Kd.R (Kd.int .u8) 5 w' w.heap.size (fun _ => True) v7 x7_2) ∧ Aside0 (Kd.R k29 29 w' w.heap.size (fun _ => True) (.slice (some ⟨go25, 0, none⟩) x111004_1.length co29) y124) ∧ Aside0 (w'.heap[gb110]? = some (.cells #[.int .i64 (wrap64 (Int.tmod (IntKind.u64.wrap (a0_0)) 50)), .int .i64 x111001_1, .int .i64 (wrap64 (Int.tmod (IntKind.u64.wrap (a0_2)) 50)), .int .i64 x111003_1, (.slice (some ⟨go25, 0, none⟩) x111004_1.length co29)] 26 (0, 0))) ∧ Aside0 (w'.heap[gb111]? = some (.cells #[.int .i64 0, .int .i64 0, .int .i64 0, .int .i64 0, (.slice none 0 0)] 26 (0, 0))) ∧ Aside0 (Below w.heap.size w w'))
            case atStart => exact ⟨(([] : List Int)), (0), (by first | rfl | (simp; done) | (simp [*]; done) | (simp [wrap64, wrap32]; done)), H', ⟨Nat.le_refl _⟩, ⟨by first | exact Kd.R_nil _ _ _ _ _ | exact Kd.N_nil _ _ _ _ _ | exact Kd.V_nil _ _ _ _ _ | exact Kd.Q_nil _ _ _ _ _ | exact Kd.S_nil _ _ _ _ _⟩, ⟨by (with_reducible repeat (first | apply Kd.R_alloc | apply Kd.R_drewN | apply Kd.R_drew)); exact HO_111004.out⟩, ⟨by (with_reducible repeat (first | refine blk_drewN ?_ _ | refine blk_drew ?_ | refine blk_alloc ?_ _)); exact BK110.out⟩, ⟨by (with_reducible repeat (first | refine blk_drewN ?_ _ | refine blk_drew ?_ | refine blk_alloc ?_ _)); exact BK111.out⟩, ⟨by repeat (first | (with_reducible first | exact HB.out | apply below_alloc | apply pw_below_drewN | apply below_drew1 | refine below_set ?_ GE110.out | refine below_set ?_ GE111.out) | exact HB.out)⟩⟩
            case round =>
             clear H'
             try clear c1
             try clear p1
             try clear q1
             try clear hx1
             try clear c2
             try clear p2
             try clear q2
             try clear hx2
             try clear hf2
             try clear c3
             try clear hx3
             try clear hf3
             try clear c4
             try clear c4b0
             try clear c4b1
             try clear c5
             try clear c5b0
             try clear c5b1
             try clear c6
             try clear p6
             try clear c7
             try clear c12
             try clear p12
             try clear q12
             try clear hx12
             try clear q14
             try clear c15
             try clear c18
             try clear c18b0
             try clear c19
             try clear c19b0
             try clear c20
             try clear c20b0
             try clear c22
             try clear c22b0
             try clear c23
             try clear c23b0
             try clear p24
             try clear q24
             try clear hx24
             try clear c25
             try clear p25
             try clear q25
             try clear hx25
             try clear hf25
             try clear c27
             try clear c30
             try clear hx30
             try clear hf30
             try clear hcz13_0
             try clear hcz13_1
             try clear hcz13_2
             try clear hcz13_3
             try clear hcz13_4
             try clear hcz17_0
             try clear hcz17_1
             try clear hcz17_2
             try clear hcz17_3
             try clear hcz17_4
             try clear hcz28_0
             try clear hcz28_1
             try clear hcz28_2
             try clear hcz28_3
             try clear hcz28_4
             try clear hcz32_0
             try clear hcz32_1
             try clear hcz32_2
             try clear hcz32_3
             try clear hcz32_4
             try clear hfz13_0
             try clear hfz13_1
             try clear hfz13_2
             try clear hfz13_3
             try clear hfz13_4
             try clear hfz17_0
             try clear hfz17_1
             try clear hfz17_2
             try clear hfz17_3
             try clear hfz17_4
             try clear hfz28_0
             try clear hfz28_1
             try clear hfz28_2
             try clear hfz28_3
             try clear hfz28_4
             try clear hfz32_0
             try clear hfz32_1
             try clear hfz32_2
             try clear hfz32_3
             try clear hfz32_4
             try clear hx122_0
             try clear hx122_1
             try clear hx122_2
             try clear hx123_0
             try clear hx123_1
             try clear hx123_2
             try clear hx125_0
             try clear hx125_1
             try clear hx125_2
             try clear hx25_0
             try clear hx25_1
             try clear hx25_2
             try clear hx30_0
             try clear p122
             try clear p123
             try clear p125
             try clear p2
             try clear p24
             try clear p25
             try clear p6
             try clear q1
             try clear q122
             try clear q123
             try clear q125
             try clear q14
             try clear q24
             try clear q25
             obtain ⟨x7_2, x61_2, rfl, HA, HK2, HO_7, HO_111004, BK110, BK111, HB⟩ := hrel
             have hl111004_2 : x111004_1.length = y124.length := (Kd.R_reads' HO_111004.out).1
             rw [hl111004_2] at HO_111004
             (try simp only [hl111004_2])
             (try simp only [hl111004_2] at BK110)
             (try simp only [hl111004_2] at BK111)
             (try simp only [hl111004_2] at HO_7)
             cases gk with
             | zero => exact absurd HA.out (by simp [redpenlaw20_Tidied.l1])
             | succ k2 =>
              have H := HA.out
              clear HA
              simp only [redpenlaw20_Tidied.l1] at H
              by_cases c33 : x61_2 < ji26
              ·rw [if_pos c33] at H
               have c33b0 : decide (x61_2 < ji26) = true := decide_eq_true c33
               clear c33
               by_cases c34 : 0 ≤ x39_1
               ·rw [if_pos c34] at H
                have c34b0 : decide (0 ≤ x39_1) = true := decide_eq_true c34
                clear c34
                by_cases c35 : x39_1 < (y124.length : Int)
                ·rw [if_pos c35] at H
                 have c35b0 : decide (x39_1 < (y124.length : Int)) = true := decide_eq_true c35
                 clear c35
                 by_cases c36 : 0 ≤ x61_2
                 ·rw [if_pos c36] at H
                  have c36b0 : decide (0 ≤ x61_2) = true := decide_eq_true c36
                  clear c36
                  by_cases c37 : x61_2 < (((rd_T29 y124 x39_1).f1).size : Int)
                  ·rw [if_pos c37] at H
                   have c37b0 : decide (x61_2 < (((rd_T29 y124 x39_1).f1).size : Int)) = true := decide_eq_true c37
                   clear c37
                   by_cases c39 : (bt ((rd_T29 y124 x39_1).f1) x61_2) = 10
                   ·rw [if_pos c39] at H
                    have c39b0 : ((bt ((rd_T29 y124 x39_1).f1) x61_2) == 10) = true := beq_iff_eq.mpr c39
                    have c39b1 : ((bt ((rd_T29 y124 x39_1).f1) x61_2) != 10) = false := bne_eq_false_iff_eq.mpr c39
                    clear c39
                    have H' := Aside0.mk H
                    clear H
                    have hnb40 := NB110_111.out
                    have hnc40 := NB111_110.out
                    have hcz41_0 : wr.cell? ⟨gb110, 0, none⟩ = some (.int .i64 (wrap64 (Int.tmod (IntKind.u64.wrap (a0_0)) 50))) := (blk_cell BK110.out 0).trans rfl
                    have hcz41_1 : wr.cell? ⟨gb110, 1, none⟩ = some (.int .i64 x111001_1) := (blk_cell BK110.out 1).trans rfl
                    have hcz41_2 : wr.cell? ⟨gb110, 2, none⟩ = some (.int .i64 (wrap64 (Int.tmod (IntKind.u64.wrap (a0_2)) 50))) := (blk_cell BK110.out 2).trans rfl
                    have hcz41_3 : wr.cell? ⟨gb110, 3, none⟩ = some (.int .i64 x111003_1) := (blk_cell BK110.out 3).trans rfl
                    have hcz41_4 : wr.cell? ⟨gb110, 4, none⟩ = some (.slice (some ⟨go25, 0, none⟩) y124.length co29) := (blk_cell BK110.out 4).trans rfl
                    have hfz41_0 := blk_frozen BK110.out 0
                    have hfz41_1 := blk_frozen BK110.out 1
                    have hfz41_2 := blk_frozen BK110.out 2
                    have hfz41_3 := blk_frozen BK110.out 3
                    have hfz41_4 := blk_frozen BK110.out 4
                    have p126 : 0 ≤ (x39_1 : Int) := of_decide_eq_true (by first | (with_reducible assumption) | assumption)
                    have q126 : x39_1 < (y124.length : Int) := of_decide_eq_true (by first | (with_reducible assumption) | assumption)
                    obtain ⟨ad126, e126, hx126_0, hx126_1, hx126_2⟩ := at_T29 (Kd.R_reads' HO_111004.out).2.2 x39_1 p126 q126
                    obtain rfl : (⟨go25, 0, none⟩ : Addr) = ad126 := (by injection e126)
                    (first | simp only [add_plain] at hx126_0 | simp only [add_at] at hx126_0 | simp only [Addr.add, Nat.zero_add] at hx126_0 | skip)
                    (first | simp only [add_plain] at hx126_1 | simp only [add_at] at hx126_1 | simp only [Addr.add, Nat.zero_add] at hx126_1 | skip)
                    (first | simp only [add_plain] at hx126_2 | simp only [add_at] at hx126_2 | simp only [Addr.add, Nat.zero_add] at hx126_2 | skip)
                    replace p126 := eq_true p126
                    replace q126 := eq_true q126
                    have p38 : 0 ≤ (x61_2 : Int) := of_decide_eq_true (by first | (with_reducible assumption) | assumption)
                    have q38 : x61_2 < (((rd_T29 y124 x39_1).f1).size : Int) := of_decide_eq_true (by first | (with_reducible assumption) | assumption)
                    have hx38 := bt_at ((rd_T29 y124 x39_1).f1) x61_2
                    replace p38 := eq_true p38
                    replace q38 := eq_true q38
                    go_wp2
                    (try simp only [← hl111004_2])
                    go_roundg k2
                    case measure => have := HK1.out; have := HK2.out; omega
                    case rel => exact ⟨(x7_2), (wrap64 (x61_2 + 1)), (by first | rfl | (simp; done) | (simp [*]; done) | (simp [wrap64, wrap32]; done)), H', ⟨by have := HK1.out; have := HK2.out; omega⟩, ⟨by (try simp only [hl111004_2]); (with_reducible repeat (first | apply Kd.R_alloc | apply Kd.R_drewN | apply Kd.R_drew)); exact HO_7.out⟩, ⟨by (try simp only [hl111004_2]); (with_reducible repeat (first | apply Kd.R_alloc | apply Kd.R_drewN | apply Kd.R_drew)); exact HO_111004.out⟩, ⟨by (try simp only [hl111004_2]); (with_reducible repeat (first | refine blk_drewN ?_ _ | refine blk_drew ?_ | refine blk_alloc ?_ _)); exact BK110.out⟩, ⟨by (try simp only [hl111004_2]); (with_reducible repeat (first | refine blk_drewN ?_ _ | refine blk_drew ?_ | refine blk_alloc ?_ _)); exact BK111.out⟩, ⟨by repeat (first | (with_reducible first | exact HB.out | apply below_alloc | apply pw_below_drewN | apply below_drew1 | refine below_set ?_ GE110.out | refine below_set ?_ GE111.out) | exact HB.out)⟩⟩
                   ·rw [if_neg c39] at H
                    have c39b0 : ((bt ((rd_T29 y124 x39_1).f1) x61_2) == 10) = false := beq_eq_false_iff_ne.mpr c39
                    have c39b1 : ((bt ((rd_T29 y124 x39_1).f1) x61_2) != 10) = true := bne_iff_ne.mpr c39
                    by_cases c43 : x7_2.length < 140737488355328
                    ·rw [if_pos c43] at H
                     have LMc43 := Aside0.mk c43
                     clear c43
                     obtain ⟨y128, hy128⟩ : ∃ y_ : List Int, y_ = (x7_2 ++ [bt ((rd_T29 y124 x39_1).f1) x61_2]) := ⟨_, rfl⟩
                     replace H : (redpenlaw20_Tidied.l1 k2 x39_1 y128 (y119.length : Int) x39_1 ji26 (wrap64 (x61_2 + 1)) (wrap64 (Int.tmod (IntKind.u64.wrap (a0_0)) 50)) x111001_1 (wrap64 (Int.tmod (IntKind.u64.wrap (a0_2)) 50)) x111003_1 y124) = some (r1, r2, r3, r4, r5) := by first | (rw [hy128]; with_reducible exact H) | (have H2_ := (Option.bind_some _ _).symm.trans H; rw [hy128]; with_reducible exact H2_) | (have H2_ := (Option.bind_some _ _).symm.trans H; with_reducible exact H2_) | with_reducible exact H | (rw [hy128]; exact H) | exact H
                     have Ny128 := Aside0.mk hy128
                     clear hy128
                     have H' := Aside0.mk H
                     clear H
                     have hnb44 := NB110_111.out
                     have hnc44 := NB111_110.out
                     have hcz45_0 : wr.cell? ⟨gb110, 0, none⟩ = some (.int .i64 (wrap64 (Int.tmod (IntKind.u64.wrap (a0_0)) 50))) := (blk_cell BK110.out 0).trans rfl
                     have hcz45_1 : wr.cell? ⟨gb110, 1, none⟩ = some (.int .i64 x111001_1) := (blk_cell BK110.out 1).trans rfl
                     have hcz45_2 : wr.cell? ⟨gb110, 2, none⟩ = some (.int .i64 (wrap64 (Int.tmod (IntKind.u64.wrap (a0_2)) 50))) := (blk_cell BK110.out 2).trans rfl
                     have hcz45_3 : wr.cell? ⟨gb110, 3, none⟩ = some (.int .i64 x111003_1) := (blk_cell BK110.out 3).trans rfl
                     have hcz45_4 : wr.cell? ⟨gb110, 4, none⟩ = some (.slice (some ⟨go25, 0, none⟩) y124.length co29) := (blk_cell BK110.out 4).trans rfl
                     have hfz45_0 := blk_frozen BK110.out 0
                     have hfz45_1 := blk_frozen BK110.out 1
                     have hfz45_2 := blk_frozen BK110.out 2
                     have hfz45_3 := blk_frozen BK110.out 3
                     have hfz45_4 := blk_frozen BK110.out 4
                     have p126 : 0 ≤ (x39_1 : Int) := of_decide_eq_true (by first | (with_reducible assumption) | assumption)
                     have q126 : x39_1 < (y124.length : Int) := of_decide_eq_true (by first | (with_reducible assumption) | assumption)
                     obtain ⟨ad126, e126, hx126_0, hx126_1, hx126_2⟩ := at_T29 (Kd.R_reads' HO_111004.out).2.2 x39_1 p126 q126
                     obtain rfl : (⟨go25, 0, none⟩ : Addr) = ad126 := (by injection e126)
                     (first | simp only [add_plain] at hx126_0 | simp only [add_at] at hx126_0 | simp only [Addr.add, Nat.zero_add] at hx126_0 | skip)
                     (first | simp only [add_plain] at hx126_1 | simp only [add_at] at hx126_1 | simp only [Addr.add, Nat.zero_add] at hx126_1 | skip)
                     (first | simp only [add_plain] at hx126_2 | simp only [add_at] at hx126_2 | simp only [Addr.add, Nat.zero_add] at hx126_2 | skip)
                     replace p126 := eq_true p126
                     replace q126 := eq_true q126
                     have p38 : 0 ≤ (x61_2 : Int) := of_decide_eq_true (by first | (with_reducible assumption) | assumption)
                     have q38 : x61_2 < (((rd_T29 y124 x39_1).f1).size : Int) := of_decide_eq_true (by first | (with_reducible assumption) | assumption)
                     have hx38 := bt_at ((rd_T29 y124 x39_1).f1) x61_2
                     replace p38 := eq_true p38
                     replace q38 := eq_true q38
                     have p127 : 0 ≤ (x39_1 : Int) := of_decide_eq_true (by first | (with_reducible assumption) | assumption)
                     have q127 : x39_1 < (y124.length : Int) := of_decide_eq_true (by first | (with_reducible assumption) | assumption)
                     obtain ⟨ad127, e127, hx127_0, hx127_1, hx127_2⟩ := at_T29 (Kd.R_reads' HO_111004.out).2.2 x39_1 p127 q127
                     obtain rfl : (⟨go25, 0, none⟩ : Addr) = ad127 := (by injection e127)
                     (first | simp only [add_plain] at hx127_0 | simp only [add_at] at hx127_0 | simp only [Addr.add, Nat.zero_add] at hx127_0 | skip)
                     (first | simp only [add_plain] at hx127_1 | simp only [add_at] at hx127_1 | simp only [Addr.add, Nat.zero_add] at hx127_1 | skip)
                     (first | simp only [add_plain] at hx127_2 | simp only [add_at] at hx127_2 | simp only [Addr.add, Nat.zero_add] at hx127_2 | skip)
                     replace p127 := eq_true p127
                     replace q127 := eq_true q127
                     have p42 : 0 ≤ (x61_2 : Int) := of_decide_eq_true (by first | (with_reducible assumption) | assumption)
                     have q42 : x61_2 < (((rd_T29 y124 x39_1).f1).size : Int) := of_decide_eq_true (by first | (with_reducible assumption) | assumption)
                     have hx42 := bt_at ((rd_T29 y124 x39_1).f1) x61_2
                     replace p42 := eq_true p42
                     replace q42 := eq_true q42
                     go_wp2_with (first | ((with_reducible refine gate_builtin (b := .append) (xs := #[.tmp 71, .tmp 78]) rfl ?_); (try (refine gate_guard (by rfl) ?_; dsimp only)); at_builtin; refine Kd.R_append (Kd.int .u8) (w0 := w) w.heap.size rfl (.tmp 71) (.tmp 78) 40 5 (.int .u8 0) 1 rfl Tryd.underlying40 info5 rfl (by decide) (by omega) u7 x7_2 (bt ((rd_T29 y124 x39_1).f1) x61_2) [.int .u8 (bt ((rd_T29 y124 x39_1).f1) x61_2)] (fun _ => True) (fun _ => False) rfl rfl ?aP (fun _ hk => hk.elim) ?aF ?aO ?aB ?aS ?aL ?_; (case aP => exact rfl); (case aB => exact (by repeat (first | (with_reducible first | exact HB.out | apply below_alloc | apply pw_below_drewN | apply below_drew1 | refine below_set ?_ GE110.out | refine below_set ?_ GE111.out) | exact HB.out))); (case aF => exact (fun _ _ => trivial)); (case aO => exact (by (with_reducible repeat (first | apply Kd.R_alloc | apply Kd.R_drewN | apply Kd.R_drew)); exact HO_7.out)); (case aS => exact (below_size (by repeat (first | (with_reducible first | exact HB.out | apply below_alloc | apply pw_below_drewN | apply below_drew1 | refine below_set ?_ GE110.out | refine below_set ?_ GE111.out) | exact HB.out)))); (case aL => have := LMc43.out; omega); intro v129 w46 ho hb hg hat; rw [← Ny128.out] at ho; have n0_ := Aside0.mk (Kd.R_over' (by (with_reducible repeat (first | apply Kd.R_alloc | apply Kd.R_drewN | apply Kd.R_drew)); exact HO_111004.out) (Kd.R_typed (by (with_reducible repeat (first | apply Kd.R_alloc | apply Kd.R_drewN | apply Kd.R_drew)); exact HO_7.out)) (by decide) hg); have n1_ := Aside0.mk (blk_grown (g := gb110) (o := .cells #[.int .i64 (wrap64 (Int.tmod (IntKind.u64.wrap (a0_0)) 50)), .int .i64 x111001_1, .int .i64 (wrap64 (Int.tmod (IntKind.u64.wrap (a0_2)) 50)), .int .i64 x111003_1, .slice (some ⟨go25, 0, none⟩) y124.length co29] 26 (0, 0)) (by (with_reducible repeat (first | refine blk_drewN ?_ _ | refine blk_drew ?_ | refine blk_alloc ?_ _)); exact BK110.out) hg (Kd.R_ne HO_7.out BK110.out (by decide))); have n2_ := Aside0.mk (blk_grown (g := gb111) (o := .cells #[.int .i64 0, .int .i64 0, .int .i64 0, .int .i64 0, .slice none 0 0] 26 (0, 0)) (by (with_reducible repeat (first | refine blk_drewN ?_ _ | refine blk_drew ?_ | refine blk_alloc ?_ _)); exact BK111.out) hg (Kd.R_ne HO_7.out BK111.out (by decide))); have n3_ := Aside0.mk (hb); have n4_ := Aside0.mk (ho); clear HO_111004; clear BK110; clear BK111; clear HB; clear HO_7; have HO_111004 := n0_; have BK110 := n1_; have BK111 := n2_; have HB := n3_; have HO130 := n4_; clear n0_ n1_ n2_ n3_ n4_; clear ho hb hg hat))
                     (try simp only [← hl111004_2])
                     go_roundg k2
                     case measure => have := HK1.out; have := HK2.out; omega
                     case rel => exact ⟨(y128), (wrap64 (x61_2 + 1)), (by first | rfl | (simp; done) | (simp [*]; done) | (simp [wrap64, wrap32]; done)), H', ⟨by have := HK1.out; have := HK2.out; omega⟩, ⟨by (try simp only [hl111004_2]); (with_reducible repeat (first | apply Kd.R_alloc | apply Kd.R_drewN | apply Kd.R_drew)); exact HO130.out⟩, ⟨by (try simp only [hl111004_2]); (with_reducible repeat (first | apply Kd.R_alloc | apply Kd.R_drewN | apply Kd.R_drew)); exact HO_111004.out⟩, ⟨by (try simp only [hl111004_2]); (with_reducible repeat (first | refine blk_drewN ?_ _ | refine blk_drew ?_ | refine blk_alloc ?_ _)); exact BK110.out⟩, ⟨by (try simp only [hl111004_2]); (with_reducible repeat (first | refine blk_drewN ?_ _ | refine blk_drew ?_ | refine blk_alloc ?_ _)); exact BK111.out⟩, ⟨by repeat (first | (with_reducible first | exact HB.out | apply below_alloc | apply pw_below_drewN | apply below_drew1 | refine below_set ?_ GE110.out | refine below_set ?_ GE111.out) | exact HB.out)⟩⟩
                    ·rw [if_neg c43] at H
                     exact absurd H (by simp)
                  ·rw [if_neg c37] at H
                   exact absurd H (by simp)
                 ·rw [if_neg c36] at H
                  exact absurd H (by simp)
                ·rw [if_neg c35] at H
                 exact absurd H (by simp)
               ·rw [if_neg c34] at H
                exact absurd H (by simp)
              ·rw [if_neg c33] at H
               have c33b0 : decide (x61_2 < ji26) = false := decide_eq_false c33
               clear c33
               by_cases c47 : 0 ≤ x39_1
               ·rw [if_pos c47] at H
                have c47b0 : decide (0 ≤ x39_1) = true := decide_eq_true c47
                clear c47
                by_cases c48 : x39_1 < (y124.length : Int)
                ·rw [if_pos c48] at H
                 have c48b0 : decide (x39_1 < (y124.length : Int)) = true := decide_eq_true c48
                 clear c48
                 obtain ⟨y131, hy131⟩ : ∃ y_ : List (S29), y_ = (y124.set (x39_1 : Int).toNat (⟨(rd_T29 y124 x39_1).f0, strOfNums x7_2, (rd_T29 y124 x39_1).f2⟩ : S29)) := ⟨_, rfl⟩
                 replace H : (if (rd_T29 y131 x39_1).f2 = true then (redpenlaw20_Tidied.j2 k2 x39_1 (y119.length : Int) x39_1 (wrap64 (Int.tmod (IntKind.u64.wrap (a0_0)) 50)) x111001_1 (wrap64 (Int.tmod (IntKind.u64.wrap (a0_2)) 50)) x111003_1 (y131.set (x39_1 : Int).toNat (⟨(rd_T29 y131 x39_1).f0, (rd_T29 y131 x39_1).f1, decide ((wrap64 (x39_1 + 2)) ≥ (y124.length : Int))⟩ : S29))) else (redpenlaw20_Tidied.j2 k2 x39_1 (y119.length : Int) x39_1 (wrap64 (Int.tmod (IntKind.u64.wrap (a0_0)) 50)) x111001_1 (wrap64 (Int.tmod (IntKind.u64.wrap (a0_2)) 50)) x111003_1 (y131.set (x39_1 : Int).toNat (⟨(rd_T29 y131 x39_1).f0, (rd_T29 y131 x39_1).f1, false⟩ : S29)))) = some (r1, r2, r3, r4, r5) := by first | (rw [hy131]; with_reducible exact H) | (have H2_ := (Option.bind_some _ _).symm.trans H; rw [hy131]; with_reducible exact H2_) | (have H2_ := (Option.bind_some _ _).symm.trans H; with_reducible exact H2_) | with_reducible exact H | (rw [hy131]; exact H) | exact H
                 have Ny131 := Aside0.mk hy131
                 clear hy131
                 have HC50 := Aside0.mk H
                 clear H
                 have hnb51 := NB110_111.out
                 have hnc51 := NB111_110.out
                 have hcz52_0 : wr.cell? ⟨gb110, 0, none⟩ = some (.int .i64 (wrap64 (Int.tmod (IntKind.u64.wrap (a0_0)) 50))) := (blk_cell BK110.out 0).trans rfl
                 have hcz52_1 : wr.cell? ⟨gb110, 1, none⟩ = some (.int .i64 x111001_1) := (blk_cell BK110.out 1).trans rfl
                 have hcz52_2 : wr.cell? ⟨gb110, 2, none⟩ = some (.int .i64 (wrap64 (Int.tmod (IntKind.u64.wrap (a0_2)) 50))) := (blk_cell BK110.out 2).trans rfl
                 have hcz52_3 : wr.cell? ⟨gb110, 3, none⟩ = some (.int .i64 x111003_1) := (blk_cell BK110.out 3).trans rfl
                 have hcz52_4 : wr.cell? ⟨gb110, 4, none⟩ = some (.slice (some ⟨go25, 0, none⟩) y124.length co29) := (blk_cell BK110.out 4).trans rfl
                 have hfz52_0 := blk_frozen BK110.out 0
                 have hfz52_1 := blk_frozen BK110.out 1
                 have hfz52_2 := blk_frozen BK110.out 2
                 have hfz52_3 := blk_frozen BK110.out 3
                 have hfz52_4 := blk_frozen BK110.out 4
                 have hcv53 := own_string (P := Tryd.prog) Tryd.underlying40 Tryd.underlying5 Tryd.underlying9 (Kd.own_of_R HO_7.out)
                 have hcv53n := fun (n_ : Nat) => own_string (P := Tryd.prog) Tryd.underlying40 Tryd.underlying5 Tryd.underlying9 (Kd.own_of_R (Kd.R_drewN HO_7.out n_))
                 have p49 : 0 ≤ (x39_1 : Int) := of_decide_eq_true (by first | (with_reducible assumption) | assumption)
                 have q49 : (x39_1 : Int) < ((y124.length : Int) : Int) := of_decide_eq_true (by first | (with_reducible assumption) | assumption)
                 obtain ⟨ce49, hcl49, hM49, hcc49, hfr49⟩ := Kd.R_elem HO_111004.out z29 (x39_1 : Int) p49 q49
                 obtain rfl := k29_openM hM49
                 have hx49_0 : wr.cell? ⟨go25, (x39_1 : Int).toNat * 3, none⟩ = some (.int .u8 ((rd_T29 y124 x39_1).f0)) := hcc49 0 _ rfl
                 have hx49_1 : wr.cell? ⟨go25, (x39_1 : Int).toNat * 3 + 1, none⟩ = some (.string ((rd_T29 y124 x39_1).f1)) := hcc49 1 _ rfl
                 have hx49_2 : wr.cell? ⟨go25, (x39_1 : Int).toNat * 3 + 2, none⟩ = some (.bool ((rd_T29 y124 x39_1).f2)) := hcc49 2 _ rfl
                 have hf49_0 : wr.frozen? ⟨go25, (x39_1 : Int).toNat * 3, none⟩ = false := hfr49 0
                 have hf49_1 : wr.frozen? ⟨go25, (x39_1 : Int).toNat * 3 + 1, none⟩ = false := hfr49 1
                 have hf49_2 : wr.frozen? ⟨go25, (x39_1 : Int).toNat * 3 + 2, none⟩ = false := hfr49 2
                 clear hcl49 hcc49 hfr49 hM49
                 replace p49 := eq_true p49
                 replace q49 := eq_true q49
                 have HX54 := Aside0.mk (show Kd.R k29 29 wr w.heap.size (fun _ => True) (.slice (some ⟨go25, 0, none⟩) y124.length co29) y124 from (by (with_reducible repeat (first | apply Kd.R_alloc | apply Kd.R_drewN | apply Kd.R_drew)); exact HO_111004.out))
                 obtain ⟨ce54, hcl54, hM54, hcc54, hfr54⟩ := Kd.R_elem HX54.out z29 (x39_1 : Int) (of_decide_eq_true (by first | (with_reducible assumption) | assumption)) (by have h_ : (x39_1 : Int) < ((y124.length : Int) : Int) := of_decide_eq_true (by first | (with_reducible assumption) | assumption); first | exact h_ | (have e_ := (Kd.R_reads' HO_111004.out).1; omega) | simpa using h_)
                 obtain rfl := k29_openM hM54
                 have HP54 := Kd.R_seg HX54.out (x39_1 : Int) (of_decide_eq_true (by first | (with_reducible assumption) | assumption)) (by have h_ : (x39_1 : Int) < ((y124.length : Int) : Int) := of_decide_eq_true (by first | (with_reducible assumption) | assumption); first | exact h_ | (have e_ := (Kd.R_reads' HO_111004.out).1; omega) | simpa using h_) (seg := [.string (strOfNums x7_2)]) (j := 1) hcl54 hcc54 (show 2 ≤ 3 from by decide) (x' := (⟨(rd_T29 y124 x39_1).f0, strOfNums x7_2, (rd_T29 y124 x39_1).f2⟩ : S29)) (k29_mkM _ _ _ (⟨(rd_T29 y124 x39_1).f0, strOfNums x7_2, (rd_T29 y124 x39_1).f2⟩ : S29) ) (fun _ hk => hk)
                 have hx54_1 := hcc54 1 _ rfl
                 (try simp only [show (k29).sz = 3 from rfl, Nat.mul_one, Nat.add_zero] at hx54_1)
                 have hf54_1 := hfr54 1
                 (try simp only [show (k29).sz = 3 from rfl, Nat.mul_one, Nat.add_zero] at hf54_1)
                 clear hcl54 hcc54 hfr54 hM54
                 go_upto_region 19 with (first | ((with_reducible refine gate_store (t := 9) (p := 85) rfl ?_); refine store_event (t := 9) (p := 85) (v := ?vo_w55) (w1 := (wr.setCell ⟨go25, (x39_1 : Int).toNat * 3 + 1, none⟩ (.string (strOfNums x7_2)))) ?hg ?ho ?hn ?hr ?_; (case ho => rfl); (case hg => rfl); (case hn => rfl); (case hr => first | (go_simp; done) | (go_simp; rfl)); intro w55 hw; have hg : wr.grownBy w55 (some go25) := (by rw [hw]; exact HP54.2); have hp_ : Kd.R k29 29 w55 w.heap.size (fun _ => True) (.slice (some ⟨go25, 0, none⟩) y124.length co29) y131 := (by rw [hw, Ny131.out]; exact HP54.1); clear HP54; have n0_ := Aside0.mk (Kd.R_over' (v := (.slice (some ⟨go25, 0, none⟩) y124.length co29)) (by (with_reducible repeat (first | apply Kd.R_alloc | apply Kd.R_drewN | apply Kd.R_drew)); exact HO_7.out) (Kd.R_typed HO_111004.out) (by decide) hg); have n1_ := Aside0.mk (hp_); have n2_ := Aside0.mk (blk_grown (g := gb110) (o := .cells #[.int .i64 (wrap64 (Int.tmod (IntKind.u64.wrap (a0_0)) 50)), .int .i64 x111001_1, .int .i64 (wrap64 (Int.tmod (IntKind.u64.wrap (a0_2)) 50)), .int .i64 x111003_1, .slice (some ⟨go25, 0, none⟩) y124.length co29] 26 (0, 0)) (by (with_reducible repeat (first | refine blk_drewN ?_ _ | refine blk_drew ?_ | refine blk_alloc ?_ _)); exact BK110.out) hg (Kd.R_ne HO_111004.out BK110.out (by decide))); have n3_ := Aside0.mk (blk_grown (g := gb111) (o := .cells #[.int .i64 0, .int .i64 0, .int .i64 0, .int .i64 0, .slice none 0 0] 26 (0, 0)) (by (with_reducible repeat (first | refine blk_drewN ?_ _ | refine blk_drew ?_ | refine blk_alloc ?_ _)); exact BK111.out) hg (Kd.R_ne HO_111004.out BK111.out (by decide))); have n4_ := Aside0.mk ((by rw [hw]; exact below_set (HB.out) GB25.out : Below w.heap.size w w55)); clear HO_7; clear HO_111004; clear BK110; clear BK111; clear HB; have HO_7 := n0_; have HO_111004 := n1_; have BK110 := n2_; have BK111 := n3_; have HB := n4_; clear n0_ n1_ n2_ n3_ n4_; clear hg hw hp_; have hcz56_0 : w55.cell? ⟨gb110, 0, none⟩ = some (.int .i64 (wrap64 (Int.tmod (IntKind.u64.wrap (a0_0)) 50))) := (blk_cell BK110.out 0).trans rfl; have hcz56_1 : w55.cell? ⟨gb110, 1, none⟩ = some (.int .i64 x111001_1) := (blk_cell BK110.out 1).trans rfl; have hcz56_2 : w55.cell? ⟨gb110, 2, none⟩ = some (.int .i64 (wrap64 (Int.tmod (IntKind.u64.wrap (a0_2)) 50))) := (blk_cell BK110.out 2).trans rfl; have hcz56_3 : w55.cell? ⟨gb110, 3, none⟩ = some (.int .i64 x111003_1) := (blk_cell BK110.out 3).trans rfl; have hcz56_4 : w55.cell? ⟨gb110, 4, none⟩ = some (.slice (some ⟨go25, 0, none⟩) y124.length co29) := (blk_cell BK110.out 4).trans rfl; have hfz56_0 := blk_frozen BK110.out 0; have hfz56_1 := blk_frozen BK110.out 1; have hfz56_2 := blk_frozen BK110.out 2; have hfz56_3 := blk_frozen BK110.out 3; have hfz56_4 := blk_frozen BK110.out 4))
                 (try simp only [Act.put, List.setIfInBounds_toArray, List.set_cons_zero, List.set_cons_succ])
                 go_cut [] (fun wc => ∃ (kq : Nat) (x111004_49 : List (S29)) (u111004 : Value), Aside0 (redpenlaw20_Tidied.j2 kq x39_1 (y119.length : Int) x39_1 (wrap64 (Int.tmod (IntKind.u64.wrap (a0_0)) 50)) x111001_1 (wrap64 (Int.tmod (IntKind.u64.wrap (a0_2)) 50)) x111003_1 x111004_49 = some (r1, r2, r3, r4, r5)) ∧ Aside0 (kq ≤ k2) ∧ Aside0 (Kd.R k29 29 wc w.heap.size (fun _ => True) u111004 x111004_49) ∧ Aside0 (wc.heap[gb110]? = some (.cells #[.int .i64 (wrap64 (Int.tmod (IntKind.u64.wrap (a0_0)) 50)), .int .i64 x111001_1, .int .i64 (wrap64 (Int.tmod (IntKind.u64.wrap (a0_2)) 50)), .int .i64 x111003_1, u111004] 26 (0, 0))) ∧ Aside0 (wc.heap[gb111]? = some (.cells #[.int .i64 0, .int .i64 0, .int .i64 0, .int .i64 0, (.slice none 0 0)] 26 (0, 0))) ∧ Aside0 (Below w.heap.size w wc) ∧ Aside0 (∃ n_ c_, u111004 = .slice (some ⟨go25, 0, none⟩) n_ c_))
                 case first =>
                  have H := HC50.out
                  clear HC50
                  obtain ⟨bq57, hbq57⟩ : ∃ b_ : Bool, b_ = ((rd_T29 y131 x39_1).f2) := ⟨_, rfl⟩
                  replace H : (if bq57 = true then (redpenlaw20_Tidied.j2 k2 x39_1 (y119.length : Int) x39_1 (wrap64 (Int.tmod (IntKind.u64.wrap (a0_0)) 50)) x111001_1 (wrap64 (Int.tmod (IntKind.u64.wrap (a0_2)) 50)) x111003_1 (y131.set (x39_1 : Int).toNat (⟨(rd_T29 y131 x39_1).f0, (rd_T29 y131 x39_1).f1, decide ((wrap64 (x39_1 + 2)) ≥ (y124.length : Int))⟩ : S29))) else (redpenlaw20_Tidied.j2 k2 x39_1 (y119.length : Int) x39_1 (wrap64 (Int.tmod (IntKind.u64.wrap (a0_0)) 50)) x111001_1 (wrap64 (Int.tmod (IntKind.u64.wrap (a0_2)) 50)) x111003_1 (y131.set (x39_1 : Int).toNat (⟨(rd_T29 y131 x39_1).f0, (rd_T29 y131 x39_1).f1, false⟩ : S29)))) = some (r1, r2, r3, r4, r5) := by rw [← hbq57] at H; exact H
                  have Nbq57 := Aside0.mk hbq57
                  clear hbq57
                  (try rw [← Nbq57.out])
                  by_cases c58 : bq57 = true
                  ·subst c58
                   have H1 : (redpenlaw20_Tidied.j2 k2 x39_1 (y119.length : Int) x39_1 (wrap64 (Int.tmod (IntKind.u64.wrap (a0_0)) 50)) x111001_1 (wrap64 (Int.tmod (IntKind.u64.wrap (a0_2)) 50)) x111003_1 (y131.set (x39_1 : Int).toNat (⟨(rd_T29 y131 x39_1).f0, (rd_T29 y131 x39_1).f1, decide ((wrap64 (x39_1 + 2)) ≥ (y124.length : Int))⟩ : S29))) = some (r1, r2, r3, r4, r5) := by rw [if_pos rfl] at H; exact H
                   clear H
                   have H := H1
                   clear H1
                   obtain ⟨y133, hy133⟩ : ∃ y_ : List (S29), y_ = (y131.set (x39_1 : Int).toNat (⟨(rd_T29 y131 x39_1).f0, (rd_T29 y131 x39_1).f1, decide ((wrap64 (x39_1 + 2)) ≥ (y124.length : Int))⟩ : S29)) := ⟨_, rfl⟩
                   replace H : (redpenlaw20_Tidied.j2 k2 x39_1 (y119.length : Int) x39_1 (wrap64 (Int.tmod (IntKind.u64.wrap (a0_0)) 50)) x111001_1 (wrap64 (Int.tmod (IntKind.u64.wrap (a0_2)) 50)) x111003_1 y133) = some (r1, r2, r3, r4, r5) := by first | (rw [hy133]; with_reducible exact H) | (have H2_ := (Option.bind_some _ _).symm.trans H; rw [hy133]; with_reducible exact H2_) | (have H2_ := (Option.bind_some _ _).symm.trans H; with_reducible exact H2_) | with_reducible exact H | (rw [hy133]; exact H) | exact H
                   have Ny133 := Aside0.mk hy133
                   clear hy133
                   have H' := Aside0.mk H
                   clear H
                   have p132 : 0 ≤ (x39_1 : Int) := of_decide_eq_true (by first | (with_reducible assumption) | assumption)
                   have q132 : x39_1 < (y131.length : Int) := (by have h_ : (x39_1 : Int) < ((y124.length : Int) : Int) := of_decide_eq_true (by first | (with_reducible assumption) | assumption); first | (have e_ := (Kd.R_reads' HO_111004.out).1; omega) | simpa only [Ny131.out, List.length_set] using h_)
                   have ql132 : ((x39_1 : Int) < ((y124.length : Int) : Int)) = True := eq_true (of_decide_eq_true (by first | (with_reducible assumption) | assumption))
                   obtain ⟨ad132, e132, hx132_0, hx132_1, hx132_2⟩ := at_T29 (Kd.R_reads' HO_111004.out).2.2 x39_1 p132 q132
                   (try rw [← Nbq57.out] at hx132_2)
                   obtain rfl : (⟨go25, 0, none⟩ : Addr) = ad132 := (by injection e132)
                   (first | simp only [add_plain] at hx132_0 | simp only [add_at] at hx132_0 | simp only [Addr.add, Nat.zero_add] at hx132_0 | skip)
                   (first | simp only [add_plain] at hx132_1 | simp only [add_at] at hx132_1 | simp only [Addr.add, Nat.zero_add] at hx132_1 | skip)
                   (first | simp only [add_plain] at hx132_2 | simp only [add_at] at hx132_2 | simp only [Addr.add, Nat.zero_add] at hx132_2 | skip)
                   replace p132 := eq_true p132
                   replace q132 := eq_true q132
                   have hnb60 := NB110_111.out
                   have hnc60 := NB111_110.out
                   have hcz61_0 : w55.cell? ⟨gb110, 0, none⟩ = some (.int .i64 (wrap64 (Int.tmod (IntKind.u64.wrap (a0_0)) 50))) := (blk_cell BK110.out 0).trans rfl
                   have hcz61_1 : w55.cell? ⟨gb110, 1, none⟩ = some (.int .i64 x111001_1) := (blk_cell BK110.out 1).trans rfl
                   have hcz61_2 : w55.cell? ⟨gb110, 2, none⟩ = some (.int .i64 (wrap64 (Int.tmod (IntKind.u64.wrap (a0_2)) 50))) := (blk_cell BK110.out 2).trans rfl
                   have hcz61_3 : w55.cell? ⟨gb110, 3, none⟩ = some (.int .i64 x111003_1) := (blk_cell BK110.out 3).trans rfl
                   have hcz61_4 : w55.cell? ⟨gb110, 4, none⟩ = some (.slice (some ⟨go25, 0, none⟩) y124.length co29) := (blk_cell BK110.out 4).trans rfl
                   have hfz61_0 := blk_frozen BK110.out 0
                   have hfz61_1 := blk_frozen BK110.out 1
                   have hfz61_2 := blk_frozen BK110.out 2
                   have hfz61_3 := blk_frozen BK110.out 3
                   have hfz61_4 := blk_frozen BK110.out 4
                   have p59 : 0 ≤ (x39_1 : Int) := of_decide_eq_true (by first | (with_reducible assumption) | assumption)
                   have q59 : (x39_1 : Int) < ((y124.length : Int) : Int) := of_decide_eq_true (by first | (with_reducible assumption) | assumption)
                   obtain ⟨ce59, hcl59, hM59, hcc59, hfr59⟩ := Kd.R_elem HO_111004.out z29 (x39_1 : Int) p59 q59
                   obtain rfl := k29_openM hM59
                   have hx59_0 : w55.cell? ⟨go25, (x39_1 : Int).toNat * 3, none⟩ = some (.int .u8 ((rd_T29 y131 x39_1).f0)) := hcc59 0 _ rfl
                   have hx59_1 : w55.cell? ⟨go25, (x39_1 : Int).toNat * 3 + 1, none⟩ = some (.string ((rd_T29 y131 x39_1).f1)) := hcc59 1 _ rfl
                   have hx59_2 : w55.cell? ⟨go25, (x39_1 : Int).toNat * 3 + 2, none⟩ = some (.bool ((rd_T29 y131 x39_1).f2)) := hcc59 2 _ rfl
                   have hf59_0 : w55.frozen? ⟨go25, (x39_1 : Int).toNat * 3, none⟩ = false := hfr59 0
                   have hf59_1 : w55.frozen? ⟨go25, (x39_1 : Int).toNat * 3 + 1, none⟩ = false := hfr59 1
                   have hf59_2 : w55.frozen? ⟨go25, (x39_1 : Int).toNat * 3 + 2, none⟩ = false := hfr59 2
                   clear hcl59 hcc59 hfr59 hM59
                   replace p59 := eq_true p59
                   replace q59 := eq_true q59
                   have HX62 := Aside0.mk (show Kd.R k29 29 w55 w.heap.size (fun _ => True) (.slice (some ⟨go25, 0, none⟩) y124.length co29) y131 from (by (with_reducible repeat (first | apply Kd.R_alloc | apply Kd.R_drewN | apply Kd.R_drew)); exact HO_111004.out))
                   obtain ⟨ce62, hcl62, hM62, hcc62, hfr62⟩ := Kd.R_elem HX62.out z29 (x39_1 : Int) (of_decide_eq_true (by first | (with_reducible assumption) | assumption)) (by have h_ : (x39_1 : Int) < ((y124.length : Int) : Int) := of_decide_eq_true (by first | (with_reducible assumption) | assumption); first | exact h_ | (have e_ := (Kd.R_reads' HO_111004.out).1; omega) | simpa using h_)
                   obtain rfl := k29_openM hM62
                   have HP62 := Kd.R_seg HX62.out (x39_1 : Int) (of_decide_eq_true (by first | (with_reducible assumption) | assumption)) (by have h_ : (x39_1 : Int) < ((y124.length : Int) : Int) := of_decide_eq_true (by first | (with_reducible assumption) | assumption); first | exact h_ | (have e_ := (Kd.R_reads' HO_111004.out).1; omega) | simpa using h_) (seg := [.bool (decide ((wrap64 (x39_1 + 2)) ≥ (y124.length : Int)))]) (j := 2) hcl62 hcc62 (show 3 ≤ 3 from by decide) (x' := (⟨(rd_T29 y131 x39_1).f0, (rd_T29 y131 x39_1).f1, decide ((wrap64 (x39_1 + 2)) ≥ (y124.length : Int))⟩ : S29)) (k29_mkM _ _ _ (⟨(rd_T29 y131 x39_1).f0, (rd_T29 y131 x39_1).f1, decide ((wrap64 (x39_1 + 2)) ≥ (y124.length : Int))⟩ : S29) ) (fun _ hk => hk)
                   have hx62_2 := hcc62 2 _ rfl
                   (try simp only [show (k29).sz = 3 from rfl, Nat.mul_one, Nat.add_zero] at hx62_2)
                   have hf62_2 := hfr62 2
                   (try simp only [show (k29).sz = 3 from rfl, Nat.mul_one, Nat.add_zero] at hf62_2)
                   clear hcl62 hcc62 hfr62 hM62
                   go_wp2_with (first | ((with_reducible refine gate_store (t := 4) (p := 100) rfl ?_); refine store_event (t := 4) (p := 100) (v := ?vo_w63) (w1 := (w55.setCell ⟨go25, (x39_1 : Int).toNat * 3 + 2, none⟩ (.bool (decide ((wrap64 (x39_1 + 2)) ≥ (y124.length : Int)))))) ?hg ?ho ?hn ?hr ?_; (case ho => rfl); (case hg => rfl); (case hn => rfl); (case hr => first | (go_simp; done) | (go_simp; rfl)); intro w63 hw; have hg : w55.grownBy w63 (some go25) := (by rw [hw]; exact HP62.2); have hp_ : Kd.R k29 29 w63 w.heap.size (fun _ => True) (.slice (some ⟨go25, 0, none⟩) y124.length co29) y133 := (by rw [hw, Ny133.out]; exact HP62.1); clear HP62; have n0_ := Aside0.mk (Kd.R_over' (v := (.slice (some ⟨go25, 0, none⟩) y124.length co29)) (by (with_reducible repeat (first | apply Kd.R_alloc | apply Kd.R_drewN | apply Kd.R_drew)); exact HO_7.out) (Kd.R_typed HO_111004.out) (by decide) hg); have n1_ := Aside0.mk (hp_); have n2_ := Aside0.mk (blk_grown (g := gb110) (o := .cells #[.int .i64 (wrap64 (Int.tmod (IntKind.u64.wrap (a0_0)) 50)), .int .i64 x111001_1, .int .i64 (wrap64 (Int.tmod (IntKind.u64.wrap (a0_2)) 50)), .int .i64 x111003_1, .slice (some ⟨go25, 0, none⟩) y124.length co29] 26 (0, 0)) (by (with_reducible repeat (first | refine blk_drewN ?_ _ | refine blk_drew ?_ | refine blk_alloc ?_ _)); exact BK110.out) hg (Kd.R_ne HO_111004.out BK110.out (by decide))); have n3_ := Aside0.mk (blk_grown (g := gb111) (o := .cells #[.int .i64 0, .int .i64 0, .int .i64 0, .int .i64 0, .slice none 0 0] 26 (0, 0)) (by (with_reducible repeat (first | refine blk_drewN ?_ _ | refine blk_drew ?_ | refine blk_alloc ?_ _)); exact BK111.out) hg (Kd.R_ne HO_111004.out BK111.out (by decide))); have n4_ := Aside0.mk ((by rw [hw]; exact below_set (HB.out) GB25.out : Below w.heap.size w w63)); clear HO_7; clear HO_111004; clear BK110; clear BK111; clear HB; have HO_7 := n0_; have HO_111004 := n1_; have BK110 := n2_; have BK111 := n3_; have HB := n4_; clear n0_ n1_ n2_ n3_ n4_; clear hg hw hp_))
                   go_meet
                   case rel => exact ⟨_, (y133), (.slice (some ⟨go25, 0, none⟩) y124.length co29), H', ⟨by have := HK1.out; have := HK2.out; first | omega | exact Nat.le_refl _⟩, ⟨by (try simp only [hl111004_2]); (with_reducible repeat (first | apply Kd.R_alloc | apply Kd.R_drewN | apply Kd.R_drew)); exact HO_111004.out⟩, ⟨by (try simp only [hl111004_2]); (with_reducible repeat (first | refine blk_drewN ?_ _ | refine blk_drew ?_ | refine blk_alloc ?_ _)); exact BK110.out⟩, ⟨by (try simp only [hl111004_2]); (with_reducible repeat (first | refine blk_drewN ?_ _ | refine blk_drew ?_ | refine blk_alloc ?_ _)); exact BK111.out⟩, ⟨by repeat (first | (with_reducible first | exact HB.out | apply below_alloc | apply pw_below_drewN | apply below_drew1 | refine below_set ?_ GE110.out | refine below_set ?_ GE111.out) | exact HB.out)⟩, ⟨⟨_, _, rfl⟩⟩⟩
                  ·replace c58 := Bool.eq_false_iff.mpr c58
                   subst c58
                   have H1 : (redpenlaw20_Tidied.j2 k2 x39_1 (y119.length : Int) x39_1 (wrap64 (Int.tmod (IntKind.u64.wrap (a0_0)) 50)) x111001_1 (wrap64 (Int.tmod (IntKind.u64.wrap (a0_2)) 50)) x111003_1 (y131.set (x39_1 : Int).toNat (⟨(rd_T29 y131 x39_1).f0, (rd_T29 y131 x39_1).f1, false⟩ : S29))) = some (r1, r2, r3, r4, r5) := by rw [if_neg (show ¬ (false = true) by decide)] at H; exact H
                   clear H
                   have H := H1
                   clear H1
                   obtain ⟨y134, hy134⟩ : ∃ y_ : List (S29), y_ = (y131.set (x39_1 : Int).toNat (⟨(rd_T29 y131 x39_1).f0, (rd_T29 y131 x39_1).f1, false⟩ : S29)) := ⟨_, rfl⟩
                   replace H : (redpenlaw20_Tidied.j2 k2 x39_1 (y119.length : Int) x39_1 (wrap64 (Int.tmod (IntKind.u64.wrap (a0_0)) 50)) x111001_1 (wrap64 (Int.tmod (IntKind.u64.wrap (a0_2)) 50)) x111003_1 y134) = some (r1, r2, r3, r4, r5) := by first | (rw [hy134]; with_reducible exact H) | (have H2_ := (Option.bind_some _ _).symm.trans H; rw [hy134]; with_reducible exact H2_) | (have H2_ := (Option.bind_some _ _).symm.trans H; with_reducible exact H2_) | with_reducible exact H | (rw [hy134]; exact H) | exact H
                   have Ny134 := Aside0.mk hy134
                   clear hy134
                   have H' := Aside0.mk H
                   clear H
                   have p132 : 0 ≤ (x39_1 : Int) := of_decide_eq_true (by first | (with_reducible assumption) | assumption)
                   have q132 : x39_1 < (y131.length : Int) := (by have h_ : (x39_1 : Int) < ((y124.length : Int) : Int) := of_decide_eq_true (by first | (with_reducible assumption) | assumption); first | (have e_ := (Kd.R_reads' HO_111004.out).1; omega) | simpa only [Ny131.out, List.length_set] using h_)
                   have ql132 : ((x39_1 : Int) < ((y124.length : Int) : Int)) = True := eq_true (of_decide_eq_true (by first | (with_reducible assumption) | assumption))
                   obtain ⟨ad132, e132, hx132_0, hx132_1, hx132_2⟩ := at_T29 (Kd.R_reads' HO_111004.out).2.2 x39_1 p132 q132
                   (try rw [← Nbq57.out] at hx132_2)
                   obtain rfl : (⟨go25, 0, none⟩ : Addr) = ad132 := (by injection e132)
                   (first | simp only [add_plain] at hx132_0 | simp only [add_at] at hx132_0 | simp only [Addr.add, Nat.zero_add] at hx132_0 | skip)
                   (first | simp only [add_plain] at hx132_1 | simp only [add_at] at hx132_1 | simp only [Addr.add, Nat.zero_add] at hx132_1 | skip)
                   (first | simp only [add_plain] at hx132_2 | simp only [add_at] at hx132_2 | simp only [Addr.add, Nat.zero_add] at hx132_2 | skip)
                   replace p132 := eq_true p132
                   replace q132 := eq_true q132
                   have p64 : 0 ≤ (x39_1 : Int) := of_decide_eq_true (by first | (with_reducible assumption) | assumption)
                   have q64 : (x39_1 : Int) < ((y124.length : Int) : Int) := of_decide_eq_true (by first | (with_reducible assumption) | assumption)
                   obtain ⟨ce64, hcl64, hM64, hcc64, hfr64⟩ := Kd.R_elem HO_111004.out z29 (x39_1 : Int) p64 q64
                   obtain rfl := k29_openM hM64
                   have hx64_0 : w55.cell? ⟨go25, (x39_1 : Int).toNat * 3, none⟩ = some (.int .u8 ((rd_T29 y131 x39_1).f0)) := hcc64 0 _ rfl
                   have hx64_1 : w55.cell? ⟨go25, (x39_1 : Int).toNat * 3 + 1, none⟩ = some (.string ((rd_T29 y131 x39_1).f1)) := hcc64 1 _ rfl
                   have hx64_2 : w55.cell? ⟨go25, (x39_1 : Int).toNat * 3 + 2, none⟩ = some (.bool ((rd_T29 y131 x39_1).f2)) := hcc64 2 _ rfl
                   have hf64_0 : w55.frozen? ⟨go25, (x39_1 : Int).toNat * 3, none⟩ = false := hfr64 0
                   have hf64_1 : w55.frozen? ⟨go25, (x39_1 : Int).toNat * 3 + 1, none⟩ = false := hfr64 1
                   have hf64_2 : w55.frozen? ⟨go25, (x39_1 : Int).toNat * 3 + 2, none⟩ = false := hfr64 2
                   clear hcl64 hcc64 hfr64 hM64
                   replace p64 := eq_true p64
                   replace q64 := eq_true q64
                   have HX65 := Aside0.mk (show Kd.R k29 29 w55 w.heap.size (fun _ => True) (.slice (some ⟨go25, 0, none⟩) y124.length co29) y131 from (by (with_reducible repeat (first | apply Kd.R_alloc | apply Kd.R_drewN | apply Kd.R_drew)); exact HO_111004.out))
                   obtain ⟨ce65, hcl65, hM65, hcc65, hfr65⟩ := Kd.R_elem HX65.out z29 (x39_1 : Int) (of_decide_eq_true (by first | (with_reducible assumption) | assumption)) (by have h_ : (x39_1 : Int) < ((y124.length : Int) : Int) := of_decide_eq_true (by first | (with_reducible assumption) | assumption); first | exact h_ | (have e_ := (Kd.R_reads' HO_111004.out).1; omega) | simpa using h_)
                   obtain rfl := k29_openM hM65
                   have HP65 := Kd.R_seg HX65.out (x39_1 : Int) (of_decide_eq_true (by first | (with_reducible assumption) | assumption)) (by have h_ : (x39_1 : Int) < ((y124.length : Int) : Int) := of_decide_eq_true (by first | (with_reducible assumption) | assumption); first | exact h_ | (have e_ := (Kd.R_reads' HO_111004.out).1; omega) | simpa using h_) (seg := [.bool false]) (j := 2) hcl65 hcc65 (show 3 ≤ 3 from by decide) (x' := (⟨(rd_T29 y131 x39_1).f0, (rd_T29 y131 x39_1).f1, false⟩ : S29)) (k29_mkM _ _ _ (⟨(rd_T29 y131 x39_1).f0, (rd_T29 y131 x39_1).f1, false⟩ : S29) ) (fun _ hk => hk)
                   have hx65_2 := hcc65 2 _ rfl
                   (try simp only [show (k29).sz = 3 from rfl, Nat.mul_one, Nat.add_zero] at hx65_2)
                   have hf65_2 := hfr65 2
                   (try simp only [show (k29).sz = 3 from rfl, Nat.mul_one, Nat.add_zero] at hf65_2)
                   clear hcl65 hcc65 hfr65 hM65
                   go_wp2_with (first | ((with_reducible refine gate_store (t := 4) (p := 100) rfl ?_); refine store_event (t := 4) (p := 100) (v := ?vo_w66) (w1 := (w55.setCell ⟨go25, (x39_1 : Int).toNat * 3 + 2, none⟩ (.bool false))) ?hg ?ho ?hn ?hr ?_; (case ho => rfl); (case hg => rfl); (case hn => rfl); (case hr => first | (go_simp; done) | (go_simp; rfl)); intro w66 hw; have hg : w55.grownBy w66 (some go25) := (by rw [hw]; exact HP65.2); have hp_ : Kd.R k29 29 w66 w.heap.size (fun _ => True) (.slice (some ⟨go25, 0, none⟩) y124.length co29) y134 := (by rw [hw, Ny134.out]; exact HP65.1); clear HP65; have n0_ := Aside0.mk (Kd.R_over' (v := (.slice (some ⟨go25, 0, none⟩) y124.length co29)) (by (with_reducible repeat (first | apply Kd.R_alloc | apply Kd.R_drewN | apply Kd.R_drew)); exact HO_7.out) (Kd.R_typed HO_111004.out) (by decide) hg); have n1_ := Aside0.mk (hp_); have n2_ := Aside0.mk (blk_grown (g := gb110) (o := .cells #[.int .i64 (wrap64 (Int.tmod (IntKind.u64.wrap (a0_0)) 50)), .int .i64 x111001_1, .int .i64 (wrap64 (Int.tmod (IntKind.u64.wrap (a0_2)) 50)), .int .i64 x111003_1, .slice (some ⟨go25, 0, none⟩) y124.length co29] 26 (0, 0)) (by (with_reducible repeat (first | refine blk_drewN ?_ _ | refine blk_drew ?_ | refine blk_alloc ?_ _)); exact BK110.out) hg (Kd.R_ne HO_111004.out BK110.out (by decide))); have n3_ := Aside0.mk (blk_grown (g := gb111) (o := .cells #[.int .i64 0, .int .i64 0, .int .i64 0, .int .i64 0, .slice none 0 0] 26 (0, 0)) (by (with_reducible repeat (first | refine blk_drewN ?_ _ | refine blk_drew ?_ | refine blk_alloc ?_ _)); exact BK111.out) hg (Kd.R_ne HO_111004.out BK111.out (by decide))); have n4_ := Aside0.mk ((by rw [hw]; exact below_set (HB.out) GB25.out : Below w.heap.size w w66)); clear HO_7; clear HO_111004; clear BK110; clear BK111; clear HB; have HO_7 := n0_; have HO_111004 := n1_; have BK110 := n2_; have BK111 := n3_; have HB := n4_; clear n0_ n1_ n2_ n3_ n4_; clear hg hw hp_))
                   go_meet
                   case rel => exact ⟨_, (y134), (.slice (some ⟨go25, 0, none⟩) y124.length co29), H', ⟨by have := HK1.out; have := HK2.out; first | omega | exact Nat.le_refl _⟩, ⟨by (try simp only [hl111004_2]); (with_reducible repeat (first | apply Kd.R_alloc | apply Kd.R_drewN | apply Kd.R_drew)); exact HO_111004.out⟩, ⟨by (try simp only [hl111004_2]); (with_reducible repeat (first | refine blk_drewN ?_ _ | refine blk_drew ?_ | refine blk_alloc ?_ _)); exact BK110.out⟩, ⟨by (try simp only [hl111004_2]); (with_reducible repeat (first | refine blk_drewN ?_ _ | refine blk_drew ?_ | refine blk_alloc ?_ _)); exact BK111.out⟩, ⟨by repeat (first | (with_reducible first | exact HB.out | apply below_alloc | apply pw_below_drewN | apply below_drew1 | refine below_set ?_ GE110.out | refine below_set ?_ GE111.out) | exact HB.out)⟩, ⟨⟨_, _, rfl⟩⟩⟩
                 case rest =>
                  clear HC50
                  try clear c1
                  try clear p1
                  try clear q1
                  try clear hx1
                  try clear c2
                  try clear p2
                  try clear q2
                  try clear hx2
                  try clear hf2
                  try clear c3
                  try clear p3
                  try clear q3
                  try clear hx3
                  try clear hf3
                  try clear c4
                  try clear c4b0
                  try clear c4b1
                  try clear p4
                  try clear q4
                  try clear hx4
                  try clear hf4
                  try clear c5
                  try clear c5b0
                  try clear c5b1
                  try clear p5
                  try clear q5
                  try clear hx5
                  try clear hcv5
                  try clear hf5
                  try clear c6
                  try clear p6
                  try clear q6
                  try clear hx6
                  try clear hf6
                  try clear c7
                  try clear c12
                  try clear p12
                  try clear q12
                  try clear hx12
                  try clear p13
                  try clear q13
                  try clear hx13
                  try clear q14
                  try clear c15
                  try clear c18
                  try clear c18b0
                  try clear c19
                  try clear c19b0
                  try clear c20
                  try clear c20b0
                  try clear c22
                  try clear c22b0
                  try clear c23
                  try clear c23b0
                  try clear p24
                  try clear q24
                  try clear hx24
                  try clear c25
                  try clear p25
                  try clear q25
                  try clear hx25
                  try clear hf25
                  try clear c27
                  try clear c30
                  try clear hx30
                  try clear hf30
                  try clear c33
                  try clear c33b0
                  try clear c34
                  try clear c34b0
                  try clear c35
                  try clear c35b0
                  try clear c36
                  try clear c36b0
                  try clear c37
                  try clear c37b0
                  try clear p38
                  try clear q38
                  try clear hx38
                  try clear c39
                  try clear c39b0
                  try clear c39b1
                  try clear c40
                  try clear p42
                  try clear q42
                  try clear hx42
                  try clear c43
                  try clear c44
                  try clear c47
                  try clear c47b0
                  try clear c48
                  try clear c48b0
                  try clear c49
                  try clear p49
                  try clear q49
                  try clear hx49
                  try clear hf49
                  try clear c51
                  try clear hcv53
                  try clear c54
                  try clear hx54
                  try clear hf54
                  try clear q57
                  try clear c58
                  try clear c59
                  try clear p59
                  try clear q59
                  try clear hx59
                  try clear hf59
                  try clear c60
                  try clear c62
                  try clear hx62
                  try clear hf62
                  try clear c64
                  try clear p64
                  try clear q64
                  try clear hx64
                  try clear hf64
                  try clear c65
                  try clear hx65
                  try clear hf65
                  try clear hcz13_0
                  try clear hcz13_1
                  try clear hcz13_2
                  try clear hcz13_3
                  try clear hcz13_4
                  try clear hcz17_0
                  try clear hcz17_1
                  try clear hcz17_2
                  try clear hcz17_3
                  try clear hcz17_4
                  try clear hcz28_0
                  try clear hcz28_1
                  try clear hcz28_2
                  try clear hcz28_3
                  try clear hcz28_4
                  try clear hcz32_0
                  try clear hcz32_1
                  try clear hcz32_2
                  try clear hcz32_3
                  try clear hcz32_4
                  try clear hcz41_0
                  try clear hcz41_1
                  try clear hcz41_2
                  try clear hcz41_3
                  try clear hcz41_4
                  try clear hcz45_0
                  try clear hcz45_1
                  try clear hcz45_2
                  try clear hcz45_3
                  try clear hcz45_4
                  try clear hcz52_0
                  try clear hcz52_1
                  try clear hcz52_2
                  try clear hcz52_3
                  try clear hcz52_4
                  try clear hcz56_0
                  try clear hcz56_1
                  try clear hcz56_2
                  try clear hcz56_3
                  try clear hcz56_4
                  try clear hcz61_0
                  try clear hcz61_1
                  try clear hcz61_2
                  try clear hcz61_3
                  try clear hcz61_4
                  try clear hfz13_0
                  try clear hfz13_1
                  try clear hfz13_2
                  try clear hfz13_3
                  try clear hfz13_4
                  try clear hfz17_0
                  try clear hfz17_1
                  try clear hfz17_2
                  try clear hfz17_3
                  try clear hfz17_4
                  try clear hfz28_0
                  try clear hfz28_1
                  try clear hfz28_2
                  try clear hfz28_3
                  try clear hfz28_4
                  try clear hfz32_0
                  try clear hfz32_1
                  try clear hfz32_2
                  try clear hfz32_3
                  try clear hfz32_4
                  try clear hfz41_0
                  try clear hfz41_1
                  try clear hfz41_2
                  try clear hfz41_3
                  try clear hfz41_4
                  try clear hfz45_0
                  try clear hfz45_1
                  try clear hfz45_2
                  try clear hfz45_3
                  try clear hfz45_4
                  try clear hfz52_0
                  try clear hfz52_1
                  try clear hfz52_2
                  try clear hfz52_3
                  try clear hfz52_4
                  try clear hfz56_0
                  try clear hfz56_1
                  try clear hfz56_2
                  try clear hfz56_3
                  try clear hfz56_4
                  try clear hfz61_0
                  try clear hfz61_1
                  try clear hfz61_2
                  try clear hfz61_3
                  try clear hfz61_4
                  try clear hx122_0
                  try clear hx122_1
                  try clear hx122_2
                  try clear hx123_0
                  try clear hx123_1
                  try clear hx123_2
                  try clear hx125_0
                  try clear hx125_1
                  try clear hx125_2
                  try clear hx126_0
                  try clear hx126_1
                  try clear hx126_2
                  try clear hx127_0
                  try clear hx127_1
                  try clear hx127_2
                  try clear hx132_0
                  try clear hx132_1
                  try clear hx132_2
                  try clear hx25_0
                  try clear hx25_1
                  try clear hx25_2
                  try clear hx30_0
                  try clear hx49_0
                  try clear hx49_1
                  try clear hx49_2
                  try clear hx54_1
                  try clear hx59_0
                  try clear hx59_1
                  try clear hx59_2
                  try clear hx62_2
                  try clear hx64_0
                  try clear hx64_1
                  try clear hx64_2
                  try clear hx65_2
                  try clear p1
                  try clear p12
                  try clear p122
                  try clear p123
                  try clear p125
                  try clear p126
                  try clear p127
                  try clear p132
                  try clear p2
                  try clear p24
                  try clear p25
                  try clear p38
                  try clear p42
                  try clear p49
                  try clear p59
                  try clear p6
                  try clear p64
                  try clear q1
                  try clear q12
                  try clear q122
                  try clear q123
                  try clear q125
                  try clear q126
                  try clear q127
                  try clear q132
                  try clear q14
                  try clear q2
                  try clear q24
                  try clear q25
                  try clear q38
                  try clear q42
                  try clear q49
                  try clear q59
                  try clear q64
                  obtain ⟨kq, x111004_49, u111004, HA, HJ49, HO_111004, BK110, BK111, HB, HU_⟩ := hcut
                  cases kq with
                  | zero => exact absurd HA.out (by simp [redpenlaw20_Tidied.j2])
                  | succ kj49 =>
                   have H := HA.out
                   clear HA
                   simp only [redpenlaw20_Tidied.j2] at H
                   by_cases c67 : 0 ≤ x39_1
                   ·rw [if_pos c67] at H
                    have c67b0 : decide (0 ≤ x39_1) = true := decide_eq_true c67
                    clear c67
                    by_cases c68 : x39_1 < (x111004_49.length : Int)
                    ·rw [if_pos c68] at H
                     have c68b0 : decide (x39_1 < (x111004_49.length : Int)) = true := decide_eq_true c68
                     clear c68
                     by_cases c69 : ((rd_T29 x111004_49 x39_1).f0) = 43
                     ·rw [if_pos c69] at H
                      have c69b0 : (((rd_T29 x111004_49 x39_1).f0) == 43) = true := beq_iff_eq.mpr c69
                      have c69b1 : (((rd_T29 x111004_49 x39_1).f0) != 43) = false := bne_eq_false_iff_eq.mpr c69
                      clear c69
                      by_cases c70 : ((rd_T29 x111004_49 x39_1).f0) = 45
                      ·rw [if_pos c70] at H
                       have c70b0 : (((rd_T29 x111004_49 x39_1).f0) == 45) = true := beq_iff_eq.mpr c70
                       have c70b1 : (((rd_T29 x111004_49 x39_1).f0) != 45) = false := bne_eq_false_iff_eq.mpr c70
                       clear c70
                       have H' := Aside0.mk H
                       clear H
                       have hnb71 := NB110_111.out
                       have hnc71 := NB111_110.out
                       have hcz72_0 : wc.cell? ⟨gb110, 0, none⟩ = some (.int .i64 (wrap64 (Int.tmod (IntKind.u64.wrap (a0_0)) 50))) := (blk_cell BK110.out 0).trans rfl
                       have hcz72_1 : wc.cell? ⟨gb110, 1, none⟩ = some (.int .i64 x111001_1) := (blk_cell BK110.out 1).trans rfl
                       have hcz72_2 : wc.cell? ⟨gb110, 2, none⟩ = some (.int .i64 (wrap64 (Int.tmod (IntKind.u64.wrap (a0_2)) 50))) := (blk_cell BK110.out 2).trans rfl
                       have hcz72_3 : wc.cell? ⟨gb110, 3, none⟩ = some (.int .i64 x111003_1) := (blk_cell BK110.out 3).trans rfl
                       have hcz72_4 : wc.cell? ⟨gb110, 4, none⟩ = some (u111004) := (blk_cell BK110.out 4).trans rfl
                       have hfz72_0 := blk_frozen BK110.out 0
                       have hfz72_1 := blk_frozen BK110.out 1
                       have hfz72_2 := blk_frozen BK110.out 2
                       have hfz72_3 := blk_frozen BK110.out 3
                       have hfz72_4 := blk_frozen BK110.out 4
                       obtain ⟨Ao73, co73, eo73⟩ := Kd.R_slice HO_111004.out
                       subst eo73
                       have p135 : 0 ≤ (x39_1 : Int) := of_decide_eq_true (by first | (with_reducible assumption) | assumption)
                       have q135 : x39_1 < (x111004_49.length : Int) := of_decide_eq_true (by first | (with_reducible assumption) | assumption)
                       obtain ⟨ad135, e135, hx135_0, hx135_1, hx135_2⟩ := at_T29 (Kd.R_reads' HO_111004.out).2.2 x39_1 p135 q135
                       cases e135
                       obtain ⟨_, _, hu_⟩ := HU_.out
                       obtain rfl : (⟨go25, 0, none⟩ : Addr) = ad135 := (by injection hu_ with hu_; exact (Option.some.inj hu_).symm)
                       clear hu_
                       (first | simp only [add_plain] at hx135_0 | skip)
                       (first | simp only [add_plain] at hx135_1 | skip)
                       (first | simp only [add_plain] at hx135_2 | skip)
                       replace p135 := eq_true p135
                       replace q135 := eq_true q135
                       have p136 : 0 ≤ (x39_1 : Int) := of_decide_eq_true (by first | (with_reducible assumption) | assumption)
                       have q136 : x39_1 < (x111004_49.length : Int) := of_decide_eq_true (by first | (with_reducible assumption) | assumption)
                       obtain ⟨ad136, e136, hx136_0, hx136_1, hx136_2⟩ := at_T29 (Kd.R_reads' HO_111004.out).2.2 x39_1 p136 q136
                       obtain rfl : (⟨go25, 0, none⟩ : Addr) = ad136 := (by injection e136)
                       (first | simp only [add_plain] at hx136_0 | skip)
                       (first | simp only [add_plain] at hx136_1 | skip)
                       (first | simp only [add_plain] at hx136_2 | skip)
                       replace p136 := eq_true p136
                       replace q136 := eq_true q136
                       go_wp2
                       (try simp only [← hl111004_2])
                       go_roundg kj49
                       case measure => have := HK1.out; have := HK2.out; have := HJ49.out; omega
                       case rel => exact ⟨(wrap64 (x39_1 + 1)), (x111001_1), (x111003_1), (x111004_49), (.slice (some (⟨go25, 0, none⟩ : Addr)) x111004_49.length co73), (by first | rfl | (simp; done) | (simp [*]; done) | (simp [wrap64, wrap32]; done)), H', ⟨by have := HK1.out; have := HK2.out; have := HJ49.out; omega⟩, ⟨by (try simp only [hl111004_2]); (with_reducible repeat (first | apply Kd.R_alloc | apply Kd.R_drewN | apply Kd.R_drew)); exact HO_111004.out⟩, ⟨by (try simp only [hl111004_2]); (with_reducible repeat (first | refine blk_drewN ?_ _ | refine blk_drew ?_ | refine blk_alloc ?_ _)); exact BK110.out⟩, ⟨by (try simp only [hl111004_2]); (with_reducible repeat (first | refine blk_drewN ?_ _ | refine blk_drew ?_ | refine blk_alloc ?_ _)); exact BK111.out⟩, ⟨by repeat (first | (with_reducible first | exact HB.out | apply below_alloc | apply pw_below_drewN | apply below_drew1 | refine below_set ?_ GE110.out | refine below_set ?_ GE111.out) | exact HB.out)⟩⟩
                      ·rw [if_neg c70] at H
                       have c70b0 : (((rd_T29 x111004_49 x39_1).f0) == 45) = false := beq_eq_false_iff_ne.mpr c70
                       have c70b1 : (((rd_T29 x111004_49 x39_1).f0) != 45) = true := bne_iff_ne.mpr c70
                       have H' := Aside0.mk H
                       clear H
                       have hnb74 := NB110_111.out
                       have hnc74 := NB111_110.out
                       have hcz75_0 : wc.cell? ⟨gb110, 0, none⟩ = some (.int .i64 (wrap64 (Int.tmod (IntKind.u64.wrap (a0_0)) 50))) := (blk_cell BK110.out 0).trans rfl
                       have hcz75_1 : wc.cell? ⟨gb110, 1, none⟩ = some (.int .i64 x111001_1) := (blk_cell BK110.out 1).trans rfl
                       have hcz75_2 : wc.cell? ⟨gb110, 2, none⟩ = some (.int .i64 (wrap64 (Int.tmod (IntKind.u64.wrap (a0_2)) 50))) := (blk_cell BK110.out 2).trans rfl
                       have hcz75_3 : wc.cell? ⟨gb110, 3, none⟩ = some (.int .i64 x111003_1) := (blk_cell BK110.out 3).trans rfl
                       have hcz75_4 : wc.cell? ⟨gb110, 4, none⟩ = some (u111004) := (blk_cell BK110.out 4).trans rfl
                       have hfz75_0 := blk_frozen BK110.out 0
                       have hfz75_1 := blk_frozen BK110.out 1
                       have hfz75_2 := blk_frozen BK110.out 2
                       have hfz75_3 := blk_frozen BK110.out 3
                       have hfz75_4 := blk_frozen BK110.out 4
                       obtain ⟨Ao76, co76, eo76⟩ := Kd.R_slice HO_111004.out
                       subst eo76
                       have p135 : 0 ≤ (x39_1 : Int) := of_decide_eq_true (by first | (with_reducible assumption) | assumption)
                       have q135 : x39_1 < (x111004_49.length : Int) := of_decide_eq_true (by first | (with_reducible assumption) | assumption)
                       obtain ⟨ad135, e135, hx135_0, hx135_1, hx135_2⟩ := at_T29 (Kd.R_reads' HO_111004.out).2.2 x39_1 p135 q135
                       cases e135
                       obtain ⟨_, _, hu_⟩ := HU_.out
                       obtain rfl : (⟨go25, 0, none⟩ : Addr) = ad135 := (by injection hu_ with hu_; exact (Option.some.inj hu_).symm)
                       clear hu_
                       (first | simp only [add_plain] at hx135_0 | skip)
                       (first | simp only [add_plain] at hx135_1 | skip)
                       (first | simp only [add_plain] at hx135_2 | skip)
                       replace p135 := eq_true p135
                       replace q135 := eq_true q135
                       have p136 : 0 ≤ (x39_1 : Int) := of_decide_eq_true (by first | (with_reducible assumption) | assumption)
                       have q136 : x39_1 < (x111004_49.length : Int) := of_decide_eq_true (by first | (with_reducible assumption) | assumption)
                       obtain ⟨ad136, e136, hx136_0, hx136_1, hx136_2⟩ := at_T29 (Kd.R_reads' HO_111004.out).2.2 x39_1 p136 q136
                       obtain rfl : (⟨go25, 0, none⟩ : Addr) = ad136 := (by injection e136)
                       (first | simp only [add_plain] at hx136_0 | skip)
                       (first | simp only [add_plain] at hx136_1 | skip)
                       (first | simp only [add_plain] at hx136_2 | skip)
                       replace p136 := eq_true p136
                       replace q136 := eq_true q136
                       go_wp2
                       (try simp only [← hl111004_2])
                       go_roundg kj49
                       case measure => have := HK1.out; have := HK2.out; have := HJ49.out; omega
                       case rel => exact ⟨(wrap64 (x39_1 + 1)), (x111001_1), (wrap64 (x111003_1 + 1)), (x111004_49), (.slice (some (⟨go25, 0, none⟩ : Addr)) x111004_49.length co76), (by first | rfl | (simp; done) | (simp [*]; done) | (simp [wrap64, wrap32]; done)), H', ⟨by have := HK1.out; have := HK2.out; have := HJ49.out; omega⟩, ⟨by (try simp only [hl111004_2]); (with_reducible repeat (first | apply Kd.R_alloc | apply Kd.R_drewN | apply Kd.R_drew)); exact Kd.R_mono (Kd.R_far (p := ⟨gb110, 3, none⟩) (Kd.R_types HO_111004.out BK110.out (by decide)) (fun _ hk => hk.2) (.int .i64 (wrap64 (x111003_1 + 1)))) (fun _ hk => trivial)⟩, ⟨by (try simp only [hl111004_2]); (with_reducible repeat (first | refine blk_drewN ?_ _ | refine blk_drew ?_ | refine blk_alloc ?_ _)); refine blk_put (cs := #[.int .i64 (wrap64 (Int.tmod (IntKind.u64.wrap (a0_0)) 50)), .int .i64 x111001_1, .int .i64 (wrap64 (Int.tmod (IntKind.u64.wrap (a0_2)) 50)), .int .i64 x111003_1, .slice (some (⟨go25, 0, none⟩ : Addr)) x111004_49.length co76]) ?_ 3 _ rfl; (with_reducible repeat (first | refine blk_drewN ?_ _ | refine blk_drew ?_ | refine blk_alloc ?_ _)); exact BK110.out⟩, ⟨by (try simp only [hl111004_2]); (with_reducible repeat (first | refine blk_drewN ?_ _ | refine blk_drew ?_ | refine blk_alloc ?_ _)); refine blk_far ?_ NB111_110.out _; (with_reducible repeat (first | refine blk_drewN ?_ _ | refine blk_drew ?_ | refine blk_alloc ?_ _)); exact BK111.out⟩, ⟨by repeat (first | (with_reducible first | exact HB.out | apply below_alloc | apply pw_below_drewN | apply below_drew1 | refine below_set ?_ GE110.out | refine below_set ?_ GE111.out) | exact HB.out)⟩⟩
                     ·rw [if_neg c69] at H
                      have c69b0 : (((rd_T29 x111004_49 x39_1).f0) == 43) = false := beq_eq_false_iff_ne.mpr c69
                      have c69b1 : (((rd_T29 x111004_49 x39_1).f0) != 43) = true := bne_iff_ne.mpr c69
                      by_cases c77 : ((rd_T29 x111004_49 x39_1).f0) = 45
                      ·rw [if_pos c77] at H
                       have c77b0 : (((rd_T29 x111004_49 x39_1).f0) == 45) = true := beq_iff_eq.mpr c77
                       have c77b1 : (((rd_T29 x111004_49 x39_1).f0) != 45) = false := bne_eq_false_iff_eq.mpr c77
                       clear c77
                       have H' := Aside0.mk H
                       clear H
                       have hnb78 := NB110_111.out
                       have hnc78 := NB111_110.out
                       have hcz79_0 : wc.cell? ⟨gb110, 0, none⟩ = some (.int .i64 (wrap64 (Int.tmod (IntKind.u64.wrap (a0_0)) 50))) := (blk_cell BK110.out 0).trans rfl
                       have hcz79_1 : wc.cell? ⟨gb110, 1, none⟩ = some (.int .i64 x111001_1) := (blk_cell BK110.out 1).trans rfl
                       have hcz79_2 : wc.cell? ⟨gb110, 2, none⟩ = some (.int .i64 (wrap64 (Int.tmod (IntKind.u64.wrap (a0_2)) 50))) := (blk_cell BK110.out 2).trans rfl
                       have hcz79_3 : wc.cell? ⟨gb110, 3, none⟩ = some (.int .i64 x111003_1) := (blk_cell BK110.out 3).trans rfl
                       have hcz79_4 : wc.cell? ⟨gb110, 4, none⟩ = some (u111004) := (blk_cell BK110.out 4).trans rfl
                       have hfz79_0 := blk_frozen BK110.out 0
                       have hfz79_1 := blk_frozen BK110.out 1
                       have hfz79_2 := blk_frozen BK110.out 2
                       have hfz79_3 := blk_frozen BK110.out 3
                       have hfz79_4 := blk_frozen BK110.out 4
                       obtain ⟨Ao80, co80, eo80⟩ := Kd.R_slice HO_111004.out
                       subst eo80
                       have p135 : 0 ≤ (x39_1 : Int) := of_decide_eq_true (by first | (with_reducible assumption) | assumption)
                       have q135 : x39_1 < (x111004_49.length : Int) := of_decide_eq_true (by first | (with_reducible assumption) | assumption)
                       obtain ⟨ad135, e135, hx135_0, hx135_1, hx135_2⟩ := at_T29 (Kd.R_reads' HO_111004.out).2.2 x39_1 p135 q135
                       cases e135
                       obtain ⟨_, _, hu_⟩ := HU_.out
                       obtain rfl : (⟨go25, 0, none⟩ : Addr) = ad135 := (by injection hu_ with hu_; exact (Option.some.inj hu_).symm)
                       clear hu_
                       (first | simp only [add_plain] at hx135_0 | skip)
                       (first | simp only [add_plain] at hx135_1 | skip)
                       (first | simp only [add_plain] at hx135_2 | skip)
                       replace p135 := eq_true p135
                       replace q135 := eq_true q135
                       have p137 : 0 ≤ (x39_1 : Int) := of_decide_eq_true (by first | (with_reducible assumption) | assumption)
                       have q137 : x39_1 < (x111004_49.length : Int) := of_decide_eq_true (by first | (with_reducible assumption) | assumption)
                       obtain ⟨ad137, e137, hx137_0, hx137_1, hx137_2⟩ := at_T29 (Kd.R_reads' HO_111004.out).2.2 x39_1 p137 q137
                       obtain rfl : (⟨go25, 0, none⟩ : Addr) = ad137 := (by injection e137)
                       (first | simp only [add_plain] at hx137_0 | skip)
                       (first | simp only [add_plain] at hx137_1 | skip)
                       (first | simp only [add_plain] at hx137_2 | skip)
                       have hn137_0 : (⟨go25, 0, none⟩ : Addr).block ≠ gb110 := Kd.own_blk (Kd.R_ne HO_111004.out BK110.out (by decide))
                       replace hx137_0 := (cell_far (p := ⟨gb110, 1, none⟩) (by first | (rw [add_block]; exact hn137_0) | (show (Addr.add _ _).block ≠ _; rw [add_block]; exact hn137_0) | exact hn137_0) (.int .i64 (wrap64 (x111001_1 + 1)))).trans hx137_0
                       replace hx137_1 := (cell_far (p := ⟨gb110, 1, none⟩) (by first | (rw [add_block]; exact hn137_0) | (show (Addr.add _ _).block ≠ _; rw [add_block]; exact hn137_0) | exact hn137_0) (.int .i64 (wrap64 (x111001_1 + 1)))).trans hx137_1
                       replace hx137_2 := (cell_far (p := ⟨gb110, 1, none⟩) (by first | (rw [add_block]; exact hn137_0) | (show (Addr.add _ _).block ≠ _; rw [add_block]; exact hn137_0) | exact hn137_0) (.int .i64 (wrap64 (x111001_1 + 1)))).trans hx137_2
                       clear hn137_0
                       replace p137 := eq_true p137
                       replace q137 := eq_true q137
                       go_wp2
                       (try simp only [← hl111004_2])
                       go_roundg kj49
                       case measure => have := HK1.out; have := HK2.out; have := HJ49.out; omega
                       case rel => exact ⟨(wrap64 (x39_1 + 1)), (wrap64 (x111001_1 + 1)), (x111003_1), (x111004_49), (.slice (some (⟨go25, 0, none⟩ : Addr)) x111004_49.length co80), (by first | rfl | (simp; done) | (simp [*]; done) | (simp [wrap64, wrap32]; done)), H', ⟨by have := HK1.out; have := HK2.out; have := HJ49.out; omega⟩, ⟨by (try simp only [hl111004_2]); (with_reducible repeat (first | apply Kd.R_alloc | apply Kd.R_drewN | apply Kd.R_drew)); exact Kd.R_mono (Kd.R_far (p := ⟨gb110, 1, none⟩) (Kd.R_types HO_111004.out BK110.out (by decide)) (fun _ hk => hk.2) (.int .i64 (wrap64 (x111001_1 + 1)))) (fun _ hk => trivial)⟩, ⟨by (try simp only [hl111004_2]); (with_reducible repeat (first | refine blk_drewN ?_ _ | refine blk_drew ?_ | refine blk_alloc ?_ _)); refine blk_put (cs := #[.int .i64 (wrap64 (Int.tmod (IntKind.u64.wrap (a0_0)) 50)), .int .i64 x111001_1, .int .i64 (wrap64 (Int.tmod (IntKind.u64.wrap (a0_2)) 50)), .int .i64 x111003_1, .slice (some (⟨go25, 0, none⟩ : Addr)) x111004_49.length co80]) ?_ 1 _ rfl; (with_reducible repeat (first | refine blk_drewN ?_ _ | refine blk_drew ?_ | refine blk_alloc ?_ _)); exact BK110.out⟩, ⟨by (try simp only [hl111004_2]); (with_reducible repeat (first | refine blk_drewN ?_ _ | refine blk_drew ?_ | refine blk_alloc ?_ _)); refine blk_far ?_ NB111_110.out _; (with_reducible repeat (first | refine blk_drewN ?_ _ | refine blk_drew ?_ | refine blk_alloc ?_ _)); exact BK111.out⟩, ⟨by repeat (first | (with_reducible first | exact HB.out | apply below_alloc | apply pw_below_drewN | apply below_drew1 | refine below_set ?_ GE110.out | refine below_set ?_ GE111.out) | exact HB.out)⟩⟩
                      ·rw [if_neg c77] at H
                       have c77b0 : (((rd_T29 x111004_49 x39_1).f0) == 45) = false := beq_eq_false_iff_ne.mpr c77
                       have c77b1 : (((rd_T29 x111004_49 x39_1).f0) != 45) = true := bne_iff_ne.mpr c77
                       have H' := Aside0.mk H
                       clear H
                       have hnb81 := NB110_111.out
                       have hnc81 := NB111_110.out
                       have hcz82_0 : wc.cell? ⟨gb110, 0, none⟩ = some (.int .i64 (wrap64 (Int.tmod (IntKind.u64.wrap (a0_0)) 50))) := (blk_cell BK110.out 0).trans rfl
                       have hcz82_1 : wc.cell? ⟨gb110, 1, none⟩ = some (.int .i64 x111001_1) := (blk_cell BK110.out 1).trans rfl
                       have hcz82_2 : wc.cell? ⟨gb110, 2, none⟩ = some (.int .i64 (wrap64 (Int.tmod (IntKind.u64.wrap (a0_2)) 50))) := (blk_cell BK110.out 2).trans rfl
                       have hcz82_3 : wc.cell? ⟨gb110, 3, none⟩ = some (.int .i64 x111003_1) := (blk_cell BK110.out 3).trans rfl
                       have hcz82_4 : wc.cell? ⟨gb110, 4, none⟩ = some (u111004) := (blk_cell BK110.out 4).trans rfl
                       have hfz82_0 := blk_frozen BK110.out 0
                       have hfz82_1 := blk_frozen BK110.out 1
                       have hfz82_2 := blk_frozen BK110.out 2
                       have hfz82_3 := blk_frozen BK110.out 3
                       have hfz82_4 := blk_frozen BK110.out 4
                       obtain ⟨Ao83, co83, eo83⟩ := Kd.R_slice HO_111004.out
                       subst eo83
                       have p135 : 0 ≤ (x39_1 : Int) := of_decide_eq_true (by first | (with_reducible assumption) | assumption)
                       have q135 : x39_1 < (x111004_49.length : Int) := of_decide_eq_true (by first | (with_reducible assumption) | assumption)
                       obtain ⟨ad135, e135, hx135_0, hx135_1, hx135_2⟩ := at_T29 (Kd.R_reads' HO_111004.out).2.2 x39_1 p135 q135
                       cases e135
                       obtain ⟨_, _, hu_⟩ := HU_.out
                       obtain rfl : (⟨go25, 0, none⟩ : Addr) = ad135 := (by injection hu_ with hu_; exact (Option.some.inj hu_).symm)
                       clear hu_
                       (first | simp only [add_plain] at hx135_0 | skip)
                       (first | simp only [add_plain] at hx135_1 | skip)
                       (first | simp only [add_plain] at hx135_2 | skip)
                       replace p135 := eq_true p135
                       replace q135 := eq_true q135
                       have p137 : 0 ≤ (x39_1 : Int) := of_decide_eq_true (by first | (with_reducible assumption) | assumption)
                       have q137 : x39_1 < (x111004_49.length : Int) := of_decide_eq_true (by first | (with_reducible assumption) | assumption)
                       obtain ⟨ad137, e137, hx137_0, hx137_1, hx137_2⟩ := at_T29 (Kd.R_reads' HO_111004.out).2.2 x39_1 p137 q137
                       obtain rfl : (⟨go25, 0, none⟩ : Addr) = ad137 := (by injection e137)
                       (first | simp only [add_plain] at hx137_0 | skip)
                       (first | simp only [add_plain] at hx137_1 | skip)
                       (first | simp only [add_plain] at hx137_2 | skip)
                       have hn137_0 : (⟨go25, 0, none⟩ : Addr).block ≠ gb110 := Kd.own_blk (Kd.R_ne HO_111004.out BK110.out (by decide))
                       replace hx137_0 := (cell_far (p := ⟨gb110, 1, none⟩) (by first | (rw [add_block]; exact hn137_0) | (show (Addr.add _ _).block ≠ _; rw [add_block]; exact hn137_0) | exact hn137_0) (.int .i64 (wrap64 (x111001_1 + 1)))).trans hx137_0
                       replace hx137_1 := (cell_far (p := ⟨gb110, 1, none⟩) (by first | (rw [add_block]; exact hn137_0) | (show (Addr.add _ _).block ≠ _; rw [add_block]; exact hn137_0) | exact hn137_0) (.int .i64 (wrap64 (x111001_1 + 1)))).trans hx137_1
                       replace hx137_2 := (cell_far (p := ⟨gb110, 1, none⟩) (by first | (rw [add_block]; exact hn137_0) | (show (Addr.add _ _).block ≠ _; rw [add_block]; exact hn137_0) | exact hn137_0) (.int .i64 (wrap64 (x111001_1 + 1)))).trans hx137_2
                       clear hn137_0
                       replace p137 := eq_true p137
                       replace q137 := eq_true q137
                       go_wp2
                       (try simp only [← hl111004_2])
                       go_roundg kj49
                       case measure => have := HK1.out; have := HK2.out; have := HJ49.out; omega
                       case rel => exact ⟨(wrap64 (x39_1 + 1)), (wrap64 (x111001_1 + 1)), (wrap64 (x111003_1 + 1)), (x111004_49), (.slice (some (⟨go25, 0, none⟩ : Addr)) x111004_49.length co83), (by first | rfl | (simp; done) | (simp [*]; done) | (simp [wrap64, wrap32]; done)), H', ⟨by have := HK1.out; have := HK2.out; have := HJ49.out; omega⟩, ⟨by (try simp only [hl111004_2]); (with_reducible repeat (first | apply Kd.R_alloc | apply Kd.R_drewN | apply Kd.R_drew)); exact Kd.R_mono (Kd.R_far (p := ⟨gb110, 3, none⟩) (Kd.R_far (p := ⟨gb110, 1, none⟩) (Kd.R_types HO_111004.out BK110.out (by decide)) (fun _ hk => hk.2) (.int .i64 (wrap64 (x111001_1 + 1)))) (fun _ hk => hk.2) (.int .i64 (wrap64 (x111003_1 + 1)))) (fun _ hk => trivial)⟩, ⟨by (try simp only [hl111004_2]); (with_reducible repeat (first | refine blk_drewN ?_ _ | refine blk_drew ?_ | refine blk_alloc ?_ _)); refine blk_put (cs := #[.int .i64 (wrap64 (Int.tmod (IntKind.u64.wrap (a0_0)) 50)), .int .i64 (wrap64 (x111001_1 + 1)), .int .i64 (wrap64 (Int.tmod (IntKind.u64.wrap (a0_2)) 50)), .int .i64 x111003_1, .slice (some (⟨go25, 0, none⟩ : Addr)) x111004_49.length co83]) ?_ 3 _ rfl; (with_reducible repeat (first | refine blk_drewN ?_ _ | refine blk_drew ?_ | refine blk_alloc ?_ _)); refine blk_put (cs := #[.int .i64 (wrap64 (Int.tmod (IntKind.u64.wrap (a0_0)) 50)), .int .i64 x111001_1, .int .i64 (wrap64 (Int.tmod (IntKind.u64.wrap (a0_2)) 50)), .int .i64 x111003_1, .slice (some (⟨go25, 0, none⟩ : Addr)) x111004_49.length co83]) ?_ 1 _ rfl; (with_reducible repeat (first | refine blk_drewN ?_ _ | refine blk_drew ?_ | refine blk_alloc ?_ _)); exact BK110.out⟩, ⟨by (try simp only [hl111004_2]); (with_reducible repeat (first | refine blk_drewN ?_ _ | refine blk_drew ?_ | refine blk_alloc ?_ _)); refine blk_far ?_ NB111_110.out _; (with_reducible repeat (first | refine blk_drewN ?_ _ | refine blk_drew ?_ | refine blk_alloc ?_ _)); refine blk_far ?_ NB111_110.out _; (with_reducible repeat (first | refine blk_drewN ?_ _ | refine blk_drew ?_ | refine blk_alloc ?_ _)); exact BK111.out⟩, ⟨by repeat (first | (with_reducible first | exact HB.out | apply below_alloc | apply pw_below_drewN | apply below_drew1 | refine below_set ?_ GE110.out | refine below_set ?_ GE111.out) | exact HB.out)⟩⟩
                    ·rw [if_neg c68] at H
                     exact absurd H (by simp)
                   ·rw [if_neg c67] at H
                    exact absurd H (by simp)
                ·rw [if_neg c48] at H
                 exact absurd H (by simp)
               ·rw [if_neg c47] at H
                exact absurd H (by simp)
           ·rw [if_neg c23] at H
            exact absurd H (by simp)
          ·rw [if_neg c22] at H
           exact absurd H (by simp)
         ·rw [if_neg c20] at H
          exact absurd H (by simp)
        ·rw [if_neg c19] at H
         exact absurd H (by simp)
       ·rw [if_neg c18] at H
        have c18b0 : decide (x39_1 < (y119.length : Int)) = false := decide_eq_false c18
        clear c18
        simp only [Option.some.injEq, Prod.mk.injEq] at H
        obtain ⟨rfl, rfl, rfl, rfl, rfl⟩ := H
        have hnb84 := NB110_111.out
        have hnc84 := NB111_110.out
        have hcz85_0 : wr.cell? ⟨gb110, 0, none⟩ = some (.int .i64 (wrap64 (Int.tmod (IntKind.u64.wrap (a0_0)) 50))) := (blk_cell BK110.out 0).trans rfl
        have hcz85_1 : wr.cell? ⟨gb110, 1, none⟩ = some (.int .i64 x111001_1) := (blk_cell BK110.out 1).trans rfl
        have hcz85_2 : wr.cell? ⟨gb110, 2, none⟩ = some (.int .i64 (wrap64 (Int.tmod (IntKind.u64.wrap (a0_2)) 50))) := (blk_cell BK110.out 2).trans rfl
        have hcz85_3 : wr.cell? ⟨gb110, 3, none⟩ = some (.int .i64 x111003_1) := (blk_cell BK110.out 3).trans rfl
        have hcz85_4 : wr.cell? ⟨gb110, 4, none⟩ = some (u111004) := (blk_cell BK110.out 4).trans rfl
        have hfz85_0 := blk_frozen BK110.out 0
        have hfz85_1 := blk_frozen BK110.out 1
        have hfz85_2 := blk_frozen BK110.out 2
        have hfz85_3 := blk_frozen BK110.out 3
        have hfz85_4 := blk_frozen BK110.out 4
        have hcz86_0 : wr.cell? ⟨gb111, 0, none⟩ = some (.int .i64 0) := (blk_cell BK111.out 0).trans rfl
        have hcz86_1 : wr.cell? ⟨gb111, 1, none⟩ = some (.int .i64 0) := (blk_cell BK111.out 1).trans rfl
        have hcz86_2 : wr.cell? ⟨gb111, 2, none⟩ = some (.int .i64 0) := (blk_cell BK111.out 2).trans rfl
        have hcz86_3 : wr.cell? ⟨gb111, 3, none⟩ = some (.int .i64 0) := (blk_cell BK111.out 3).trans rfl
        have hcz86_4 : wr.cell? ⟨gb111, 4, none⟩ = some (.slice none 0 0) := (blk_cell BK111.out 4).trans rfl
        have hfz86_0 := blk_frozen BK111.out 0
        have hfz86_1 := blk_frozen BK111.out 1
        have hfz86_2 := blk_frozen BK111.out 2
        have hfz86_3 := blk_frozen BK111.out 3
        have hfz86_4 := blk_frozen BK111.out 4
        obtain ⟨Ao87, co87, eo87⟩ := Kd.R_slice HO_111004.out
        subst eo87
        go_wp2
        refine bodyPost_ret (results_cell_row rfl _ _ gb111 26 #[.int .i64 (wrap64 (Int.tmod (IntKind.u64.wrap (a0_0)) 50)), .int .i64 x111001_1, .int .i64 (wrap64 (Int.tmod (IntKind.u64.wrap (a0_2)) 50)), .int .i64 x111003_1, .slice Ao87 x111004_1.length co87] (0, 0) _ rfl (by (with_reducible repeat (first | refine blk_drewN ?_ _ | refine blk_drew ?_ | refine blk_alloc ?_ _)); refine blk_put (cs := #[.int .i64 (wrap64 (Int.tmod (IntKind.u64.wrap (a0_0)) 50)), .int .i64 x111001_1, .int .i64 (wrap64 (Int.tmod (IntKind.u64.wrap (a0_2)) 50)), .int .i64 x111003_1, .slice none 0 0]) ?_ 4 _ rfl; (with_reducible repeat (first | refine blk_drewN ?_ _ | refine blk_drew ?_ | refine blk_alloc ?_ _)); refine blk_put (cs := #[.int .i64 (wrap64 (Int.tmod (IntKind.u64.wrap (a0_0)) 50)), .int .i64 x111001_1, .int .i64 (wrap64 (Int.tmod (IntKind.u64.wrap (a0_2)) 50)), .int .i64 0, .slice none 0 0]) ?_ 3 _ rfl; (with_reducible repeat (first | refine blk_drewN ?_ _ | refine blk_drew ?_ | refine blk_alloc ?_ _)); refine blk_put (cs := #[.int .i64 (wrap64 (Int.tmod (IntKind.u64.wrap (a0_0)) 50)), .int .i64 x111001_1, .int .i64 0, .int .i64 0, .slice none 0 0]) ?_ 2 _ rfl; (with_reducible repeat (first | refine blk_drewN ?_ _ | refine blk_drew ?_ | refine blk_alloc ?_ _)); refine blk_put (cs := #[.int .i64 (wrap64 (Int.tmod (IntKind.u64.wrap (a0_0)) 50)), .int .i64 0, .int .i64 0, .int .i64 0, .slice none 0 0]) ?_ 1 _ rfl; (with_reducible repeat (first | refine blk_drewN ?_ _ | refine blk_drew ?_ | refine blk_alloc ?_ _)); refine blk_put (cs := #[.int .i64 0, .int .i64 0, .int .i64 0, .int .i64 0, .slice none 0 0]) ?_ 0 _ rfl; (with_reducible repeat (first | refine blk_drewN ?_ _ | refine blk_drew ?_ | refine blk_alloc ?_ _)); exact BK111.out) Tryd.underlying26 rfl (by kernel_rfl)) rfl ?_
        exact ⟨_, by first | rfl | (simp [errW_none, errW_some] <;> rfl) | (simp only [← hji3]; first | rfl | (simp [errW_none, errW_some] <;> rfl)) | (simp [*, errW_none, errW_some] <;> rfl), by (with_reducible repeat (first | apply Kd.R_alloc | apply Kd.R_drewN | apply Kd.R_drew)); exact Kd.R_mono (Kd.R_far (p := ⟨gb111, 4, none⟩) (Kd.R_far (p := ⟨gb111, 3, none⟩) (Kd.R_far (p := ⟨gb111, 2, none⟩) (Kd.R_far (p := ⟨gb111, 1, none⟩) (Kd.R_far (p := ⟨gb111, 0, none⟩) (Kd.R_types HO_111004.out BK111.out (by decide)) (fun _ hk => hk.2) (.int .i64 (wrap64 (Int.tmod (IntKind.u64.wrap (a0_0)) 50)))) (fun _ hk => hk.2) (.int .i64 x111001_1)) (fun _ hk => hk.2) (.int .i64 (wrap64 (Int.tmod (IntKind.u64.wrap (a0_2)) 50)))) (fun _ hk => hk.2) (.int .i64 x111003_1)) (fun _ hk => hk.2) (.slice Ao87 x111004_1.length co87)) (fun _ hk => trivial), by repeat (first | (with_reducible first | exact HB.out | apply below_alloc | apply pw_below_drewN | apply below_drew1 | refine below_set ?_ GE110.out | refine below_set ?_ GE111.out) | exact HB.out)⟩
    ·replace c7 := Bool.eq_false_iff.mpr c7
     subst c7
     have H1 : (some (a0_0, a0_1, a0_2, a0_3, y119)) = some (r1, r2, r3, r4, r5) := by rw [if_neg (show ¬ (false = true) by decide)] at H; exact H
     clear H
     have H := H1
     clear H1
     simp only [Option.some.injEq, Prod.mk.injEq] at H
     obtain ⟨rfl, rfl, rfl, rfl, rfl⟩ := H
     go_enter Tryd.func15, Tryd.ntmps15
     go_wp2_with (first | ((with_reducible refine gate_dst (N := 2) rfl ?_); (try (refine gate_guard (by rfl) ?_; dsimp only)); refine box_event ?hg (N := 2) ?hd (cs := #[.int .i64 a0_0, .int .i64 a0_1, .int .i64 a0_2, .int .i64 a0_3, .slice A0_4 l0_4.length c0_4]) (t := 26) ?hr ?_; (case hd => rfl); (case hg => rfl); (case hr => first | (go_simp; done) | (go_simp; rfl)); intro gb110 hg w88 hbox hb; have n0_ := Aside0.mk (below_step (by repeat (first | (with_reducible first | exact HB.out | apply below_alloc | apply pw_below_drewN | apply below_drew1) | exact HB.out)) hb); have n1_ := Aside0.mk (hbox); have n2_ := Aside0.mk ((by rw [hg]; exact (below_size (by repeat (first | (with_reducible first | exact HB.out | apply below_alloc | apply pw_below_drewN | apply below_drew1) | exact HB.out))) : w.heap.size ≤ gb110)); have n3_ := Aside0.mk ((by rw [hg]; exact (below_size (by repeat (first | (with_reducible first | exact HB.out | apply below_alloc | apply pw_below_drewN | apply below_drew1) | exact HB.out))) : w.heap.size ≤ gb110)); clear HB; have HB := n0_; have BK110 := n1_; have GW110 := n2_; have GE110 := n3_; clear n0_ n1_ n2_ n3_; clear hb hbox hg) | ((with_reducible refine gate_dst (N := 4) rfl ?_); (try (refine gate_guard (by rfl) ?_; dsimp only)); refine box_event ?hg (N := 4) ?hd (cs := #[.int .i64 0, .int .i64 0, .int .i64 0, .int .i64 0, .slice none 0 0]) (t := 26) ?hr ?_; (case hd => rfl); (case hg => rfl); (case hr => first | (go_simp; done) | (go_simp; rfl)); intro gb111 hg w89 hbox hb; have n0_ := Aside0.mk (blk_below (g := gb110) (o := .cells #[.int .i64 a0_0, .int .i64 a0_1, .int .i64 a0_2, .int .i64 a0_3, .slice A0_4 l0_4.length c0_4] 26 (0, 0)) (by (with_reducible repeat (first | refine blk_drewN ?_ _ | refine blk_drew ?_ | refine blk_alloc ?_ _)); exact BK110.out) hb); have n1_ := Aside0.mk (below_step (by repeat (first | (with_reducible first | exact HB.out | apply below_alloc | apply pw_below_drewN | apply below_drew1 | refine below_set ?_ GE110.out) | exact HB.out)) hb); have n2_ := Aside0.mk (hbox); have n3_ := Aside0.mk ((by rw [hg]; exact (below_size (by repeat (first | (with_reducible first | exact HB.out | apply below_alloc | apply pw_below_drewN | apply below_drew1 | refine below_set ?_ GE110.out) | exact HB.out))) : w.heap.size ≤ gb111)); have n4_ := Aside0.mk ((by rw [hg]; exact (below_size (by repeat (first | (with_reducible first | exact HB.out | apply below_alloc | apply pw_below_drewN | apply below_drew1 | refine below_set ?_ GE110.out) | exact HB.out))) : w.heap.size ≤ gb111)); have n5_ := Aside0.mk ((by rw [hg]; exact Nat.ne_of_lt (blk_lt (g := gb110) (o := .cells #[.int .i64 a0_0, .int .i64 a0_1, .int .i64 a0_2, .int .i64 a0_3, .slice A0_4 l0_4.length c0_4] 26 (0, 0)) (by (with_reducible repeat (first | refine blk_drewN ?_ _ | refine blk_drew ?_ | refine blk_alloc ?_ _)); exact BK110.out)) : gb110 ≠ gb111)); have n6_ := Aside0.mk ((by rw [hg]; exact Nat.ne_of_gt (blk_lt (g := gb110) (o := .cells #[.int .i64 a0_0, .int .i64 a0_1, .int .i64 a0_2, .int .i64 a0_3, .slice A0_4 l0_4.length c0_4] 26 (0, 0)) (by (with_reducible repeat (first | refine blk_drewN ?_ _ | refine blk_drew ?_ | refine blk_alloc ?_ _)); exact BK110.out)) : gb111 ≠ gb110)); clear BK110; clear HB; have BK110 := n0_; have HB := n1_; have BK111 := n2_; have GW111 := n3_; have GE111 := n4_; have NB110_111 := n5_; have NB111_110 := n6_; clear n0_ n1_ n2_ n3_ n4_ n5_ n6_; clear hb hbox hg) | ((with_reducible refine gate_dst (N := 9) rfl ?_); (try (refine gate_guard (by rfl) ?_; dsimp only)); refine Kd.R_lit k29 _ 29 ?hg (N := 9) ?hd (xs := ([] : List (S29))) (inner := []) (ok := fun _ => True) (okp := fun _ => True) ?hr ?hp (fun _ hk => hk) trivial (Below.refl _ _) (Nat.le_refl _) (by simp) ?_; (case hd => rfl); (case hg => rfl); (case hr => first | (go_simp; done) | (go_simp; rfl)); (case hp => exact (Reps.none _ _)); intro v113 w90 ho91 hb hg_ hnew_; clear hg_ hnew_; (first | rw [← Ny112.out] at ho91 | (simp only [Int.reduceToNat] at ho91; rw [← Ny112.out] at ho91)); have n0_ := Aside0.mk (Kd.R_lower ho91 (below_size (by repeat (first | (with_reducible first | exact HB.out | apply below_alloc | apply pw_below_drewN | apply below_drew1 | refine below_set ?_ GE110.out | refine below_set ?_ GE111.out) | exact HB.out)))); have n1_ := Aside0.mk (blk_below (g := gb110) (o := .cells #[.int .i64 a0_0, .int .i64 a0_1, .int .i64 a0_2, .int .i64 a0_3, .slice A0_4 l0_4.length c0_4] 26 (0, 0)) (by (with_reducible repeat (first | refine blk_drewN ?_ _ | refine blk_drew ?_ | refine blk_alloc ?_ _)); exact BK110.out) hb); have n2_ := Aside0.mk (blk_below (g := gb111) (o := .cells #[.int .i64 0, .int .i64 0, .int .i64 0, .int .i64 0, .slice none 0 0] 26 (0, 0)) (by (with_reducible repeat (first | refine blk_drewN ?_ _ | refine blk_drew ?_ | refine blk_alloc ?_ _)); exact BK111.out) hb); have n3_ := Aside0.mk (below_step (by repeat (first | (with_reducible first | exact HB.out | apply below_alloc | apply pw_below_drewN | apply below_drew1 | refine below_set ?_ GE110.out | refine below_set ?_ GE111.out) | exact HB.out)) hb); clear BK110; clear BK111; clear HB; have HO114 := n0_; have BK110 := n1_; have BK111 := n2_; have HB := n3_; clear n0_ n1_ n2_ n3_; clear hb ho91; have hnb92 := NB110_111.out; have hnc92 := NB111_110.out; have hcz93_0 : w90.cell? ⟨gb110, 0, none⟩ = some (.int .i64 a0_0) := (blk_cell BK110.out 0).trans rfl; have hcz93_1 : w90.cell? ⟨gb110, 1, none⟩ = some (.int .i64 a0_1) := (blk_cell BK110.out 1).trans rfl; have hcz93_2 : w90.cell? ⟨gb110, 2, none⟩ = some (.int .i64 a0_2) := (blk_cell BK110.out 2).trans rfl; have hcz93_3 : w90.cell? ⟨gb110, 3, none⟩ = some (.int .i64 a0_3) := (blk_cell BK110.out 3).trans rfl; have hcz93_4 : w90.cell? ⟨gb110, 4, none⟩ = some (.slice A0_4 l0_4.length c0_4) := (blk_cell BK110.out 4).trans rfl; have hfz93_0 := blk_frozen BK110.out 0; have hfz93_1 := blk_frozen BK110.out 1; have hfz93_2 := blk_frozen BK110.out 2; have hfz93_3 := blk_frozen BK110.out 3; have hfz93_4 := blk_frozen BK110.out 4; have q94 : ((ji3) : Int) ≤ ((l0_4.length : Int) : Int) := of_decide_eq_true (by first | (with_reducible assumption) | assumption); obtain ⟨i094, hi094, _, hsz94, _⟩ := info_parts info29; have hroom94 : l0_4.length ≤ c0_4 := HC0_4.out; have hC94 : Kd.C k29 _ A0_4 l0_4.length l0_4 := HR0_4.out; have hcut94 := cut_to (P := Tryd.prog) 24 29 .i64 Tryd.underlying24 hi094 A0_4 l0_4.length c0_4 (ji3) (of_decide_eq_true (by first | (with_reducible assumption) | assumption)) q94 hroom94; have hr94 := Kd.C_take (m := ((ji3) : Int).toNat) hC94 (by omega); have hy94 : y115.length = ((ji3) : Int).toNat := (by rw [Ny115.out, List.length_take]; omega); rw [← Ny115.out] at hr94; rw [← hy94] at hcut94; have HR118 := Aside0.mk hr94; have HC118 := Aside0.mk (show y115.length ≤ c0_4 from by omega); clear hr94 hC94 hroom94 hi094 hsz94; have KY94 := Aside0.mk hy94; clear hy94; replace q94 := eq_true q94) | ((with_reducible refine gate_builtin (b := .append) (xs := #[.tmp 9, .tmp 16]) rfl ?_); (try (refine gate_guard (by rfl) ?_; dsimp only)); at_builtin; refine Kd.R_append_rows k29 (w0 := w) w.heap.size rfl (.tmp 9) (.tmp 16) 24 29 (.agg #[(.int .u8 0), (.string ⟨#[]⟩), (.bool false)]) 32 rfl Tryd.underlying24 info29 rfl (by decide) (by omega) v113 y112 y115 _ _ _ (fun _ => True) (fun _ => False) rfl rfl ?aO ?aR (fun _ _ h => h) (fun _ h => h.elim) ?aF ?aB ?aS ?aL ?_; (case aR => repeat (first | exact (Kd.C_below HR118.out HB.out) | (with_reducible refine Kd.C_alloc ?_ _) | (with_reducible refine Kd.C_drewN ?_ _) | (with_reducible refine Kd.C_drew ?_))); (case aB => exact (by repeat (first | (with_reducible first | exact HB.out | apply below_alloc | apply pw_below_drewN | apply below_drew1 | refine below_set ?_ GE110.out | refine below_set ?_ GE111.out) | exact HB.out))); (case aF => exact (fun _ _ => trivial)); (case aO => exact (by (with_reducible repeat (first | apply Kd.R_alloc | apply Kd.R_drewN | apply Kd.R_drew)); exact HO114.out)); (case aS => exact (below_size (by repeat (first | (with_reducible first | exact HB.out | apply below_alloc | apply pw_below_drewN | apply below_drew1 | refine below_set ?_ GE110.out | refine below_set ?_ GE111.out) | exact HB.out)))); (case aL => have := LMc6.out; omega); intro v120 w95 ho hb hg hat; rw [← Ny119.out] at ho; have n0_ := Aside0.mk (blk_grown (g := gb110) (o := .cells #[.int .i64 a0_0, .int .i64 a0_1, .int .i64 a0_2, .int .i64 a0_3, .slice A0_4 l0_4.length c0_4] 26 (0, 0)) (by (with_reducible repeat (first | refine blk_drewN ?_ _ | refine blk_drew ?_ | refine blk_alloc ?_ _)); exact BK110.out) hg (Kd.R_ne HO114.out BK110.out (by decide))); have n1_ := Aside0.mk (blk_grown (g := gb111) (o := .cells #[.int .i64 0, .int .i64 0, .int .i64 0, .int .i64 0, .slice none 0 0] 26 (0, 0)) (by (with_reducible repeat (first | refine blk_drewN ?_ _ | refine blk_drew ?_ | refine blk_alloc ?_ _)); exact BK111.out) hg (Kd.R_ne HO114.out BK111.out (by decide))); have n2_ := Aside0.mk (hb); have n3_ := Aside0.mk (ho); clear BK110; clear BK111; clear HB; clear HO114; have BK110 := n0_; have BK111 := n1_; have HB := n2_; have HO121 := n3_; clear n0_ n1_ n2_ n3_; clear ho hb hg hat; obtain ⟨Ao96, co96, eo96⟩ := Kd.R_slice HO121.out; subst eo96; have hcz97_0 : w95.cell? ⟨gb110, 0, none⟩ = some (.int .i64 a0_0) := (blk_cell BK110.out 0).trans rfl; have hcz97_1 : w95.cell? ⟨gb110, 1, none⟩ = some (.int .i64 a0_1) := (blk_cell BK110.out 1).trans rfl; have hcz97_2 : w95.cell? ⟨gb110, 2, none⟩ = some (.int .i64 a0_2) := (blk_cell BK110.out 2).trans rfl; have hcz97_3 : w95.cell? ⟨gb110, 3, none⟩ = some (.int .i64 a0_3) := (blk_cell BK110.out 3).trans rfl; have hcz97_4 : w95.cell? ⟨gb110, 4, none⟩ = some (.slice A0_4 l0_4.length c0_4) := (blk_cell BK110.out 4).trans rfl; have hfz97_0 := blk_frozen BK110.out 0; have hfz97_1 := blk_frozen BK110.out 1; have hfz97_2 := blk_frozen BK110.out 2; have hfz97_3 := blk_frozen BK110.out 3; have hfz97_4 := blk_frozen BK110.out 4; have hcz98_0 : w95.cell? ⟨gb111, 0, none⟩ = some (.int .i64 0) := (blk_cell BK111.out 0).trans rfl; have hcz98_1 : w95.cell? ⟨gb111, 1, none⟩ = some (.int .i64 0) := (blk_cell BK111.out 1).trans rfl; have hcz98_2 : w95.cell? ⟨gb111, 2, none⟩ = some (.int .i64 0) := (blk_cell BK111.out 2).trans rfl; have hcz98_3 : w95.cell? ⟨gb111, 3, none⟩ = some (.int .i64 0) := (blk_cell BK111.out 3).trans rfl; have hcz98_4 : w95.cell? ⟨gb111, 4, none⟩ = some (.slice none 0 0) := (blk_cell BK111.out 4).trans rfl; have hfz98_0 := blk_frozen BK111.out 0; have hfz98_1 := blk_frozen BK111.out 1; have hfz98_2 := blk_frozen BK111.out 2; have hfz98_3 := blk_frozen BK111.out 3; have hfz98_4 := blk_frozen BK111.out 4))
     refine bodyPost_ret (results_cell_row rfl _ _ gb111 26 #[.int .i64 a0_0, .int .i64 a0_1, .int .i64 a0_2, .int .i64 a0_3, .slice Ao96 y119.length co96] (0, 0) _ rfl (by (with_reducible repeat (first | refine blk_drewN ?_ _ | refine blk_drew ?_ | refine blk_alloc ?_ _)); refine blk_put (cs := #[.int .i64 a0_0, .int .i64 a0_1, .int .i64 a0_2, .int .i64 a0_3, .slice none 0 0]) ?_ 4 _ rfl; (with_reducible repeat (first | refine blk_drewN ?_ _ | refine blk_drew ?_ | refine blk_alloc ?_ _)); refine blk_put (cs := #[.int .i64 a0_0, .int .i64 a0_1, .int .i64 a0_2, .int .i64 0, .slice none 0 0]) ?_ 3 _ rfl; (with_reducible repeat (first | refine blk_drewN ?_ _ | refine blk_drew ?_ | refine blk_alloc ?_ _)); refine blk_put (cs := #[.int .i64 a0_0, .int .i64 a0_1, .int .i64 0, .int .i64 0, .slice none 0 0]) ?_ 2 _ rfl; (with_reducible repeat (first | refine blk_drewN ?_ _ | refine blk_drew ?_ | refine blk_alloc ?_ _)); refine blk_put (cs := #[.int .i64 a0_0, .int .i64 0, .int .i64 0, .int .i64 0, .slice none 0 0]) ?_ 1 _ rfl; (with_reducible repeat (first | refine blk_drewN ?_ _ | refine blk_drew ?_ | refine blk_alloc ?_ _)); refine blk_put (cs := #[.int .i64 0, .int .i64 0, .int .i64 0, .int .i64 0, .slice none 0 0]) ?_ 0 _ rfl; (with_reducible repeat (first | refine blk_drewN ?_ _ | refine blk_drew ?_ | refine blk_alloc ?_ _)); refine blk_far ?_ NB111_110.out _; (with_reducible repeat (first | refine blk_drewN ?_ _ | refine blk_drew ?_ | refine blk_alloc ?_ _)); exact BK111.out) Tryd.underlying26 rfl (by kernel_rfl)) rfl ?_
     exact ⟨_, by first | rfl | (simp [errW_none, errW_some] <;> rfl) | (simp only [← hji3]; first | rfl | (simp [errW_none, errW_some] <;> rfl)) | (simp [*, errW_none, errW_some] <;> rfl), by (with_reducible repeat (first | apply Kd.R_alloc | apply Kd.R_drewN | apply Kd.R_drew)); exact Kd.R_mono (Kd.R_far (p := ⟨gb111, 4, none⟩) (Kd.R_far (p := ⟨gb111, 3, none⟩) (Kd.R_far (p := ⟨gb111, 2, none⟩) (Kd.R_far (p := ⟨gb111, 1, none⟩) (Kd.R_far (p := ⟨gb111, 0, none⟩) (Kd.R_far (p := ⟨gb110, 4, none⟩) (Kd.R_types (Kd.R_types HO121.out BK110.out (by decide)) BK111.out (by decide)) (fun _ hk => hk.1.2) (.slice Ao96 y119.length co96)) (fun _ hk => hk.2) (.int .i64 a0_0)) (fun _ hk => hk.2) (.int .i64 a0_1)) (fun _ hk => hk.2) (.int .i64 a0_2)) (fun _ hk => hk.2) (.int .i64 a0_3)) (fun _ hk => hk.2) (.slice Ao96 y119.length co96)) (fun _ hk => trivial), by repeat (first | (with_reducible first | exact HB.out | apply below_alloc | apply pw_below_drewN | apply below_drew1 | refine below_set ?_ GE110.out | refine below_set ?_ GE111.out) | exact HB.out)⟩
   ·rw [if_neg c6] at H
    exact absurd H (by simp)
  ·rw [if_neg c5] at H
   exact absurd H (by simp)
 ·rw [if_neg c4] at H
  exact absurd H (by simp)


end Go.Proofs.YtjabpbnlpljlkaaDoor.PShowPrints
