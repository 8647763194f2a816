-- x
import Derived.Test.YtkflgnhcfhmkdaaDoorPPragmaReadsx0
import Derived.Test.YtkflgnhcfhmkdaaDoorXSq
import Derived.Test.YtkflgnhcfhmkdaaDoorPPragmaReadsx4
import Derived.Test.YtkflgnhcfhmkdaaDoorPPragmaReadsx9
namespace Go.Proofs.YtkflgnhcfhmkdaaDoor.PPragmaReads
open Go.RowKit Go.Proofs.YtkflgnhcfhmkdaaDoor.X Go.Proofs.YtkflgnhcfhmkdaaDoorW.PrintWords Go.Proofs.YtkflgnhcfhmkdaaDoorW.PrintLast Go.Proofs.YtkflgnhcfhmkdaaDoorW.PrintMore
attribute [local go_sem] max2_int min2_int max_two min_two max_three min_three max_four min_four   -- for this text's walks alone
set_option linter.unusedVariables false
set_option linter.unusedSimpArgs false
def redpenref15_Rules_Alone.l0 : Nat → Int → Int → List (S40) → List ByteArray → Option (Bool)
 | 0, _, _, _, _ => none
 | k + 1, x1, x5, x349000, x349001 => if x5 < (x349000.length : Int) then (if 0 ≤ x5 then (if x1 ≥ ((rd_T40 x349000 x5).f0) then (if x1 < (wrap64 (((rd_T40 x349000 x5).f0) + ((rd_T40 x349000 x5).f1))) then (some true) else (redpenref15_Rules_Alone.l0 k x1 (wrap64 (x5 + 1)) x349000 x349001)) else (redpenref15_Rules_Alone.l0 k x1 (wrap64 (x5 + 1)) x349000 x349001)) else (none)) else (some false)
def redpenref15_Rules_Alone.f (k : Nat) (l0_0 : List (S40)) (l0_1 : List ByteArray) (a1 : Int) : Option (Bool) := redpenref15_Rules_Alone.l0 k a1 0 l0_0 l0_1
theorem redpenref15_Rules_Alone.mono_l : ∀ k, (∀ y0 y1 y2 y3, LeO (redpenref15_Rules_Alone.l0 k y0 y1 y2 y3) (redpenref15_Rules_Alone.l0 (k + 1) y0 y1 y2 y3))
 | 0 => fun _ _ _ _ r h => by simp [redpenref15_Rules_Alone.l0] at h
 | k + 1 => by
  have ih0 := redpenref15_Rules_Alone.mono_l k
  ·intro y0 y1 y2 y3
   unfold redpenref15_Rules_Alone.l0
   repeat' first
   | (with_reducible exact ih0 _ _ _ _)
   | (with_reducible exact LeO.refl _)
   | (with_reducible exact LeO.none _)
   | (with_reducible refine LeO.ite ?_ ?_)
   | (with_reducible refine LeO.bind ?_ (fun _ => ?_))
theorem redpenref15_Rules_Alone.mono : ∀ a0 a1 a2 k, LeO (redpenref15_Rules_Alone.f k a0 a1 a2) (redpenref15_Rules_Alone.f (k + 1) a0 a1 a2) := by
 intro a0 a1 a2 k
 have ih0 := redpenref15_Rules_Alone.mono_l k
 unfold redpenref15_Rules_Alone.f
 repeat' first
   | (with_reducible exact ih0 _ _ _ _)
   | (with_reducible exact LeO.refl _)
   | (with_reducible exact LeO.none _)
   | (with_reducible refine LeO.ite ?_ ?_)
   | (with_reducible refine LeO.bind ?_ (fun _ => ?_))
set_option maxHeartbeats 8000000 in
set_option maxRecDepth 100000 in
theorem redpenref15_Rules_Alone.calls (k : Nat) (A0_0 : Option Addr) (c0_0 : Nat) (l0_0 : List (S40)) (A0_1 : Option Addr) (c0_1 : Nat) (l0_1 : List ByteArray) (a1 : Int) (r : Bool) (w : World) (hr0_0 : Kd.C k40 w A0_0 l0_0.length l0_0) (hc0_0 : l0_0.length ≤ c0_0) (hr0_1 : Kd.C Kd.string w A0_1 l0_1.length l0_1) (hc0_1 : l0_1.length ≤ c0_1) (h : redpenref15_Rules_Alone.f k l0_0 l0_1 a1 = some r) :
  Calls Tryd.prog 15 #[.agg #[.slice A0_0 l0_0.length c0_0, .slice A0_1 l0_1.length c0_1], .int .i64 a1] w fun e w' => e = .returned (.bool r) ∧ Below w.heap.size w w' := by
 have hu37 := Tryd.underlying37
 have HR0_0 := Aside0.mk hr0_0
 have HC0_0 := Aside0.mk hc0_0
 clear hr0_0 hc0_0
 have HR0_1 := Aside0.mk hr0_1
 have HC0_1 := Aside0.mk hc0_1
 clear hr0_1 hc0_1
 have HB := Aside0.mk (Below.refl w.heap.size w)
 have H : (redpenref15_Rules_Alone.l0 k a1 0 l0_0 l0_1) = some r := h
 clear h
 have H' := Aside0.mk H
 clear H
 go_enter Tryd.func15, Tryd.ntmps15
 go_wp2_with (first | ((with_reducible refine gate_dst (N := 2) rfl ?_); refine box_event ?hg (N := 2) ?hd (cs := #[.slice A0_0 l0_0.length c0_0, .slice A0_1 l0_1.length c0_1]) (t := 37) ?hr ?_; (case hd => rfl); (case hg => rfl); (case hr => first | (go_simp; done) | (go_simp; rfl)); intro gb348 hg w3 hbox hb; have n0_ := Aside0.mk (below_step (by repeat (first | (with_reducible first | exact HB.out | apply below_alloc | apply pw_below_drewN | apply below_drew1) | exact HB.out)) hb); have n1_ := Aside0.mk (hbox); have n2_ := Aside0.mk ((by rw [hg]; exact (below_size (by repeat (first | (with_reducible first | exact HB.out | apply below_alloc | apply pw_below_drewN | apply below_drew1) | exact HB.out))) : w.heap.size ≤ gb348)); have n3_ := Aside0.mk ((by rw [hg]; exact (below_size (by repeat (first | (with_reducible first | exact HB.out | apply below_alloc | apply pw_below_drewN | apply below_drew1) | exact HB.out))) : w.heap.size ≤ gb348)); clear HB; have HB := n0_; have BK348 := n1_; have GW348 := n2_; have GE348 := n3_; clear n0_ n1_ n2_ n3_; clear hb hbox hg))
 repeat (go_quiet (first | ((with_reducible refine gate_dst (N := 2) rfl ?_); refine box_event ?hg (N := 2) ?hd (cs := #[.slice A0_0 l0_0.length c0_0, .slice A0_1 l0_1.length c0_1]) (t := 37) ?hr ?_; (case hd => rfl); (case hg => rfl); (case hr => first | (go_simp; done) | (go_simp; rfl)); intro gb348 hg w3 hbox hb; have n0_ := Aside0.mk (below_step (by repeat (first | (with_reducible first | exact HB.out | apply below_alloc | apply pw_below_drewN | apply below_drew1) | exact HB.out)) hb); have n1_ := Aside0.mk (hbox); have n2_ := Aside0.mk ((by rw [hg]; exact (below_size (by repeat (first | (with_reducible first | exact HB.out | apply below_alloc | apply pw_below_drewN | apply below_drew1) | exact HB.out))) : w.heap.size ≤ gb348)); have n3_ := Aside0.mk ((by rw [hg]; exact (below_size (by repeat (first | (with_reducible first | exact HB.out | apply below_alloc | apply pw_below_drewN | apply below_drew1) | exact HB.out))) : w.heap.size ≤ gb348)); clear HB; have HB := n0_; have BK348 := n1_; have GW348 := n2_; have GE348 := n3_; clear n0_ n1_ n2_ n3_; clear hb hbox hg)); try go_wp2_with (first | ((with_reducible refine gate_dst (N := 2) rfl ?_); refine box_event ?hg (N := 2) ?hd (cs := #[.slice A0_0 l0_0.length c0_0, .slice A0_1 l0_1.length c0_1]) (t := 37) ?hr ?_; (case hd => rfl); (case hg => rfl); (case hr => first | (go_simp; done) | (go_simp; rfl)); intro gb348 hg w3 hbox hb; have n0_ := Aside0.mk (below_step (by repeat (first | (with_reducible first | exact HB.out | apply below_alloc | apply pw_below_drewN | apply below_drew1) | exact HB.out)) hb); have n1_ := Aside0.mk (hbox); have n2_ := Aside0.mk ((by rw [hg]; exact (below_size (by repeat (first | (with_reducible first | exact HB.out | apply below_alloc | apply pw_below_drewN | apply below_drew1) | exact HB.out))) : w.heap.size ≤ gb348)); have n3_ := Aside0.mk ((by rw [hg]; exact (below_size (by repeat (first | (with_reducible first | exact HB.out | apply below_alloc | apply pw_below_drewN | apply below_drew1) | exact HB.out))) : w.heap.size ≤ gb348)); clear HB; have HB := n0_; have BK348 := n1_; have GW348 := n2_; have GE348 := n3_; clear n0_ n1_ n2_ n3_; clear hb hbox hg)))
 go_loopg [5] k (fun kq v5 w' => ∃ (x5_1 : Int), v5 = .int .i64 x5_1 ∧ Aside0 (redpenref15_Rules_Alone.l0 kq a1 x5_1 l0_0 l0_1 = some r) ∧ Aside0 (kq ≤ k) ∧ Aside0 (w'.heap[gb348]? = some (.cells #[(.slice A0_0 l0_0.length c0_0), (.slice A0_1 l0_1.length c0_1)] 37 (0, 0))) ∧ Aside0 (Below w.heap.size w w'))
 case atStart => exact ⟨(0), (by first | rfl | (simp; done) | (simp [*]; done) | (simp [wrap64, wrap32]; done)), H', ⟨Nat.le_refl _⟩, ⟨by (with_reducible repeat (first | refine blk_drewN ?_ _ | refine blk_drew ?_ | refine blk_alloc ?_ _)); exact BK348.out⟩, ⟨by repeat (first | (with_reducible first | exact HB.out | apply below_alloc | apply pw_below_drewN | apply below_drew1 | refine below_set ?_ GE348.out) | exact HB.out)⟩⟩
 case round =>
  clear H'
  (try clear c1); (try clear p2)
  obtain ⟨x5_1, rfl, HA, HK1, BK348, HB⟩ := hrel
  cases gk with
  | zero => exact absurd HA.out (by simp [redpenref15_Rules_Alone.l0])
  | succ k1 =>
   have H := HA.out
   clear HA
   simp only [redpenref15_Rules_Alone.l0] at H
   by_cases c4 : x5_1 < (l0_0.length : Int)
   ·rw [if_pos c4] at H
    have c4b0 : decide (x5_1 < (l0_0.length : Int)) = true := decide_eq_true c4
    clear c4
    by_cases c5 : 0 ≤ x5_1
    ·rw [if_pos c5] at H
     have c5b0 : decide (0 ≤ x5_1) = true := decide_eq_true c5
     clear c5
     by_cases c6 : a1 ≥ ((rd_T40 l0_0 x5_1).f0)
     ·rw [if_pos c6] at H
      have c6b0 : decide (((rd_T40 l0_0 x5_1).f0) ≤ a1) = true := decide_eq_true c6
      clear c6
      by_cases c7 : a1 < (wrap64 (((rd_T40 l0_0 x5_1).f0) + ((rd_T40 l0_0 x5_1).f1)))
      ·rw [if_pos c7] at H
       have c7b0 : decide (a1 < (wrap64 (((rd_T40 l0_0 x5_1).f0) + ((rd_T40 l0_0 x5_1).f1)))) = true := decide_eq_true c7
       clear c7
       obtain rfl := Option.some.inj H
       have hcz8_0 : wr.cell? ⟨gb348, 0, none⟩ = some (.slice A0_0 l0_0.length c0_0) := (blk_cell BK348.out 0).trans rfl
       have hcz8_1 : wr.cell? ⟨gb348, 1, none⟩ = some (.slice A0_1 l0_1.length c0_1) := (blk_cell BK348.out 1).trans rfl
       have hfz8_0 := blk_frozen BK348.out 0
       have hfz8_1 := blk_frozen BK348.out 1
       have p349 : 0 ≤ (x5_1 : Int) := of_decide_eq_true (by first | (with_reducible assumption) | assumption)
       have q349 : x5_1 < (l0_0.length : Int) := of_decide_eq_true (by first | (with_reducible assumption) | assumption)
       obtain ⟨ad349, e349, hx349_0, hx349_1⟩ := at_T40 HR0_0.out x5_1 p349 q349
       cases e349
       replace hx349_0 := (HB.out.cell (World.block_lt_of_cell? w _ hx349_0)).trans hx349_0
       replace hx349_1 := (HB.out.cell (World.block_lt_of_cell? w _ hx349_1)).trans hx349_1
       replace p349 := eq_true p349
       replace q349 := eq_true q349
       have p350 : 0 ≤ (x5_1 : Int) := of_decide_eq_true (by first | (with_reducible assumption) | assumption)
       have q350 : x5_1 < (l0_0.length : Int) := of_decide_eq_true (by first | (with_reducible assumption) | assumption)
       obtain ⟨ad350, e350, hx350_0, hx350_1⟩ := at_T40 HR0_0.out x5_1 p350 q350
       obtain rfl : ad349 = ad350 := (by injection e350)
       replace hx350_0 := (HB.out.cell (World.block_lt_of_cell? w _ hx350_0)).trans hx350_0
       replace hx350_1 := (HB.out.cell (World.block_lt_of_cell? w _ hx350_1)).trans hx350_1
       replace p350 := eq_true p350
       replace q350 := eq_true q350
       have p351 : 0 ≤ (x5_1 : Int) := of_decide_eq_true (by first | (with_reducible assumption) | assumption)
       have q351 : x5_1 < (l0_0.length : Int) := of_decide_eq_true (by first | (with_reducible assumption) | assumption)
       obtain ⟨ad351, e351, hx351_0, hx351_1⟩ := at_T40 HR0_0.out x5_1 p351 q351
       obtain rfl : ad349 = ad351 := (by injection e351)
       replace hx351_0 := (HB.out.cell (World.block_lt_of_cell? w _ hx351_0)).trans hx351_0
       replace hx351_1 := (HB.out.cell (World.block_lt_of_cell? w _ hx351_1)).trans hx351_1
       replace p351 := eq_true p351
       replace q351 := eq_true q351
       go_wp2
       repeat (go_quiet (fail); try go_wp2)
       go_ret
       exact ⟨by first | rfl | (simp [errW_none, errW_some] <;> rfl) | (simp [*, errW_none, errW_some] <;> rfl), by repeat (first | (with_reducible first | exact HB.out | apply below_alloc | apply pw_below_drewN | apply below_drew1 | refine below_set ?_ GE348.out) | exact HB.out)⟩
      ·rw [if_neg c7] at H
       have c7b0 : decide (a1 < (wrap64 (((rd_T40 l0_0 x5_1).f0) + ((rd_T40 l0_0 x5_1).f1)))) = false := decide_eq_false c7
       clear c7
       have H' := Aside0.mk H
       clear H
       have hcz9_0 : wr.cell? ⟨gb348, 0, none⟩ = some (.slice A0_0 l0_0.length c0_0) := (blk_cell BK348.out 0).trans rfl
       have hcz9_1 : wr.cell? ⟨gb348, 1, none⟩ = some (.slice A0_1 l0_1.length c0_1) := (blk_cell BK348.out 1).trans rfl
       have hfz9_0 := blk_frozen BK348.out 0
       have hfz9_1 := blk_frozen BK348.out 1
       have p349 : 0 ≤ (x5_1 : Int) := of_decide_eq_true (by first | (with_reducible assumption) | assumption)
       have q349 : x5_1 < (l0_0.length : Int) := of_decide_eq_true (by first | (with_reducible assumption) | assumption)
       obtain ⟨ad349, e349, hx349_0, hx349_1⟩ := at_T40 HR0_0.out x5_1 p349 q349
       cases e349
       replace hx349_0 := (HB.out.cell (World.block_lt_of_cell? w _ hx349_0)).trans hx349_0
       replace hx349_1 := (HB.out.cell (World.block_lt_of_cell? w _ hx349_1)).trans hx349_1
       replace p349 := eq_true p349
       replace q349 := eq_true q349
       have p350 : 0 ≤ (x5_1 : Int) := of_decide_eq_true (by first | (with_reducible assumption) | assumption)
       have q350 : x5_1 < (l0_0.length : Int) := of_decide_eq_true (by first | (with_reducible assumption) | assumption)
       obtain ⟨ad350, e350, hx350_0, hx350_1⟩ := at_T40 HR0_0.out x5_1 p350 q350
       obtain rfl : ad349 = ad350 := (by injection e350)
       replace hx350_0 := (HB.out.cell (World.block_lt_of_cell? w _ hx350_0)).trans hx350_0
       replace hx350_1 := (HB.out.cell (World.block_lt_of_cell? w _ hx350_1)).trans hx350_1
       replace p350 := eq_true p350
       replace q350 := eq_true q350
       have p351 : 0 ≤ (x5_1 : Int) := of_decide_eq_true (by first | (with_reducible assumption) | assumption)
       have q351 : x5_1 < (l0_0.length : Int) := of_decide_eq_true (by first | (with_reducible assumption) | assumption)
       obtain ⟨ad351, e351, hx351_0, hx351_1⟩ := at_T40 HR0_0.out x5_1 p351 q351
       obtain rfl : ad349 = ad351 := (by injection e351)
       replace hx351_0 := (HB.out.cell (World.block_lt_of_cell? w _ hx351_0)).trans hx351_0
       replace hx351_1 := (HB.out.cell (World.block_lt_of_cell? w _ hx351_1)).trans hx351_1
       replace p351 := eq_true p351
       replace q351 := eq_true q351
       go_wp2
       repeat (go_quiet (fail); try go_wp2)
       go_roundg k1
       case measure => have := HK1.out; omega
       case rel => exact ⟨(wrap64 (x5_1 + 1)), (by first | rfl | (simp; done) | (simp [*]; done) | (simp [wrap64, wrap32]; done)), H', ⟨by have := HK1.out; omega⟩, ⟨by (with_reducible repeat (first | refine blk_drewN ?_ _ | refine blk_drew ?_ | refine blk_alloc ?_ _)); exact BK348.out⟩, ⟨by repeat (first | (with_reducible first | exact HB.out | apply below_alloc | apply pw_below_drewN | apply below_drew1 | refine below_set ?_ GE348.out) | exact HB.out)⟩⟩
     ·rw [if_neg c6] at H
      have c6b0 : decide (((rd_T40 l0_0 x5_1).f0) ≤ a1) = false := decide_eq_false c6
      clear c6
      have H' := Aside0.mk H
      clear H
      have hcz10_0 : wr.cell? ⟨gb348, 0, none⟩ = some (.slice A0_0 l0_0.length c0_0) := (blk_cell BK348.out 0).trans rfl
      have hcz10_1 : wr.cell? ⟨gb348, 1, none⟩ = some (.slice A0_1 l0_1.length c0_1) := (blk_cell BK348.out 1).trans rfl
      have hfz10_0 := blk_frozen BK348.out 0
      have hfz10_1 := blk_frozen BK348.out 1
      have p349 : 0 ≤ (x5_1 : Int) := of_decide_eq_true (by first | (with_reducible assumption) | assumption)
      have q349 : x5_1 < (l0_0.length : Int) := of_decide_eq_true (by first | (with_reducible assumption) | assumption)
      obtain ⟨ad349, e349, hx349_0, hx349_1⟩ := at_T40 HR0_0.out x5_1 p349 q349
      cases e349
      replace hx349_0 := (HB.out.cell (World.block_lt_of_cell? w _ hx349_0)).trans hx349_0
      replace hx349_1 := (HB.out.cell (World.block_lt_of_cell? w _ hx349_1)).trans hx349_1
      replace p349 := eq_true p349
      replace q349 := eq_true q349
      go_wp2
      repeat (go_quiet (fail); try go_wp2)
      go_roundg k1
      case measure => have := HK1.out; omega
      case rel => exact ⟨(wrap64 (x5_1 + 1)), (by first | rfl | (simp; done) | (simp [*]; done) | (simp [wrap64, wrap32]; done)), H', ⟨by have := HK1.out; omega⟩, ⟨by (with_reducible repeat (first | refine blk_drewN ?_ _ | refine blk_drew ?_ | refine blk_alloc ?_ _)); exact BK348.out⟩, ⟨by repeat (first | (with_reducible first | exact HB.out | apply below_alloc | apply pw_below_drewN | apply below_drew1 | refine below_set ?_ GE348.out) | exact HB.out)⟩⟩
    ·rw [if_neg c5] at H
     exact absurd H (by simp)
   ·rw [if_neg c4] at H
    have c4b0 : decide (x5_1 < (l0_0.length : Int)) = false := decide_eq_false c4
    clear c4
    obtain rfl := Option.some.inj H
    have hcz11_0 : wr.cell? ⟨gb348, 0, none⟩ = some (.slice A0_0 l0_0.length c0_0) := (blk_cell BK348.out 0).trans rfl
    have hcz11_1 : wr.cell? ⟨gb348, 1, none⟩ = some (.slice A0_1 l0_1.length c0_1) := (blk_cell BK348.out 1).trans rfl
    have hfz11_0 := blk_frozen BK348.out 0
    have hfz11_1 := blk_frozen BK348.out 1
    go_wp2
    repeat (go_quiet (fail); try go_wp2)
    go_ret
    exact ⟨by first | rfl | (simp [errW_none, errW_some] <;> rfl) | (simp [*, errW_none, errW_some] <;> rfl), by repeat (first | (with_reducible first | exact HB.out | apply below_alloc | apply pw_below_drewN | apply below_drew1 | refine below_set ?_ GE348.out) | exact HB.out)⟩
section
open Go.Proofs.YtkflgnhcfhmkdaaDoor.H
def pragma_Rules_Knows.f (k : Nat) (l0 : List RlT) (a1 : ByteArray) : Option Bool := match l0 with
  | [] => some false
  | x :: _ => (fold_Fold.f k a1).bind fun s => if s.size ≤ 140737488351232 then some (hasW x.words s) else none
theorem pragma_Rules_Knows.mono : ∀ a0 a1 k, LeO (pragma_Rules_Knows.f k a0 a1) (pragma_Rules_Knows.f (k + 1) a0 a1) := by
  intro a0 a1 k
  unfold pragma_Rules_Knows.f
  cases a0 with
  | nil => exact LeO.refl _
  | cons x t => exact LeO.bind (fold_Fold.mono _ _) (fun _ => LeO.refl _)
set_option maxHeartbeats 4000000 in
set_option maxRecDepth 100000 in
theorem pragma_Rules_Knows.calls (k : Nat) (V0 : Value) (l0 : List RlT) (a1 : ByteArray) (r : Bool) (w : World) (hs0 : RlP w V0 l0) (h : pragma_Rules_Knows.f k l0 a1 = some r) :
    Calls Tryd.prog 16 #[V0, .string a1] w fun e w' => e = .returned (.bool r) ∧ Below w.heap.size w w' := by
  rcases hs0 with ⟨rfl, rfl⟩ | ⟨x, g, m, A, c, rfl, rfl, hg, hl, hC, hS⟩
  · obtain rfl : false = r := by simpa [pragma_Rules_Knows.f] using h
    go_enter Tryd.func16, Tryd.ntmps16
    go_upto_region 1 with fail
    refine start_ (n := 12) (S := fun w' => True) (ds := []) (bs 12 0) (by kernel_rfl) rfl rfl trivial (fun hHeld => ?_)
    refine pure_ (i := 0) (N := some 5) (v := ?_) (a' := ?_) (bs 12 1) rfl rfl (by kernel_rfl) (fun _ _ _ h => h) (Or.inl ⟨by rfl, ?_⟩) ?_ ?_
    rotate_left
    · intro w'
      go_simp
      with_reducible rfl
    rotate_left
    · simp only [Act.put, List.setIfInBounds_toArray, List.set_cons_zero, List.set_cons_succ, i64_w, i32_w]
      rfl
    refine pure_ (i := 1) (N := some 6) (v := ?_) (a' := ?_) (bs 12 3) rfl rfl (by kernel_rfl) (fun _ _ _ h => h) (Or.inl ⟨by rfl, ?_⟩) ?_ ?_
    rotate_left
    · intro w'
      go_simp
      with_reducible rfl
    rotate_left
    · simp only [Act.put, List.setIfInBounds_toArray, List.set_cons_zero, List.set_cons_succ, i64_w, i32_w]
      rfl
    refine pure_ (i := 2) (N := some 7) (v := ?_) (a' := ?_) (bs 12 7) rfl rfl (by kernel_rfl) (fun _ _ _ h => h) (Or.inl ⟨by rfl, ?_⟩) ?_ ?_
    rotate_left
    · intro w'
      go_simp
      with_reducible rfl
    rotate_left
    · simp only [Act.put, List.setIfInBounds_toArray, List.set_cons_zero, List.set_cons_succ, i64_w, i32_w]
      rfl
    refine pure_ (i := 3) (N := some 8) (v := undef) (a' := ?_) (bs 12 15) rfl rfl (by kernel_rfl) (fun _ _ _ h => h) (Or.inr ⟨by rfl, rfl⟩) ?_ ?_
    rotate_left
    · simp only [Act.put, List.setIfInBounds_toArray, List.set_cons_zero, List.set_cons_succ, i64_w, i32_w]
      rfl
    refine pure_ (i := 4) (N := some 9) (v := undef) (a' := ?_) (bs 12 31) rfl rfl (by kernel_rfl) (fun _ _ _ h => h) (Or.inr ⟨by rfl, rfl⟩) ?_ ?_
    rotate_left
    · simp only [Act.put, List.setIfInBounds_toArray, List.set_cons_zero, List.set_cons_succ, i64_w, i32_w]
      rfl
    refine pure_ (i := 5) (N := some 10) (v := undef) (a' := ?_) (bs 12 63) rfl rfl (by kernel_rfl) (fun _ _ _ h => h) (Or.inr ⟨by rfl, rfl⟩) ?_ ?_
    rotate_left
    · simp only [Act.put, List.setIfInBounds_toArray, List.set_cons_zero, List.set_cons_succ, i64_w, i32_w]
      rfl
    refine pure_ (i := 6) (N := some 11) (v := undef) (a' := ?_) (bs 12 127) rfl rfl (by kernel_rfl) (fun _ _ _ h => h) (Or.inr ⟨by rfl, rfl⟩) ?_ ?_
    rotate_left
    · simp only [Act.put, List.setIfInBounds_toArray, List.set_cons_zero, List.set_cons_succ, i64_w, i32_w]
      rfl
    refine pure_ (i := 7) (N := some 12) (v := undef) (a' := ?_) (bs 12 255) rfl rfl (by kernel_rfl) (fun _ _ _ h => h) (Or.inr ⟨by rfl, rfl⟩) ?_ ?_
    rotate_left
    · simp only [Act.put, List.setIfInBounds_toArray, List.set_cons_zero, List.set_cons_succ, i64_w, i32_w]
      rfl
    refine pure_ (i := 8) (N := some 13) (v := undef) (a' := ?_) (bs 12 511) rfl rfl (by kernel_rfl) (fun _ _ _ h => h) (Or.inr ⟨by rfl, rfl⟩) ?_ ?_
    rotate_left
    · simp only [Act.put, List.setIfInBounds_toArray, List.set_cons_zero, List.set_cons_succ, i64_w, i32_w]
      rfl
    refine pure_ (i := 9) (N := some 14) (v := undef) (a' := ?_) (bs 12 1023) rfl rfl (by kernel_rfl) (fun _ _ _ h => h) (Or.inr ⟨by rfl, rfl⟩) ?_ ?_
    rotate_left
    · simp only [Act.put, List.setIfInBounds_toArray, List.set_cons_zero, List.set_cons_succ, i64_w, i32_w]
      rfl
    refine pure_ (i := 10) (N := some 15) (v := ?_) (a' := ?_) (bs 12 2047) rfl rfl (by kernel_rfl) (fun _ _ _ h => h) (Or.inl ⟨by rfl, ?_⟩) ?_ ?_
    rotate_left
    · intro w'
      go_simp
      with_reducible rfl
    rotate_left
    · simp only [Act.put, List.setIfInBounds_toArray, List.set_cons_zero, List.set_cons_succ, i64_w, i32_w]
      rfl
    refine pure_ (i := 11) (N := some 4) (v := ?_) (a' := ?_) (bs 12 4095) rfl rfl (by kernel_rfl) (fun _ _ _ h => h) (Or.inl ⟨by rfl, ?_⟩) ?_ ?_
    rotate_left
    · intro w'
      go_simp
      with_reducible rfl
    rotate_left
    · simp only [Act.put, List.setIfInBounds_toArray, List.set_cons_zero, List.set_cons_succ, i64_w, i32_w]
      rfl
    refine done_ (by kernel_rfl) ?_
    clear hHeld
    go_wp2
    go_ret
    exact ⟨rfl, below_drew (Below.refl _ _)⟩
  · have h : ((fold_Fold.f k a1).bind fun s => if s.size ≤ 140737488351232 then some (hasW x.words s) else none) = some r := h
    obtain ⟨s, hf, h⟩ := Option.bind_eq_some_iff.mp h
    split at h
    case isFalse => cases h
    case isTrue hsz =>
    obtain rfl := Option.some.inj h
    obtain ⟨ws, hws⟩ : ∃ ws, x.words = ws := ⟨_, rfl⟩
    rw [hws] at hS ⊢
    have HSZ := Aside0.mk (show s.size ≤ maxLen by unfold maxLen; omega)
    have HF := Aside0.mk hf
    have HG := Aside0.mk hg
    have HS := Aside0.mk hS
    have HLT := Aside0.mk hS.lt
    clear h hC hg hl hS hsz hf hws
    go_enter Tryd.func16, Tryd.ntmps16
    go_upto_region 1 with fail
    refine start_ (n := 12) (S := fun w' => w'.cell? ⟨g, 1, none⟩ = some (.map (some m)) ∧ (Instr.lookup 43 (.map (some m)) (.string s) false).run Tryd.prog w' = .ok (.bool (hasW ws s)) w') (ds := []) (bs 12 0) (by kernel_rfl) rfl rfl ⟨(blk_cell (blk_drew HG.out) 1).trans rfl, (HS.out.kept (w' := w.drew) rfl).look s HSZ.out⟩ (fun hHeld => ?_)
    refine pure_ (i := 0) (N := some 5) (v := ?_) (a' := ?_) (bs 12 1) rfl rfl (by kernel_rfl) (fun _ _ _ h => h) (Or.inl ⟨by rfl, ?_⟩) ?_ ?_
    rotate_left
    · intro w'
      go_simp
      with_reducible rfl
    rotate_left
    · simp only [Act.put, List.setIfInBounds_toArray, List.set_cons_zero, List.set_cons_succ, i64_w, i32_w]
      rfl
    refine pure_ (i := 1) (N := some 6) (v := ?_) (a' := ?_) (bs 12 3) rfl rfl (by kernel_rfl) (fun _ _ _ h => h) (Or.inl ⟨by rfl, ?_⟩) ?_ ?_
    rotate_left
    · intro w'
      go_simp
      with_reducible rfl
    rotate_left
    · simp only [Act.put, List.setIfInBounds_toArray, List.set_cons_zero, List.set_cons_succ, i64_w, i32_w]
      rfl
    refine pure_ (i := 2) (N := some 7) (v := ?_) (a' := ?_) (bs 12 7) rfl rfl (by kernel_rfl) (fun _ _ _ h => h) (Or.inl ⟨by rfl, ?_⟩) ?_ ?_
    rotate_left
    · intro w'
      go_simp
      with_reducible rfl
    rotate_left
    · simp only [Act.put, List.setIfInBounds_toArray, List.set_cons_zero, List.set_cons_succ, i64_w, i32_w]
      rfl
    refine pure_ (i := 3) (N := some 8) (v := ?_) (a' := ?_) (bs 12 15) rfl rfl (by kernel_rfl) (fun _ _ _ h => h) (Or.inl ⟨by rfl, ?_⟩) ?_ ?_
    rotate_left
    · intro w'
      go_simp
      with_reducible rfl
    rotate_left
    · simp only [Act.put, List.setIfInBounds_toArray, List.set_cons_zero, List.set_cons_succ, i64_w, i32_w]
      rfl
    refine pure_ (i := 4) (N := some 9) (v := ?_) (a' := ?_) (bs 12 31) rfl rfl (by kernel_rfl) (fun _ _ _ h => h) (Or.inl ⟨by rfl, ?_⟩) ?_ ?_
    rotate_left
    · intro w'
      go_simp
      with_reducible rfl
    rotate_left
    · simp only [Act.put, List.setIfInBounds_toArray, List.set_cons_zero, List.set_cons_succ, i64_w, i32_w]
      rfl
    refine pure_ (i := 5) (N := some 10) (v := ?_) (a' := ?_) (bs 12 63) rfl rfl (by kernel_rfl) (fun _ _ _ h => h) (Or.inl ⟨by rfl, ?_⟩) ?_ ?_
    rotate_left
    · intro w'
      go_simp
      with_reducible rfl
    rotate_left
    · simp only [Act.put, List.setIfInBounds_toArray, List.set_cons_zero, List.set_cons_succ, i64_w, i32_w]
      rfl
    refine pure_ (i := 7) (N := some 12) (v := ?_) (a' := ?_) (bs 12 191) rfl rfl (by kernel_rfl) (fun _ _ _ h => h) (Or.inl ⟨by rfl, ?_⟩) ?_ ?_
    rotate_left
    · intro w'
      go_simp
      with_reducible rfl
    rotate_left
    · simp only [Act.put, List.setIfInBounds_toArray, List.set_cons_zero, List.set_cons_succ, i64_w, i32_w]
      rfl
    refine take_ (i := 6) (N := some 11) (v := ?_) (a' := ?_) (bs 12 255) rfl rfl (by kernel_rfl) (fun _ _ _ h => h) (Or.inl ⟨by rfl, ?_⟩) hHeld ?_ ?_
    rotate_left
    · rintro w' ⟨s0, s1⟩
      go_simp
      with_reducible rfl
    rotate_left
    · simp only [Act.put, List.setIfInBounds_toArray, List.set_cons_zero, List.set_cons_succ, i64_w, i32_w]
      rfl
    refine one_ (i := 8) (N := some 13) (bs 12 511) rfl rfl (by kernel_rfl) (by decide) (fun K hK => ?_)
    refine goes_ Tryd.func25 (by kernel_rfl) rfl #[.string a1] (by rfl) rfl rfl (by simp only [List.map_toArray, List.map_cons, List.map_nil]; rfl) ?_
    with_reducible refine (fold_Fold.calls k a1 s _ HF.out).mono ?_
    rintro e w3 ⟨rfl, hb⟩
    have HB3 := Aside0.mk (below_step (below_drew (Below.refl w.heap.size w)) hb)
    have hg3 := blk_below (blk_drew HG.out) hb
    have hs3 := HS.out.kept (hb.block m HLT.out)
    clear hb
    refine ⟨_, rfl, ?_⟩
    refine hK.out _ _ ⟨(blk_cell hg3 1).trans rfl, hs3.look s HSZ.out⟩ (fun hHeld => ?_)
    clear hK K
    refine norm_ (a' := ?_) ?_ ?_
    rotate_left
    · show Act.put _ (some 13) _ = _
      simp only [Act.put, List.setIfInBounds_toArray, List.set_cons_zero, List.set_cons_succ, i64_w, i32_w]
      rfl
    refine take_ (i := 9) (N := some 14) (v := ?_) (a' := ?_) (bs 12 1023) rfl rfl (by kernel_rfl) (fun _ _ _ h => h) (Or.inl ⟨by rfl, ?_⟩) hHeld ?_ ?_
    rotate_left
    · rintro w' ⟨s0, s1⟩
      go_simp
      with_reducible rfl
    rotate_left
    · simp only [Act.put, List.setIfInBounds_toArray, List.set_cons_zero, List.set_cons_succ, i64_w, i32_w]
      rfl
    refine pure_ (i := 10) (N := some 15) (v := ?_) (a' := ?_) (bs 12 2047) rfl rfl (by kernel_rfl) (fun _ _ _ h => h) (Or.inl ⟨by rfl, ?_⟩) ?_ ?_
    rotate_left
    · intro w'
      go_simp
      with_reducible rfl
    rotate_left
    · simp only [Act.put, List.setIfInBounds_toArray, List.set_cons_zero, List.set_cons_succ, i64_w, i32_w]
      rfl
    refine pure_ (i := 11) (N := some 4) (v := ?_) (a' := ?_) (bs 12 4095) rfl rfl (by kernel_rfl) (fun _ _ _ h => h) (Or.inl ⟨by rfl, ?_⟩) ?_ ?_
    rotate_left
    · intro w'
      go_simp
      with_reducible rfl
    rotate_left
    · simp only [Act.put, List.setIfInBounds_toArray, List.set_cons_zero, List.set_cons_succ, i64_w, i32_w]
      rfl
    refine done_ (by kernel_rfl) ?_
    clear hHeld
    go_wp2
    go_ret
    exact ⟨rfl, HB3.out⟩
end
def redpenref15_Rules_Knows.l0 : Nat → ByteArray → Int → List (S40) → List ByteArray → Option (Bool)
 | 0, _, _, _, _ => none
 | k + 1, x1, x5, x353000, x353001 => if x5 < (x353001.length : Int) then (if 0 ≤ x5 then (if (rdOf ByteArray.empty x353001 x5).toList = x1.toList then (some true) else (redpenref15_Rules_Knows.l0 k x1 (wrap64 (x5 + 1)) x353000 x353001)) else (none)) else (some false)
def redpenref15_Rules_Knows.f (k : Nat) (l0_0 : List (S40)) (l0_1 : List ByteArray) (a1 : ByteArray) : Option (Bool) := (redpenref01_Fold.f k a1).bind fun t353 => (redpenref15_Rules_Knows.l0 k t353 0 l0_0 l0_1)
theorem redpenref15_Rules_Knows.mono_l : ∀ k, (∀ y0 y1 y2 y3, LeO (redpenref15_Rules_Knows.l0 k y0 y1 y2 y3) (redpenref15_Rules_Knows.l0 (k + 1) y0 y1 y2 y3))
 | 0 => fun _ _ _ _ r h => by simp [redpenref15_Rules_Knows.l0] at h
 | k + 1 => by
  have ih0 := redpenref15_Rules_Knows.mono_l k
  ·intro y0 y1 y2 y3
   unfold redpenref15_Rules_Knows.l0
   repeat' first
   | (with_reducible exact ih0 _ _ _ _)
   | (with_reducible exact redpenref01_Fold.mono _ _)
   | (with_reducible exact LeO.refl _)
   | (with_reducible exact LeO.none _)
   | (with_reducible refine LeO.ite ?_ ?_)
   | (with_reducible refine LeO.bind ?_ (fun _ => ?_))
theorem redpenref15_Rules_Knows.mono : ∀ a0 a1 a2 k, LeO (redpenref15_Rules_Knows.f k a0 a1 a2) (redpenref15_Rules_Knows.f (k + 1) a0 a1 a2) := by
 intro a0 a1 a2 k
 have ih0 := redpenref15_Rules_Knows.mono_l k
 unfold redpenref15_Rules_Knows.f
 repeat' first
   | (with_reducible exact ih0 _ _ _ _)
   | (with_reducible exact redpenref01_Fold.mono _ _)
   | (with_reducible exact LeO.refl _)
   | (with_reducible exact LeO.none _)
   | (with_reducible refine LeO.ite ?_ ?_)
   | (with_reducible refine LeO.bind ?_ (fun _ => ?_))
set_option maxHeartbeats 8000000 in
set_option maxRecDepth 100000 in
theorem redpenref15_Rules_Knows.calls (k : Nat) (A0_0 : Option Addr) (c0_0 : Nat) (l0_0 : List (S40)) (A0_1 : Option Addr) (c0_1 : Nat) (l0_1 : List ByteArray) (a1 : ByteArray) (r : Bool) (w : World) (hr0_0 : Kd.C k40 w A0_0 l0_0.length l0_0) (hc0_0 : l0_0.length ≤ c0_0) (hr0_1 : Kd.C Kd.string w A0_1 l0_1.length l0_1) (hc0_1 : l0_1.length ≤ c0_1) (h : redpenref15_Rules_Knows.f k l0_0 l0_1 a1 = some r) :
  Calls Tryd.prog 17 #[.agg #[.slice A0_0 l0_0.length c0_0, .slice A0_1 l0_1.length c0_1], .string a1] w fun e w' => e = .returned (.bool r) ∧ Below w.heap.size w w' := by
 have hu37 := Tryd.underlying37
 have HR0_0 := Aside0.mk hr0_0
 have HC0_0 := Aside0.mk hc0_0
 clear hr0_0 hc0_0
 have HR0_1 := Aside0.mk hr0_1
 have HC0_1 := Aside0.mk hc0_1
 clear hr0_1 hc0_1
 have HB := Aside0.mk (Below.refl w.heap.size w)
 have H : ((redpenref01_Fold.f k a1).bind fun t353 => (redpenref15_Rules_Knows.l0 k t353 0 l0_0 l0_1)) = some r := h
 clear h
 replace H := Option.bind_eq_some_iff.mp H
 obtain ⟨t353, A30, H⟩ := H
 replace H : (redpenref15_Rules_Knows.l0 k t353 0 l0_0 l0_1) = some r := H
 have A3 := Aside0.mk A30
 clear A30
 have H' := Aside0.mk H
 clear H
 go_enter Tryd.func17, Tryd.ntmps17
 go_wp2_with (first | ((with_reducible refine gate_dst (N := 2) rfl ?_); refine box_event ?hg (N := 2) ?hd (cs := #[.slice A0_0 l0_0.length c0_0, .slice A0_1 l0_1.length c0_1]) (t := 37) ?hr ?_; (case hd => rfl); (case hg => rfl); (case hr => first | (go_simp; done) | (go_simp; rfl)); intro gb352 hg w4 hbox hb; have n0_ := Aside0.mk (below_step (by repeat (first | (with_reducible first | exact HB.out | apply below_alloc | apply pw_below_drewN | apply below_drew1) | exact HB.out)) hb); have n1_ := Aside0.mk (hbox); have n2_ := Aside0.mk ((by rw [hg]; exact (below_size (by repeat (first | (with_reducible first | exact HB.out | apply below_alloc | apply pw_below_drewN | apply below_drew1) | exact HB.out))) : w.heap.size ≤ gb352)); have n3_ := Aside0.mk ((by rw [hg]; exact (below_size (by repeat (first | (with_reducible first | exact HB.out | apply below_alloc | apply pw_below_drewN | apply below_drew1) | exact HB.out))) : w.heap.size ≤ gb352)); clear HB; have HB := n0_; have BK352 := n1_; have GW352 := n2_; have GE352 := n3_; clear n0_ n1_ n2_ n3_; clear hb hbox hg) | ((with_reducible refine gate_callee (f := 26) rfl ?_); refine goesL_ (some 7) rfl rfl Tryd.func26 (by kernel_rfl) rfl #[.string a1] rfl (by (try simp only [List.map_toArray, List.map_cons, List.map_nil]); first | done | rfl | (simp only [List.length_drop, List.length_take]; rfl)) ?_; (with_reducible refine (redpenref01_Fold.calls k a1 t353 _ A3.out).mono ?_); rintro e w5 ⟨rfl, hb⟩; refine ⟨_, rfl, ?_⟩; have n0_ := Aside0.mk (blk_below (g := gb352) (o := .cells #[.slice A0_0 l0_0.length c0_0, .slice A0_1 l0_1.length c0_1] 37 (0, 0)) (by (with_reducible repeat (first | refine blk_drewN ?_ _ | refine blk_drew ?_ | refine blk_alloc ?_ _)); exact BK352.out) hb); have n1_ := Aside0.mk (below_step (by repeat (first | (with_reducible first | exact HB.out | apply below_alloc | apply pw_below_drewN | apply below_drew1 | refine below_set ?_ GE352.out) | exact HB.out)) hb); clear BK352; clear HB; have BK352 := n0_; have HB := n1_; clear n0_ n1_; (try clear hb); (try clear hb2); (try clear hk); (try clear hi)))
 go_loopg [5] k (fun kq v5 w' => ∃ (x5_1 : Int), v5 = .int .i64 x5_1 ∧ Aside0 (redpenref15_Rules_Knows.l0 kq t353 x5_1 l0_0 l0_1 = some r) ∧ Aside0 (kq ≤ k) ∧ Aside0 (w'.heap[gb352]? = some (.cells #[(.slice A0_0 l0_0.length c0_0), (.slice A0_1 l0_1.length c0_1)] 37 (0, 0))) ∧ Aside0 (Below w.heap.size w w'))
 case atStart => exact ⟨(0), (by first | rfl | (simp; done) | (simp [*]; done) | (simp [wrap64, wrap32]; done)), H', ⟨Nat.le_refl _⟩, ⟨by (with_reducible repeat (first | refine blk_drewN ?_ _ | refine blk_drew ?_ | refine blk_alloc ?_ _)); exact BK352.out⟩, ⟨by repeat (first | (with_reducible first | exact HB.out | apply below_alloc | apply pw_below_drewN | apply below_drew1 | refine below_set ?_ GE352.out) | exact HB.out)⟩⟩
 case round =>
  clear H'
  (try clear c1); (try clear c2); (try clear p2)
  obtain ⟨x5_1, rfl, HA, HK1, BK352, HB⟩ := hrel
  cases gk with
  | zero => exact absurd HA.out (by simp [redpenref15_Rules_Knows.l0])
  | succ k1 =>
   have H := HA.out
   clear HA
   simp only [redpenref15_Rules_Knows.l0] at H
   by_cases c6 : x5_1 < (l0_1.length : Int)
   ·rw [if_pos c6] at H
    have c6b0 : decide (x5_1 < (l0_1.length : Int)) = true := decide_eq_true c6
    clear c6
    by_cases c7 : 0 ≤ x5_1
    ·rw [if_pos c7] at H
     have c7b0 : decide (0 ≤ x5_1) = true := decide_eq_true c7
     clear c7
     by_cases c8 : (rdOf ByteArray.empty l0_1 x5_1).toList = t353.toList
     ·rw [if_pos c8] at H
      have c8b0 : ((rdOf ByteArray.empty l0_1 x5_1).toList == t353.toList) = true := beq_iff_eq.mpr c8
      have c8b1 : ((rdOf ByteArray.empty l0_1 x5_1).toList != t353.toList) = false := bne_eq_false_iff_eq.mpr c8
      clear c8
      obtain rfl := Option.some.inj H
      have hcz9_0 : wr.cell? ⟨gb352, 0, none⟩ = some (.slice A0_0 l0_0.length c0_0) := (blk_cell BK352.out 0).trans rfl
      have hcz9_1 : wr.cell? ⟨gb352, 1, none⟩ = some (.slice A0_1 l0_1.length c0_1) := (blk_cell BK352.out 1).trans rfl
      have hfz9_0 := blk_frozen BK352.out 0
      have hfz9_1 := blk_frozen BK352.out 1
      have p354 : 0 ≤ (x5_1 : Int) := of_decide_eq_true (by first | (with_reducible assumption) | assumption)
      have q354 : x5_1 < (l0_1.length : Int) := of_decide_eq_true (by first | (with_reducible assumption) | assumption)
      obtain ⟨ad354, e354, hx354_0⟩ := Kd.at_string HR0_1.out x5_1 p354 q354
      cases e354
      replace hx354_0 := (HB.out.cell (World.block_lt_of_cell? w _ hx354_0)).trans hx354_0
      replace p354 := eq_true p354
      replace q354 := eq_true q354
      go_wp2
      go_ret
      exact ⟨by first | rfl | (simp [errW_none, errW_some] <;> rfl) | (simp [*, errW_none, errW_some] <;> rfl), by repeat (first | (with_reducible first | exact HB.out | apply below_alloc | apply pw_below_drewN | apply below_drew1 | refine below_set ?_ GE352.out) | exact HB.out)⟩
     ·rw [if_neg c8] at H
      have c8b0 : ((rdOf ByteArray.empty l0_1 x5_1).toList == t353.toList) = false := beq_eq_false_iff_ne.mpr c8
      have c8b1 : ((rdOf ByteArray.empty l0_1 x5_1).toList != t353.toList) = true := bne_iff_ne.mpr c8
      have H' := Aside0.mk H
      clear H
      have hcz10_0 : wr.cell? ⟨gb352, 0, none⟩ = some (.slice A0_0 l0_0.length c0_0) := (blk_cell BK352.out 0).trans rfl
      have hcz10_1 : wr.cell? ⟨gb352, 1, none⟩ = some (.slice A0_1 l0_1.length c0_1) := (blk_cell BK352.out 1).trans rfl
      have hfz10_0 := blk_frozen BK352.out 0
      have hfz10_1 := blk_frozen BK352.out 1
      have p354 : 0 ≤ (x5_1 : Int) := of_decide_eq_true (by first | (with_reducible assumption) | assumption)
      have q354 : x5_1 < (l0_1.length : Int) := of_decide_eq_true (by first | (with_reducible assumption) | assumption)
      obtain ⟨ad354, e354, hx354_0⟩ := Kd.at_string HR0_1.out x5_1 p354 q354
      cases e354
      replace hx354_0 := (HB.out.cell (World.block_lt_of_cell? w _ hx354_0)).trans hx354_0
      replace p354 := eq_true p354
      replace q354 := eq_true q354
      go_wp2
      go_roundg k1
      case measure => have := HK1.out; omega
      case rel => exact ⟨(wrap64 (x5_1 + 1)), (by first | rfl | (simp; done) | (simp [*]; done) | (simp [wrap64, wrap32]; done)), H', ⟨by have := HK1.out; omega⟩, ⟨by (with_reducible repeat (first | refine blk_drewN ?_ _ | refine blk_drew ?_ | refine blk_alloc ?_ _)); exact BK352.out⟩, ⟨by repeat (first | (with_reducible first | exact HB.out | apply below_alloc | apply pw_below_drewN | apply below_drew1 | refine below_set ?_ GE352.out) | exact HB.out)⟩⟩
    ·rw [if_neg c7] at H
     exact absurd H (by simp)
   ·rw [if_neg c6] at H
    have c6b0 : decide (x5_1 < (l0_1.length : Int)) = false := decide_eq_false c6
    clear c6
    obtain rfl := Option.some.inj H
    have hcz11_0 : wr.cell? ⟨gb352, 0, none⟩ = some (.slice A0_0 l0_0.length c0_0) := (blk_cell BK352.out 0).trans rfl
    have hcz11_1 : wr.cell? ⟨gb352, 1, none⟩ = some (.slice A0_1 l0_1.length c0_1) := (blk_cell BK352.out 1).trans rfl
    have hfz11_0 := blk_frozen BK352.out 0
    have hfz11_1 := blk_frozen BK352.out 1
    go_wp2
    go_ret
    exact ⟨by first | rfl | (simp [errW_none, errW_some] <;> rfl) | (simp [*, errW_none, errW_some] <;> rfl), by repeat (first | (with_reducible first | exact HB.out | apply below_alloc | apply pw_below_drewN | apply below_drew1 | refine below_set ?_ GE352.out) | exact HB.out)⟩
end Go.Proofs.YtkflgnhcfhmkdaaDoor.PPragmaReads
