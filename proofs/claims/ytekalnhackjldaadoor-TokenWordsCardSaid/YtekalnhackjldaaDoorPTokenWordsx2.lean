-- Laid by a program of ours (the kit's print with words and contracts of our own beside it).
import Derived.Test.YtekalnhackjldaaDoorPTokenWordsx0
namespace Go.Proofs.YtekalnhackjldaaDoor.PTokenWords
open Go.RowKit Go.Proofs.YtekalnhackjldaaDoor.X Go.Proofs.YtekalnhackjldaaDoorW.PrintWords Go.Proofs.YtekalnhackjldaaDoorW.PrintLast Go.Proofs.YtekalnhackjldaaDoorW.PrintMore
attribute [local go_sem] max2_int min2_int max_two min_two max_three min_three max_four min_four   -- for this text's walks alone
set_option linter.unusedVariables false
set_option linter.unusedSimpArgs false

/-! ### redpenlaw11_Bits: function 10 -/
def redpenlaw11_Bits.l0 : Nat → List ByteArray → List Int → List Int → List Int → Int → Int → Option (List Int)
 | 0, _, _, _, _, _, _ => none
 | k + 1, x0, x2, x7, x11, x12, x13 => if x13 < x12 then (if 0 ≤ x13 then (if x13 < (x11.length : Int) then (if x13 ≥ 60 then (some x7) else (if (wrap64 (rd x11 x13)) < (x0.length : Int) then (if 0 ≤ (wrap64 (rd x11 x13)) then (if x7.length + (rdOf ByteArray.empty x0 (wrap64 (rd x11 x13))).size < 140737488355328 then (redpenlaw11_Bits.l0 k x0 x2 (x7 ++ bytesOf (rdOf ByteArray.empty x0 (wrap64 (rd x11 x13)))) x11 x12 (wrap64 (x13 + 1))) else (none)) else (none)) else (if (x2.length : Int) > 0 then (if (x2.length : Int) = 0 then (none) else (if 0 ≤ (Int.tmod (wrap64 (rd x11 x13)) (x2.length : Int)) then (if (Int.tmod (wrap64 (rd x11 x13)) (x2.length : Int)) < (x2.length : Int) then (if x7.length < 140737488355328 then (redpenlaw11_Bits.l0 k x0 x2 (x7 ++ [rd x2 (Int.tmod (wrap64 (rd x11 x13)) (x2.length : Int))]) x11 x12 (wrap64 (x13 + 1))) else (none)) else (none)) else (none))) else (redpenlaw11_Bits.l0 k x0 x2 x7 x11 x12 (wrap64 (x13 + 1)))))) else (none)) else (none)) else (some x7)
def redpenlaw11_Bits.f (k : Nat) (l0 : List ByteArray) (l1 : List Int) (l2 : List Int) : Option (List Int) := redpenlaw11_Bits.l0 k l0 l2 ([] : List Int) l1 (l1.length : Int) 0
theorem redpenlaw11_Bits.mono_l : ∀ k, (∀ y0 y1 y2 y3 y4 y5, LeO (redpenlaw11_Bits.l0 k y0 y1 y2 y3 y4 y5) (redpenlaw11_Bits.l0 (k + 1) y0 y1 y2 y3 y4 y5))
 | 0 => fun _ _ _ _ _ _ r h => by simp [redpenlaw11_Bits.l0] at h
 | k + 1 => by
  have ih0 := redpenlaw11_Bits.mono_l k
  ·intro y0 y1 y2 y3 y4 y5
   unfold redpenlaw11_Bits.l0
   repeat' first
   | (with_reducible exact ih0 _ _ _ _ _ _)
   | (with_reducible exact LeO.refl _)
   | (with_reducible exact LeO.none _)
   | (with_reducible refine LeO.ite ?_ ?_)
   | (with_reducible refine LeO.bind ?_ (fun _ => ?_))
theorem redpenlaw11_Bits.mono : ∀ a0 a1 a2 k, LeO (redpenlaw11_Bits.f k a0 a1 a2) (redpenlaw11_Bits.f (k + 1) a0 a1 a2) := by
 intro a0 a1 a2 k
 have ih0 := redpenlaw11_Bits.mono_l k
 unfold redpenlaw11_Bits.f
 repeat' first
   | (with_reducible exact ih0 _ _ _ _ _ _)
   | (with_reducible exact LeO.refl _)
   | (with_reducible exact LeO.none _)
   | (with_reducible refine LeO.ite ?_ ?_)
   | (with_reducible refine LeO.bind ?_ (fun _ => ?_))
set_option maxHeartbeats 8000000 in
set_option maxRecDepth 100000 in
theorem redpenlaw11_Bits.calls (k : Nat) (A0 : Option Addr) (c0 : Nat) (l0 : List ByteArray) (A1 : Option Addr) (c1 : Nat) (l1 : List Int) (A2 : Option Addr) (c2 : Nat) (l2 : List Int) (r : List Int) (w : World) (hr0 : Kd.C Kd.string w A0 l0.length l0) (hc0 : l0.length ≤ c0) (hr1 : Kd.C (Kd.int .u8) w A1 l1.length l1) (hc1 : l1.length ≤ c1) (hr2 : Kd.C (Kd.int .u8) w A2 l2.length l2) (hc2 : l2.length ≤ c2) (h : redpenlaw11_Bits.f k l0 l1 l2 = some r) :
  Calls Tryd.prog 10 #[.slice A0 l0.length c0, .slice A1 l1.length c1, .slice A2 l2.length c2] w fun e w' => ∃ v0_ : Value, e = .returned (v0_) ∧ Kd.R (Kd.int .u8) 5 w' w.heap.size (fun _ => True) v0_ r ∧ Below w.heap.size w w' := by
 have HR0 := Aside0.mk hr0
 have HC0 := Aside0.mk hc0
 clear hr0 hc0
 have HR1 := Aside0.mk hr1
 have HC1 := Aside0.mk hc1
 clear hr1 hc1
 have HR2 := Aside0.mk hr2
 have HC2 := Aside0.mk hc2
 clear hr2 hc2
 have HB := Aside0.mk (Below.refl w.heap.size w)
 have H : (redpenlaw11_Bits.l0 k l0 l2 ([] : List Int) l1 (l1.length : Int) 0) = some r := h
 clear h
 have H' := Aside0.mk H
 clear H
 go_enter Tryd.func10, Tryd.ntmps10
 go_wp2
 go_loopg [7, 13] k (fun kq v7 v13 w' => ∃ (x7_1 : List Int) (x13_1 : Int), v13 = .int .i64 x13_1 ∧ Aside0 (redpenlaw11_Bits.l0 kq l0 l2 x7_1 l1 (l1.length : Int) x13_1 = some r) ∧ Aside0 (kq ≤ k) ∧ Aside0 (Kd.R (Kd.int .u8) 5 w' w.heap.size (fun _ => True) v7 x7_1) ∧ Aside0 (Below w.heap.size w w'))
 case atStart => exact ⟨(([] : List Int)), (0), (by first | rfl | (simp; done) | (simp [*]; done) | (simp [wrap64, wrap32]; done)), H', ⟨Nat.le_refl _⟩, ⟨by first | exact Kd.R_nil _ _ _ _ _ | exact Kd.N_nil _ _ _ _ _ | exact Kd.V_nil _ _ _ _ _ | exact Kd.Q_nil _ _ _ _ _ | exact Kd.S_nil _ _ _ _ _⟩, ⟨by repeat (first | (with_reducible first | exact HB.out | apply below_alloc | apply pw_below_drewN | apply below_drew1) | exact HB.out)⟩⟩
 case round =>
  clear H'
  (try clear c1); (try clear c2); (try clear p2)
  obtain ⟨x7_1, x13_1, rfl, HA, HK1, HO_7, HB⟩ := hrel
  cases gk with
  | zero => exact absurd HA.out (by simp [redpenlaw11_Bits.l0])
  | succ k1 =>
   have H := HA.out
   clear HA
   simp only [redpenlaw11_Bits.l0] at H
   by_cases c4 : x13_1 < (l1.length : Int)
   ·rw [if_pos c4] at H
    have c4b0 : decide (x13_1 < (l1.length : Int)) = true := decide_eq_true c4
    clear c4
    by_cases c5 : 0 ≤ x13_1
    ·rw [if_pos c5] at H
     have c5b0 : decide (0 ≤ x13_1) = true := decide_eq_true c5
     clear c5
     by_cases c6 : x13_1 < (l1.length : Int)
     ·rw [if_pos c6] at H
      have c6b0 : decide (x13_1 < (l1.length : Int)) = true := decide_eq_true c6
      clear c6
      by_cases c7 : x13_1 ≥ 60
      ·rw [if_pos c7] at H
       have c7b0 : decide (60 ≤ x13_1) = true := decide_eq_true c7
       clear c7
       obtain rfl := Option.some.inj H
       have p101 : 0 ≤ (x13_1 : Int) := of_decide_eq_true (by first | (with_reducible assumption) | assumption)
       have q101 : x13_1 < (l1.length : Int) := of_decide_eq_true (by first | (with_reducible assumption) | assumption)
       obtain ⟨ad101, e101, hx101_0⟩ := Kd.at_int HR1.out x13_1 p101 q101
       cases e101
       replace hx101_0 := (HB.out.cell (World.block_lt_of_cell? w _ hx101_0)).trans hx101_0
       replace p101 := eq_true p101
       replace q101 := eq_true q101
       go_wp2
       go_ret
       exact ⟨_, by first | rfl | (simp [errW_none, errW_some] <;> rfl) | (simp [*, errW_none, errW_some] <;> rfl), by (with_reducible repeat (first | apply Kd.R_alloc | apply Kd.R_drewN | apply Kd.R_drew)); exact HO_7.out, by repeat (first | (with_reducible first | exact HB.out | apply below_alloc | apply pw_below_drewN | apply below_drew1) | exact HB.out)⟩
      ·rw [if_neg c7] at H
       have c7b0 : decide (60 ≤ x13_1) = false := decide_eq_false c7
       clear c7
       by_cases c8 : (wrap64 (rd l1 x13_1)) < (l0.length : Int)
       ·rw [if_pos c8] at H
        have c8b0 : decide ((wrap64 (rd l1 x13_1)) < (l0.length : Int)) = true := decide_eq_true c8
        clear c8
        obtain ⟨ji9, hji9⟩ : ∃ j_ : Int, (wrap64 (rd l1 x13_1)) = j_ := ⟨_, rfl⟩
        replace H : (if 0 ≤ (ji9) then (if x7_1.length + (rdOf ByteArray.empty l0 (ji9)).size < 140737488355328 then (redpenlaw11_Bits.l0 k1 l0 l2 (x7_1 ++ bytesOf (rdOf ByteArray.empty l0 (ji9))) l1 (l1.length : Int) (wrap64 (x13_1 + 1))) else (none)) else (none)) = some r := by first | (rw [hji9] at H; exact H) | (simp only [hji9] at H ⊢; exact H)
        (try rw [hji9] at c8b0)
        have hji9w : (IntKind.i64.wrap (rd l1 x13_1)) = ji9 := (i64_w _).trans hji9
        by_cases c10 : 0 ≤ (ji9)
        ·rw [if_pos c10] at H
         have c10b0 : decide (0 ≤ (ji9)) = true := decide_eq_true c10
         clear c10
         by_cases c11 : x7_1.length + (rdOf ByteArray.empty l0 (ji9)).size < 140737488355328
         ·rw [if_pos c11] at H
          have LMc11 := Aside0.mk c11
          clear c11
          obtain ⟨y103, hy103⟩ : ∃ y_ : List Int, y_ = (x7_1 ++ bytesOf (rdOf ByteArray.empty l0 (ji9))) := ⟨_, rfl⟩
          replace H : (redpenlaw11_Bits.l0 k1 l0 l2 y103 l1 (l1.length : Int) (wrap64 (x13_1 + 1))) = some r := by first | (rw [hy103]; with_reducible exact H) | (have H2_ := (Option.bind_some _ _).symm.trans H; rw [hy103]; with_reducible exact H2_) | (have H2_ := (Option.bind_some _ _).symm.trans H; with_reducible exact H2_) | with_reducible exact H | (rw [hy103]; exact H) | exact H
          have Ny103 := Aside0.mk hy103
          clear hy103
          have H' := Aside0.mk H
          clear H
          have p101 : 0 ≤ (x13_1 : Int) := of_decide_eq_true (by first | (with_reducible assumption) | assumption)
          have q101 : x13_1 < (l1.length : Int) := of_decide_eq_true (by first | (with_reducible assumption) | assumption)
          obtain ⟨ad101, e101, hx101_0⟩ := Kd.at_int HR1.out x13_1 p101 q101
          cases e101
          replace hx101_0 := (HB.out.cell (World.block_lt_of_cell? w _ hx101_0)).trans hx101_0
          replace p101 := eq_true p101
          replace q101 := eq_true q101
          have p102 : 0 ≤ ((ji9) : Int) := of_decide_eq_true (by first | (with_reducible assumption) | assumption)
          have q102 : (ji9) < (l0.length : Int) := of_decide_eq_true (by first | (with_reducible assumption) | assumption)
          obtain ⟨ad102, e102, hx102_0⟩ := Kd.at_string HR0.out (ji9) p102 q102
          cases e102
          replace hx102_0 := (HB.out.cell (World.block_lt_of_cell? w _ hx102_0)).trans hx102_0
          replace p102 := eq_true p102
          replace q102 := eq_true q102
          go_wp2_with (first | (at_builtin; refine print_append_str (w0 := w) w.heap.size rfl (.tmp 26) _ 22 9 5 rfl Tryd.underlying22 Tryd.underlying9 info5 u7 x7_1 (rdOf ByteArray.empty l0 (ji9)) rfl rfl ?aO ?aB ?aS ?aL ?_; (case aB => exact (by repeat (first | (with_reducible first | exact HB.out | apply below_alloc | apply pw_below_drewN | apply below_drew1) | exact HB.out))); (case aO => exact (Kd.own_of_R (by (with_reducible repeat (first | apply Kd.R_alloc | apply Kd.R_drewN | apply Kd.R_drew)); exact HO_7.out))); (case aS => exact (below_size (by repeat (first | (with_reducible first | exact HB.out | apply below_alloc | apply pw_below_drewN | apply below_drew1) | exact HB.out)))); (case aL => have := LMc11.out; omega); intro v104 w12 ho0 hb hg; have ho := Kd.R_of_own (h1 := fun _ => rfl) (ok := fun _ => True) ho0 (fun _ _ => trivial); clear ho0; have hat := True.intro; rw [← Ny103.out] at ho; change Kd.R (Kd.int .u8) 5 w12 w.heap.size (fun _ => True) v104 y103 at ho; have n0_ := Aside0.mk (hb); have n1_ := Aside0.mk (ho); clear HB; clear HO_7; have HB := n0_; have HO105 := n1_; clear n0_ n1_; clear ho hb hg hat))
          go_roundg k1
          case measure => have := HK1.out; omega
          case rel => exact ⟨(y103), (wrap64 (x13_1 + 1)), (by first | rfl | (simp; done) | (simp [*]; done) | (simp [wrap64, wrap32]; done)), H', ⟨by have := HK1.out; omega⟩, ⟨by (with_reducible repeat (first | apply Kd.R_alloc | apply Kd.R_drewN | apply Kd.R_drew)); exact HO105.out⟩, ⟨by repeat (first | (with_reducible first | exact HB.out | apply below_alloc | apply pw_below_drewN | apply below_drew1) | exact HB.out)⟩⟩
         ·rw [if_neg c11] at H
          exact absurd H (by simp)
        ·rw [if_neg c10] at H
         exact absurd H (by simp)
       ·rw [if_neg c8] at H
        have c8b0 : decide ((wrap64 (rd l1 x13_1)) < (l0.length : Int)) = false := decide_eq_false c8
        clear c8
        by_cases c13 : (l2.length : Int) > 0
        ·rw [if_pos c13] at H
         have c13b0 : decide (0 < (l2.length : Int)) = true := decide_eq_true c13
         have c13b1 : decide (0 < l2.length) = true := decide_eq_true (by omega)
         clear c13
         by_cases c14 : (l2.length : Int) = 0
         ·rw [if_pos c14] at H
          exact absurd H (by simp)
         ·rw [if_neg c14] at H
          have c14b0 : ((l2.length : Int) == 0) = false := beq_eq_false_iff_ne.mpr c14
          have c14b1 : ((l2.length : Int) != 0) = true := bne_iff_ne.mpr c14
          have c14b2 : ¬ (l2 = []) := fun h_ => c14 (by rw [h_]; rfl)
          obtain ⟨ji15, hji15⟩ : ∃ j_ : Int, (Int.tmod (wrap64 (rd l1 x13_1)) (l2.length : Int)) = j_ := ⟨_, rfl⟩
          replace H : (if 0 ≤ (ji15) then (if (ji15) < (l2.length : Int) then (if x7_1.length < 140737488355328 then (redpenlaw11_Bits.l0 k1 l0 l2 (x7_1 ++ [rd l2 (ji15)]) l1 (l1.length : Int) (wrap64 (x13_1 + 1))) else (none)) else (none)) else (none)) = some r := by first | (rw [hji15] at H; exact H) | (simp only [hji15] at H ⊢; exact H)
          by_cases c16 : 0 ≤ (ji15)
          ·rw [if_pos c16] at H
           have c16b0 : decide (0 ≤ (ji15)) = true := decide_eq_true c16
           clear c16
           by_cases c17 : (ji15) < (l2.length : Int)
           ·rw [if_pos c17] at H
            have c17b0 : decide ((ji15) < (l2.length : Int)) = true := decide_eq_true c17
            clear c17
            by_cases c18 : x7_1.length < 140737488355328
            ·rw [if_pos c18] at H
             have LMc18 := Aside0.mk c18
             clear c18
             obtain ⟨y107, hy107⟩ : ∃ y_ : List Int, y_ = (x7_1 ++ [rd l2 (ji15)]) := ⟨_, rfl⟩
             replace H : (redpenlaw11_Bits.l0 k1 l0 l2 y107 l1 (l1.length : Int) (wrap64 (x13_1 + 1))) = some r := by first | (rw [hy107]; with_reducible exact H) | (have H2_ := (Option.bind_some _ _).symm.trans H; rw [hy107]; with_reducible exact H2_) | (have H2_ := (Option.bind_some _ _).symm.trans H; with_reducible exact H2_) | with_reducible exact H | (rw [hy107]; exact H) | exact H
             have Ny107 := Aside0.mk hy107
             clear hy107
             have H' := Aside0.mk H
             clear H
             have p101 : 0 ≤ (x13_1 : Int) := of_decide_eq_true (by first | (with_reducible assumption) | assumption)
             have q101 : x13_1 < (l1.length : Int) := of_decide_eq_true (by first | (with_reducible assumption) | assumption)
             obtain ⟨ad101, e101, hx101_0⟩ := Kd.at_int HR1.out x13_1 p101 q101
             cases e101
             replace hx101_0 := (HB.out.cell (World.block_lt_of_cell? w _ hx101_0)).trans hx101_0
             replace p101 := eq_true p101
             replace q101 := eq_true q101
             have p106 : 0 ≤ ((ji15) : Int) := of_decide_eq_true (by first | (with_reducible assumption) | assumption)
             have q106 : (ji15) < (l2.length : Int) := of_decide_eq_true (by first | (with_reducible assumption) | assumption)
             obtain ⟨ad106, e106, hx106_0⟩ := Kd.at_int HR2.out (ji15) p106 q106
             cases e106
             replace hx106_0 := (HB.out.cell (World.block_lt_of_cell? w _ hx106_0)).trans hx106_0
             replace p106 := eq_true p106
             replace q106 := eq_true q106
             go_wp2_with (first | ((with_reducible refine gate_builtin (b := .append) (xs := #[.tmp 35, .tmp 43]) rfl ?_); at_builtin; refine Kd.R_append (Kd.int .u8) (w0 := w) w.heap.size rfl (.tmp 35) (.tmp 43) 22 5 (.int .u8 0) 1 rfl Tryd.underlying22 info5 rfl (by decide) (by omega) u7 x7_1 (rd l2 (ji15)) [.int .u8 (rd l2 (ji15))] (fun _ => True) (fun _ => False) rfl rfl ?aP (fun _ hk => hk.elim) ?aF ?aO ?aB ?aS ?aL ?_; (case aP => exact rfl); (case aB => exact (by repeat (first | (with_reducible first | exact HB.out | apply below_alloc | apply pw_below_drewN | apply below_drew1) | exact HB.out))); (case aF => exact (fun _ _ => trivial)); (case aO => exact (by (with_reducible repeat (first | apply Kd.R_alloc | apply Kd.R_drewN | apply Kd.R_drew)); exact HO_7.out)); (case aS => exact (below_size (by repeat (first | (with_reducible first | exact HB.out | apply below_alloc | apply pw_below_drewN | apply below_drew1) | exact HB.out)))); (case aL => have := LMc18.out; omega); intro v108 w19 ho hb hg hat; rw [← Ny107.out] at ho; have n0_ := Aside0.mk (hb); have n1_ := Aside0.mk (ho); clear HB; clear HO_7; have HB := n0_; have HO109 := n1_; clear n0_ n1_; clear ho hb hg hat))
             go_roundg k1
             case measure => have := HK1.out; omega
             case rel => exact ⟨(y107), (wrap64 (x13_1 + 1)), (by first | rfl | (simp; done) | (simp [*]; done) | (simp [wrap64, wrap32]; done)), H', ⟨by have := HK1.out; omega⟩, ⟨by (with_reducible repeat (first | apply Kd.R_alloc | apply Kd.R_drewN | apply Kd.R_drew)); exact HO109.out⟩, ⟨by repeat (first | (with_reducible first | exact HB.out | apply below_alloc | apply pw_below_drewN | apply below_drew1) | exact HB.out)⟩⟩
            ·rw [if_neg c18] at H
             exact absurd H (by simp)
           ·rw [if_neg c17] at H
            exact absurd H (by simp)
          ·rw [if_neg c16] at H
           exact absurd H (by simp)
        ·rw [if_neg c13] at H
         have c13b0 : decide (0 < (l2.length : Int)) = false := decide_eq_false c13
         have c13b1 : decide (0 < l2.length) = false := decide_eq_false (by omega)
         clear c13
         have H' := Aside0.mk H
         clear H
         have p101 : 0 ≤ (x13_1 : Int) := of_decide_eq_true (by first | (with_reducible assumption) | assumption)
         have q101 : x13_1 < (l1.length : Int) := of_decide_eq_true (by first | (with_reducible assumption) | assumption)
         obtain ⟨ad101, e101, hx101_0⟩ := Kd.at_int HR1.out x13_1 p101 q101
         cases e101
         replace hx101_0 := (HB.out.cell (World.block_lt_of_cell? w _ hx101_0)).trans hx101_0
         replace p101 := eq_true p101
         replace q101 := eq_true q101
         go_wp2
         go_roundg k1
         case measure => have := HK1.out; omega
         case rel => exact ⟨(x7_1), (wrap64 (x13_1 + 1)), (by first | rfl | (simp; done) | (simp [*]; done) | (simp [wrap64, wrap32]; done)), H', ⟨by have := HK1.out; omega⟩, ⟨by (with_reducible repeat (first | apply Kd.R_alloc | apply Kd.R_drewN | apply Kd.R_drew)); exact HO_7.out⟩, ⟨by repeat (first | (with_reducible first | exact HB.out | apply below_alloc | apply pw_below_drewN | apply below_drew1) | exact HB.out)⟩⟩
     ·rw [if_neg c6] at H
      exact absurd H (by simp)
    ·rw [if_neg c5] at H
     exact absurd H (by simp)
   ·rw [if_neg c4] at H
    have c4b0 : decide (x13_1 < (l1.length : Int)) = false := decide_eq_false c4
    clear c4
    obtain rfl := Option.some.inj H
    go_wp2
    go_ret
    exact ⟨_, by first | rfl | (simp [errW_none, errW_some] <;> rfl) | (simp [*, errW_none, errW_some] <;> rfl), by (with_reducible repeat (first | apply Kd.R_alloc | apply Kd.R_drewN | apply Kd.R_drew)); exact HO_7.out, by repeat (first | (with_reducible first | exact HB.out | apply below_alloc | apply pw_below_drewN | apply below_drew1) | exact HB.out)⟩

/-! ### decode_Entity: function 12 -/
def decode_Entity.f (l0 : List Int) : Option (Int × Int × Bool) := some (Go.Proofs.YtekalnhackjldaaDoor.H.entF l0)
theorem decode_Entity.calls (A0 : Option Addr) (c0 : Nat) (l0 : List Int) (r1 : Int) (r2 : Int) (r3 : Bool) (w : World) (hr0 : Kd.C (Kd.int .u8) w A0 l0.length l0) (hc0 : l0.length ≤ c0) (h : decode_Entity.f l0 = some (r1, r2, r3)) (hL : Go.Proofs.YtekalnhackjldaaDoor.H.Laid w) :
    Calls Tryd.prog 12 #[.slice A0 l0.length c0] w fun e w' => e = .returned (.tuple #[.int .i32 r1, .int .i64 r2, .bool r3]) ∧ Below w.heap.size w w' := by
  have h1 : Go.Proofs.YtekalnhackjldaaDoor.H.entF l0 = (r1, r2, r3) := Option.some.inj h
  have h2 := Go.Proofs.YtekalnhackjldaaDoor.H.ent_at A0 c0 l0 w hr0 hc0 hL
  rw [h1] at h2
  exact h2

/-! ### decode_valid: function 34 -/
def decode_valid.f (a0 : Int) : Option (Bool) := if a0 > 0 then (if a0 ≤ 1114111 then (if a0 ≥ 55296 then (some (!(decide (a0 < 57344)))) else (some (!false))) else (some false)) else (some false)
set_option maxHeartbeats 8000000 in
set_option maxRecDepth 100000 in
theorem decode_valid.calls (a0 : Int) (r : Bool) (w : World) (h : decode_valid.f a0 = some r) :
  Calls Tryd.prog 34 #[.int .u64 a0] w fun e w' => e = .returned (.bool r) ∧ Drawn0 w w' := by
 have H : (if a0 > 0 then (if a0 ≤ 1114111 then (if a0 ≥ 55296 then (some (!(decide (a0 < 57344)))) else (some (!false))) else (some false)) else (some false)) = some r := h
 clear h
 by_cases c2 : a0 > 0
 ·rw [if_pos c2] at H
  have c2b0 : decide (0 < a0) = true := decide_eq_true c2
  clear c2
  by_cases c3 : a0 ≤ 1114111
  ·rw [if_pos c3] at H
   have c3b0 : decide (a0 ≤ 1114111) = true := decide_eq_true c3
   clear c3
   by_cases c4 : a0 ≥ 55296
   ·rw [if_pos c4] at H
    have c4b0 : decide (55296 ≤ a0) = true := decide_eq_true c4
    clear c4
    obtain rfl := Option.some.inj H
    go_enter Tryd.func34, Tryd.ntmps34
    go_wp2
    go_ret
    exact ⟨by first | rfl | (simp; done) | (simp [*]; done) | (simp [wrap64, wrap32]; done), by repeat (first | exact Drawn0.refl _ | apply Drawn0.step)⟩
   ·rw [if_neg c4] at H
    have c4b0 : decide (55296 ≤ a0) = false := decide_eq_false c4
    clear c4
    obtain rfl := Option.some.inj H
    go_enter Tryd.func34, Tryd.ntmps34
    go_wp2
    go_ret
    exact ⟨by first | rfl | (simp; done) | (simp [*]; done) | (simp [wrap64, wrap32]; done), by repeat (first | exact Drawn0.refl _ | apply Drawn0.step)⟩
  ·rw [if_neg c3] at H
   have c3b0 : decide (a0 ≤ 1114111) = false := decide_eq_false c3
   clear c3
   obtain rfl := Option.some.inj H
   go_enter Tryd.func34, Tryd.ntmps34
   go_wp2
   go_ret
   exact ⟨by first | rfl | (simp; done) | (simp [*]; done) | (simp [wrap64, wrap32]; done), by repeat (first | exact Drawn0.refl _ | apply Drawn0.step)⟩
 ·rw [if_neg c2] at H
  have c2b0 : decide (0 < a0) = false := decide_eq_false c2
  clear c2
  obtain rfl := Option.some.inj H
  go_enter Tryd.func34, Tryd.ntmps34
  go_wp2
  go_ret
  exact ⟨by first | rfl | (simp; done) | (simp [*]; done) | (simp [wrap64, wrap32]; done), by repeat (first | exact Drawn0.refl _ | apply Drawn0.step)⟩

/-! ### decode_digits: function 37 -/
mutual
def decode_digits.l0 : Nat → Int → List Int → Int → Int → Option (Int × Bool)
 | 0, _, _, _, _ => none
 | k + 1, x6, x15, x16, x17 => if x17 < x16 then (if 0 ≤ x17 then (if x17 < (x15.length : Int) then (if (rd x15 x17) ≥ 48 then (decode_digits.j1 k x6 (rd x15 x17) x15 x16 x17 (decide ((rd x15 x17) ≤ 57))) else (decode_digits.j1 k x6 (rd x15 x17) x15 x16 x17 false)) else (none)) else (none)) else (some (x6, true))
def decode_digits.j1 : Nat → Int → Int → List Int → Int → Int → Bool → Option (Int × Bool)
 | 0, _, _, _, _, _, _ => none
 | k + 1, x6, x8, x15, x16, x17, x21 => if x21 = true then (decode_digits.l0 k (Go.bits .or .u64 (IntKind.u64.wrap (x6 * 16)) ((x8 - 48) % 256)) x15 x16 (wrap64 (x17 + 1))) else (if x8 ≥ 97 then (decode_digits.j2 k x6 x8 x15 x16 x17 (decide (x8 ≤ 102))) else (decode_digits.j2 k x6 x8 x15 x16 x17 false))
def decode_digits.j2 : Nat → Int → Int → List Int → Int → Int → Bool → Option (Int × Bool)
 | 0, _, _, _, _, _, _ => none
 | k + 1, x6, x8, x15, x16, x17, x34 => if x34 = true then (decode_digits.l0 k (Go.bits .or .u64 (IntKind.u64.wrap (x6 * 16)) ((((x8 - 97) % 256) + 10) % 256)) x15 x16 (wrap64 (x17 + 1))) else (if x8 ≥ 65 then (if x8 ≤ 70 then (decode_digits.l0 k (Go.bits .or .u64 (IntKind.u64.wrap (x6 * 16)) ((((x8 - 65) % 256) + 10) % 256)) x15 x16 (wrap64 (x17 + 1))) else (some (0, false))) else (some (0, false)))
end
def decode_digits.f (k : Nat) (l0 : List Int) (a1 : Int) : Option (Int × Bool) := if (l0.length : Int) < a1 then (some (0, false)) else (if 0 ≤ a1 then (if a1 ≤ (l0.length : Int) then ((some (l0.take (a1 : Int).toNat : List Int)).bind fun y110 => (decode_digits.l0 k 0 y110 (y110.length : Int) 0)) else (none)) else (none))
theorem decode_digits.mono_l : ∀ k, (∀ y0 y1 y2 y3, LeO (decode_digits.l0 k y0 y1 y2 y3) (decode_digits.l0 (k + 1) y0 y1 y2 y3)) ∧ (∀ y0 y1 y2 y3 y4 y5, LeO (decode_digits.j1 k y0 y1 y2 y3 y4 y5) (decode_digits.j1 (k + 1) y0 y1 y2 y3 y4 y5)) ∧ (∀ y0 y1 y2 y3 y4 y5, LeO (decode_digits.j2 k y0 y1 y2 y3 y4 y5) (decode_digits.j2 (k + 1) y0 y1 y2 y3 y4 y5))
 | 0 => ⟨fun _ _ _ _ r h => by simp [decode_digits.l0] at h, fun _ _ _ _ _ _ r h => by simp [decode_digits.j1] at h, fun _ _ _ _ _ _ r h => by simp [decode_digits.j2] at h⟩
 | k + 1 => by
  obtain ⟨ih0, ih1, ih2⟩ := decode_digits.mono_l k
  refine ⟨?_, ?_, ?_⟩
  ·intro y0 y1 y2 y3
   unfold decode_digits.l0
   repeat' first
   | (with_reducible exact ih0 _ _ _ _)
   | (with_reducible exact ih1 _ _ _ _ _ _)
   | (with_reducible exact ih2 _ _ _ _ _ _)
   | (with_reducible exact LeO.refl _)
   | (with_reducible exact LeO.none _)
   | (with_reducible refine LeO.ite ?_ ?_)
   | (with_reducible refine LeO.bind ?_ (fun _ => ?_))
  ·intro y0 y1 y2 y3 y4 y5
   unfold decode_digits.j1
   repeat' first
   | (with_reducible exact ih0 _ _ _ _)
   | (with_reducible exact ih1 _ _ _ _ _ _)
   | (with_reducible exact ih2 _ _ _ _ _ _)
   | (with_reducible exact LeO.refl _)
   | (with_reducible exact LeO.none _)
   | (with_reducible refine LeO.ite ?_ ?_)
   | (with_reducible refine LeO.bind ?_ (fun _ => ?_))
  ·intro y0 y1 y2 y3 y4 y5
   unfold decode_digits.j2
   repeat' first
   | (with_reducible exact ih0 _ _ _ _)
   | (with_reducible exact ih1 _ _ _ _ _ _)
   | (with_reducible exact ih2 _ _ _ _ _ _)
   | (with_reducible exact LeO.refl _)
   | (with_reducible exact LeO.none _)
   | (with_reducible refine LeO.ite ?_ ?_)
   | (with_reducible refine LeO.bind ?_ (fun _ => ?_))
theorem decode_digits.mono : ∀ a0 a1 k, LeO (decode_digits.f k a0 a1) (decode_digits.f (k + 1) a0 a1) := by
 intro a0 a1 k
 obtain ⟨ih0, ih1, ih2⟩ := decode_digits.mono_l k
 unfold decode_digits.f
 repeat' first
   | (with_reducible exact ih0 _ _ _ _)
   | (with_reducible exact ih1 _ _ _ _ _ _)
   | (with_reducible exact ih2 _ _ _ _ _ _)
   | (with_reducible exact LeO.refl _)
   | (with_reducible exact LeO.none _)
   | (with_reducible refine LeO.ite ?_ ?_)
   | (with_reducible refine LeO.bind ?_ (fun _ => ?_))
set_option maxHeartbeats 8000000 in
set_option maxRecDepth 100000 in
theorem decode_digits.calls (k : Nat) (A0 : Option Addr) (c0 : Nat) (l0 : List Int) (a1 : Int) (r1 : Int) (r2 : Bool) (w : World) (hr0 : Kd.C (Kd.int .u8) w A0 l0.length l0) (hc0 : l0.length ≤ c0) (h : decode_digits.f k l0 a1 = some (r1, r2)) :
  Calls Tryd.prog 37 #[.slice A0 l0.length c0, .int .i64 a1] w fun e w' => e = .returned (.tuple #[.int .u64 r1, .bool r2]) ∧ Drawn0 w w' := by
 have HR0 := Aside0.mk hr0
 have HC0 := Aside0.mk hc0
 clear hr0 hc0
 have H : (if (l0.length : Int) < a1 then (some (0, false)) else (if 0 ≤ a1 then (if a1 ≤ (l0.length : Int) then ((some (l0.take (a1 : Int).toNat : List Int)).bind fun y110 => (decode_digits.l0 k 0 y110 (y110.length : Int) 0)) else (none)) else (none))) = some (r1, r2) := h
 clear h
 by_cases c3 : (l0.length : Int) < a1
 ·rw [if_pos c3] at H
  have c3b0 : decide ((l0.length : Int) < a1) = true := decide_eq_true c3
  clear c3
  simp only [Option.some.injEq, Prod.mk.injEq] at H
  obtain ⟨rfl, rfl⟩ := H
  go_enter Tryd.func37, Tryd.ntmps37
  go_wp2
  go_ret2
  exact ⟨by first | rfl | (simp; done) | (simp [*]; done) | (simp [wrap64, wrap32]; done), by repeat (first | exact Drawn0.refl _ | apply Drawn0.step)⟩
 ·rw [if_neg c3] at H
  have c3b0 : decide ((l0.length : Int) < a1) = false := decide_eq_false c3
  clear c3
  by_cases c4 : 0 ≤ a1
  ·rw [if_pos c4] at H
   have c4b0 := eq_true c4
   have c4b1 : decide (0 ≤ a1) = true := decide_eq_true c4
   clear c4
   by_cases c5 : a1 ≤ (l0.length : Int)
   ·rw [if_pos c5] at H
    have c5b0 := eq_true c5
    have c5b1 : decide (a1 ≤ (l0.length : Int)) = true := decide_eq_true c5
    clear c5
    obtain ⟨y110, hy110⟩ : ∃ y_ : List Int, y_ = (l0.take (a1 : Int).toNat) := ⟨_, rfl⟩
    replace H : (decode_digits.l0 k 0 y110 (y110.length : Int) 0) = some (r1, r2) := by first | (rw [hy110]; with_reducible exact H) | (have H2_ := (Option.bind_some _ _).symm.trans H; rw [hy110]; with_reducible exact H2_) | (have H2_ := (Option.bind_some _ _).symm.trans H; with_reducible exact H2_) | with_reducible exact H | (rw [hy110]; exact H) | exact H
    have Ny110 := Aside0.mk hy110
    clear hy110
    have H' := Aside0.mk H
    clear H
    have q6 : (a1 : Int) ≤ ((l0.length : Int) : Int) := of_decide_eq_true (by first | (with_reducible assumption) | assumption)
    obtain ⟨i06, hi06, _, hsz6, _⟩ := info_parts info5
    have hroom6 : l0.length ≤ c0 := HC0.out
    have hC6 : Kd.C (Kd.int .u8) _ A0 l0.length l0 := HR0.out
    have hcut6 := cut_to (P := Tryd.prog) 22 5 .i64 Tryd.underlying22 hi06 A0 l0.length c0 a1 (of_decide_eq_true (by first | (with_reducible assumption) | assumption)) q6 hroom6
    have hr6 := Kd.C_take (m := (a1 : Int).toNat) hC6 (by omega)
    have hy6 : y110.length = (a1 : Int).toNat := (by rw [Ny110.out, List.length_take]; omega)
    rw [← Ny110.out] at hr6
    rw [← hy6] at hcut6
    have HR113 := Aside0.mk hr6
    have HC113 := Aside0.mk (show y110.length ≤ c0 from by omega)
    clear hr6 hC6 hroom6 hi06 hsz6
    have KY6 := Aside0.mk hy6
    clear hy6
    replace q6 := eq_true q6
    go_enter Tryd.func37, Tryd.ntmps37
    go_wp2
    go_loopg [6, 17] k (fun kq v6 v17 w' => ∃ (x6_1 : Int) (x17_1 : Int), v6 = .int .u64 x6_1 ∧ v17 = .int .i64 x17_1 ∧ Aside0 (decode_digits.l0 kq x6_1 y110 (y110.length : Int) x17_1 = some (r1, r2)) ∧ Aside0 (kq ≤ k) ∧ Drawn0 w w')
    case atStart => exact ⟨(0), (0), (by first | rfl | (simp; done) | (simp [*]; done) | (simp [wrap64, wrap32]; done)), (by first | rfl | (simp; done) | (simp [*]; done) | (simp [wrap64, wrap32]; done)), H', ⟨Nat.le_refl _⟩, by repeat (first | exact Drawn0.refl _ | apply Drawn0.step)⟩
    case round =>
     clear H'
     (try clear p2); (try clear c3); (try clear c3b0); (try clear c4); (try clear c4b0); (try clear c4b1); (try clear c5); (try clear c5b0); (try clear c5b1); (try clear q6); (try clear q6)
     obtain ⟨x6_1, x17_1, rfl, rfl, HA, HK1, ⟨m1, rfl⟩⟩ := hrel
     cases gk with
     | zero => exact absurd HA.out (by simp [decode_digits.l0])
     | succ k1 =>
      have H := HA.out
      clear HA
      simp only [decode_digits.l0] at H
      by_cases c7 : x17_1 < (y110.length : Int)
      ·rw [if_pos c7] at H
       have c7b0 : decide (x17_1 < (y110.length : Int)) = true := decide_eq_true c7
       clear c7
       by_cases c8 : 0 ≤ x17_1
       ·rw [if_pos c8] at H
        have c8b0 : decide (0 ≤ x17_1) = true := decide_eq_true c8
        clear c8
        by_cases c9 : x17_1 < (y110.length : Int)
        ·rw [if_pos c9] at H
         have c9b0 : decide (x17_1 < (y110.length : Int)) = true := decide_eq_true c9
         clear c9
         have HC10 := Aside0.mk H
         clear H
         have p114 : 0 ≤ (x17_1 : Int) := of_decide_eq_true (by first | (with_reducible assumption) | assumption)
         have q114 : x17_1 < (y110.length : Int) := of_decide_eq_true (by first | (with_reducible assumption) | assumption)
         obtain ⟨ad114, e114, hx114_0⟩ := Kd.at_int HR113.out x17_1 p114 q114
         cases e114
         replace p114 := eq_true p114
         replace q114 := eq_true q114
         go_upto_region 8 with (fail)
         go_cut [21] (fun v21 wc => ∃ (kq : Nat) (x21_9 : Bool), v21 = .bool x21_9 ∧ Aside0 (decode_digits.j1 kq x6_1 (rd y110 x17_1) y110 (y110.length : Int) x17_1 x21_9 = some (r1, r2)) ∧ Aside0 (kq ≤ k1) ∧ Drawn0 w wc)
         case first =>
          have H := HC10.out
          clear HC10
          by_cases c11 : (rd y110 x17_1) ≥ 48
          ·rw [if_pos c11] at H
           have c11b0 : decide (48 ≤ (rd y110 x17_1)) = true := decide_eq_true c11
           clear c11
           (first | rw [c11b0] | (simp only [i64_w, i32_w]; rw [c11b0]) | skip)
           have H' := Aside0.mk H
           clear H
           go_wp2
           go_meet
           case rel => exact ⟨_, (decide ((rd y110 x17_1) ≤ 57)), (by first | rfl | (simp; done) | (simp [*]; done) | (simp [wrap64, wrap32]; done)), H', ⟨by have := HK1.out; first | omega | exact Nat.le_refl _⟩, by repeat (first | exact Drawn0.refl _ | apply Drawn0.step)⟩
          ·rw [if_neg c11] at H
           have c11b0 : decide (48 ≤ (rd y110 x17_1)) = false := decide_eq_false c11
           clear c11
           (first | rw [c11b0] | (simp only [i64_w, i32_w]; rw [c11b0]) | skip)
           have H' := Aside0.mk H
           clear H
           go_wp2
           go_meet
           case rel => exact ⟨_, (false), (by first | rfl | (simp; done) | (simp [*]; done) | (simp [wrap64, wrap32]; done)), H', ⟨by have := HK1.out; first | omega | exact Nat.le_refl _⟩, by repeat (first | exact Drawn0.refl _ | apply Drawn0.step)⟩
         case rest =>
          clear HC10
          (try clear c1); (try clear p1); (try clear q1); (try clear hx1); (try clear p2); (try clear c3); (try clear c3b0); (try clear c4); (try clear c4b0); (try clear c4b1); (try clear c5); (try clear c5b0); (try clear c5b1); (try clear q6); (try clear c7); (try clear c7b0); (try clear c8); (try clear c8b0); (try clear c9); (try clear c9b0); (try clear c11); (try clear c11b0); (try clear p11); (try clear q11); (try clear hx11); (try clear hx114_0); (try clear p114); (try clear p2); (try clear q114); (try clear q6)
          obtain ⟨kq, x21_9, rfl, HA, HJ9, ⟨mc9, rfl⟩⟩ := hcut
          cases kq with
          | zero => exact absurd HA.out (by simp [decode_digits.j1])
          | succ kj9 =>
           have H := HA.out
           clear HA
           simp only [decode_digits.j1] at H
           by_cases c12 : x21_9 = true
           ·subst c12
            have H1 : (decode_digits.l0 kj9 (Go.bits .or .u64 (IntKind.u64.wrap (x6_1 * 16)) (((rd y110 x17_1) - 48) % 256)) y110 (y110.length : Int) (wrap64 (x17_1 + 1))) = some (r1, r2) := by rw [if_pos rfl] at H; exact H
            clear H
            have H := H1
            clear H1
            have H' := Aside0.mk H
            clear H
            go_wp2
            go_roundg kj9
            case measure => have := HK1.out; have := HJ9.out; omega
            case rel => exact ⟨(Go.bits .or .u64 (IntKind.u64.wrap (x6_1 * 16)) (((rd y110 x17_1) - 48) % 256)), (wrap64 (x17_1 + 1)), (by first | rfl | (simp; done) | (simp [*]; done) | (simp [wrap64, wrap32]; done)), (by first | rfl | (simp; done) | (simp [*]; done) | (simp [wrap64, wrap32]; done)), H', ⟨by have := HK1.out; have := HJ9.out; omega⟩, by repeat (first | exact Drawn0.refl _ | apply Drawn0.step)⟩
           ·replace c12 := Bool.eq_false_iff.mpr c12
            subst c12
            have H1 : (if (rd y110 x17_1) ≥ 97 then (decode_digits.j2 kj9 x6_1 (rd y110 x17_1) y110 (y110.length : Int) x17_1 (decide ((rd y110 x17_1) ≤ 102))) else (decode_digits.j2 kj9 x6_1 (rd y110 x17_1) y110 (y110.length : Int) x17_1 false)) = some (r1, r2) := by rw [if_neg (show ¬ (false = true) by decide)] at H; exact H
            clear H
            have H := H1
            clear H1
            have HC13 := Aside0.mk H
            clear H
            go_upto_region 10 with (fail)
            go_cut [34] (fun v34 wc => ∃ (kq : Nat) (x34_12 : Bool), v34 = .bool x34_12 ∧ Aside0 (decode_digits.j2 kq x6_1 (rd y110 x17_1) y110 (y110.length : Int) x17_1 x34_12 = some (r1, r2)) ∧ Aside0 (kq ≤ kj9) ∧ Drawn0 w wc)
            case first =>
             have H := HC13.out
             clear HC13
             by_cases c14 : (rd y110 x17_1) ≥ 97
             ·rw [if_pos c14] at H
              have c14b0 : decide (97 ≤ (rd y110 x17_1)) = true := decide_eq_true c14
              clear c14
              (first | rw [c14b0] | (simp only [i64_w, i32_w]; rw [c14b0]) | skip)
              have H' := Aside0.mk H
              clear H
              go_wp2
              go_meet
              case rel => exact ⟨_, (decide ((rd y110 x17_1) ≤ 102)), (by first | rfl | (simp; done) | (simp [*]; done) | (simp [wrap64, wrap32]; done)), H', ⟨by have := HK1.out; have := HJ9.out; first | omega | exact Nat.le_refl _⟩, by repeat (first | exact Drawn0.refl _ | apply Drawn0.step)⟩
             ·rw [if_neg c14] at H
              have c14b0 : decide (97 ≤ (rd y110 x17_1)) = false := decide_eq_false c14
              clear c14
              (first | rw [c14b0] | (simp only [i64_w, i32_w]; rw [c14b0]) | skip)
              have H' := Aside0.mk H
              clear H
              go_wp2
              go_meet
              case rel => exact ⟨_, (false), (by first | rfl | (simp; done) | (simp [*]; done) | (simp [wrap64, wrap32]; done)), H', ⟨by have := HK1.out; have := HJ9.out; first | omega | exact Nat.le_refl _⟩, by repeat (first | exact Drawn0.refl _ | apply Drawn0.step)⟩
            case rest =>
             clear HC13
             (try clear c1); (try clear p1); (try clear q1); (try clear hx1); (try clear p2); (try clear c3); (try clear c3b0); (try clear c4); (try clear c4b0); (try clear c4b1); (try clear c5); (try clear c5b0); (try clear c5b1); (try clear p6); (try clear q6); (try clear c7); (try clear c7b0); (try clear c8); (try clear c8b0); (try clear c9); (try clear c9b0); (try clear c11); (try clear c11b0); (try clear p11); (try clear q11); (try clear hx11); (try clear c12); (try clear c14); (try clear c14b0); (try clear hx114_0); (try clear p1); (try clear p11); (try clear p114); (try clear p2); (try clear q1); (try clear q11); (try clear q114); (try clear q6)
             obtain ⟨kq, x34_12, rfl, HA, HJ12, ⟨mc12, rfl⟩⟩ := hcut
             cases kq with
             | zero => exact absurd HA.out (by simp [decode_digits.j2])
             | succ kj12 =>
              have H := HA.out
              clear HA
              simp only [decode_digits.j2] at H
              by_cases c15 : x34_12 = true
              ·subst c15
               have H1 : (decode_digits.l0 kj12 (Go.bits .or .u64 (IntKind.u64.wrap (x6_1 * 16)) (((((rd y110 x17_1) - 97) % 256) + 10) % 256)) y110 (y110.length : Int) (wrap64 (x17_1 + 1))) = some (r1, r2) := by rw [if_pos rfl] at H; exact H
               clear H
               have H := H1
               clear H1
               have H' := Aside0.mk H
               clear H
               go_wp2
               go_roundg kj12
               case measure => have := HK1.out; have := HJ9.out; have := HJ12.out; omega
               case rel => exact ⟨(Go.bits .or .u64 (IntKind.u64.wrap (x6_1 * 16)) (((((rd y110 x17_1) - 97) % 256) + 10) % 256)), (wrap64 (x17_1 + 1)), (by first | rfl | (simp; done) | (simp [*]; done) | (simp [wrap64, wrap32]; done)), (by first | rfl | (simp; done) | (simp [*]; done) | (simp [wrap64, wrap32]; done)), H', ⟨by have := HK1.out; have := HJ9.out; have := HJ12.out; omega⟩, by repeat (first | exact Drawn0.refl _ | apply Drawn0.step)⟩
              ·replace c15 := Bool.eq_false_iff.mpr c15
               subst c15
               have H1 : (if (rd y110 x17_1) ≥ 65 then (if (rd y110 x17_1) ≤ 70 then (decode_digits.l0 kj12 (Go.bits .or .u64 (IntKind.u64.wrap (x6_1 * 16)) (((((rd y110 x17_1) - 65) % 256) + 10) % 256)) y110 (y110.length : Int) (wrap64 (x17_1 + 1))) else (some (0, false))) else (some (0, false))) = some (r1, r2) := by rw [if_neg (show ¬ (false = true) by decide)] at H; exact H
               clear H
               have H := H1
               clear H1
               by_cases c16 : (rd y110 x17_1) ≥ 65
               ·rw [if_pos c16] at H
                have c16b0 : decide (65 ≤ (rd y110 x17_1)) = true := decide_eq_true c16
                clear c16
                by_cases c17 : (rd y110 x17_1) ≤ 70
                ·rw [if_pos c17] at H
                 have c17b0 : decide ((rd y110 x17_1) ≤ 70) = true := decide_eq_true c17
                 clear c17
                 have H' := Aside0.mk H
                 clear H
                 go_wp2
                 go_roundg kj12
                 case measure => have := HK1.out; have := HJ9.out; have := HJ12.out; omega
                 case rel => exact ⟨(Go.bits .or .u64 (IntKind.u64.wrap (x6_1 * 16)) (((((rd y110 x17_1) - 65) % 256) + 10) % 256)), (wrap64 (x17_1 + 1)), (by first | rfl | (simp; done) | (simp [*]; done) | (simp [wrap64, wrap32]; done)), (by first | rfl | (simp; done) | (simp [*]; done) | (simp [wrap64, wrap32]; done)), H', ⟨by have := HK1.out; have := HJ9.out; have := HJ12.out; omega⟩, by repeat (first | exact Drawn0.refl _ | apply Drawn0.step)⟩
                ·rw [if_neg c17] at H
                 have c17b0 : decide ((rd y110 x17_1) ≤ 70) = false := decide_eq_false c17
                 clear c17
                 simp only [Option.some.injEq, Prod.mk.injEq] at H
                 obtain ⟨rfl, rfl⟩ := H
                 go_wp2
                 go_ret2
                 exact ⟨by first | rfl | (simp; done) | (simp [*]; done) | (simp [wrap64, wrap32]; done), by repeat (first | exact Drawn0.refl _ | apply Drawn0.step)⟩
               ·rw [if_neg c16] at H
                have c16b0 : decide (65 ≤ (rd y110 x17_1)) = false := decide_eq_false c16
                clear c16
                simp only [Option.some.injEq, Prod.mk.injEq] at H
                obtain ⟨rfl, rfl⟩ := H
                go_wp2
                go_ret2
                exact ⟨by first | rfl | (simp; done) | (simp [*]; done) | (simp [wrap64, wrap32]; done), by repeat (first | exact Drawn0.refl _ | apply Drawn0.step)⟩
        ·rw [if_neg c9] at H
         exact absurd H (by simp)
       ·rw [if_neg c8] at H
        exact absurd H (by simp)
      ·rw [if_neg c7] at H
       have c7b0 : decide (x17_1 < (y110.length : Int)) = false := decide_eq_false c7
       clear c7
       simp only [Option.some.injEq, Prod.mk.injEq] at H
       obtain ⟨rfl, rfl⟩ := H
       go_wp2
       go_ret2
       exact ⟨by first | rfl | (simp; done) | (simp [*]; done) | (simp [wrap64, wrap32]; done), by repeat (first | exact Drawn0.refl _ | apply Drawn0.step)⟩
   ·rw [if_neg c5] at H
    exact absurd H (by simp)
  ·rw [if_neg c4] at H
   exact absurd H (by simp)

end Go.Proofs.YtekalnhackjldaaDoor.PTokenWords
